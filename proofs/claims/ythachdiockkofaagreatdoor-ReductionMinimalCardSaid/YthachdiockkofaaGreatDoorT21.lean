/- part 21 of the proof -/
import Derived.Test.YthachdiockkofaaGreatDoorT20
set_option linter.all false
open Go Go.Abs Go.Proofs
set_option maxRecDepth 100000
namespace Go.Rd
set_option maxHeartbeats 8000000
open List (cons_append map_cons map_nil nil_append take_add_one take_length)
open Tryz
def Ue(x:Wait):Wait:={ x with passed:=x.passed+1 }
theorem Tq(l:List Wait)(w:Wait):Ln l w=l.take (Eh l w l.length)++w::(l.drop (Eh l w l.length)).map Ue:=rfl
def JO(l:List Wait)(w:Wait):List Wait × Int × Int:=if !CL l then ([],0,2) else if !w.ok||w.passed !=0 then ([],0,1) else if 0≤Eo l w.proc then ([],0,11) else if l.length=8 then ([],0,4) else (Ln l w,((Eh l w l.length:Nat):Int),0)
theorem f291_ok(l:List Wait)(w:Wait)(hl:l.length≤1000000):Ac C0 291 [AY l,.agg w.c] [] (.tup [AY (JO l w).1,I (JO l w).2.1,I (JO l w).2.2]) []:=by
 refine Ac.go f291 ?_
 unfold f291
 refine gO ?_
 refine Aa (f282_ok l hl) ?_
 cases h1:CL l
 ·have e:JO l w=([],0,2):=by simp[JO,h1]
  simp(disch:=omega)only[go_sem,e,map_nil]
  exact DR _
 refine gO ?_
 refine Aa (f315_ok w) ?_
 cases h2:w.ok
 ·have e:JO l w=([],0,1):=by simp[JO,h1,h2]
  simp(disch:=omega)only[go_sem,e,map_nil]
  exact DR _
 refine gO ?_
 cases h3:(w.passed !=0)
 rotate_left
 ·have e:JO l w=([],0,1):=by simp[JO,h1,h2,h3]
  simp(disch:=omega)only[go_sem,e,map_nil,h3]
  exact DR _
 simp(disch:=omega)only[go_sem,h3]
 refine Aa (f153_ok l w.proc hl) ?_
 by_cases h4:0≤Eo l w.proc
 ·have e:JO l w=([],0,11):=by simp[JO,h1,h2,h3,h4]
  simp(disch:=omega)only[go_sem,e,map_nil,eq_true h4,decide_true]
  exact DR _
 simp(disch:=omega)only[go_sem,eq_false h4,decide_false]
 have hl8:l.length≤8:=((Cl l).1 h1).1
 by_cases h5:l.length=8
 ·have e:JO l w=([],0,4):=by simp[JO,h1,h2,h3,h4,h5]
  have e5:((l.length:Int)==8)=true:=by simp[h5]
  simp(disch:=omega)only[go_sem,e,map_nil,e5]
  exact DR _
 have e5:((l.length:Int)==8)=false:=by simp;omega
 simp(disch:=omega)only[go_sem,e5]
 have e:JO l w=(Ln l w,((Eh l w l.length:Nat):Int),0):=by simp[JO,h1,h2,h3,h4,h5]
 rw[e]
 refine Ab (α:=Nat) (fun k=>⟨[(7,I k),(0,AY l),(3,.ptr 192 0)],[(192,w.c)]⟩) (fun k=>k≤l.length∧Eh l w l.length=Eh l w k) (fun k=>k) l.length ⟨by omega,rfl⟩ AE ?_
 rintro k ⟨hk,hs⟩ J hJ
 have hcase:k=0∨(∃ j x,k=j+1∧l[j]?=some x∧¬ x.prio<w.prio)∨(∃ j x,k=j+1∧l[j]?=some x∧x.prio<w.prio∧¬ x.passed<3)∨(∃ j x,k=j+1∧l[j]?=some x∧x.prio<w.prio∧x.passed<3):=by
  cases k with
  | zero=>exact .inl rfl
  | succ j =>
   obtain⟨x,hx⟩:∃ x,l[j]?=some x:=⟨_,gE (by omega)⟩
   by_cases c1:x.prio<w.prio
   ·by_cases c2:x.passed<3
    ·exact .inr (.inr (.inr ⟨j,x,rfl,hx,c1,c2⟩))
    ·exact .inr (.inr (.inl ⟨j,x,rfl,hx,c1,c2⟩))
   ·exact .inr (.inl ⟨j,x,rfl,hx,c1⟩)
 have hget:∀ j x,l[j]?=some x→l.getD j w0=x:=fun j x h=>by simp[List.getD,h]
 have fin:(¬ ∃ j x,k=j+1∧l[j]?=some x∧x.prio<w.prio∧x.passed<3)→Ln l w=l.take k++w::(l.drop k).map Ue∧Eh l w l.length=k:=fun h=>by
  have:Eh l w k=k:=by
   cases k with
   | zero=>rfl
   | succ j =>
    obtain⟨x,hx⟩:∃ x,l[j]?=some x:=⟨_,gE (by omega)⟩
    simp only[Eh,hget j x hx]
    rw[if_neg fun hc=>h ⟨j,x,rfl,hx,hc.1,hc.2⟩]
  rw[Tq,hs,this];exact⟨rfl,rfl⟩
 refine Aj 17 [([],[7]),([],[32]),([],[33]),([],[0,34]),([],[7,34]),([],[36,34]),([],[35,37,34]),([],[38,34]),([],[39,34]),([],[3,34]),([],[41,34]),([],[40,42,34]),([],[34,43]),([],[44]),([],[0,45]),([],[7,45]),([],[47,45])] fol ?_
 rcases hcase with h0|⟨j,x,hj,hx,c1⟩|⟨j,x,hj,hx,c1,c2⟩|⟨j,x,hj,hx,c1,c3⟩
 rotate_left 3
 ·subst hj
  simp(disch:=omega)only[go_sem,eq_true (show 0<((j+1:Nat):Int) by omega),eq_true (show 0<(j:Int)+1 by omega),(show ((j:Int)+1-1)=(j:Int) by omega),gm,hx,eq_true c1,eq_true c3,decide_true]
  refine hJ _ j ⟨by omega,by rw[hs];simp only[Eh,hget j x hx];rw[if_pos ⟨c1,c3⟩]⟩ (by omega) AE
 all_goals first
  |(have hne:=fin (fun⟨j',x',a,b,c,d⟩=>by obtain rfl:j=j':=(by omega);rw[hx]at b;cases b;omega);simp(disch:=omega)only[go_sem,eq_true (show 0<(k:Int) by omega),(show ((k:Int)-1)=(j:Int) by omega),gm,hx,eq_true c1,eq_false c2,decide_true,decide_false])
  |(have hne:=fin (fun⟨j',x',a,b,c,d⟩=>by obtain rfl:j=j':=(by omega);rw[hx]at b;cases b;omega);simp(disch:=omega)only[go_sem,eq_true (show 0<(k:Int) by omega),(show ((k:Int)-1)=(j:Int) by omega),gm,hx,eq_false c1,decide_false])
  |(have hne:=fin (fun⟨j',x',a,b,c,d⟩=>by omega);simp(disch:=omega)only[go_sem,eq_false (show ¬ 0<(k:Int) by omega),decide_false])
 all_goals
  rw[hne.1,hne.2]
  clear fin hJ hs
  have hbd3:(l.take k).length+1≤4294967296:=by simp;omega
  refine CA 511 [(0,1,0),(1,2,0),(2,4,0),(3,8,6),(4,16,9),(5,32,0),(6,64,32),(7,128,80),(8,256,255)] [0,1,2,4,32,3,5,33,6,34,36,96,7,35,37,97,14,38,98,100,15,39,99,101,46,102,31,47,103,110,63,111,127,255,511] (fun m=>⟨sel m [(1,56,(if m / 16%2=1 then .undef else .sl (.own 3584 0) 7 [])),(2,57,AY l),(4,58,I k),(8,59,.sl .no 7 ((l.take k).map Wait.c)),(16,60,(if m / 128%2=1 then .undef else .sl (.own 3840 0) 7 ((l.take k).map Wait.c))),(32,61,.agg w.c),(64,62,.sl (.own 3968 0) 7 [w.c]),(128,63,.sl (.own 4032 0) 7 ((l.take k++[w]).map Wait.c)),(256,8,.sl (.own 4032 0) 7 ((l.take k++[w]).map Wait.c))]++[(7,I k),(0,AY l),(3,.ptr 192 0)],[(192,w.c)]⟩) ?_ ?_ ?_ fol
  ·exact AE
  ·simp (maxSteps:=100000000)only[Cz,Cy,C9,C8,and_true,Nat.reduceDiv,Nat.reduceMod,Nat.reduceAnd,Nat.reduceEqDiff,reduceIte,true_and,and_false,false_and,and_self]
   repeat'(with_reducible refine And.intro ?_ ?_)
   all_goals simp(disch:=omega)only[go_sem,nil_append,List.map_append,map_cons,map_nil]
   all_goals exact Imp.weak (by simp(disch:=omega)only[go_sem,List.map_append,map_cons,map_nil]) (by simp(disch:=omega)only[go_sem])
  refine gO ?_
  refine Ab (α:=Nat) (fun i=>⟨[(9,I i),(8,.sl (.own 5248 0) 7 ((l.take k++w::((l.drop k).take (i-k)).map Ue).map Wait.c)),(0,AY l),(7,I k)],[]⟩) (fun i=>k≤i∧i≤l.length) (fun i=>l.length-i) k ⟨by omega,hk⟩ ?_ ?_
  ·refine Imp.ren ⟨[(4032,5248)],[],[]⟩ ⟨rfl,rfl⟩ (by simp[lk]) ?_ ?_
   all_goals(try simp(disch:=omega)only[go_sem])
   all_goals(try(repeat'(with_reducible apply And.intro)))
   all_goals(exact .sl (by simp))
  rintro i ⟨hi1,hi2⟩ J2 hJ2
  refine gO ?_
  refine ⟨fun hlt=>?_,fun hge=>?_⟩
  ·obtain⟨b,hb⟩:∃ b,l[i]?=some b:=⟨_,gE (by simp at hlt;omega)⟩
   have hbd2:(l.take k++w::((l.drop k).take (i-k)).map Ue).length+1≤4294967296:=by simp;omega
   have hbok:=((Cl l).1 h1).2.2 b (mG hb)
   have hbp:0≤b.passed∧b.passed≤3:=by simp[Wait.ok,between]at hbok;omega
   have hnx:(l.drop k).take (i+1-k)=(l.drop k).take (i-k)++[b]:=by
    rw[show i+1-k=(i-k)+1 by omega,take_add_one,List.getElem?_drop,show k+(i-k)=i by omega,hb];rfl
   simp(disch:=omega)only[go_sem,gm,hb]
   refine hJ2 _ (i+1) ⟨by omega,by simp at hlt;omega⟩ (by simp at hlt;omega) (Imp.weak ?_ ?_)
   all_goals(try simp(disch:=omega)only[go_sem])
   exact .sl (by rw[hnx];simp[Ue,Wait.c])
  ·have hil:i=l.length:=by simp at hge;omega
   subst hil
   rw[show (l.drop k).take (l.length-k)=l.drop k from List.take_of_length_le (by simp)]
   refine B3 ⟨[],[],[5248]⟩ _ ?_
   simp(disch:=omega)only[go_sem]
def Bp(q:Queue)(p:Proc):Queue × List Hold × Int:=if !valid q then (q0,[],2) else if !(Ao q p).isSome then (q0,[],10) else (EH (D9 q p),(BD (D9 q p)).2,0)
def Bl(q:Queue)(p:Proc)(a:Amt):Queue × List Hold × Int:=if !valid q then (q0,[],2) else if (Ap q.holds p).zero then (q0,[],10) else if (Ao q p).isSome then (q0,[],14) else if !q.res.covers (Ap q.holds p) a then (q0,[],12) else if decide (Ap q.holds p=a) then (q,[],0) else (EH (IX q p a),(BD (IX q p a)).2,0)
def Gz(q:Queue)(p:Proc)(a:Amt):Queue:={ q with convs:=q.convs++[⟨p,Ea q.res (Ap q.holds p) a,0,0⟩] }
def HA(q:Queue)(p:Proc)(a:Amt)(prio:Int):Queue:={ q with waits:=Ln q.waits ⟨p,a,prio,0⟩ }
def Bc(q:Queue)(p:Proc)(a:Amt)(prio:Int):Queue × List Hold × Int:=if !valid q then (q0,[],2) else if !p.ok then (q0,[],1) else if decide (prio<0) then (q0,[],1) else if decide (7<prio) then (q0,[],1) else if !q.res.fits a then (q0,[],12) else if (Ao q p).isSome then (q0,[],14)
 else if q.res.covers (Ap q.holds p) a then (q,[],0) else if !(Ap q.holds p).zero then (EH (Gz q p a),(BD (Gz q p a)).2,0) else if decide (8≤(q.holds.length:Int)+q.waits.length) then (q0,[],4) else (EH (HA q p a prio),(BD (HA q p a prio)).2,0)
theorem E2{q:Queue}{p:Proc}(h:(Ao q p).isSome=false):Ao q p=none:=by
 cases hw:Ao q p
 ·rfl
 ·rw[hw]at h;cases h
theorem f292_ok(q:Queue)(p:Proc)(h:Br q≤100):Ac C0 292 [.agg q.c,.agg p.c] [] (.tup [.agg (Bp q p).1.c,Ax (Bp q p).2.1,I (Bp q p).2.2]) []:=by
 obtain⟨h1,h2,h3⟩:=A5 h
 refine Ac.go f292 ?_
 unfold f292
 refine gO ?_
 refine Aa (f158_ok q h1 h3) ?_
 cases hv:valid q
 ·have e:Bp q p=(q0,[],2):=by simp[Bp,hv]
  simp(disch:=omega)only[go_sem,Bool.not_false,e,q0]
  refine Ak _ ?_
  refine .tup (Af.AD ?_)
  simp(disch:=omega)only[go_sem]
  repeat'(with_reducible apply And.intro)
  all_goals(first|exact .Au (by omega)|exact .agg (Af.AD (by simp(disch:=omega)only[go_sem])))
 refine gO ?_
 refine Aa (f98_ok q p h2 h3) ?_
 cases hw:(Ao q p).isSome
 ·have e:Bp q p=(q0,[],10):=by simp[Bp,hv,hw]
  simp(disch:=omega)only[go_sem,Bool.not_false,e,q0]
  refine Ak _ ?_
  refine .tup (Af.AD ?_)
  simp(disch:=omega)only[go_sem]
  repeat'(with_reducible apply And.intro)
  all_goals(first|exact .Au (by omega)|exact .agg (Af.AD (by simp(disch:=omega)only[go_sem])))
 have e:Bp q p=(EH (D9 q p),(BD (D9 q p)).2,0):=by simp[Bp,hv,hw]
 rw[e]
 refine gO ?_
 refine Aa (f164_ok q h1 h2 h3) ?_
 refine gO ?_
 refine Aa (f166_ok q.convs p h2) ?_
 refine gO ?_
 refine Aa (f166_ok q.waits p h3) ?_
 refine gO ?_
 have hw':=Bk q.waits p
 have hc':=Bk q.convs p
 refine Ae (f167_ok (D9 q p) (NQ ((CF q).1 hv).1 p) h1 (by simp[D9];omega) (by simp[D9];omega)) (by simp(disch:=omega)only[go_sem,D9]) rfl ?_
 refine gO ?_
 exact Av _
theorem f259_ok(q:Queue)(p:Proc)(a:Amt)(h:Br q≤100):Ac C0 259 [.agg q.c,.agg p.c,.agg a.c] [] (.tup [.agg (Bl q p a).1.c,Ax (Bl q p a).2.1,I (Bl q p a).2.2]) []:=by
 obtain⟨h1,h2,h3⟩:=A5 h
 refine Ac.go f259 ?_
 unfold f259
 refine gO ?_
 refine Aa (f158_ok q h1 h3) ?_
 cases hv:valid q
 ·have e:Bl q p a=(q0,[],2):=by simp[Bl,hv]
  simp(disch:=omega)only[go_sem,Bool.not_false,e,q0]
  refine Ak _ ?_
  refine .tup (Af.AD ?_)
  simp(disch:=omega)only[go_sem]
  repeat'(with_reducible apply And.intro)
  all_goals(first|exact .Au (by omega)|exact .agg (Af.AD (by simp(disch:=omega)only[go_sem])))
 refine gO ?_
 refine Aa (f163_ok q p h1) ?_
 refine gO ?_
 refine Aa (f162_ok (Ap q.holds p)) ?_
 cases hz:(Ap q.holds p).zero
 rotate_left
 ·have e:Bl q p a=(q0,[],10):=by simp[Bl,hv,hz]
  simp(disch:=omega)only[go_sem,Bool.not_false,e,q0]
  refine Ak _ ?_
  refine .tup (Af.AD ?_)
  simp(disch:=omega)only[go_sem]
  repeat'(with_reducible apply And.intro)
  all_goals(first|exact .Au (by omega)|exact .agg (Af.AD (by simp(disch:=omega)only[go_sem])))
 refine gO ?_
 refine Aa (f98_ok q p h2 h3) ?_
 cases hw:(Ao q p).isSome
 rotate_left
 ·have e:Bl q p a=(q0,[],14):=by simp[Bl,hv,hz,hw]
  simp(disch:=omega)only[go_sem,Bool.not_false,e,q0]
  refine Ak _ ?_
  refine .tup (Af.AD ?_)
  simp(disch:=omega)only[go_sem]
  repeat'(with_reducible apply And.intro)
  all_goals(first|exact .Au (by omega)|exact .agg (Af.AD (by simp(disch:=omega)only[go_sem])))
 refine gO ?_
 refine Aa (f253_ok q.res (Ap q.holds p) a) ?_
 cases hc:q.res.covers (Ap q.holds p) a
 ·have e:Bl q p a=(q0,[],12):=by simp[Bl,hv,hz,hw,hc]
  simp(disch:=omega)only[go_sem,Bool.not_false,e,q0]
  refine Ak _ ?_
  refine .tup (Af.AD ?_)
  simp(disch:=omega)only[go_sem]
  repeat'(with_reducible apply And.intro)
  all_goals(first|exact .Au (by omega)|exact .agg (Af.AD (by simp(disch:=omega)only[go_sem])))
 refine gO ?_
 refine Aa (f164_ok q h1 h2 h3) ?_
 refine gO ?_
 cases ha:decide (Ap q.holds p=a)
 rotate_left
 ·have e:Bl q p a=(q,[],0):=by simp only[Bl,hv,hz,hw,hc,ha];rfl
  simp(disch:=omega)only[go_sem,ha,e]
  exact DR _
 simp(disch:=omega)only[go_sem,ha]
 have e:Bl q p a=(EH (IX q p a),(BD (IX q p a)).2,0):=by simp only[Bl,hv,hz,hw,hc,ha];rfl
 rw[e]
 refine Aa (f165_ok q.holds p a h1) ?_
 refine gO ?_
 have hl:=MC hz
 have hl2:=Oc (l:=q.holds) (p:=p) (a:=a)
 refine Ae (f167_ok (IX q p a) (Q5 ((CF q).1 hv).1 hz (E2 hw) hc) (by simp[IX];omega) h2 h3) (by simp(disch:=omega)only[go_sem,IX]) rfl ?_
 refine gO ?_
 exact Av _
theorem VQ(q:Queue)(h1:q.holds.length≤1000000)(h2:q.convs.length≤1000000)(h3:q.waits.length≤1000000):Ac C0 164 [.agg q.c] [] (.agg [.v (.string (str q.res.name)),.v (.int .i64 q.res.kind),.v (.int .i64 q.res.units),.v (.int .i64 q.res.home),Ax q.holds,.sl (.own 0 0) 7 (q.convs.map Wait.c),AY q.waits,.v (.int .i64 q.gen)]) []:=by
 refine Ac.go f164 ?_
 unfold f164
 refine gO ?_
 refine B3 ⟨[(704,0)],[],[384,1024]⟩ _ ?_
 simp(disch:=omega)only[go_sem,Ax]
theorem f255_ok(q:Queue)(p:Proc)(a:Amt)(prio:Int)(h:Br q≤100):Ac C0 255 [.agg q.c,.agg p.c,.agg a.c,I prio] [] (.tup [.agg (Bc q p a prio).1.c,Ax (Bc q p a prio).2.1,I (Bc q p a prio).2.2]) []:=by
 obtain⟨h1,h2,h3⟩:=A5 h
 refine Ac.go f255 ?_
 unfold f255
 refine gO ?_
 refine Aa (f158_ok q h1 h3) ?_
 cases hv:valid q
 ·have e:Bc q p a prio=(q0,[],2):=by simp[Bc,hv]
  simp(disch:=omega)only[go_sem,Bool.not_false,e,q0]
  refine Ak _ ?_
  refine .tup (Af.AD ?_)
  simp(disch:=omega)only[go_sem]
  repeat'(with_reducible apply And.intro)
  all_goals(first|exact .Au (by omega)|exact .agg (Af.AD (by simp(disch:=omega)only[go_sem])))
 refine gO ?_
 refine Aa (f105_ok p) ?_
 cases hp:p.ok
 ·have e:Bc q p a prio=(q0,[],1):=by simp[Bc,hv,hp]
  simp(disch:=omega)only[go_sem,Bool.not_false,e,q0]
  refine Ak _ ?_
  refine .tup (Af.AD ?_)
  simp(disch:=omega)only[go_sem]
  repeat'(with_reducible apply And.intro)
  all_goals(first|exact .Au (by omega)|exact .agg (Af.AD (by simp(disch:=omega)only[go_sem])))
 refine gO ?_
 by_cases hp0:prio<0
 ·have e:Bc q p a prio=(q0,[],1):=by simp[Bc,hv,hp,hp0]
  simp(disch:=omega)only[go_sem,eq_true hp0,decide_true,e,q0]
  refine Ak _ ?_
  refine .tup (Af.AD ?_)
  simp(disch:=omega)only[go_sem]
  repeat'(with_reducible apply And.intro)
  all_goals(first|exact .Au (by omega)|exact .agg (Af.AD (by simp(disch:=omega)only[go_sem])))
 by_cases hp7:7<prio
 ·have e:Bc q p a prio=(q0,[],1):=by simp[Bc,hv,hp,hp0,hp7]
  simp(disch:=omega)only[go_sem,eq_false hp0,eq_true hp7,decide_true,decide_false,e,q0]
  refine Ak _ ?_
  refine .tup (Af.AD ?_)
  simp(disch:=omega)only[go_sem]
  repeat'(with_reducible apply And.intro)
  all_goals(first|exact .Au (by omega)|exact .agg (Af.AD (by simp(disch:=omega)only[go_sem])))
 simp(disch:=omega)only[go_sem,eq_false hp0,eq_false hp7,decide_false]
 refine Aa (f171_ok q.res a) ?_
 cases hf:q.res.fits a
 ·have e:Bc q p a prio=(q0,[],12):=by simp[Bc,hv,hp,hp0,hp7,hf]
  simp(disch:=omega)only[go_sem,Bool.not_false,e,q0]
  refine Ak _ ?_
  refine .tup (Af.AD ?_)
  simp(disch:=omega)only[go_sem]
  repeat'(with_reducible apply And.intro)
  all_goals(first|exact .Au (by omega)|exact .agg (Af.AD (by simp(disch:=omega)only[go_sem])))
 refine gO ?_
 refine Aa (f98_ok q p h2 h3) ?_
 cases hw:(Ao q p).isSome
 rotate_left
 ·have e:Bc q p a prio=(q0,[],14):=by simp[Bc,hv,hp,hp0,hp7,hf,hw]
  simp(disch:=omega)only[go_sem,Bool.not_false,e,q0]
  refine Ak _ ?_
  refine .tup (Af.AD ?_)
  simp(disch:=omega)only[go_sem]
  repeat'(with_reducible apply And.intro)
  all_goals(first|exact .Au (by omega)|exact .agg (Af.AD (by simp(disch:=omega)only[go_sem])))
 refine gO ?_
 refine A7 ⟨⟨[],[],[]⟩,[(0,3072)],[]⟩ (VQ q h1 h2 h3) (by simp(disch:=omega)only[go_sem]) (by decide) trivial (.inl rfl) ?_
 refine gO ?_
 refine Dr [3072] (f163_ok q p h1) (by simp(disch:=omega)only[go_sem]) rfl (by simp[Amt.c,AV.ren,Ei,Flat,Jn]) ?_
 refine gO ?_
 refine Aa (f253_ok q.res (Ap q.holds p) a) ?_
 cases hc:q.res.covers (Ap q.holds p) a
 rotate_left
 ·have e:Bc q p a prio=(q,[],0):=by simp[Bc,hv,hp,hp0,hp7,hf,hw,hc]
  simp(disch:=omega)only[go_sem,e]
  refine B3 ⟨[],[],[3072]⟩ _ ?_
  refine gO ?_
  refine .tup (Af.AD ?_)
  simp(disch:=omega)only[go_sem]
  repeat'(with_reducible apply And.intro)
  all_goals(first|exact .Au (by omega)|exact .agg (Af.AD (by simp(disch:=omega)only[go_sem])))
 refine gO ?_
 have hs:=((CF q).1 hv).1
 have hsl:=Q4 hs
 unfold Br Bo at hsl
 refine Aa (f162_ok (Ap q.holds p)) ?_
 cases hz:(Ap q.holds p).zero
 ·have e:Bc q p a prio=(EH (Gz q p a),(BD (Gz q p a)).2,0):=by simp[Bc,hv,hp,hp0,hp7,hf,hw,hc,hz]
  rw[e]
  have hbd:q.convs.length+1≤4294967296:=by omega
  simp(disch:=omega)only[go_sem,Bool.not_false]
  refine Aj 10 [([],[4]),([],[61]),([],[5]),([],[4]),([],[64]),([],[13]),([],[6]),([],[65,66,67]),([7],[63,68]),([7],[69])] fol ?_
  refine gO ?_
  first|(refine Aa (f254_ok q.res (Ap q.holds p) a) ?_)|(refine Ai (f254_ok q.res (Ap q.holds p) a) ?_)
  refine gO ?_
  refine EU [4544] (f167_ok (Gz q p a) (Px hs hf (E2 hw) hz hc) h1 (by simp[Gz];omega) h3) (by simp(disch:=omega)only[go_sem,Gz];exact .eq (by simp[Wait.c])) rfl ?_
  refine gO ?_
  exact Av _
 ·simp(disch:=omega)only[go_sem,Bool.not_true]
  have e8:(q.holds.length:Int)+q.waits.length=((q.holds.length+q.waits.length:Nat):Int):=by omega
  by_cases h8:8≤(q.holds.length:Int)+q.waits.length
  ·have e:Bc q p a prio=(q0,[],4):=by simp only[Bc,hv,hp,hf,hw,hc,hz,decide_eq_false hp0,decide_eq_false hp7,decide_eq_true h8];rfl
   simp(disch:=omega)only[go_sem,eq_true h8,decide_true,e,q0]
   refine Ak _ ?_
   refine .tup (Af.AD ?_)
   simp(disch:=omega)only[go_sem]
   repeat'(with_reducible apply And.intro)
   all_goals(first|exact .Au (by omega)|exact .agg (Af.AD (by simp(disch:=omega)only[go_sem])))
  simp(disch:=omega)only[go_sem,eq_false h8,decide_false]
  have e:Bc q p a prio=(EH (HA q p a prio),(BD (HA q p a prio)).2,0):=by simp only[Bc,hv,hp,hf,hw,hc,hz,decide_eq_false hp0,decide_eq_false hp7,decide_eq_false h8];rfl
  rw[e]
  have hS:=Q6 hs hp (prio:=prio) ⟨by omega,by omega⟩ hf (E2 hw) hz (by omega)
  obtain⟨a1,a2,a3⟩:=(Bi q).1 hs.waits
  have hwo:Wait.ok ⟨p,a,prio,0⟩=true:=by simp[Wait.ok,hp,Ny hf,between];omega
  have hnone:¬ 0≤Eo q.waits p:=by
   have hn:=IA.1 (E2 hw)
   unfold Eo
   have:q.waits.findIdx? (fun h=>decide (h.proc=p))=none:=by
    rw[List.findIdx?_eq_none_iff]
    intro x hx
    simpa using hn x (by simp[hx])
   rw[this];simp
  have ei:JO q.waits ⟨p,a,prio,0⟩=(Ln q.waits ⟨p,a,prio,0⟩,((Eh q.waits ⟨p,a,prio,0⟩ q.waits.length:Nat):Int),0):=by
   have:q.waits.length≠8:=by omega
   simp[JO,a1,hwo,hnone,this]
  have hi:=f291_ok q.waits ⟨p,a,prio,0⟩ h3
  rw[ei]at hi
  refine Aa hi ?_
  refine gO ?_
  have hpl:=Pp q.waits ⟨p,a,prio,0⟩
  refine EU [3072] (f167_ok (HA q p a prio) hS h1 h2 (show (Ln q.waits ⟨p,a,prio,0⟩).length≤1000000 by omega)) (by simp(disch:=omega)only[go_sem,HA]) rfl ?_
  refine gO ?_
  exact Av _
structure Di(t:List Queue):Prop where
 n:t.length≤100
 q:∀ q∈t,Br q≤100
def Fy(t:List Queue):Bool:=BT t&&decide ((Aw t).length≤8)
theorem f115_ok(t:List Queue)(h:Di t):Ac C0 115 [At t] [] (B (Fy t)) []:=by
 refine Ac.go f115 ?_
 unfold f115
 refine gO ?_
 refine Aa (f104_ok t h.q) ?_
 cases hq:BT t
 ·simp(disch:=omega)only[go_sem]
  refine Ak _ ?_
  exact wb (by simp[Fy,hq])
 refine gO ?_
 refine A7 ⟨⟨[],[],[]⟩,[(0,448)],[]⟩ (f75_ok t h.n h.q) (by simp(disch:=omega)only[go_sem]) rfl trivial (.inl rfl) ?_
 refine gO ?_
 refine Ak _ ?_
 exact wb (by simp[Fy,hq];omega)
def BR(t:List Queue)(name:Bs):Option Nat:=t.findIdx? fun q=>q.res.name==name
def atI(o:Option Nat):Int:=match o with|some i=>i|none=>-1
theorem Ia(l:List Queue)(name:Bs)(hl:l.length≤1000000):Ac C0 97 [At l,.v (.string (str name))] [] (I (atI (BR l name))) []:=f97_ok l name hl
theorem CK{t:List Queue}{n:Bs}{i:Nat}(h:BR t n=some i):i<t.length∧∃ q,t[i]?=some q∧q.res.name=n:=by
 unfold BR at h
 rw[List.findIdx?_eq_some_iff_getElem]at h
 obtain⟨h1,h2,_⟩:=h
 exact⟨h1,t[i],gE h1,by simpa using h2⟩
theorem f256_ok(t:List Queue)(i:Nat)(q:Queue)(h:t.length≤100)(hi:i<t.length):Ac C0 256 [At t,I i,.agg q.c] [] (At (t.set i q)) []:=by
 obtain⟨b,hb⟩:∃ b,t[i]?=some b:=⟨_,gE hi⟩
 refine Ac.go f256 ?_
 unfold f256
 simp(disch:=omega)only[go_sem,gm,hb]
 refine B3 ⟨[],[],[640]⟩ _ ?_
 refine gO ?_
 exact .sl (by rw[List.map_set];rfl)
def B7(name:Bs)(l:List Hold):List Ev:=l.map fun h=>⟨1,h.proc,name,h.amt⟩
theorem f257_ok(name:Bs)(l:List Hold)(h:l.length≤1000000):Ac C0 257 [.v (.string (str name)),Ax l] [] (SF (B7 name l)) []:=by
 refine Ac.go f257 ?_
 unfold f257
 refine gO ?_
 refine Ab (α:=Nat) (fun i=>⟨[(6,I i),(5,.sl (.own 1728 0) 7 ((B7 name (l.take i)).map Ev.c)),(0,.v (.string (str name))),(1,Ax l)],[]⟩) (fun i=>i≤(l).length∧True) (fun i=>(l).length-i) 0 ⟨by omega,trivial⟩ ?_ ?_
 ·refine Imp.weak ?_ ?_
  all_goals(try simp(disch:=omega)only[go_sem])
  all_goals(try(repeat'(with_reducible apply And.intro)))
  all_goals(first|exact .AA (by omega)|exact .Au (by omega)|exact .sl (by simp[B7])|exact .int (by simp[B7])|exact .eq (by simp[B7]))
 rintro i ⟨hi,hP⟩ J hJ
 refine gO ?_
 refine ⟨fun hlt=>?_,fun hge=>?_⟩
 rotate_left
 have hil:i=(l).length:=by simp at hge;omega
 rotate_left
 obtain⟨b,hb⟩:∃ b,(l)[i]?=some b:=⟨_,gE (by simp at hlt;omega)⟩
 have hbm:=mG hb
 have hlt2:i<(l).length:=by simp at hlt;omega
 ·have hbd:(B7 name (l.take i)).length+1≤4294967296:=by simp[B7];omega
  refine Aj 14 [([],[5]),([],[1]),([],[6]),([],[14,15]),([],[16]),([],[17]),([],[0]),([],[1]),([],[6]),([],[20,21]),([],[22]),([],[23]),([],[18,19,24]),([],[25])] fol ?_
  simp(disch:=omega)only[go_sem,gm,hb]
  refine hJ _ (i+1) ⟨by simp at hlt;omega,trivial⟩ (by simp at hlt;omega) (Imp.weak ?_ ?_)
  all_goals(try simp(disch:=omega)only[go_sem])
  all_goals(try(repeat'(with_reducible apply And.intro)))
  all_goals(first|exact .AA (by omega)|exact .Au (by omega)|exact .sl (by simp[B7,take_add_one,hb,Ev.c])|exact .int (by simp[B7,take_add_one,hb,Ev.c])|exact .eq (by simp[B7,take_add_one,hb,Ev.c]))
 ·subst hil
  rw[take_length]
  refine B3 ⟨[],[],[1728]⟩ _ ?_
  simp(disch:=omega)only[go_sem]
theorem f173_ok(a l2:List Atom):Ac C0 173 [Be a,Be l2] [] (B (decide (a=l2))) []:=by
 refine Ac.lens f173 fun hlen=>?_
 simp only[Ec,lens,List.length_map,and_true,true_and]at hlen
 refine Ac.go f173 ?_
 unfold f173
 by_cases hl:a.length=l2.length
 rotate_left
 ·have e1:((a.length:Int) !=l2.length)=true:=by simp;omega
  simp(disch:=omega)only[go_sem,e1]
  refine Ak _ ?_
  exact wb (by have:a≠l2:=fun e=>hl (by rw[e]);simp[this])
 have e1:((a.length:Int) !=l2.length)=false:=by simp[hl]
 simp(disch:=omega)only[go_sem,e1]
 refine Ab (α:=Nat) (fun i=>⟨[(5,I i),(0,Be a),(1,Be l2)],[]⟩) (fun i=>i≤(a).length∧a.take i=l2.take i) (fun i=>(a).length-i) 0 ⟨by omega,rfl⟩ ?_ ?_
 ·exact Bu
 rintro i ⟨hi,hP⟩ J hJ
 refine gO ?_
 refine ⟨fun hlt=>?_,fun hge=>?_⟩
 rotate_left
 have hil:i=(a).length:=by simp at hge;omega
 rotate_left
 obtain⟨b,hb⟩:∃ b,(a)[i]?=some b:=⟨_,gE (by simp at hlt;omega)⟩
 have hbm:=mG hb
 have hlt2:i<(a).length:=by simp at hlt;omega
 refine Aj 8 [([],[0]),([],[5]),([],[17,18]),([],[19]),([],[1]),([],[5]),([],[21,22]),([],[23])] fol ?_
 simp(disch:=omega)only[go_sem,gm,hb]
 ·obtain⟨c,hc⟩:∃ c,l2[i]?=some c:=⟨_,gE (by omega)⟩
  simp(disch:=omega)only[go_sem,gm,hb,hc]
  by_cases hbc:b=c
  ·simp(disch:=omega)only[go_sem,hbc,decide_true]
   refine hJ _ (i+1) ⟨by simp at hlt;omega,(by rw[take_add_one,take_add_one,hb,hc,hP,hbc])⟩ (by simp at hlt;omega) AE
  ·simp(disch:=omega)only[go_sem,hbc,decide_false]
   refine Ak _ ?_
   refine wb ?_
   have:a≠l2:=fun h=>hbc (by rw[h,hc]at hb;simpa using hb.symm)
   simp[this]
 ·subst hil
  rw[take_length,hl,take_length]at hP
  refine Ak _ ?_
  exact wb (by simp[hP])
def GA(t:List Queue)(p:Proc):List Atom:=t.filterMap fun q=>if (Ap q.holds p).zero then none else some ⟨q.res.name,Ap q.holds p⟩
def D7(t:List Queue)(p:Proc):List Atom:=t.filterMap fun q=>(Ao q p).map fun a=>⟨q.res.name,a⟩
theorem UU{α β:Type}{f:α→Option β}{l:List α}{i:Nat}{b:α}(hb:l[i]?=some b):(l.take (i+1)).filterMap f=(l.take i).filterMap f++(f b).toList:=by
 rw[take_add_one,hb,List.filterMap_append]
 cases h:f b<;>simp[h]
theorem W4{α β:Type}{f:α→Option β}(l:List α)(i:Nat):((l.take i).filterMap f).length≤l.length :=
 Nat.le_trans (List.length_filterMap_le _ _) (by simp;omega)
theorem f174_ok(t:List Queue)(p:Proc)(h:Di t):Ac C0 174 [At t,.agg p.c] [] (Be (GA t p)) []:=by
 have hn:=h.n
 refine Ac.go f174 ?_
 unfold f174
 refine gO ?_
 refine Ab (α:=Nat) (fun i=>⟨[(6,I i),(5,.sl (.own 2112 0) 3 ((GA (t.take i) p).map Atom.c)),(0,At t),(3,.ptr 192 0)],[(192,p.c)]⟩) (fun i=>i≤(t).length∧True) (fun i=>(t).length-i) 0 ⟨by omega,trivial⟩ ?_ ?_
 ·refine Imp.weak ?_ ?_
  all_goals(try simp(disch:=omega)only[go_sem])
  all_goals(try(repeat'(with_reducible apply And.intro)))
  all_goals(first|exact .AA (by omega)|exact .Au (by omega)|exact .sl (by simp[GA])|exact .int (by simp[GA])|exact .eq (by simp[GA]))
 rintro i ⟨hi,hP⟩ J hJ
 refine gO ?_
 refine ⟨fun hlt=>?_,fun hge=>?_⟩
 rotate_left
 have hil:i=(t).length:=by simp at hge;omega
 rotate_left
 obtain⟨b,hb⟩:∃ b,(t)[i]?=some b:=⟨_,gE (by simp at hlt;omega)⟩
 have hbm:=mG hb
 have hlt2:i<(t).length:=by simp at hlt;omega
 ·have hl:(GA (t.take i) p).length≤t.length:=W4 t i
  have hbd:(GA (t.take i) p).length+1≤4294967296:=by omega
  obtain⟨q1,q2,q3⟩:=A5 (h.q b hbm)
  have hx:GA (t.take (i+1)) p=GA (t.take i) p++(if (Ap b.holds p).zero then none else some (⟨b.res.name,Ap b.holds p⟩:Atom)).toList:=UU hb
  generalize hL:GA (t.take i) p=L at hbd hx
  refine Aj 7 [([],[0]),([],[6]),([],[14,15]),([],[16]),([],[3]),([],[17,18]),([],[])] fol ?_
  simp(disch:=omega)only[go_sem,gm,hb]
  first|(refine Aa (f163_ok b p q1) ?_)|(refine Ai (f163_ok b p q1) ?_)
  refine gO ?_
  refine Aa (f162_ok (Ap b.holds p)) ?_
  cases hz:(Ap b.holds p).zero
  ·simp(disch:=omega)only[go_sem,Bool.not_false]
   refine Aj 10 [([],[5]),([],[0]),([],[6]),([],[24,25]),([],[26]),([],[27]),([],[28]),([],[7]),([],[29,30]),([],[31])] fol ?_
   simp(disch:=omega)only[go_sem,gm,hb]
   rw[hz]at hx
   refine hJ _ (i+1) ⟨by simp at hlt;omega,trivial⟩ (by simp at hlt;omega) (Imp.weak ?_ ?_)
   all_goals(try simp(disch:=omega)only[go_sem])
   all_goals(try(repeat'(with_reducible apply And.intro)))
   all_goals(first|exact .AA (by omega)|exact .Au (by omega)|exact .sl (by simp[hx,Atom.c])|exact .int (by simp[hx,Atom.c])|exact .eq (by simp[hx,Atom.c]))
  ·simp(disch:=omega)only[go_sem,Bool.not_true]
   rw[hz]at hx
   refine hJ _ (i+1) ⟨by simp at hlt;omega,trivial⟩ (by simp at hlt;omega) (Imp.weak ?_ ?_)
   all_goals(try simp(disch:=omega)only[go_sem])
   all_goals(try(repeat'(with_reducible apply And.intro)))
   all_goals(first|exact .AA (by omega)|exact .Au (by omega)|exact .sl (by simp[hx])|exact .int (by simp[hx])|exact .eq (by simp[hx]))
 ·subst hil
  rw[take_length]
  refine B3 ⟨[],[],[2112]⟩ _ ?_
  simp(disch:=omega)only[go_sem]
theorem f175_ok(t:List Queue)(p:Proc)(h:Di t):Ac C0 175 [At t,.agg p.c] [] (Be (D7 t p)) []:=by
 have hn:=h.n
 refine Ac.go f175 ?_
 unfold f175
 refine gO ?_
 refine Ab (α:=Nat) (fun i=>⟨[(6,I i),(5,.sl (.own 2240 0) 3 ((D7 (t.take i) p).map Atom.c)),(0,At t),(3,.ptr 192 0)],[(192,p.c)]⟩) (fun i=>i≤(t).length∧True) (fun i=>(t).length-i) 0 ⟨by omega,trivial⟩ ?_ ?_
 ·refine Imp.weak ?_ ?_
  all_goals(try simp(disch:=omega)only[go_sem])
  all_goals(try(repeat'(with_reducible apply And.intro)))
  all_goals(first|exact .AA (by omega)|exact .Au (by omega)|exact .sl (by simp[D7])|exact .int (by simp[D7])|exact .eq (by simp[D7]))
 rintro i ⟨hi,hP⟩ J hJ
 refine gO ?_
 refine ⟨fun hlt=>?_,fun hge=>?_⟩
 rotate_left
 have hil:i=(t).length:=by simp at hge;omega
 rotate_left
 obtain⟨b,hb⟩:∃ b,(t)[i]?=some b:=⟨_,gE (by simp at hlt;omega)⟩
 have hbm:=mG hb
 have hlt2:i<(t).length:=by simp at hlt;omega
 ·have hl:(D7 (t.take i) p).length≤t.length:=W4 t i
  have hbd:(D7 (t.take i) p).length+1≤4294967296:=by omega
  obtain⟨q1,q2,q3⟩:=A5 (h.q b hbm)
  have hx:D7 (t.take (i+1)) p=D7 (t.take i) p++((Ao b p).map fun a=>(⟨b.res.name,a⟩:Atom)).toList:=UU hb
  generalize hL:D7 (t.take i) p=L at hbd hx
  refine CA 4095 [(0,1,0),(1,2,0),(2,4,3),(3,8,4),(4,16,0),(5,32,24),(6,64,32),(7,128,64),(8,256,64),(9,512,0),(10,1024,767),(11,2048,2047)] [0,1,2,16,512,3,17,513,18,514,528,7,19,515,529,530,15,23,519,531,31,527,535,63,543,127,575,255,383,639,511,767,895,1023,1791,2047,4095] (fun m=>⟨sel m [(1,16,At t),(2,17,I i),(4,18,.ep .no i b.c 0),(8,19,.agg b.c),(16,20,.agg p.c),(32,21,.tup [.agg ((Ao b p).getD ⟨0,0⟩).c,B (Ao b p).isSome]),(64,15,.tup [.agg ((Ao b p).getD ⟨0,0⟩).c,B (Ao b p).isSome]),(128,22,.agg ((Ao b p).getD ⟨0,0⟩).c),(256,23,B (Ao b p).isSome),(512,7,.ptr 448 0),(2048,8,B (Ao b p).isSome)]++[(6,I i),(5,.sl (.own 2240 0) 3 (L.map Atom.c)),(0,At t),(3,.ptr 192 0)],((if m / 512%2=1 then [(448,(if m / 1024%2=1 then ((Ao b p).getD ⟨0,0⟩).c else (⟨0,0⟩:Amt).c))] else [])++[(192,p.c)])⟩) ?_ ?_ ?_ fol
  ·exact AE
  ·simp (maxSteps:=100000000)only[Cz,Cy,C9,C8,and_true,Nat.reduceDiv,Nat.reduceMod,Nat.reduceAnd,Nat.reduceEqDiff,reduceIte,true_and,and_false,false_and,and_self]
   repeat'(with_reducible refine And.intro ?_ ?_)
   all_goals simp(disch:=omega)only[go_sem,gm,hb,nil_append]
   all_goals first|exact Imp.weak (by simp(disch:=omega)only[go_sem]) (by simp(disch:=omega)only[go_sem,nil_append,cons_append])|(refine Aa (f98_ok b p q2 q3) ?_;simp(disch:=omega)only[go_sem];exact Imp.weak (by simp(disch:=omega)only[go_sem]) (by simp(disch:=omega)only[go_sem,nil_append,cons_append]))
  cases hw:Ao b p with
  |none =>
   rw[hw]at hx
   simp(disch:=omega)only[go_sem,hw,Option.isSome_none,nil_append,cons_append]
   refine hJ _ (i+1) ⟨by simp at hlt;omega,trivial⟩ (by simp at hlt;omega) (Imp.weak ?_ ?_)
   all_goals(try simp(disch:=omega)only[go_sem])
   all_goals(try(repeat'(with_reducible apply And.intro)))
   all_goals(first|exact .AA (by omega)|exact .Au (by omega)|exact .sl (by simp[hx])|exact .int (by simp[hx])|exact .eq (by simp[hx]))
  |some a =>
   rw[hw]at hx
   simp(disch:=omega)only[go_sem,hw,Option.isSome_some,Option.getD_some,nil_append,cons_append]
   refine Aj 10 [([],[5]),([],[0]),([],[6]),([],[26,27]),([],[28]),([],[29]),([],[30]),([],[7]),([],[31,32]),([],[33])] fol ?_
   simp(disch:=omega)only[go_sem,gm,hb]
   refine hJ _ (i+1) ⟨by simp at hlt;omega,trivial⟩ (by simp at hlt;omega) (Imp.weak ?_ ?_)
   all_goals(try simp(disch:=omega)only[go_sem])
   all_goals(try(repeat'(with_reducible apply And.intro)))
   all_goals(first|exact .AA (by omega)|exact .Au (by omega)|exact .sl (by simp[hx,Atom.c])|exact .int (by simp[hx,Atom.c])|exact .eq (by simp[hx,Atom.c]))
 ·subst hil
  rw[take_length]
  refine B3 ⟨[],[],[2240]⟩ _ ?_
  simp(disch:=omega)only[go_sem]
end Go.Rd
