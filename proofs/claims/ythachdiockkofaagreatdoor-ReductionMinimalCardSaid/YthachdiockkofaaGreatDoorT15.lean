/- part 15 of the proof -/
import Derived.Test.YthachdiockkofaaGreatDoorT14
set_option linter.all false
open Go Go.Abs Go.Proofs
set_option maxRecDepth 100000
namespace Go.Rd
set_option maxHeartbeats 8000000
open List (any_append drop_eq_getElem_cons length_map map_nil map_set mem_append mem_cons mem_singleton take_add_one take_length)
open Bool (false_eq_true)
open Option (isSome_none isSome_some)
open Tryz
def Fq(l:List Proc)(k:Nat)(p:Proc):List Proc:=l.take k++p::l.drop k
theorem L2(l:List Proc)(k:Nat)(p:Proc)(h:k≤l.length):(Fq l k p).length=l.length+1:=by simp[Fq];omega
theorem Ta(l:List Proc)(k:Nat)(p:Proc)(h:k≤l.length):(Fq l k p)[k]?=some p:=by
 unfold Fq
 rw[List.getElem?_append_right (by simp;omega)]
 simp[Nat.min_eq_left h]
theorem QM(l:List Proc)(k:Nat)(p:Proc)(h:k+1≤l.length):(Fq l (k+1) p)[k]?=l[k]?:=by
 unfold Fq
 rw[List.getElem?_append_left (by simp;omega),List.getElem?_take,if_pos (by omega)]
theorem QN{l:List Proc}{k:Nat}{p x:Proc}(hx:l[k]?=some x):((Fq l (k+1) p).set k p).set (k+1) x=Fq l k p:=by
 have hk:=Al hx
 have hd:l.drop k=x::l.drop (k+1):=by rw[drop_eq_getElem_cons hk,get_eq hx]
 have ht:l.take (k+1)=l.take k++[x]:=Gk hx
 unfold Fq
 rw[ht,hd]
 have hl:(l.take k).length=k:=by simp;omega
 rw[List.append_assoc,List.set_append_right _ _ (by omega),hl,Nat.sub_self]
 rw[List.set_append_right _ _ (by omega),hl]
 simp
theorem Tb(l:List Proc)(k:Nat)(p x:Proc):x∈Fq l k p↔x∈l∨x=p:=by
 unfold Fq
 conv=>rhs;rw[← List.take_append_drop k l]
 simp only[mem_append,mem_cons]
 constructor
 ·rintro(h|h|h)
  ·exact .inl (.inl h)
  ·exact .inr h
  ·exact .inl (.inr h)
 ·rintro((h|h)|h)
  ·exact .inl h
  ·exact .inr (.inr h)
  ·exact .inr (.inl h)
theorem f76_ok(l:List Proc)(hl:l.length≤1000000):Ac C0 76 [Aq l] [] (Aq (Jk l)) []:=by
 refine Ac.go f76 ?_
 unfold f76
 refine gO ?_
 refine Ab (α:=Nat × List Proc) (fun x=>⟨[(4,I x.1),(3,.sl (.own 1728 0) 3 (x.2.map Proc.c)),(0,Aq l)],[]⟩) (fun x=>x.1≤l.length∧x.2.length≤x.1∧Hn x.2∧∀ p,p∈x.2↔p∈l.take x.1) (fun x=>l.length-x.1) (0,[]) ⟨by simp,by simp,by simp[Hn],by simp⟩ ?_ ?_
 ·refine Imp.weak ?_ ?_
  ·simp(disch:=omega)only[go_sem,map_nil]
  ·exact gI
 rintro⟨i,out⟩ ⟨hi,hol,hasc,hmem⟩ J hJ
 replace hi:i≤l.length:=hi
 replace hol:out.length≤i:=hol
 replace hasc:Hn out:=hasc
 replace hmem:∀ p,p∈out↔p∈l.take i:=hmem
 refine gO ?_
 refine ⟨fun hlt=>?_,fun hge=>?_⟩
 ·have hlt':i<l.length:=by simp at hlt;omega
  obtain⟨p,hp⟩:∃ p,l[i]?=some p:=⟨_,gE hlt'⟩
  have ht:=Gk hp
  simp(disch:=omega)only[go_sem,gm,hp]
  refine Dr [1728] (f29_ok out p (by omega)) (by simp(disch:=omega)only[go_sem]) rfl trivial ?_
  cases hh:AK out p
  rotate_left
  ·have hin:p∈out:=by simpa [AK]using hh
   refine gO ?_
   refine hJ _ (i+1,out) ⟨by simp;omega,by simp;omega,hasc,fun x=>?_⟩ (by simp;omega) AE
   rw[ht,mem_append,← hmem x]
   simp only[mem_singleton]
   exact⟨.inl,fun h=>h.elim id fun e=>by rw[e];exact hin⟩
  have hnin:p∉out:=by simpa [AK]using hh
  have hbd:out.length+1≤4294967296:=by omega
  simp(disch:=omega)only[go_sem,gm,hp]
  refine Ab (α:=Nat) (fun k=>⟨[(5,I k),(4,I i),(3,.sl (.own 1728 0) 3 ((Fq out k p).map Proc.c)),(0,Aq l)],[]⟩) (fun k=>k≤out.length∧∀ x∈out.drop k,A2 p x<0) (fun k=>k) out.length ⟨by omega,by simp⟩ ?_ ?_
  ·refine Imp.weak ?_ ?_
   ·simp(disch:=omega)only[go_sem]
    exact .sl (by simp[Fq,Proc.c])
   ·exact gI
  rintro k ⟨hk,hgt⟩ J2 hJ2
  have stop:(∀ x∈out.take k,A2 x p<0)→∀ st',Imp ⟨C0,[],[]⟩ st' ⟨[(4,I (i+1:Nat)),(3,.sl (.own 1728 0) 3 ((Fq out k p).map Proc.c)),(0,Aq l)],[]⟩→J st':=fun hlt2 st' him=>by
   refine hJ st' (i+1,Fq out k p) ⟨by simp;omega,by simp[L2 out k p hk];omega,?_,fun x=>?_⟩ (by simp;omega) him
   ·have h0:=hasc
    unfold Hn at h0 ⊢
    rw[← List.take_append_drop k out]at h0
    rw[List.pairwise_append]at h0
    show (Fq out k p).Pairwise _
    unfold Fq
    rw[List.pairwise_append]
    refine⟨h0.1,List.pairwise_cons.2 ⟨hgt,h0.2.1⟩,fun a ha b hb=>?_⟩
    rcases mem_cons.1 hb with e|e
    ·rw[e];exact hlt2 a ha
    ·exact h0.2.2 a ha b e
   ·show x∈Fq out k p↔x∈l.take (i+1)
    rw[Tb,ht,mem_append,← hmem x]
    simp
  refine Aj 12 [([],[5]),([],[28]),([],[29]),([],[3,30]),([],[5,30]),([],[32,30]),([],[31,33,30]),([],[34,30]),([],[3,30]),([],[5,30]),([],[36,37,30]),([],[38,30])] fol ?_
  cases k with
  | zero =>
   have e0:(0<((0:Nat):Int))=False:=by simp
   simp(disch:=omega)only[go_sem,e0,decide_false]
   exact stop (by simp) _ AE
  | succ k =>
   have e0:(0<(((k+1:Nat)):Int))=True:=eq_true (by omega)
   have e1:(0<(k:Int)+1)=True:=eq_true (by omega)
   have e2:((k:Int)+1-1)=(k:Int):=by omega
   obtain⟨x,hx⟩:∃ x,out[k]?=some x:=⟨_,gE (by omega)⟩
   have g1:=Ta out (k+1) p hk
   have g2:=QM out k p hk
   rw[hx]at g2
   have hml:=L2 out (k+1) p hk
   have z1:k<(Fq out (k+1) p).length:=by omega
   have z2:k+1<(Fq out (k+1) p).length:=by omega
   simp(disch:=omega)only[go_sem,e0,e1,e2,gm,g1,g2,length_map,hml]
   refine Aa (f107_ok x p) ?_
   refine gO ?_
   by_cases hc:0<A2 x p
   ·have e3:(0<A2 x p)=True:=eq_true hc
    have e4:(k=k+1)=False:=eq_false (by omega)
    simp(disch:=omega)only[go_sem,e2,e3,gm,g1,g2,length_map,hml,List.length_set,List.getElem?_set,e4]
    refine hJ2 _ k ⟨by omega,fun y hy=>?_⟩ (by omega) (Imp.weak ?_ (by simp(disch:=omega)only[go_sem]))
    ·rw[drop_eq_getElem_cons (by omega),get_eq hx]at hy
     rcases mem_cons.1 hy with e|e
     ·subst e;have:=Cx y p;omega
     ·exact hgt y e
    ·simp(disch:=omega)only[go_sem]
     refine .sl ?_
     rw[← QN hx,map_set,map_set]
     rfl
   ·have e3:(0<A2 x p)=False:=eq_false hc
    simp(disch:=omega)only[go_sem,e3,decide_false]
    refine stop (fun y hy=>?_) _ AE
    have hxm:x∈out:=mG hx
    have hxp:A2 x p<0:=by
     have:A2 x p≠0:=fun e=>hnin (by rw[← Fi e];exact hxm)
     omega
    rw[Gk hx]at hy
    rcases mem_append.1 hy with e|e
    ·have h0:=hasc
     unfold Hn at h0
     rw[← List.take_append_drop k out,List.pairwise_append]at h0
     have hd:out.drop k=x::out.drop (k+1):=by rw[drop_eq_getElem_cons (by omega),get_eq hx]
     exact CR (h0.2.2 y e x (by rw[hd];simp)) hxp
    ·rw[mem_singleton.1 e];exact hxp
 ·have hil:i=l.length:=by simp at hge;omega
  subst hil
  rw[take_length]at hmem
  have e:out=Jk l:=Ly hasc (Dp l) fun x=>by rw[hmem,GV]
  refine B3 ⟨[],[],[1728]⟩ _ ?_
  simp(disch:=omega)only[go_sem,e]
theorem f207_ok(l:List Hold)(hl:l.length≤1000000):Ac C0 207 [Ax l] [] (J0 0 (Ct l)) []:=by
 refine Ac.go f207 ?_
 unfold f207
 refine gO ?_
 refine Ab (α:=Nat) (fun i=>⟨[(4,I i),(0,Ax l),(3,.sl (.own 1152 0) 3 ((Ct (l.take i)).map Proc.c))],[]⟩) (fun i=>i≤(l).length∧True) (fun i=>(l).length-i) 0 ⟨by omega,trivial⟩ ?_ ?_
 ·exact Bu
 rintro i ⟨hi,hP⟩ J hJ
 refine gO ?_
 refine ⟨fun hlt=>?_,fun hge=>?_⟩
 rotate_left
 have hil:i=(l).length:=by simp at hge;omega
 rotate_left
 obtain⟨b,hb⟩:∃ b,(l)[i]?=some b:=⟨_,gE (by simp at hlt;omega)⟩
 have hbm:=mG hb
 have hlt2:i<(l).length:=by simp at hlt;omega
 simp(disch:=omega)only[go_sem,gm,hb]
 ·have hbd:(Ct (l.take i)).length+1≤4294967296:=by simp[Ct];omega
  simp(disch:=omega)only[go_sem,Ct]
  refine hJ _ (i+1) ⟨by simp at hlt;omega,trivial⟩ (by simp at hlt;omega) (Imp.weak ?_ ?_)
  all_goals(try simp(disch:=omega)only[go_sem])
  all_goals(try(repeat'(with_reducible apply And.intro)))
  all_goals(first|exact .AA (by omega)|exact .Au (by omega)|exact .sl (by simp[Ct,take_add_one,hb,Proc.c])|exact .int (by simp[Ct,take_add_one,hb,Proc.c])|exact .eq (by simp[Ct,take_add_one,hb,Proc.c]))
 ·subst hil
  refine AU ⟨[(1152,0)],[],[]⟩ _ rfl ⟨rfl,rfl⟩ (by simp[lk]) ?_ trivial
  simp(disch:=omega)only[go_sem,take_length]
theorem f208_ok(q:Queue)(h:q.convs.length+q.waits.length≤1000000):Ac C0 208 [.agg q.c] [] (Aq (BJ (q.convs++q.waits))) []:=by
 refine Ac.go f208 ?_
 unfold f208
 refine gO ?_
 refine Ab (α:=Nat) (fun i=>⟨[(4,I i),(1,.ptr 64 0),(3,.sl (.own 1344 0) 3 ((BJ (q.convs.take i)).map Proc.c))],[(64,q.c)]⟩) (fun i=>i≤(q.convs).length∧True) (fun i=>(q.convs).length-i) 0 ⟨by omega,trivial⟩ ?_ ?_
 ·exact Bu
 rintro i ⟨hi,hP⟩ J hJ
 refine gO ?_
 refine ⟨fun hlt=>?_,fun hge=>?_⟩
 rotate_left
 have hil:i=(q.convs).length:=by simp at hge;omega
 rotate_left
 obtain⟨b,hb⟩:∃ b,(q.convs)[i]?=some b:=⟨_,gE (by simp at hlt;omega)⟩
 have hbm:=mG hb
 have hlt2:i<(q.convs).length:=by simp at hlt;omega
 simp(disch:=omega)only[go_sem,gm,hb]
 ·have hbd:(BJ (q.convs.take i)).length+1≤4294967296:=by simp[BJ];omega
  simp(disch:=omega)only[go_sem,BJ]
  refine hJ _ (i+1) ⟨by simp at hlt;omega,trivial⟩ (by simp at hlt;omega) (Imp.weak ?_ ?_)
  all_goals(try simp(disch:=omega)only[go_sem])
  all_goals(try(repeat'(with_reducible apply And.intro)))
  all_goals(first|exact .AA (by omega)|exact .Au (by omega)|exact .sl (by simp[BJ,take_add_one,hb,Proc.c])|exact .int (by simp[BJ,take_add_one,hb,Proc.c])|exact .eq (by simp[BJ,take_add_one,hb,Proc.c]))
 subst hil
 rw[take_length]
 clear hJ
 refine Ab (α:=Nat) (fun i=>⟨[(5,I i),(1,.ptr 64 0),(3,.sl (.own 2368 0) 3 ((BJ (q.convs++q.waits.take i)).map Proc.c))],[(64,q.c)]⟩) (fun i=>i≤(q.waits).length∧True) (fun i=>(q.waits).length-i) 0 ⟨by omega,trivial⟩ ?_ ?_
 ·refine Imp.ren ⟨[(1344,2368)],[(64,64)],[]⟩ ⟨rfl,rfl⟩ (by simp[lk]) ?_ ?_
  all_goals(try simp(disch:=omega)only[go_sem])
  all_goals(try(repeat'(with_reducible apply And.intro)))
  all_goals(first|exact .AA (by omega)|exact .Au (by omega)|exact .sl (by simp[])|exact .int (by simp[])|exact .eq (by simp[]))
 rintro i ⟨hi,hP⟩ J hJ
 refine gO ?_
 refine ⟨fun hlt=>?_,fun hge=>?_⟩
 rotate_left
 have hil:i=(q.waits).length:=by simp at hge;omega
 rotate_left
 obtain⟨b,hb⟩:∃ b,(q.waits)[i]?=some b:=⟨_,gE (by simp at hlt;omega)⟩
 have hbm:=mG hb
 have hlt2:i<(q.waits).length:=by simp at hlt;omega
 simp(disch:=omega)only[go_sem,gm,hb]
 ·have hbd:(BJ (q.convs++q.waits.take i)).length+1≤4294967296:=by simp[BJ];omega
  simp(disch:=omega)only[go_sem,BJ]
  refine hJ _ (i+1) ⟨by simp at hlt;omega,trivial⟩ (by simp at hlt;omega) (Imp.weak ?_ ?_)
  all_goals(try simp(disch:=omega)only[go_sem])
  all_goals(try(repeat'(with_reducible apply And.intro)))
  all_goals(first|exact .AA (by omega)|exact .Au (by omega)|exact .sl (by simp[BJ,take_add_one,hb,Proc.c])|exact .int (by simp[BJ,take_add_one,hb,Proc.c])|exact .eq (by simp[BJ,take_add_one,hb,Proc.c]))
 ·subst hil
  refine B3 ⟨[],[],[2368]⟩ _ ?_
  simp(disch:=omega)only[go_sem,take_length]
theorem f134_ok(q:Queue)(h:Br q≤1000000):Ac C0 134 [.agg q.c] [] (Aq (Bm q)) []:=by
 have h1:q.holds.length≤1000000:=by unfold Br at h;omega
 have h2:q.convs.length+q.waits.length≤1000000:=by unfold Br Bo at h;omega
 have h3:(Ct q.holds).length+(BJ (q.convs++q.waits)).length≤1000000:=by simp[Ct,BJ];unfold Br Bo at h;omega
 have h4:(Ct q.holds).length+(BJ (q.convs++q.waits)).length≤4294967296:=by omega
 refine Ac.go f134 ?_
 unfold f134
 refine gO ?_
 refine Aj 4 [([],[1]),([],[3]),([],[4]),([],[1])] fol ?_
 refine gO ?_
 refine An ⟨⟨[],[],[]⟩,[(0,320)],[]⟩ (f207_ok q.holds h1) (by simp(disch:=omega)only[go_sem]) rfl rfl trivial (.inl rfl) ?_
 refine gO ?_
 first|(refine Aa (f208_ok q h2) ?_)|(refine Ai (f208_ok q h2) ?_)
 refine gO ?_
 refine EU [512] (f76_ok (Ct q.holds++BJ (q.convs++q.waits)) (by simpa using h3)) (by simp(disch:=omega)only[go_sem];exact .sl (by simp)) rfl ?_
 refine gO ?_
 refine BP _ ?_
 simp(disch:=omega)only[go_sem,Bm]
theorem f163_ok(q:Queue)(p:Proc)(h:q.holds.length≤1000000):Ac C0 163 [.agg q.c,.agg p.c] [] (.agg (Ap q.holds p).c) []:=by
 refine Ac.go f163 ?_
 unfold f163
 refine gO ?_
 refine Aa (f244_ok q.holds p h) ?_
 refine gO ?_
 exact Av _
theorem LO{l:List Wait}{p:Proc}:(Eo l p<0∧l.find? (fun w=>decide (w.proc=p))=none)∨∃ (i:Nat) (w:Wait),Eo l p=i∧l[i]?=some w∧l.find? (fun w=>decide (w.proc=p))=some w:=by
 unfold Eo
 cases h:l.findIdx? (fun w=>decide (w.proc=p)) with
 |none =>
  left
  refine⟨by simp,?_⟩
  rw[List.findIdx?_eq_none_iff]at h
  rw[List.find?_eq_none]
  intro x hx
  simpa using h x hx
 |some i =>
  right
  obtain⟨h1,h2,h3⟩:=(List.findIdx?_eq_some_iff_getElem.1 h)
  refine⟨i,l[i],rfl,gE h1,?_⟩
  rw[List.find?_eq_some_iff_getElem]
  exact⟨h2,i,h1,rfl,fun j hj=>by simpa using h3 j hj⟩
theorem f98_ok(q:Queue)(p:Proc)(h1:q.convs.length≤1000000)(h2:q.waits.length≤1000000):Ac C0 98 [.agg q.c,.agg p.c] [] (.tup [.agg ((Ao q p).getD ⟨0,0⟩).c,B (Ao q p).isSome]) []:=by
 refine Ac.go f98 ?_
 unfold f98
 refine gO ?_
 refine Aa (f153_ok q.convs p h1) ?_
 rcases LO (l:=q.convs) (p:=p) with ⟨a,b⟩|⟨i,w,a,b,c⟩
 ·have e1:(0≤Eo q.convs p)=False:=eq_false (by omega)
  simp(disch:=omega)only[go_sem,e1,decide_false]
  refine Aa (f153_ok q.waits p h2) ?_
  rcases LO (l:=q.waits) (p:=p) with ⟨a',b'⟩|⟨i,w,a',b',c'⟩
  ·have e2:(0≤Eo q.waits p)=False:=eq_false (by omega)
   have e:Ao q p=none:=by simp[Ao,List.find?_append,b,b']
   simp(disch:=omega)only[go_sem,e2,e,isSome_none,decide_false]
   exact Av _
  ·have e:Ao q p=some w.amt:=by simp[Ao,List.find?_append,b,c']
   simp(disch:=omega)only[go_sem,a',e,isSome_some,gm,b']
   exact Av _
 ·have e:Ao q p=some w.amt:=by simp[Ao,List.find?_append,c]
  simp(disch:=omega)only[go_sem,a,e,isSome_some,gm,b]
  exact Av _
def OW(q:Queue)(p:Proc):Bool:=(Ao q p).isSome||!(Ap q.holds p).zero
theorem f109_ok(q:Queue)(p:Proc)(h:Br q≤1000000):Ac C0 109 [.agg q.c,.agg p.c] [] (B (OW q p)) []:=by
 have h1:q.holds.length≤1000000:=by unfold Br at h;omega
 have h2:q.convs.length≤1000000:=by unfold Br Bo at h;omega
 have h3:q.waits.length≤1000000:=by unfold Br Bo at h;omega
 refine Ac.go f109 ?_
 unfold f109
 refine gO ?_
 refine Aa (f98_ok q p h2 h3) ?_
 cases hw:(Ao q p).isSome
 ·simp(disch:=omega)only[go_sem,hw]
  refine Aa (f163_ok q p h1) ?_
  refine gO ?_
  refine Aa (f162_ok (Ap q.holds p)) ?_
  refine gO ?_
  refine Ak _ ?_
  exact wb (by simp[OW,hw])
 ·simp(disch:=omega)only[go_sem,hw]
  refine Ak _ ?_
  exact wb (by simp[OW,hw])
theorem f164_ok(q:Queue)(h1:q.holds.length≤1000000)(h2:q.convs.length≤1000000)(h3:q.waits.length≤1000000):Ac C0 164 [.agg q.c] [] (.agg q.c) []:=by
 refine Ac.go f164 ?_
 unfold f164
 refine gO ?_
 refine B3 ⟨[],[],[384,704,1024]⟩ _ ?_
 simp(disch:=omega)only[go_sem,Ax]
theorem f187_ok(n:Int):Ac C0 187 [I n] [] (I (JX n)) []:=by
 refine Ac.go f187 ?_
 unfold f187
 simp(disch:=omega)only[go_sem]
 repeat'(with_reducible refine And.intro (fun h=>?_) (fun h=>?_))
 all_goals(refine BP _ ?_)
 all_goals(try simp(disch:=omega)only[go_sem])
 all_goals(first|(simp_all[JX];done)|exact wi (by simp_all[JX,IntKind.wrap,IntKind.signed,IntKind.bits]<;>omega))
theorem f166_ok(l:List Wait)(p:Proc)(hl:l.length≤1000000):Ac C0 166 [AY l,.agg p.c] [] (.tup [AY (A8 l p),B (decide ((A8 l p).length<l.length))]) []:=by
 refine Ac.go f166 ?_
 unfold f166
 refine gO ?_
 have hd:∀ i,(A8 (l.take i) p).length≤l.length:=fun i=>Nat.le_trans (Bk _ _) (by simp;omega)
 refine Ab (α:=Nat) (fun i=>⟨[(7,I i),(0,AY l),(3,.ptr 192 0),(6,.sl (.own 1728 0) 7 ((A8 (l.take i) p).map Wait.c))],[(192,p.c)]⟩) (fun i=>i≤(l).length∧True) (fun i=>(l).length-i) 0 ⟨by omega,trivial⟩ ?_ ?_
 ·exact Bu
 rintro i ⟨hi,hP⟩ J hJ
 refine gO ?_
 refine ⟨fun hlt=>?_,fun hge=>?_⟩
 rotate_left
 have hil:i=(l).length:=by simp at hge;omega
 rotate_left
 obtain⟨b,hb⟩:∃ b,(l)[i]?=some b:=⟨_,gE (by simp at hlt;omega)⟩
 have hbm:=mG hb
 have hlt2:i<(l).length:=by simp at hlt;omega
 refine Aj 6 [([],[0]),([],[7]),([],[14,15]),([],[16]),([],[17]),([],[3])] fol ?_
 simp(disch:=omega)only[go_sem,gm,hb]
 ·have hdi:=hd i
  by_cases hb':b.proc=p
  ·simp(disch:=omega)only[go_sem,hb',decide_false]
   refine hJ _ (i+1) ⟨by simp at hlt;omega,trivial⟩ (by simp at hlt;omega) (Imp.weak ?_ ?_)
   all_goals(try simp(disch:=omega)only[go_sem])
   all_goals(try(repeat'(with_reducible apply And.intro)))
   all_goals(first|exact .AA (by omega)|exact .Au (by omega)|exact .sl (by simp[A8,take_add_one,hb,hb'])|exact .int (by simp[A8,take_add_one,hb,hb'])|exact .eq (by simp[A8,take_add_one,hb,hb']))
  ·simp(disch:=omega)only[go_sem,hb',decide_true,gm,hb]
   refine hJ _ (i+1) ⟨by simp at hlt;omega,trivial⟩ (by simp at hlt;omega) (Imp.weak ?_ ?_)
   all_goals(try simp(disch:=omega)only[go_sem])
   all_goals(try(repeat'(with_reducible apply And.intro)))
   all_goals(first|exact .AA (by omega)|exact .Au (by omega)|exact .sl (by simp[A8,take_add_one,hb,hb',Wait.c])|exact .int (by simp[A8,take_add_one,hb,hb',Wait.c])|exact .eq (by simp[A8,take_add_one,hb,hb',Wait.c]))
 ·subst hil
  have hdi:=hd l.length
  rw[take_length]at hdi ⊢
  have e:decide (((A8 l p).length:Int)<l.length)=decide ((A8 l p).length<l.length):=by simp
  refine AU ⟨[],[],[1728]⟩ _ (by(try simp(disch:=omega)only[go_sem,CX,Jm])<;>rfl) ⟨rfl,rfl⟩ (by simp[lk]) ?_ trivial
  simp(disch:=omega)only[go_sem,e]
def CS(l:List Hold)(p:Proc)(a:Amt):Bool:=a.zero||(Az l p).any (after' p)
def HU(l:List Hold)(p:Proc)(a:Amt):List Hold:=if CS l p a then BQ l p a else Az l p
theorem PN{l:List Hold}{p:Proc}{b:Hold}(h:b.proc=p):Az (l++[b]) p=Az l p:=by simp[Az,h]
theorem DV{l:List Hold}{p:Proc}{b:Hold}(h:b.proc≠p):Az (l++[b]) p=Az l p++[b]:=by simp[Az,h]
theorem YP{l:List Hold}{p:Proc}{a:Amt}{b:Hold}(h:b.proc=p):HU (l++[b]) p a=HU l p a∧CS (l++[b]) p a=CS l p a:=by
 simp[HU,CS,BQ,PN h]
theorem Uw{k:List Hold}{p:Proc}(b:Hold)(h:k.any (after' p)=true):BW (k++[b]) p=BW k p:=by
 unfold BW
 rw[List.findIdx?_append]
 cases hf:k.findIdx? (after' p) with
 |some i=>simp
 |none =>
  rw[List.findIdx?_eq_none_iff]at hf
  obtain⟨x,hx,hy⟩:=List.any_eq_true.1 h
  rw[hf x hx]at hy;simp at hy
theorem Qq{k:List Hold}{p:Proc}(h:k.any (after' p)=false):k.findIdx? (after' p)=none:=by
 rw[List.findIdx?_eq_none_iff]
 intro x hx
 rw[List.any_eq_false]at h
 simpa using h x hx
theorem Wf{l:List Hold}{p:Proc}{a:Amt}{b:Hold}(h:b.proc≠p)(hd:CS l p a=true):HU (l++[b]) p a=HU l p a++[b]∧CS (l++[b]) p a=true:=by
 have h2:CS (l++[b]) p a=true:=by
  unfold CS at hd ⊢
  rw[DV h,any_append]
  revert hd
  cases a.zero<;>simp<;>(try intro x hx h;exact .inl ⟨x,hx,h⟩)
 refine⟨?_,h2⟩
 unfold HU
 rw[h2,hd]
 simp only[if_true]
 unfold BQ
 rw[DV h]
 cases hz:a.zero
 ·have ha:(Az l p).any (after' p)=true:=by simpa [CS,hz]using hd
  simp only[false_eq_true,if_false]
  have:=Kv (Az l p) p
  rw[Uw b ha,List.take_append_of_le_length this,List.drop_append_of_le_length this]
  simp
 ·simp
theorem XB{l:List Hold}{p:Proc}{a:Amt}{b:Hold}(h:b.proc≠p)(hd:CS l p a=false)(hb:0<A2 b.proc p):HU (l++[b]) p a=HU l p a++[⟨p,a⟩,b]∧CS (l++[b]) p a=true:=by
 have ha:a.zero=false∧(Az l p).any (after' p)=false:=by unfold CS at hd;simpa using hd
 have hb':after' p b=true:=by simpa [after']using hb
 have h2:CS (l++[b]) p a=true:=by
  unfold CS
  rw[DV h,any_append]
  simp[hb']
 refine⟨?_,h2⟩
 unfold HU
 rw[h2,hd]
 simp only[if_true,false_eq_true,if_false]
 unfold BQ
 rw[DV h,ha.1]
 have e:BW (Az l p++[b]) p=(Az l p).length:=by
  unfold BW
  rw[List.findIdx?_append,Qq ha.2]
  simp[hb']
 rw[e]
 simp
theorem YQ{l:List Hold}{p:Proc}{a:Amt}{b:Hold}(h:b.proc≠p)(hd:CS l p a=false)(hb:¬ 0<A2 b.proc p):HU (l++[b]) p a=HU l p a++[b]∧CS (l++[b]) p a=false:=by
 have ha:a.zero=false∧(Az l p).any (after' p)=false:=by unfold CS at hd;simpa using hd
 have hb':after' p b=false:=by simpa [after']using hb
 have h2:CS (l++[b]) p a=false:=by
  unfold CS
  rw[DV h,any_append]
  simp[hb',ha.1,ha.2]
 refine⟨?_,h2⟩
 unfold HU
 rw[h2,hd]
 simp only[false_eq_true,if_false]
 exact DV h
theorem Xz{l:List Hold}{p:Proc}{a:Amt}:BQ l p a=if CS l p a then HU l p a else HU l p a++[⟨p,a⟩]:=by
 unfold HU
 cases hd:CS l p a
 ·have ha:a.zero=false∧(Az l p).any (after' p)=false:=by unfold CS at hd;simpa using hd
  have e:BW (Az l p) p=(Az l p).length:=by
   unfold BW
   rw[Qq ha.2]
   rfl
  simp[BQ,ha.1,e]
 ·simp
theorem XA(l:List Hold)(p:Proc)(a:Amt):(HU l p a).length≤l.length+1:=by
 have h1:(Az l p).length≤l.length:=List.length_filter_le _ _
 have:=HI l p a
 unfold HU
 split<;>omega
theorem Tl(p:Proc)(a:Amt):HU [] p a=[]∧CS [] p a=a.zero:=by
 have h:CS [] p a=a.zero:=by simp[CS,Az]
 refine⟨?_,h⟩
 unfold HU
 rw[h]
 cases hz:a.zero<;>simp[BQ,Az,hz]
theorem f165_ok(l:List Hold)(p:Proc)(a:Amt)(hl:l.length≤1000000):Ac C0 165 [Ax l,.agg p.c,.agg a.c] [] (Ax (BQ l p a)) []:=by
 refine Ac.go f165 ?_
 unfold f165
 refine gO ?_
 refine Aa (f162_ok a) ?_
 refine gO ?_
 have hd:∀ i,(HU (l.take i) p a).length≤l.length+1:=fun i=>by have:=XA (l.take i) p a;simp at this;omega
 refine Ab (α:=Nat) (fun i=>⟨[(9,I i),(0,Ax l),(4,.ptr 256 0),(5,.ptr 320 0),(8,B (CS (l.take i) p a)),(7,.sl (.own 3136 0) 5 ((HU (l.take i) p a).map Hold.c))],[(256,p.c),(320,a.c)]⟩) (fun i=>i≤(l).length∧True) (fun i=>(l).length-i) 0 ⟨by omega,trivial⟩ ?_ ?_
 ·refine Imp.weak ?_ ?_
  all_goals(try simp(disch:=omega)only[go_sem,List.take_zero,(Tl p a).1,(Tl p a).2,map_nil])
  all_goals(try(repeat'(with_reducible apply And.intro)))
  all_goals(first|exact .AA (by omega)|exact .Au (by omega)|exact .sl (by simp[CS])|exact .int (by simp[CS])|exact .eq (by simp[CS]))
 rintro i ⟨hi,hP⟩ J hJ
 refine gO ?_
 refine ⟨fun hlt=>?_,fun hge=>?_⟩
 rotate_left
 have hil:i=(l).length:=by simp at hge;omega
 rotate_left
 obtain⟨b,hb⟩:∃ b,(l)[i]?=some b:=⟨_,gE (by simp at hlt;omega)⟩
 have hbm:=mG hb
 have hlt2:i<(l).length:=by simp at hlt;omega
 refine Aj 6 [([],[0]),([],[9]),([],[18,19]),([],[20]),([],[21]),([],[4])] fol ?_
 simp(disch:=omega)only[go_sem,gm,hb]
 ·have hdi:=hd i
  by_cases hb':b.proc=p
  ·obtain⟨e1,e2⟩:=YP (l:=l.take i) (a:=a) hb'
   simp(disch:=omega)only[go_sem,hb',decide_true]
   refine hJ _ (i+1) ⟨by simp at hlt;omega,trivial⟩ (by simp at hlt;omega) (Imp.weak ?_ ?_)
   all_goals(try simp(disch:=omega)only[go_sem])
   all_goals(try(repeat'(with_reducible apply And.intro)))
   all_goals(first|exact .AA (by omega)|exact .Au (by omega)|exact .sl (by simp[take_add_one,hb,e1,e2])|exact .int (by simp[take_add_one,hb,e1,e2])|exact .eq (by simp[take_add_one,hb,e1,e2]))
  ·simp(disch:=omega)only[go_sem,hb',decide_false]
   refine Aj 9 [([],[8]),([],[25]),([],[26]),([],[0,27]),([],[9,27]),([],[28,29,27]),([],[30,27]),([],[31,27]),([],[4,27])] fol ?_
   refine gO ?_
   cases hdo:CS (l.take i) p a
   ·simp(disch:=omega)only[go_sem,gm,hb]
    first|(refine Aa (f107_ok b.proc p) ?_)|(refine Ai (f107_ok b.proc p) ?_)
    refine gO ?_
    by_cases hc:0<A2 b.proc p
    ·obtain⟨e1,e2⟩:=XB (a:=a) hb' hdo hc
     simp(disch:=omega)only[go_sem,hc,decide_true,gm,hb]
     refine hJ _ (i+1) ⟨by simp at hlt;omega,trivial⟩ (by simp at hlt;omega) (Imp.weak ?_ ?_)
     all_goals(try simp(disch:=omega)only[go_sem])
     all_goals(try(repeat'(with_reducible apply And.intro)))
     all_goals(first|exact .AA (by omega)|exact .Au (by omega)|exact .sl (by simp[take_add_one,hb,e1,e2,Hold.c])|exact .int (by simp[take_add_one,hb,e1,e2,Hold.c])|exact .eq (by simp[take_add_one,hb,e1,e2,Hold.c]))
    ·obtain⟨e1,e2⟩:=YQ (a:=a) hb' hdo hc
     simp(disch:=omega)only[go_sem,hc,decide_false,gm,hb]
     refine hJ _ (i+1) ⟨by simp at hlt;omega,trivial⟩ (by simp at hlt;omega) (Imp.weak ?_ ?_)
     all_goals(try simp(disch:=omega)only[go_sem])
     all_goals(try(repeat'(with_reducible apply And.intro)))
     all_goals(first|exact .AA (by omega)|exact .Au (by omega)|exact .sl (by simp[take_add_one,hb,e1,e2,Hold.c])|exact .int (by simp[take_add_one,hb,e1,e2,Hold.c])|exact .eq (by simp[take_add_one,hb,e1,e2,Hold.c]))
   ·obtain⟨e1,e2⟩:=Wf (a:=a) hb' hdo
    simp(disch:=omega)only[go_sem,gm,hb]
    refine hJ _ (i+1) ⟨by simp at hlt;omega,trivial⟩ (by simp at hlt;omega) (Imp.weak ?_ ?_)
    all_goals(try simp(disch:=omega)only[go_sem])
    all_goals(try(repeat'(with_reducible apply And.intro)))
    all_goals(first|exact .AA (by omega)|exact .Au (by omega)|exact .sl (by simp[take_add_one,hb,e1,e2,Hold.c])|exact .int (by simp[take_add_one,hb,e1,e2,Hold.c])|exact .eq (by simp[take_add_one,hb,e1,e2,Hold.c]))
 ·subst hil
  have hdi:=hd l.length
  have he:=Xz (l:=l) (p:=p) (a:=a)
  rw[take_length]at hdi ⊢
  cases hdo:CS l p a
  ·rw[hdo]at he
   simp only[false_eq_true,if_false]at he
   refine gO ?_
   refine B3 ⟨[],[],[3648]⟩ _ ?_
   simp(disch:=omega)only[go_sem,he]
   exact .sl (by simp[Hold.c])
  ·rw[hdo]at he
   simp only[if_true]at he
   refine gO ?_
   refine B3 ⟨[],[],[3136]⟩ _ ?_
   simp(disch:=omega)only[go_sem,he]
theorem f283_ok(q:Queue):Ac C0 283 [.agg q.c] [] (.tup [.agg ((A4 q).getD w0).c,B (A4 q).isSome]) []:=by
 refine Ac.go f283 ?_
 unfold f283
 match hq:q.convs,hw:q.waits with
 | w::l,_ =>
  have e:A4 q=some w:=by simp[A4,hq]
  have e1:(0<(l.length:Int)+1)=True:=by simp
  simp(disch:=omega)only[go_sem,hq,e,e1,isSome_some]
  exact Av _
 |[],w::l =>
  have e:A4 q=some w:=by simp[A4,hq,hw]
  have e1:(0<(l.length:Int)+1)=True:=by simp
  simp(disch:=omega)only[go_sem,hq,hw,e,e1,isSome_some]
  exact Av _
 |[],[] =>
  have e:A4 q=none:=by simp[A4,hq,hw]
  simp(disch:=omega)only[go_sem,hq,hw,e,isSome_none,w0]
  exact Av _
theorem f266_ok(r:Res)(l:List Hold)(p:Proc)(a:Amt)(hl:l.length≤1000000):Ac C0 266 [.agg r.c,Ax l,.agg p.c,.agg a.c] [] (B (EC r l p a)) []:=by
 have h2:(BQ l p a).length≤1000000∨l.length=1000000:=by have:=HI l p a;omega
 refine Ac.go f266 ?_
 unfold f266
 refine gO ?_
 refine Aj 18 [([],[4]),([],[1]),([],[9,10]),([2],[11]),([2],[6,12]),([2],[13,12]),([2,5],[12,14]),([2,5],[15]),([2,5],[4,16]),([2,5],[7,16]),([2,5],[17,18,16]),([2,5,10],[16,19]),([2,5,10],[20]),([2,5,10],[4,21]),([2,5,10],[1,21]),([2,5,10],[6,21]),([2,5,10],[7,21]),([2,5,10],[23,24,25,21])] fol ?_
 refine gO ?_
 first|(refine Aa (f265_ok r l hl) ?_)|(refine Ai (f265_ok r l hl) ?_)
 cases h1:AZ r l
 ·simp(disch:=omega)only[go_sem]
  refine Ak _ ?_
  exact wb (by simp[EC,h1])
 have h8:l.length≤8:=by simp[AZ]at h1;omega
 have h9:(BQ l p a).length≤1000000:=by omega
 simp(disch:=omega)only[go_sem]
 repeat'(first
  |(with_reducible refine And.intro (fun h=>?_) (fun h=>?_))
  |((with_reducible show AI _ _ 105 _ _ _);refine Ae (f105_ok p) ?_ rfl ?_;(focus(simp(disch:=omega)only[go_sem];done));try simp(disch:=omega)only[go_sem])
  |((with_reducible show AG _ _ 105 _ _ _ _ _ _ _);refine An ⟨⟨[],[],[]⟩,[],[]⟩ (f105_ok p) ?_ rfl rfl trivial (.inl rfl) ?_;(focus(simp(disch:=omega)only[go_sem];done));try simp(disch:=omega)only[go_sem])
  |((with_reducible show AI _ _ 171 _ _ _);refine Ae (f171_ok r a) ?_ rfl ?_;(focus(simp(disch:=omega)only[go_sem];done));try simp(disch:=omega)only[go_sem])
  |((with_reducible show AG _ _ 171 _ _ _ _ _ _ _);refine An ⟨⟨[],[],[]⟩,[],[]⟩ (f171_ok r a) ?_ rfl rfl trivial (.inl rfl) ?_;(focus(simp(disch:=omega)only[go_sem];done));try simp(disch:=omega)only[go_sem])
  |((with_reducible show AI _ _ 165 _ _ _);refine Ae (f165_ok l p a hl) ?_ rfl ?_;(focus(simp(disch:=omega)only[go_sem];done));try simp(disch:=omega)only[go_sem])
  |((with_reducible show AG _ _ 165 _ _ _ _ _ _ _);refine An ⟨⟨[],[],[]⟩,[],[]⟩ (f165_ok l p a hl) ?_ rfl rfl trivial (.inl rfl) ?_;(focus(simp(disch:=omega)only[go_sem];done));try simp(disch:=omega)only[go_sem])
  |((with_reducible show AI _ _ 265 _ _ _);refine Ae (f265_ok r (BQ l p a) h9) ?_ rfl ?_;(focus(simp(disch:=omega)only[go_sem];done));try simp(disch:=omega)only[go_sem])
  |((with_reducible show AG _ _ 265 _ _ _ _ _ _ _);refine An ⟨⟨[],[],[]⟩,[],[]⟩ (f265_ok r (BQ l p a) h9) ?_ rfl rfl trivial (.inl rfl) ?_;(focus(simp(disch:=omega)only[go_sem];done));try simp(disch:=omega)only[go_sem]))
 all_goals(refine BP _ ?_)
 all_goals(try simp(disch:=omega)only[go_sem])
 all_goals(refine wb ?_)
 all_goals(simp_all[EC])
theorem f243_ok(q:Queue)(h1:q.holds.length≤1000000)(h2:q.waits.length≤1000000):Ac C0 243 [.agg q.c] [] (B (valid q)) []:=by
 refine Ac.go f243 ?_
 unfold f243
 refine gO ?_
 refine Aa (f242_ok q h1 h2) ?_
 cases hs:sound q
 ·simp(disch:=omega)only[go_sem]
  refine Ak _ ?_
  exact wb (by simp[valid,hs])
 refine gO ?_
 refine Aa (f283_ok q) ?_
 cases hh:A4 q with
 |none =>
  simp(disch:=omega)only[go_sem,isSome_none]
  refine Ak _ ?_
  exact wb (by simp[valid,hs,hh])
 |some w =>
  simp(disch:=omega)only[go_sem,isSome_some]
  refine Aa (f266_ok q.res q.holds w.proc w.amt h1) ?_
  refine gO ?_
  refine Ak _ ?_
  exact wb (by simp[valid,hs,hh])
theorem f158_ok(q:Queue)(h1:q.holds.length≤1000000)(h2:q.waits.length≤1000000):Ac C0 158 [.agg q.c] [] (B (valid q)) []:=by
 refine Ac.go f158 ?_
 unfold f158
 refine gO ?_
 refine Aa (f242_ok q h1 h2) ?_
 cases hs:sound q
 ·simp(disch:=omega)only[go_sem]
  refine Ak _ ?_
  exact wb (by simp[valid,hs])
 refine gO ?_
 refine Aa (f243_ok q h1 h2) ?_
 refine gO ?_
 exact Av _
theorem Q4{q:Queue}(h:Sound q):Br q≤16:=by
 have h':=(GX q).2 h
 simp only[sound,Dl,Dn,Bool.and_eq_true,decide_eq_true_eq]at h'
 unfold Br Bo
 omega
def R9(q:Queue):Queue × List Hold:=if sound q then BD q else (q0,[])
theorem f245_ok(q:Queue)(h1:q.holds.length≤1000000)(h2:q.convs.length≤1000000)(h3:q.waits.length≤1000000):Ac C0 245 [.agg q.c] [] (.tup [.agg (R9 q).1.c,Ax (R9 q).2]) []:=by
 refine Ac.go f245 ?_
 unfold f245
 refine gO ?_
 refine Aa (f242_ok q h1 h3) ?_
 cases hs:sound q
 ·have e:R9 q=(q0,[]):=by simp[R9,hs]
  simp(disch:=omega)only[go_sem,e,q0]
  refine Ak _ ?_
  refine .tup (Af.AD ?_)
  simp(disch:=omega)only[go_sem]
  repeat'(with_reducible apply And.intro)
  all_goals(first|exact .Au (by omega)|exact .agg (Af.AD (by simp(disch:=omega)only[go_sem])))
 have e:R9 q=BD q:=by simp[R9,hs]
 rw[e]
 refine gO ?_
 refine Aa (f164_ok q h1 h2 h3) ?_
 refine gO ?_
 refine Ab (α:=Queue × List Hold) (fun x=>⟨[(1,.ptr 64 0),(2,.ptr 128 0),(4,.sl (.own 3072 0) 5 (x.2.map Hold.c))],[(64,x.1.c),(128,q0.c)]⟩) (fun x=>x.2.length+Bo x.1=Bo q∧Sound x.1∧(BD x.1).1=(BD q).1∧x.2++(BD x.1).2=(BD q).2) (fun x=>Bo x.1) (q,[]) ⟨by simp,(GX q).1 hs,rfl,rfl⟩ ?_ ?_
 ·refine Imp.weak ?_ ?_
  ·exact gI
  ·simp(disch:=omega)only[go_sem,q0]
 rintro⟨s,hs⟩ ⟨i1,i2,i3,i4⟩ J hJ
 replace i1:hs.length+Bo s=Bo q:=i1
 replace i2:Sound s:=i2
 replace i3:(BD s).1=(BD q).1:=i3
 replace i4:hs++(BD s).2=(BD q).2:=i4
 rw[Jq s]at i3 i4
 have hsl:=Q4 i2
 have hlen:s.holds.length≤1000000∧s.waits.length≤1000000∧s.convs.length≤1000000:=by unfold Br Bo at hsl;omega
 refine gO ?_
 refine Aa (f243_ok s hlen.1 hlen.2.1) ?_
 have hvd:valid s=(match A4 s with|some w=>!EC s.res s.holds w.proc w.amt|none=>true):=by
  have:=(GX s).2 i2
  unfold valid
  cases A4 s<;>simp[this]
 have fin:∀ (P:Prop),True:=fun _=>trivial
 cases hh:A4 s with
 |none =>
  simp only[hh]at i3 i4 hvd
  simp(disch:=omega)only[go_sem,hvd]
  refine AU ⟨[],[],[3072]⟩ _ (by(try simp(disch:=omega)only[go_sem,CX,Jm])<;>rfl) ⟨rfl,rfl⟩ (by simp[lk]) ?_ trivial
  simp(disch:=omega)only[go_sem,← i3,← i4,List.append_nil]
 |some w =>
  simp only[hh]at i3 i4 hvd
  have hsz:=GS hh
  cases hr:EC s.res s.holds w.proc w.amt
  ·simp only[hr,false_eq_true,if_false,Bool.not_false]at i3 i4 hvd
   simp(disch:=omega)only[go_sem,hvd]
   refine AU ⟨[],[],[3072]⟩ _ (by(try simp(disch:=omega)only[go_sem,CX,Jm])<;>rfl) ⟨rfl,rfl⟩ (by simp[lk]) ?_ trivial
   simp(disch:=omega)only[go_sem,← i3,← i4,List.append_nil]
  simp only[hr,if_true,Bool.not_true]at i3 i4 hvd
  have step:∀ st',Imp ⟨C0,[],[]⟩ st' ⟨[(1,.ptr 64 0),(2,.ptr 128 0),(4,.sl (.own 3072 0) 5 ((hs++[Hold.mk w.proc w.amt]).map Hold.c))],[(64,(Cm s w).c),(128,q0.c)]⟩→J st':=fun st' h =>
   hJ st' (Cm s w,hs++[Hold.mk w.proc w.amt]) ⟨by simp;omega,KB i2 hh hr,i3,by rw[← i4];simp⟩ (by simp;omega) h
  have hbound:hs.length+1≤4294967296:=by unfold Bo at i1;omega
  simp(disch:=omega)only[go_sem,hvd]
  refine Aa (f283_ok s) ?_
  cases hc:s.convs with
  | cons a l =>
   have hp:Cm s w = { s with holds:=BQ s.holds w.proc w.amt,convs:=l }:=by unfold Cm;simp only[hc]
   rw[hp]at step
   have z1:(0<(l.length:Int)+1)=True:=eq_true (by omega)
   have z2:(l.map Wait.c).take (l.length+1-1)=l.map Wait.c:=List.take_of_length_le (by simp)
   simp(disch:=omega)only[go_sem,hc,hh,z1,z2]
   refine Aa (f165_ok s.holds w.proc w.amt hlen.1) ?_
   simp(disch:=omega)only[go_sem,hc,hh,z1,z2]
   refine step _ (Imp.weak ?_ ?_)
   ·simp(disch:=omega)only[go_sem]
    exact .sl (by simp[Hold.c])
   ·simp(disch:=omega)only[go_sem,z2]
  | nil =>
   have hp:Cm s w = { s with holds:=BQ s.holds w.proc w.amt,waits:=s.waits.drop 1 }:=by unfold Cm;simp only[hc]
   rw[hp]at step
   have hw:1≤s.waits.length:=by unfold Bo at hsz;rw[hc]at hsz;simp at hsz;omega
   have z2:((s.waits.map Wait.c).drop 1).take (s.waits.length-1)=(s.waits.drop 1).map Wait.c:=by rw[← List.map_drop];exact List.take_of_length_le (by simp)
   simp(disch:=omega)only[go_sem,hc,hh,z2]
   refine Aa (f165_ok s.holds w.proc w.amt hlen.1) ?_
   simp(disch:=omega)only[go_sem,hc,hh,z2]
   refine step _ (Imp.weak ?_ ?_)
   ·simp(disch:=omega)only[go_sem]
    exact .sl (by simp[Hold.c])
   ·simp(disch:=omega)only[go_sem,hc,z2,map_nil]
theorem f167_ok(q:Queue)(hs:Sound q)(h1:q.holds.length≤1000000)(h2:q.convs.length≤1000000)(h3:q.waits.length≤1000000):Ac C0 167 [.agg q.c] [] (.tup [.agg (EH q).c,Ax (BD q).2,I 0]) []:=by
 refine Ac.go f167 ?_
 unfold f167
 refine gO ?_
 refine Aa (f245_ok q h1 h2 h3) ?_
 have e:R9 q=BD q:=by simp[R9,(GX q).2 hs]
 have eg:(BD q).1.gen=q.gen:=(NZ q).2
 rw[e]
 refine gO ?_
 refine Aa (f187_ok q.gen) ?_
 refine gO ?_
 refine Ak _ ?_
 simp(disch:=omega)only[go_sem,EH,eg]
theorem Zk{q:Queue}(h:valid q=true)(p:Proc):OW q p=AK (Bm q) p:=by
 have hs:=((CF q).1 h).1
 have hz:∀ x∈q.holds,x.amt.zero=false:=fun x hx=>by
  have hs':=(GX q).2 hs
  simp only[sound,Bool.and_eq_true]at hs'
  have:=(DD q.res q.holds).1 (by simp_all)
  exact GL (this.2.2.1 x hx).2
 have e1:AK (Bm q) p=true↔inQ q p:=by rw[← Eu];simp[AK]
 have e2:OW q p=true↔inQ q p:=by
  unfold OW inQ Ao
  rw[Bool.or_eq_true,Option.isSome_map,List.find?_isSome]
  constructor
  ·rintro(⟨w,hw,h2⟩|h2)
   ·have h3:w.proc=p:=by simpa using h2
    rcases mem_append.1 hw with h|h
    ·exact .inr (.inl ⟨w,h,h3⟩)
    ·exact .inr (.inr ⟨w,h,h3⟩)
   ·exact .inl (Kp (by simpa using h2))
  ·rintro(⟨x,hx,h2⟩|⟨w,hw,h2⟩|⟨w,hw,h2⟩)
   ·right
    unfold Ap
    cases hf:q.holds.find? (fun h=>decide (h.proc=p)) with
    |none=>rw[List.find?_eq_none]at hf;exact absurd h2 (by simpa using hf x hx)
    |some y=>simp[hz y (List.mem_of_find?_eq_some hf)]
   ·exact .inl ⟨w,mem_append.2 (.inl hw),by simp[h2]⟩
   ·exact .inl ⟨w,mem_append.2 (.inr hw),by simp[h2]⟩
 exact Bool.eq_iff_iff.2 (e2.trans e1.symm)
theorem f110_ok(q:Queue)(p:Proc)(h:Br q≤100):Ac C0 110 [.agg q.c,.agg p.c] [] (.tup [.agg (Ez q p).1.c,Ax (Ez q p).2.1,I (Ez q p).2.2]) []:=by
 obtain⟨h1,h2,h3⟩:=A5 h
 refine Ac.go f110 ?_
 unfold f110
 refine gO ?_
 refine Aa (f158_ok q h1 h3) ?_
 cases hv:valid q
 ·have e:Ez q p=(q0,[],2):=by simp[Ez,hv]
  simp(disch:=omega)only[go_sem,Bool.not_false,e,q0]
  refine Ak _ ?_
  refine .tup (Af.AD ?_)
  simp(disch:=omega)only[go_sem]
  repeat'(with_reducible apply And.intro)
  all_goals(first|exact .Au (by omega)|exact .agg (Af.AD (by simp(disch:=omega)only[go_sem])))
 refine gO ?_
 refine Aa (f109_ok q p (by omega)) ?_
 rw[Zk hv p]
 cases hp:AK (Bm q) p
 ·have e:Ez q p=(q0,[],10):=by simp[Ez,hv,hp]
  simp(disch:=omega)only[go_sem,Bool.not_false,e,q0]
  refine Ak _ ?_
  refine .tup (Af.AD ?_)
  simp(disch:=omega)only[go_sem]
  repeat'(with_reducible apply And.intro)
  all_goals(first|exact .Au (by omega)|exact .agg (Af.AD (by simp(disch:=omega)only[go_sem])))
 have e:Ez q p=(EH (BF q p),(BD (BF q p)).2,0):=by simp[Ez,hv,hp]
 rw[e]
 refine gO ?_
 refine Aa (f164_ok q h1 h2 h3) ?_
 refine gO ?_
 refine Aa (f165_ok q.holds p ⟨0,0⟩ h1) ?_
 refine gO ?_
 refine Aa (f166_ok q.convs p h2) ?_
 refine gO ?_
 refine Aa (f166_ok q.waits p h3) ?_
 refine gO ?_
 have ha:=UR q p
 obtain⟨g1,g2,g3⟩:=A5 (q:=BF q p) (by omega)
 refine Ae (f167_ok (BF q p) (Iw ((CF q).1 hv).1 p) g1 g2 g3) (by simp(disch:=omega)only[go_sem,BF]) rfl ?_
 refine gO ?_
 exact Av _
mutual
def C3:Expr→Int→Int × Int
 |.mk _ _ kids,lv=>if 4<lv∨24<kids.length then (25,0) else Eg kids lv 1 0
def Eg:List Expr→Int→Int→Int→Int × Int
 |[],_,n,m=>(n,m+1)
 | e::l,lv,n,m=>if 24<n+(C3 e (lv+1)).1 then (25,0) else Eg l lv (n+(C3 e (lv+1)).1) (max m (C3 e (lv+1)).2)
end
theorem FY(e:Expr)(lv:Int):C3 e lv=if 4<lv∨24<e.kids.length then (25,0) else Eg e.kids lv 1 0:=by
 cases e;simp only[C3];rfl
def sbd(lv:Int)(x:Int × Int):Prop:=1≤x.1∧x.1≤25∧0≤x.2∧x.2≤5-lv
theorem TE(lv:Int)(h1:1≤lv)(h4:lv≤4):∀ (l:List Expr) (n m:Int),(∀ e∈l,sbd (lv+1) (C3 e (lv+1)))→1≤n→n≤24→0≤m→m≤4-lv→sbd lv (Eg l lv n m)
 |[],n,m,_,hn,hn2,hd,hd2=>by simp only[Eg,sbd];omega
 | e::l,n,m,hk,hn,hn2,hd,hd2=>by
  obtain⟨b1,b2,b3,b4⟩:=hk e (by simp)
  simp only[Eg]
  split
  ·simp only[sbd];omega
  ·exact TE lv h1 h4 l _ _ (fun e' he=>hk e' (by simp[he])) (by omega) (by omega) (by omega) (by omega)
theorem Iv:∀ (N:Nat) (e:Expr),SizeOf.sizeOf e<N→∀ lv:Int,1≤lv→lv≤5→sbd lv (C3 e lv)
 | 0,_,h,_,_,_=>by omega
 | N+1,e,h,lv,h1,h5=>by
  rw[FY]
  split
  ·simp only[sbd];omega
  ·rename_i hc
   exact TE lv h1 (by omega) _ _ _ (fun e' he=>Iv N e' (by have:=C4 he;omega) _ (by omega) (by omega)) (by omega) (by omega) (by omega) (by omega)
theorem f273_ok:∀ (N:Nat) (e:Expr),SizeOf.sizeOf e<N→∀ lv:Int,1≤lv→lv≤5 →
 Ac C0 273 [.agg e.c,I lv] [] (.tup [I (C3 e lv).1,I (C3 e lv).2]) []
 | 0,_,h,_,_,_=>by omega
 | N+1,e,h,lv,h1,h5=>by
  refine Ac.lens f273 fun hlen=>?_
  simp only[Ec,lens,Expr.Cb,length_map,and_true,true_and]at hlen
  refine Ac.go f273 ?_
  unfold f273
  by_cases hc:4<lv∨24<e.kids.length
  ·have em:C3 e lv=(25,0):=by rw[FY,if_pos hc]
   simp(disch:=omega)only[go_sem,em]
   repeat'(with_reducible refine And.intro (fun h=>?_) (fun h=>?_))
   all_goals(try(exfalso;simp_all;omega))
   all_goals(refine BP _ ?_)
   all_goals simp(disch:=omega)only[go_sem]
  have em:C3 e lv=Eg e.kids lv 1 0:=by rw[FY,if_neg hc]
  have hc1:(4<lv)=False:=by simp;omega
  have hc2:(24<(e.kids.length:Int))=False:=by simp;omega
  simp(disch:=omega)only[go_sem,em,hc1,hc2,decide_false]
  refine Ab (α:=Nat × Int × Int) (fun q=>⟨[(8,I q.1),(1,I lv),(2,.ptr 128 0),(6,I q.2.1),(7,I q.2.2)],[(128,e.c)]⟩)
   (fun q=>q.1≤e.kids.length∧1≤q.2.1∧q.2.1≤24∧0≤q.2.2∧q.2.2≤4-lv∧Eg (e.kids.drop q.1) lv q.2.1 q.2.2=Eg e.kids lv 1 0) (fun q=>e.kids.length-q.1) (0,1,0) ⟨by simp,by simp,by simp,by simp,by simp;omega,by simp⟩ ?_ ?_
  ·refine Imp.weak ?_ ?_
   ·exact gI
   ·exact gI
  rintro⟨i,n,m⟩ ⟨hi,hm0,hm,hd0,hd,hr⟩ J hJ
  replace hi:i≤e.kids.length:=hi
  replace hm0:1≤n:=hm0
  replace hm:n≤24:=hm
  replace hd0:0≤m:=hd0
  replace hd:m≤4-lv:=hd
  replace hr:Eg (e.kids.drop i) lv n m=Eg e.kids lv 1 0:=hr
  refine gO ?_
  refine ⟨fun hlt=>?_,fun hge=>?_⟩
  ·have hlt':i<e.kids.length:=by simp at hlt;omega
   have hb:e.kids[i]?=some e.kids[i]:=gE hlt'
   have hsz:=C4 (List.getElem_mem hlt')
   have hdr:e.kids.drop i=e.kids[i]::e.kids.drop (i+1):=drop_eq_getElem_cons hlt'
   generalize e.kids[i]=b at hb hsz hdr
   rw[hdr]at hr
   simp only[Eg]at hr
   simp(disch:=omega)only[go_sem,gm,hb]
   first|(refine Aa (f273_ok N b (by omega) (lv+1) (by omega) (by omega)) ?_)|(refine Ai (f273_ok N b (by omega) (lv+1) (by omega) (by omega)) ?_)
   obtain⟨b1,b2,b3,b4⟩:=Iv N b (by omega) (lv+1) (by omega) (by omega)
   generalize C3 b (lv+1)=x at hr b1 b2 b3 b4
   by_cases h24:24<n+x.1
   ·have d24:(24<n+x.1)=True:=eq_true h24
    rw[if_pos h24]at hr
    simp(disch:=omega)only[go_sem,d24]
    repeat'(with_reducible refine And.intro (fun h=>?_) (fun h=>?_))
    all_goals(refine BP _ ?_)
    all_goals simp(disch:=omega)only[go_sem,← hr]
   ·have d24:(24<n+x.1)=False:=eq_false h24
    rw[if_neg h24]at hr
    simp(disch:=omega)only[go_sem,d24,decide_false]
    by_cases hmx:m<x.2
    ·have e1:max m x.2=x.2:=by omega
     have d1:(m<x.2)=True:=eq_true hmx
     rw[e1]at hr
     simp(disch:=omega)only[go_sem,d1]
     refine hJ _ (i+1,n+x.1,x.2) ⟨by simp;omega,by simp;omega,by simp;omega,by simp;omega,by simp;omega,hr⟩ (by simp;omega) (Imp.weak ?_ ?_)
     ·exact gI
     ·exact gI
    ·have e1:max m x.2=m:=by omega
     have d1:(m<x.2)=False:=eq_false hmx
     rw[e1]at hr
     simp(disch:=omega)only[go_sem,d1,decide_false]
     refine hJ _ (i+1,n+x.1,m) ⟨by simp;omega,by simp;omega,by simp;omega,by simp;omega,by simp;omega,hr⟩ (by simp;omega) (Imp.weak ?_ ?_)
     ·exact gI
     ·exact gI
  ·have hil:i=e.kids.length:=by simp at hge;omega
   subst hil
   rw[List.drop_length]at hr
   simp only[Eg]at hr
   simp(disch:=omega)only[go_sem,← hr]
   exact Av _
def Fs(e:Expr):Int:=if 24<(C3 e 1).1 then 0 else (C3 e 1).1
theorem f232_ok(e:Expr):Ac C0 232 [.agg e.c] [] (I (Fs e)) []:=by
 refine Ac.go f232 ?_
 unfold f232
 refine gO ?_
 refine Aa (f273_ok _ e (Nat.lt_succ_self _) 1 (by omega) (by omega)) ?_
 by_cases h24:24<(C3 e 1).1
 ·have d24:(24<(C3 e 1).1)=True:=eq_true h24
  have en:Fs e=0:=by simp[Fs,h24]
  simp(disch:=omega)only[go_sem,d24,en]
  exact Av _
 ·have d24:(24<(C3 e 1).1)=False:=eq_false h24
  have en:Fs e=(C3 e 1).1:=by simp[Fs,h24]
  simp(disch:=omega)only[go_sem,d24,en,decide_false]
  exact Av _
mutual
def Fz:Expr→List Atom→List Atom × Bool
 |.mk k a kids,l=>if kids.length=0 then (if k=0∧IG a=true then (Dq l a,true) else (l,false))
  else if k<1∨(kids.length:Int)<k∨a≠a0 then (l,false) else GD kids l
def GD:List Expr→List Atom→List Atom × Bool
 |[],l=>(l,true)
 | e::es,l=>if (Fz e l).2=true then GD es (Fz e l).1 else (l,false)
end
theorem G2(e:Expr)(l:List Atom):Fz e l=if e.kids.length=0 then (if e.k=0∧IG e.atom=true then (Dq l e.atom,true) else (l,false))
 else if e.k<1∨(e.kids.length:Int)<e.k∨e.atom≠a0 then (l,false) else GD e.kids l:=by
 cases e;simp only[Fz];rfl
mutual
def cnt:Expr→Nat
 |.mk _ _ kids=>1+Oy kids
def Oy:List Expr→Nat
 |[]=>0
 | e::l=>cnt e+Oy l
end
theorem Rr(e:Expr):cnt e=1+Oy e.kids:=by cases e;simp only[cnt];rfl
@[reducible] def Vm(x:List Atom × Bool):AV:=if x.2 then .tup [Cr 1 x.1,B true] else .tup [.undef,B false]
theorem Vr(l:List Atom)(a:Atom):(Dq l a).length≤l.length+1:=by unfold Dq;split<;>simp
theorem R6:∀ (es:List Expr) (l:List Atom),(∀ e∈es,∀ l,(Fz e l).1.length≤l.length+cnt e)→(GD es l).1.length≤l.length+Oy es
 |[],l,_=>by simp[GD]
 | e::es,l,h=>by
  have h1:=h e (by simp) l
  have h2:=R6 es (Fz e l).1 fun e' he=>h e' (by simp[he])
  simp only[GD,Oy]
  split
  ·omega
  ·simp only;omega
theorem Oh:∀ (N:Nat) (e:Expr),SizeOf.sizeOf e<N→∀ l:List Atom,(Fz e l).1.length≤l.length+cnt e
 | 0,_,h,_=>by omega
 | N+1,e,h,l=>by
  rw[G2,Rr]
  split
  ·split
   ·have:=Vr l e.atom;simp only;omega
   ·simp only;omega
  ·split
   ·simp only;omega
   ·have:=R6 e.kids l fun e' he l'=>Oh N e' (by have:=C4 he;omega) l'
    omega
theorem f233_ok:∀ (N:Nat) (e:Expr),SizeOf.sizeOf e<N→∀ l:List Atom,l.length+cnt e≤1000000 →
 Ac C0 233 [Cr 0 l,.agg e.c] [] (Vm (Fz e l)) []
 | 0,_,h,_,_=>by omega
 | N+1,e,h,l,hl=>by
  refine Ac.lens f233 fun hlen=>?_
  simp only[Ec,lens,Expr.Cb,length_map,and_true,true_and]at hlen
  have hc0:=Rr e
  refine Ac.go f233 ?_
  unfold f233
  by_cases hk:e.kids.length=0
  ·have e1:((e.kids.length:Int)==0)=true:=by simp[hk]
   by_cases hbad:e.k=0∧IG e.atom=true
   rotate_left
   ·have ep:Fz e l=(l,false):=by rw[G2,if_pos hk,if_neg hbad]
    have ev:Vm (Fz e l)=.tup [.undef,B false]:=by rw[ep];rfl
    rw[ev]
    simp(disch:=omega)only[go_sem,e1]
    repeat'(first
     |(with_reducible refine And.intro (fun h=>?_) (fun h=>?_))
     |((with_reducible show AI _ _ 247 _ _ _);refine Ae (f247_ok e.atom.name) ?_ rfl ?_;(focus(simp(disch:=omega)only[go_sem];done));try simp(disch:=omega)only[go_sem])
     |((with_reducible show AG _ _ 247 _ _ _ _ _ _ _);refine An ⟨⟨[],[],[]⟩,[],[]⟩ (f247_ok e.atom.name) ?_ rfl rfl trivial (.inl rfl) ?_;(focus(simp(disch:=omega)only[go_sem];done));try simp(disch:=omega)only[go_sem])
     |((with_reducible show AI _ _ 274 _ _ _);refine Ae (f274_ok e.atom.amt) ?_ rfl ?_;(focus(simp(disch:=omega)only[go_sem];done));try simp(disch:=omega)only[go_sem])
     |((with_reducible show AG _ _ 274 _ _ _ _ _ _ _);refine An ⟨⟨[],[],[]⟩,[],[]⟩ (f274_ok e.atom.amt) ?_ rfl rfl trivial (.inl rfl) ?_;(focus(simp(disch:=omega)only[go_sem];done));try simp(disch:=omega)only[go_sem]))
    all_goals(first
     |(refine B3 ⟨[(0,1)],[],[]⟩ _ ?_;simp(disch:=omega)only[go_sem];exact .tup (Af.AD (by simp(disch:=omega)only[go_sem])))
     |(exfalso;refine hbad ?_;simp_all[IG];done))
   ·have ep:Fz e l=(Dq l e.atom,true):=by rw[G2,if_pos hk,if_pos hbad]
    have ev:Vm (Fz e l)=.tup [Cr 1 (Dq l e.atom),B true]:=by rw[ep];rfl
    rw[ev]
    have ha:(CH e.atom.name&&(Gd.fits e.atom.amt||Gg.fits e.atom.amt))=true:=hbad.2
    have ha1:CH e.atom.name=true:=by simp at ha;exact ha.1
    have ha2:(Gd.fits e.atom.amt||Gg.fits e.atom.amt)=true:=by simp at ha;simp[ha.2]
    have e2:(e.k==0)=true:=by simp[hbad.1]
    simp(disch:=omega)only[go_sem,e1,e2]
    refine And.intro (fun _=>?_) (fun h=>?_)
    rotate_left
    ·exfalso;simp_all
    refine Aa (f247_ok e.atom.name) ?_
    simp(disch:=omega)only[go_sem,ha1]
    refine Aa (f274_ok e.atom.amt) ?_
    simp(disch:=omega)only[go_sem,ha2]
    refine Ab (α:=Nat) (fun i=>⟨[(6,I i),(0,Cr 0 l),(3,.ptr 192 0)],[(192,e.c)]⟩) (fun i=>i≤(l).length∧e.atom∉l.take i) (fun i=>(l).length-i) 0 ⟨by omega,(by simp)⟩ ?_ ?_
    ·exact Bu
    rintro i ⟨hi,hP⟩ J hJ
    refine gO ?_
    refine ⟨fun hlt=>?_,fun hge=>?_⟩
    rotate_left
    have hil:i=(l).length:=by simp at hge;omega
    rotate_left
    obtain⟨b,hb⟩:∃ b,(l)[i]?=some b:=⟨_,gE (by simp at hlt;omega)⟩
    have hbm:=mG hb
    have hlt2:i<(l).length:=by simp at hlt;omega
    refine Aj 6 [([],[0]),([],[6]),([],[38,39]),([],[40]),([],[3]),([],[42])] fol ?_
    simp(disch:=omega)only[go_sem,gm,hb]
    ·refine⟨fun h=>?_,fun h=>?_⟩
     ·have hbe:b=e.atom:=by simpa using h
      have e3:Dq l e.atom=l:=by unfold Dq;rw[if_pos (hbe▸hbm)]
      simp(disch:=omega)only[go_sem,e3]
      refine B3 ⟨[(0,1)],[],[]⟩ _ ?_
      simp(disch:=omega)only[go_sem]
     ·have hbe:b≠e.atom:=by simpa using h
      refine hJ _ (i+1) ⟨by simp at hlt;omega,(by rw[take_add_one,hb];simp only[Option.toList,mem_append,mem_singleton];intro hx;rcases hx with hx|hx;exact hP hx;exact hbe hx.symm)⟩ (by simp at hlt;omega) AE
    ·subst hil
     rw[take_length]at hP
     have e3:Dq l e.atom=l++[e.atom]:=by unfold Dq;rw[if_neg hP]
     have hb32:l.length+1≤4294967296:=by omega
     simp(disch:=omega)only[go_sem,e3]
     refine B3 ⟨[(3200,1)],[],[]⟩ _ ?_
     refine gO ?_
     exact .tup (Af.AD (by simp(disch:=omega)only[go_sem];exact .sl (by simp[Atom.c])))
  have e1:((e.kids.length:Int)==0)=false:=by simp only[beq_eq_false_iff_ne,ne_eq];omega
  have ez:(e.atom.name==[]&&(e.atom.amt.mode==0&&e.atom.amt.units==0))=decide (e.atom=a0):=Rl e.atom
  by_cases hbad:e.k<1∨(e.kids.length:Int)<e.k∨e.atom≠a0
  ·have ep:Fz e l=(l,false):=by rw[G2,if_neg hk,if_pos hbad]
   have ev:Vm (Fz e l)=.tup [.undef,B false]:=by rw[ep];rfl
   rw[ev]
   simp(disch:=omega)only[go_sem,e1,ez]
   repeat'(with_reducible refine And.intro (fun h=>?_) (fun h=>?_))
   all_goals(try(exfalso;simp_all;omega))
   all_goals(refine B3 ⟨[(0,1)],[],[]⟩ _ ?_)
   all_goals simp(disch:=omega)only[go_sem]
   all_goals exact .tup (Af.AD (by simp(disch:=omega)only[go_sem]))
  have ep:Fz e l=GD e.kids l:=by rw[G2,if_neg hk,if_neg hbad]
  have b1:(e.k<1)=False:=by simp;omega
  have b2:((e.kids.length:Int)<e.k)=False:=by simp;omega
  have b3:e.atom=a0:=by
   by_cases h:e.atom=a0
   ·exact h
   ·exact absurd (Or.inr (Or.inr h)) hbad
  have ez':(e.atom.name==[]&&(e.atom.amt.mode==0&&e.atom.amt.units==0))=true:=by rw[ez];simp[b3]
  rw[ep]
  simp(disch:=omega)only[go_sem,e1,ez',b1,b2,decide_false]
  refine Ab (α:=Nat × List Atom) (fun q=>⟨[(7,I q.1),(0,Cr 5376 q.2),(3,.ptr 192 0)],[(192,e.c)]⟩)
   (fun q=>q.1≤e.kids.length∧q.2.length+Oy (e.kids.drop q.1)≤1000000∧GD (e.kids.drop q.1) q.2=GD e.kids l) (fun q=>e.kids.length-q.1) (0,l) ⟨by simp,by simp;omega,by simp⟩ ?_ ?_
  ·refine Imp.ren ⟨[(0,5376)],[(192,192)],[]⟩ ⟨rfl,rfl⟩ (by simp[lk]) ?_ ?_
   ·exact gI
   ·exact gI
  rintro⟨i,m⟩ ⟨hi,hm,hr⟩ J hJ
  replace hi:i≤e.kids.length:=hi
  replace hm:m.length+Oy (e.kids.drop i)≤1000000:=hm
  replace hr:GD (e.kids.drop i) m=GD e.kids l:=hr
  refine gO ?_
  refine ⟨fun hlt=>?_,fun hge=>?_⟩
  ·have hlt':i<e.kids.length:=by simp at hlt;omega
   have hb:e.kids[i]?=some e.kids[i]:=gE hlt'
   have hsz:=C4 (List.getElem_mem hlt')
   have hdr:e.kids.drop i=e.kids[i]::e.kids.drop (i+1):=drop_eq_getElem_cons hlt'
   generalize e.kids[i]=b at hb hsz hdr
   rw[hdr]at hr hm
   simp only[GD]at hr
   simp only[Oy]at hm
   have hbl:=Oh _ b (Nat.lt_succ_self _) m
   have hcall:=f233_ok N b (by omega) m (by omega)
   simp(disch:=omega)only[go_sem,gm,hb]
   generalize Fz b m=x at hr hbl hcall
   obtain⟨x1,x2⟩:=x
   cases x2
   ·simp only[false_eq_true,if_false]at hr
    have ev:Vm (GD e.kids l)=.tup [.undef,B false]:=by rw[← hr];rfl
    rw[ev]
    refine A7 ⟨⟨[(5376,0)],[],[]⟩,[(1,5377)],[]⟩ (show Ac C0 233 [Cr 0 m,.agg b.c] [] (.tup [.undef,B false]) [] from hcall) (by simp(disch:=omega)only[go_sem]) rfl (by simp(disch:=omega)only[go_sem]) (.inl rfl) ?_
    refine gO ?_
    exact Av _
   ·simp only[if_true]at hr
    refine A7 ⟨⟨[(5376,0)],[],[]⟩,[(1,5377)],[]⟩ (show Ac C0 233 [Cr 0 m,.agg b.c] [] (.tup [Cr 1 x1,B true]) [] from hcall) (by simp(disch:=omega)only[go_sem]) rfl (by simp(disch:=omega)only[go_sem]) (.inl rfl) ?_
    refine gO ?_
    refine hJ _ (i+1,x1) ⟨by simp;omega,by simp at hbl ⊢;omega,hr⟩ (by simp;omega) (Imp.ren ⟨[(5377,5376)],[(192,192)],[]⟩ ⟨rfl,rfl⟩ (by simp[lk]) ?_ ?_)
    ·exact gI
    ·exact gI
  ·have hil:i=e.kids.length:=by simp at hge;omega
   subst hil
   rw[List.drop_length]at hr
   simp only[GD]at hr
   have ev:Vm (GD e.kids l)=.tup [Cr 1 m,B true]:=by rw[← hr];rfl
   rw[ev]
   refine B3 ⟨[(5376,1)],[],[]⟩ _ ?_
   simp(disch:=omega)only[go_sem]
end Go.Rd
