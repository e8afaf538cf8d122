/- part 18 of the proof -/
import Derived.Test.YthachdiockkofaaGreatDoorT17
set_option linter.all false
open Go Go.Abs Go.Proofs
set_option maxRecDepth 100000
namespace Go.Rd
set_option maxHeartbeats 8000000
open List (map_cons map_nil)
open Tryz
theorem f211_ok(l:List Hold)(hl:l.length≤1000000):Ac C0 211 [Ax l,Ax l] [] (B true) []:=by
 refine Ac.go f211 ?_
 unfold f211
 simp(disch:=omega)only[go_sem,bne_self_eq_false]
 refine Ab (α:=Nat) (fun i=>⟨[(5,I i),(0,Ax l),(1,Ax l)],[]⟩) (fun i=>i≤(l).length∧True) (fun i=>(l).length-i) 0 ⟨by omega,trivial⟩ ?_ ?_
 ·exact Bu
 rintro i ⟨hi,hP⟩ J hJ
 refine gO ?_
 refine ⟨fun hlt=>?_,fun hge=>?_⟩
 rotate_left
 have hil:i=(l).length:=by simp at hge;omega
 rotate_left
 obtain⟨b,hb⟩:∃ b,(l)[i]?=some b:=⟨_,gE (by simp at hlt;omega)⟩
 have hbm:=mG hb
 have hlt2:i<(l).length:=by simp at hlt;omega
 refine Aj 8 [([],[0]),([],[5]),([],[17,18]),([],[19]),([],[1]),([],[5]),([],[21,22]),([],[23])] fol ?_
 simp(disch:=omega)only[go_sem,gm,hb]
 ·refine hJ _ (i+1) ⟨by simp at hlt;omega,trivial⟩ (by simp at hlt;omega) AE
 ·subst hil
  exact Av _
theorem f212_ok(l:List Wait)(hl:l.length≤1000000):Ac C0 212 [AY l,AY l] [] (B true) []:=by
 refine Ac.go f212 ?_
 unfold f212
 simp(disch:=omega)only[go_sem,bne_self_eq_false]
 refine Ab (α:=Nat) (fun i=>⟨[(5,I i),(0,AY l),(1,AY l)],[]⟩) (fun i=>i≤(l).length∧True) (fun i=>(l).length-i) 0 ⟨by omega,trivial⟩ ?_ ?_
 ·exact Bu
 rintro i ⟨hi,hP⟩ J hJ
 refine gO ?_
 refine ⟨fun hlt=>?_,fun hge=>?_⟩
 rotate_left
 have hil:i=(l).length:=by simp at hge;omega
 rotate_left
 obtain⟨b,hb⟩:∃ b,(l)[i]?=some b:=⟨_,gE (by simp at hlt;omega)⟩
 have hbm:=mG hb
 have hlt2:i<(l).length:=by simp at hlt;omega
 refine Aj 8 [([],[0]),([],[5]),([],[17,18]),([],[19]),([],[1]),([],[5]),([],[21,22]),([],[23])] fol ?_
 simp(disch:=omega)only[go_sem,gm,hb]
 ·refine hJ _ (i+1) ⟨by simp at hlt;omega,trivial⟩ (by simp at hlt;omega) AE
 ·subst hil
  exact Av _
theorem f136_ok(q:Queue)(h1:q.holds.length≤1000000)(h2:q.convs.length≤1000000)(h3:q.waits.length≤1000000):Ac C0 136 [.agg q.c,.agg q.c] [] (B true) []:=by
 refine Ac.go f136 ?_
 unfold f136
 simp(disch:=omega)only[go_sem,beq_self_eq_true,Bool.and_self]
 first|(refine Aa (f211_ok q.holds h1) ?_)|(refine Ai (f211_ok q.holds h1) ?_)
 refine gO ?_
 first|(refine Aa (f212_ok q.convs h2) ?_)|(refine Ai (f212_ok q.convs h2) ?_)
 refine gO ?_
 first|(refine Aa (f212_ok q.waits h3) ?_)|(refine Ai (f212_ok q.waits h3) ?_)
 refine gO ?_
 exact Av _
theorem f78_ok(l:List Queue)(hl:l.length≤1000000)(ha:∀ q∈l,Br q≤100):Ac C0 78 [At l,At l] [] (B true) []:=by
 refine Ac.go f78 ?_
 unfold f78
 simp(disch:=omega)only[go_sem,bne_self_eq_false]
 refine Ab (α:=Nat) (fun i=>⟨[(5,I i),(0,At l),(1,At l)],[]⟩) (fun i=>i≤(l).length∧True) (fun i=>(l).length-i) 0 ⟨by omega,trivial⟩ ?_ ?_
 ·exact Bu
 rintro i ⟨hi,hP⟩ J hJ
 refine gO ?_
 refine ⟨fun hlt=>?_,fun hge=>?_⟩
 rotate_left
 have hil:i=(l).length:=by simp at hge;omega
 rotate_left
 obtain⟨b,hb⟩:∃ b,(l)[i]?=some b:=⟨_,gE (by simp at hlt;omega)⟩
 have hbm:=mG hb
 have hlt2:i<(l).length:=by simp at hlt;omega
 refine Aj 8 [([],[0]),([],[5]),([],[17,18]),([],[19]),([],[1]),([],[5]),([],[21,22]),([],[23])] fol ?_
 simp(disch:=omega)only[go_sem,gm,hb]
 ·obtain⟨h1,h2,h3⟩:=A5 (ha b hbm)
  first|(refine Aa (f136_ok b h1 h2 h3) ?_)|(refine Ai (f136_ok b h1 h2 h3) ?_)
  refine gO ?_
  refine hJ _ (i+1) ⟨by simp at hlt;omega,trivial⟩ (by simp at hlt;omega) AE
 ·subst hil
  exact Av _
theorem f137_ok:∀ (N:Nat) (e:Expr),SizeOf.sizeOf e<N→Ac C0 137 [.agg e.c,.agg e.c] [] (B true) []
 | 0,_,h=>by omega
 | N+1,e,h=>by
  refine Ac.lens f137 fun hlen=>?_
  simp only[Ec,lens,Expr.Cb,List.length_map,and_true,true_and]at hlen
  refine Ac.go f137 ?_
  unfold f137
  simp(disch:=omega)only[go_sem,bne_self_eq_false,beq_self_eq_true,Bool.and_self,Bool.not_true]
  refine Ab (α:=Nat) (fun i=>⟨[(5,I i),(2,.ptr 128 0),(3,.ptr 192 0)],[(128,e.c),(192,e.c)]⟩) (fun i=>i≤(e.kids).length∧True) (fun i=>(e.kids).length-i) 0 ⟨by omega,trivial⟩ ?_ ?_
  ·exact Bu
  rintro i ⟨hi,hP⟩ J hJ
  refine gO ?_
  refine ⟨fun hlt=>?_,fun hge=>?_⟩
  rotate_left
  have hil:i=(e.kids).length:=by simp at hge;omega
  rotate_left
  obtain⟨b,hb⟩:∃ b,(e.kids)[i]?=some b:=⟨_,gE (by simp at hlt;omega)⟩
  have hbm:=mG hb
  have hlt2:i<(e.kids).length:=by simp at hlt;omega
  refine Aj 10 [([],[2]),([],[34]),([],[5]),([],[35,36]),([],[37]),([],[3]),([],[39]),([],[5]),([],[40,41]),([],[42])] fol ?_
  simp(disch:=omega)only[go_sem,gm,hb]
  ·have hsz:=C4 hbm
   first|(refine Aa (f137_ok N b (by omega)) ?_)|(refine Ai (f137_ok N b (by omega)) ?_)
   refine gO ?_
   refine hJ _ (i+1) ⟨by simp at hlt;omega,trivial⟩ (by simp at hlt;omega) AE
  ·subst hil
   exact Av _
theorem f79_ok(n:Need):Ac C0 79 [.agg n.c,.agg n.c] [] (B true) []:=by
 refine Ac.go f79 ?_
 unfold f79
 simp(disch:=omega)only[go_sem,beq_self_eq_true,Bool.and_self]
 refine Ae (f137_ok _ n.expr (Nat.lt_succ_self _)) (by simp(disch:=omega)only[go_sem,Expr.Cb]) rfl ?_
 refine gO ?_
 exact Av _
theorem f38_ok(s:WS)(h:Few s):Ac C0 38 [.agg s.c,.agg s.c] [] (B true) []:=by
 have h1:=h.nq
 have h2:=h.nn
 refine Ac.go f38 ?_
 unfold f38
 refine gO ?_
 refine Aa (f78_ok s.queues (by omega) h.aq) ?_
 simp(disch:=omega)only[go_sem,bne_self_eq_false]
 refine Ab (α:=Nat) (fun i=>⟨[(5,I i),(2,.ptr 128 0),(3,.ptr 192 0)],[(128,s.c),(192,s.c)]⟩) (fun i=>i≤(s.needs).length∧True) (fun i=>(s.needs).length-i) 0 ⟨by omega,trivial⟩ ?_ ?_
 ·exact Bu
 rintro i ⟨hi,hP⟩ J hJ
 refine gO ?_
 refine ⟨fun hlt=>?_,fun hge=>?_⟩
 rotate_left
 have hil:i=(s.needs).length:=by simp at hge;omega
 rotate_left
 obtain⟨b,hb⟩:∃ b,(s.needs)[i]?=some b:=⟨_,gE (by simp at hlt;omega)⟩
 have hbm:=mG hb
 have hlt2:i<(s.needs).length:=by simp at hlt;omega
 refine Aj 10 [([],[2]),([],[28]),([],[5]),([],[29,30]),([],[31]),([],[3]),([],[33]),([],[5]),([],[34,35]),([],[36])] fol ?_
 simp(disch:=omega)only[go_sem,gm,hb]
 ·first|(refine Aa (f79_ok b) ?_)|(refine Ai (f79_ok b) ?_)
  refine gO ?_
  refine hJ _ (i+1) ⟨by simp at hlt;omega,trivial⟩ (by simp at hlt;omega) AE
 ·subst hil
  exact Av _
def XR(q:Queue):Bool:=decide (q.holds.length≤12)&&decide (q.convs.length≤12)&&decide (q.waits.length≤12)
def XS(s:WS):Bool:=decide (s.queues.length≤12)&&decide (s.needs.length≤12)&&s.queues.all XR
theorem Q2{s:WS}(h:XS s=true):Few s:=by
 simp only[XS,XR,Bool.and_eq_true,decide_eq_true_eq,List.all_eq_true]at h
 refine⟨by omega,by omega,fun q hq=>?_⟩
 have:=h.2 q hq
 unfold Br Bo
 omega
def NU(n m:Int):Int:=if m<1 then 0 else if n.tmod m<0 then n.tmod m+m else n.tmod m
theorem ZP(n:Int):0≤NU n 8∧NU n 8<8:=by
 have h1:=Int.tmod_lt_of_pos n (show (0:Int)<8 by decide)
 have h2:-8<n.tmod 8:=by
  rw[Int.tmod_eq_emod]
  split<;>omega
 unfold NU
 rw[if_neg (by decide)]
 split<;>omega
theorem bg(n:Int):Ac C0 51 [I n,I 8] [] (I (NU n 8)) []:=by
 have z:((8:Int)=0)=False:=by simp
 have z2:((8:Int)<1)=False:=by simp
 have h1:=Int.tmod_lt_of_pos n (show (0:Int)<8 by decide)
 have h2:-8<n.tmod 8:=by
  rw[Int.tmod_eq_emod]
  split<;>omega
 refine Ac.go f51 ?_
 unfold f51
 by_cases h:n.tmod 8<0
 ·have e:NU n 8=n.tmod 8+8:=by simp[NU,h]
  have z3:(n.tmod 8<0)=True:=eq_true h
  simp(disch:=omega)only[go_sem,z,z2,if_false,decide_false,z3,e]
  exact Av _
 ·have e:NU n 8=n.tmod 8:=by simp[NU,h]
  have z3:(n.tmod 8<0)=False:=eq_false h
  simp(disch:=omega)only[go_sem,z,z2,if_false,decide_false,z3,e]
  exact Av _
def BZ(n:Int):Proc:=⟨(NU n 8).tmod 4,1,1+(NU n 8).tdiv 4⟩
theorem f22_ok(n:Int):Ac C0 22 [I n] [] (.agg (BZ n).c) []:=by
 have z:((4:Int)=0)=False:=by simp
 have hm:=ZP n
 have hd:0≤(NU n 8).tdiv 4∧(NU n 8).tdiv 4≤2:=by
  rw[Int.tdiv_eq_ediv_of_nonneg hm.1];omega
 refine Ac.go f22 ?_
 unfold f22
 refine gO ?_
 refine Aa (bg n) ?_
 simp(disch:=omega)only[go_sem,z,if_false]
 refine Ak _ ?_
 simp(disch:=omega)only[go_sem,BZ]
def wA:Amt:=⟨5,0⟩
def NL(name:Bs)(p q:Proc):Queue:=⟨⟨name,1,1,0⟩,[⟨p,wA⟩],[],[⟨q,wA,0,0⟩],0⟩
theorem f99_ok(name:Bs)(p q:Proc):Ac C0 99 [.v (.string (str name)),.agg p.c,.agg q.c] [] (.agg (NL name p q).c) []:=by
 refine Ac.go f99 ?_
 unfold f99
 simp(disch:=omega)only[go_sem]
 refine B3 ⟨[],[],[896,1152]⟩ _ ?_
 simp(disch:=omega)only[go_sem,NL,wA]
 exact .agg (Af.AD (by simp(disch:=omega)only[go_sem,NL,wA,Ax,AY,map_cons,map_nil]))
def JW(p:Proc)(name:Bs):Need:=⟨p,.mk 0 ⟨name,wA⟩ [],0⟩
theorem f100_ok(p:Proc)(name:Bs):Ac C0 100 [.agg p.c,.v (.string (str name))] [] (.agg (JW p name).c) []:=by
 refine Ac.go f100 ?_
 unfold f100
 refine gO ?_
 refine BP _ ?_
 simp(disch:=omega)only[go_sem,JW,wA]
 exact .agg (Af.AD (by simp(disch:=omega)only[go_sem,JW,wA,Expr.k,Expr.atom,Expr.kids,map_nil]))
def ER:WS:=⟨[NL [97] (BZ 0) (BZ 1),NL [98] (BZ 1) (BZ 0)],[JW (BZ 0) [98],JW (BZ 1) [97]]⟩
theorem f53_ok:Ac C0 53 [] [] (.agg ER.c) []:=by
 refine Ac.go f53 ?_
 unfold f53
 refine gO ?_
 refine Aa (f22_ok 0) ?_
 refine gO ?_
 refine Aa (f22_ok 1) ?_
 refine gO ?_
 refine Aj 12 [([],[1]),([],[2]),([],[5,6]),([],[2]),([],[1]),([2],[8,9]),([2,5],[7,10]),([],[1]),([2,5],[12]),([],[2]),([2,5,8],[14]),([2,5,8,10],[13,15])] fol ?_
 refine gO ?_
 refine An ⟨⟨[],[],[]⟩,[],[]⟩ (f99_ok [97] (BZ 0) (BZ 1)) (by simp(disch:=omega)only[go_sem];exact .eq rfl) rfl rfl trivial (.inl rfl) ?_
 refine gO ?_
 refine An ⟨⟨[],[],[]⟩,[],[]⟩ (f99_ok [98] (BZ 1) (BZ 0)) (by simp(disch:=omega)only[go_sem];exact .eq rfl) rfl rfl trivial (.inl rfl) ?_
 simp(disch:=omega)only[go_sem,NL,wA,Ax,AY,map_cons,map_nil]
 refine An ⟨⟨[],[],[]⟩,[],[]⟩ (f100_ok (BZ 0) [98]) (by simp(disch:=omega)only[go_sem];exact .eq rfl) rfl rfl trivial (.inl rfl) ?_
 refine gO ?_
 first
  |(refine Ae (f100_ok (BZ 1) [97]) (by simp(disch:=omega)only[go_sem];exact .eq rfl) rfl ?_)
  |(refine An ⟨⟨[],[],[]⟩,[],[]⟩ (f100_ok (BZ 1) [97]) (by simp(disch:=omega)only[go_sem];exact .eq rfl) rfl rfl trivial (.inl rfl) ?_)
 simp(disch:=omega)only[go_sem,JW,wA,Expr.k,Expr.atom,Expr.kids,Fj,map_nil]
 refine BP _ ?_
 simp(disch:=omega)only[go_sem,ER,NL,JW,wA,Expr.k,Expr.atom,Expr.kids,At,FV,Ax,AY,Fj,map_cons,map_nil]
 refine .agg (Af.AD ?_)
 simp(disch:=omega)only[go_sem,ER,NL,JW,wA,Expr.k,Expr.atom,Expr.kids,At,FV,Ax,AY,Fj,map_cons,map_nil]
def Jz:WS:=⟨ER.queues,ER.needs.take 1⟩
theorem SA:Few ER∧Few Jz:=⟨Q2 (by kernel_rfl),Q2 (by kernel_rfl)⟩
theorem VD:By ER=([],[BZ 0,BZ 1]):=by kernel_rfl
theorem T3:DA ER (BZ 0)=([BZ 0,BZ 1],0):=by kernel_rfl
theorem T5:By Jz=([BZ 1,BZ 0],[]):=by kernel_rfl
theorem Sz:Hr Jz=[BZ 1]:=by kernel_rfl
theorem T4:HY ER (BZ 1)=true:=by kernel_rfl
theorem f16_ok:Ac C0 16 [] [] (B true) []:=by
 obtain⟨hs,ht⟩:=SA
 refine Ac.go f16 ?_
 unfold f16
 refine gO ?_
 refine Aa f53_ok ?_
 refine gO ?_
 refine Aa (f19_ok ER hs) ?_
 simp(disch:=omega)only[go_sem,VD]
 refine Aj 7 [([],[1]),([],[]),([1],[15,16]),([1,2],[17]),([1,2],[14]),([1,2],[14]),([1,2],[18])] fol ?_
 refine gO ?_
 first|(refine Aa (f22_ok 0) ?_)|(refine Ai (f22_ok 0) ?_)
 refine gO ?_
 first|(refine Aa (f21_ok ER (BZ 0) hs) ?_)|(refine Ai (f21_ok ER (BZ 0) hs) ?_)
 simp(disch:=omega)only[go_sem,T3]
 have hn:ER.needs=[JW (BZ 0) [98],JW (BZ 1) [97]]:=rfl
 have hnt:Jz.needs=[JW (BZ 0) [98]]:=rfl
 have hq:Jz.queues=ER.queues:=rfl
 simp(disch:=omega)only[go_sem,hn,FV,map_cons,map_nil]
 refine Ae (f19_ok Jz ht) (by simp(disch:=omega)only[go_sem,hnt,hq,FV,map_cons,map_nil]) rfl ?_
 simp(disch:=omega)only[go_sem,T5]
 refine Aj 27 [([],[2]),([],[29]),([],[30]),([],[31]),([],[3,32]),([],[33,32]),([],[34,32]),([],[32,35]),([],[36]),([],[5,37]),([],[38,37]),([],[37,39]),([],[40]),([],[4,41]),([],[42,41]),([],[43,41]),([],[41,44]),([],[45]),([],[6,46]),([],[47,46]),([],[48,46]),([],[46,49]),([],[50]),([],[6,51]),([],[52,51]),([],[53,51]),([],[51])] fol ?_
 refine gO ?_
 first|(refine Aa (f22_ok 1) ?_)|(refine Ai (f22_ok 1) ?_)
 simp(disch:=omega)only[go_sem,beq_self_eq_true,Bool.and_self]
 first
  |(refine Ae (f36_ok Jz ht) (by simp(disch:=omega)only[go_sem,hnt,hq,FV,map_cons,map_nil]) rfl ?_)
  |(refine An ⟨⟨[],[],[]⟩,[],[]⟩ (f36_ok Jz ht) (by simp(disch:=omega)only[go_sem,hnt,hq,FV,map_cons,map_nil]) rfl rfl trivial (.inl rfl) ?_)
 simp(disch:=omega)only[go_sem,Sz,map_cons,map_nil]
 first|(refine Aa f53_ok ?_)|(refine Ai f53_ok ?_)
 refine gO ?_
 first|(refine Aa (f22_ok 1) ?_)|(refine Ai (f22_ok 1) ?_)
 refine gO ?_
 first|(refine Aa (f35_ok ER (BZ 1) hs) ?_)|(refine Ai (f35_ok ER (BZ 1) hs) ?_)
 simp(disch:=omega)only[go_sem,T4]
 exact Av _
theorem Sy{s:WS}(h:Few s)(p:Proc):(DA s p).1.length≤20000:=by
 unfold DA
 split
 ·rename_i hv
  have hg:=AS hv
  split
  ·have key:∀ (l set:List Proc),set.length≤20000→(l.foldl (AJ s p) set).length≤20000:=by
    intro l
    induction l with
    | nil=>intro set h;exact h
    | cons q l ih =>
     intro set hset
     rw[List.foldl_cons]
     refine ih _ ?_
     unfold AJ
     split
     ·exact hset
     ·split
      ·exact I1 (IL h _) (SO hg _)
      ·exact hset
   exact key _ _ (I1 h hg)
  ·simp
 ·simp
end Go.Rd
namespace Go.Abs
open Go Go.ChangeShapes Go.WideShapes Go.RowKit
def Vj(P:Program)(N:Nat)(t:TypeId){α:Type}(e:α→List AV):Prop :=
 ∀ (H:Type) (enc:TypeId × Value→H) (w:World) (fuel:Nat) (cs:List Value) (x:DataW H × List MemPlace),fuel≤N→DataW.trod enc P w 0 (fun _=>true) true fuel t cs=some x →
  ∃ a,PRl (fun b=>b<w.heap.size) w (e a) cs
variable {P:Program} {t:TypeId}
theorem Vj.mono{N M:Nat}{α:Type}{e:α→List AV}(h:Vj P N t e)(hm:M≤N):Vj P M t e:=fun H enc w fuel cs x hf hx=>h H enc w fuel cs x (Nat.le_trans hf hm) hx
theorem Vj.map{N:Nat}{α β:Type}{e:α→List AV}{e':β→List AV}(h:Vj P N t e)(hf:∀ a,∃ b,e' b=e a):Vj P N t e':=fun H enc w fuel cs x hn hx=>by
 obtain⟨a,q⟩:=h H enc w fuel cs x hn hx
 obtain⟨b,hb⟩:=hf a
 exact⟨b,hb▸q⟩
theorem chunks{α:Type}(m:Nat):∀ (rows:List (List α)) (cs:List α),cs.length=rows.length*m→(∀ i r,rows[i]?=some r→(cs.drop (i*m)).take m=r)→cs=rows.flatten
 |[],cs,hl,_=>List.eq_nil_of_length_eq_zero (by simpa using hl)
 | r::rows,cs,hl,h=>by
  have h0:=h 0 r rfl
  have:=chunks m rows (cs.drop m) (by simp only[List.length_cons,Nat.add_mul]at hl;rw[List.length_drop,hl];omega) fun i r' hr=>by
   have:=h (i+1) r' (by simpa using hr)
   rw[List.drop_drop]
   rwa [show m+i*m=(i+1)*m by rw[Nat.add_mul];omega]
  simp only[Nat.zero_mul,List.drop_zero]at h0
  rw[List.flatten_cons,← this,← h0,List.take_append_drop]
theorem Se{H:Type}{enc:TypeId × Value→H}{w:World}{fuel n:Nat}{sp:Nat→Bool}{held:Bool}{base:Nat}{e:TypeId}{cs:List Value}{ds:List (DataW H)}{p:List MemPlace}{f:List (List Value)}
 (ht:P.underlying t=some (.array n e)) (hct:P.cellsOf t=n*P.cellsOf e) (h:DataW.trod enc P w base sp held fuel t cs=some (.agg ds,p)) (hl:ds.length=f.length)
 (hf:∀ (i:Nat) (d:DataW H) (c:List Value),ds[i]?=some d→f[i]?=some c→∀ fuel cs' p',DataW.trod enc P w base sp held fuel e cs'=some (d,p')→cs'=c):cs=f.flatten:=by
 obtain⟨xs,m,_,hx,hcl,hxl,hel⟩:=DataW.trod_array ht h
 have hx1:ds=xs.map (·.1):=by
  have:=congrArg Prod.fst hx
  simpa using this
 have hn:f.length=n:=by rw[← hl,hx1];simpa using hxl
 refine chunks _ f cs (by rw[hcl,hct,hn]) fun i c hc=>?_
 have hi:i<f.length:=by
  rcases Nat.lt_or_ge i f.length with h|h
  ·exact h
  ·rw[List.getElem?_eq_none h]at hc;cases hc
 have hxi:xs[i]?=some xs[i]:=List.getElem?_eq_getElem (by omega)
 have h1:=hel i (by omega)
 rw[hxi]at h1
 refine hf i xs[i].1 c ?_ hc m _ xs[i].2 h1
 rw[hx1,List.getElem?_map,hxi]
 rfl
theorem TW{H:Type}{enc:TypeId × Value→H}{w:World}{fuel:Nat}{sp:Nat→Bool}{held:Bool}{base:Nat}{cs:List Value}{b:Bool}{p:List MemPlace}(ht:P.underlying t=some .bool)
 (h:DataW.trod enc P w base sp held fuel t cs=some (.lit (.bool b),p)):cs=[.bool b]:=by
 obtain⟨n,rfl,h2⟩:=DataW.trod_bool ht h
 simp at h2
 rw[h2.1]
def bX{H:Type}(r:List Bool):DataW H:=.agg (r.map fun b=>.lit (.bool b))
def Z6{H:Type}(rows:List (List Bool)):DataW H:=.agg (rows.map bX)
theorem Wu{H:Type}{enc:TypeId × Value→H}{w:World}{fuel n m:Nat}{sp:Nat→Bool}{held:Bool}{base:Nat}{e b:TypeId}{cs:List Value}{rows:List (List Bool)}{p:List MemPlace}
 (ht:P.underlying t=some (.array n e)) (he:P.underlying e=some (.array m b)) (hb:P.underlying b=some .bool) (h1:P.cellsOf b=1) (h2:P.cellsOf e=m) (h3:P.cellsOf t=n*m)
 (h:DataW.trod enc P w base sp held fuel t cs=some (Z6 rows,p)):cs=rows.flatten.map Value.bool:=by
 have key:∀ r:List Bool,∀ fuel cs' p',DataW.trod enc P w base sp held fuel e cs'=some (bX r,p')→cs'=r.map Value.bool:=fun r fuel cs' p' h'=>by
  have:=Se (f:=r.map fun b=>[Value.bool b]) he (by rw[h1,h2,Nat.mul_one]) h' (by simp) fun i d c hd hc fuel cs' p' hx=>by
   rw[List.getElem?_map]at hd hc
   cases hr:r[i]? with
   |none=>rw[hr]at hd;cases hd
   |some v =>
    rw[hr]at hd hc
    simp at hd hc
    subst hd;subst hc
    exact TW hb hx
  rw[this]
  clear h'  this
  induction r with
  | nil=>rfl
  | cons x r ih=>simp only[List.map_cons,List.flatten_cons,List.singleton_append,ih]
 have:=Se (f:=rows.map fun r=>r.map Value.bool) ht (by rw[h2,h3]) h (by simp) fun i d c hd hc fuel cs' p' hx=>by
  rw[List.getElem?_map]at hd hc
  cases hr:rows[i]? with
  |none=>rw[hr]at hd;cases hd
  |some v =>
   rw[hr]at hd hc
   simp at hd hc
   subst hd;subst hc
   exact key v _ _ _ hx
 rw[this,List.map_flatten]
theorem W9{C:Ctx}{name:String}{g n m:Nat}{e b:TypeId}{rows:List (List Bool)}{rest:List (String × DataW Unit)}{W:World}(hC:∀ i cs,C.G i=some cs→i=g∧cs=(rows.flatten.map fun b=>AV.v (.bool b)))(hpos:0<rows.flatten.length)
 (hg:C.P.globalNamed name=some g) (hty:(C.P.globals[g]?).map (·.type)=some t)
 (ht:C.P.underlying t=some (.array n e)) (he:C.P.underlying e=some (.array m b)) (hb:C.P.underlying b=some .bool) (h1:C.P.cellsOf b=1) (h2:C.P.cellsOf e=m) (h3:C.P.cellsOf t=n*m)
 (h:laidMet C.P ((name,Z6 rows)::rest) W):Glob C (gh0 W) W:=by
 obtain⟨ps,⟨g',t',cs,fuel,p,q,hg',ht',hvar,hd,_,_⟩,_⟩:=h
 obtain rfl:=Option.some.inj (hg.symm.trans hg')
 obtain rfl:=Option.some.inj (hty.symm.trans ht')
 have hcs:=Wu ht he hb h1 h2 h3 hd
 have hcell:=World.var?_cell hg hvar
 intro i xs hi
 obtain⟨rfl,rfl⟩:=hC i xs hi
 have hlen:cs.toList.length=rows.flatten.length:=by rw[hcs,List.length_map]
 have hsz:cs.size=rows.flatten.length:=by rw[← hlen,Array.length_toList]
 refine⟨by rw[List.length_map];exact hpos,?_,Pm (us:=cs.toList) ?_ ?_⟩
 ·have h0:=hcell 0
  have:∃ v,cs[0]?=some v:=⟨cs[0]'(by omega),Array.getElem?_eq_getElem _⟩
  obtain⟨v,hv⟩:=this
  rw[hv]at h0
  rw[SW]
  exact Et h0
 ·rw[hcs]
  generalize rows.flatten=l
  induction l with
  | nil=>simp[PRl]
  | cons x l ih=>exact⟨⟨rfl,rfl⟩,ih⟩
 ·intro k hk
  have:=hcell k
  rw[Array.getElem?_toList,Nat.zero_add]
  rw[← this,add_lit,Nat.zero_add]
theorem IV{C:Ctx}{f:Nat}{fn:Func}{s:ChangeSpec}(hs:s.vars=[]){apart fresh handsOn again:Bool}{α:Type}{e:α→List AV}{m:α→Nat}{Q:α→Prop}{tb:TypeId}{ts:List TypeId}
 (hp:fn.params.toList=ts) (ha:Args C.P ts e m Q) (hl:laidOutB C.P=true) (hr:(ts.all fun t=>C.P.readableRec t&&decide (t<C.P.types.size))=true) (hres:fn.resultTypes = #[tb]) (htb:C.P.underlying tb=some .bool)
 {H:Type} (enc:TypeId × Value→H) (W:World) (hG:Glob C (gh0 W) W) (base:Nat) (args:Array Value) (ds gs:List (DataW H)) (before:List MemPlace)
 (hval:∀ (j:Nat) t v,fn.params[j]?=some t→args[j]?=some v→Value.okWide C.P W .any base t v)
 (hW:DataW.Whole enc C.P fn.params.toList s.vars apart W args.toList ds gs before)
 (hfn:∀ ds:List (DataW H),ds.length=ts.length→(s.fn H ds).results=[.lit (.bool true)]∧(s.fn H ds).args=ds∧(s.fn H ds).vars=[])
 (hok:∀ a,Q a→m a≤R1 ds→Ac C f (e a) [] (.v (.bool true)) []) :
 Calls C.P f args W fun r W'=>∃ v,r=.returned v∧s.post enc C.P fn apart fresh handsOn again W args v W':=by
 replace hr:∀ t∈ts,C.P.readableRec t=true∧t<C.P.types.size:=by simpa using hr
 have hW':=hW
 obtain⟨p,q,hA,hV,rfl,hfz,hnd⟩:=hW
 rw[hs]at hV
 obtain⟨rfl,rfl⟩:=trodVars_none hV
 rw[hp]at hA
 obtain⟨a,q1,q2,q3⟩:=ha H enc W base args.toList ds p (fun j t v hj hv=>hval j t v (by rw[← Array.getElem?_toList,hp];exact hj) (by simpa using hv)) hA
 have hlen:∀ {ts:List TypeId} {vs:List Value} {ds:List (DataW H)} {ps:List MemPlace},DataW.TrodAll enc C.P W 0 (fun _=>true) true ts vs ds ps→ds.length=ts.length:=by
  intro ts
  induction ts with
  | nil=>intro vs ds ps h;obtain⟨_,rfl,_⟩:=trodAll_nil h;rfl
  | cons t ts ih =>
   intro vs ds ps h
   obtain⟨v,vs,d,ds,p,q,rfl,rfl,rfl,h1,h2⟩:=trodAll_cons h
   simp[ih h2]
 obtain⟨hf1,hf2,hf3⟩:=hfn ds (hlen hA)
 have key:=(hok a q1 q2).2 (gh0 W) W args.toList hG q3 (fun s cs h=>by cases h)
 rw[show args.toList.toArray=args by simp]at key
 refine key.mono fun r W' ⟨u,g',hr1,hF,hy,_⟩=>?_
 subst hr1
 simp only[VR]at hy
 subst hy
 have hb:Below W.heap.size W W':=⟨hF.os,hF.tape.1,hF.output,hF.size,fun k hk=>(hF.keep k hk (Or.inl (by show (gh0 W).own k=.ro;simp[gh0,hk]))).1⟩
 have hlt:∀ x∈p++([]:List MemPlace),x.block<W.heap.size:=fun x hx=>hW'.lt x hx
 refine⟨_,rfl,TU (pa:=p) (pv:=[]) hW' (fun b sp hd=>?_) (fun sp hsp=>?_) (fun _ _=>?_) rfl hb (ok_one hres rfl (okWide_bool_mk htb _))⟩
 ·simp only[List.append_nil,hf1]
  rw[hres]
  exact trodAll_mk1 (shut_bool htb _)
 ·simp only[List.append_nil,hf2]
  rw[hp]
  exact KV hl hr hA (fun x hx=>hb.same (hlt x (by simpa using hx))) (fun x hx=>hsp x (by simpa using hx))
 ·simp only[List.append_nil,hf3]
  rw[hs]
  rfl
end Go.Abs
