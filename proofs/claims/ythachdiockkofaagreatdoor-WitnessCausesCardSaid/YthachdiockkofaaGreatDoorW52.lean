/- part 52 of the proof -/
import Derived.Test.YthachdiockkofaaGreatDoorW41
set_option linter.all false
open Go Go.Abs Go.Proofs
set_option maxRecDepth 100000
namespace Go.Rd
set_option maxHeartbeats 8000000
open List (take_add_one take_length)
open Tryz
theorem f23_ok(s:WS)(p:Ae)(h:Few s):Ad C0 23 [.agg s.c,.agg p.c] [] (.tup [Ax (Hh s p).1,I (Hh s p).2]) []:=by
 refine Ad.go f23 ?_;unfold f23;refine gO ?_;refine Ac (f56_ok s h) ?_;cases hv:AD s
 ·have e:Hh s p=([],2):=by simp[Hh,hv]
  simp(disch:=omega)only[go_sem,e];exact EL _
 have hg:=Bh hv;have hrl:=Ns h hg;refine gO ?_;refine Ac (f20_ok s h) ?_;rw[IE hv];refine gO ?_;refine Ac (f29_ok (DW s).2 p (by omega)) ?_;cases hp:Be (DW s).2 p
 ·have e:Hh s p=([],14):=by simp[Hh,hv,hp]
  simp(disch:=omega)only[go_sem,e];exact EL _
 have e:Hh s p=((DW s).2.foldl (BU s p) (DW s).2,0):=by simp[Hh,hv,hp]
 rw[e];generalize (DW s).2=all at hrl ⊢;have hbd0:all.length≤4294967296:=by omega
 refine gO ?_;refine Ab (α:=Nat) (fun i=>⟨[(9,I i),(8,.sl (.own 1920 0) 3 (all.map Ae.c)),(7,Ax ((all.take i).foldl (BU s p) all)),(2,.ptr 128 0),(3,.ptr 192 0)],[(128,s.c),(192,p.c)]⟩) (fun i=>i≤(all).length∧((all.take i).foldl (BU s p) all).length≤20000) (fun i=>(all).length-i) 0 ⟨by omega,hrl⟩ ?_ ?_
 ·exact BB
 rintro i ⟨hi,hP⟩ J hJ;refine gO ?_;refine ⟨fun hlt=>?_,fun hge=>?_⟩;rotate_left;have hil:i=(all).length:=by simp at hge;omega
 rotate_left;obtain⟨b,hb⟩:∃ b,(all)[i]?=some b:=⟨_,gE (by simp at hlt;omega)⟩;have hbm:=mG hb;have hlt2:i<(all).length:=by simp at hlt;omega
 refine Aq 12 [([],[8]),([],[9]),([],[37,38]),([],[39]),([],[3]),([],[40,41]),([],[42]),([],[7,43]),([],[8,43]),([],[9,43]),([],[45,46,43]),([],[47,43])] fol ?_;simp(disch:=omega)only[go_sem,gm,hb]
 ·have e1:(all.take (i+1)).foldl (BU s p) all=BU s p ((all.take i).foldl (BU s p) all) b:=by
   rw[take_add_one,hb,Option.toList_some,List.foldl_append];rfl
  generalize (all.take i).foldl (BU s p) all=set at hP e1;have step:∀ set',BU s p set b=set'→set'.length≤20000→∀ st',Imp ⟨C0,[],[]⟩ st' ⟨[(9,I (i+1:Nat)),(8,.sl (.own 1920 0) 3 (all.map Ae.c)),(7,Ax set'),(2,.ptr 128 0),(3,.ptr 192 0)],[(128,s.c),(192,p.c)]⟩→J st':=fun set' h1 h2 st' h3=>by
   refine hJ st' (i+1) ⟨by simp at hlt;omega,by rw[e1,h1];exact h2⟩ (by simp at hlt;omega) ?_;rw[e1,h1];exact h3
  clear hJ
  by_cases hbp:b=p
  ·simp(disch:=omega)only[go_sem,hbp,decide_true];exact step set (by simp[BU,hbp]) hP _ AR
  simp(disch:=omega)only[go_sem,hbp,decide_false,gm,hb]
  first|(refine Ac (f29_ok set b (by omega)) ?_)|(refine Ar (f29_ok set b (by omega)) ?_)
  cases hs:Be set b
  ·simp(disch:=omega)only[go_sem];exact step set (by simp[BU,hs]) hP _ AR
  refine gO ?_;have hdl:∀ k,(Eg (set.take k) b).length≤20000:=fun k=>by
   have h1:(Eg (set.take k) b).length≤(set.take k).length:=List.length_filter_le _ _;rw[List.length_take]at h1;omega
  have hll:=hlt2;refine Ab (α:=Nat) (fun k=>⟨[(11,I k),(10,.sl (.own 4672 0) 3 ((Eg (set.take k) b).map Ae.c)),(9,I i),(8,.sl (.own 1920 0) 3 (all.map Ae.c)),(7,Ax set),(2,.ptr 128 0),(3,.ptr 192 0)],[(128,s.c),(192,p.c)]⟩) (fun k=>k≤set.length) (fun k=>set.length-k) 0 (by omega) ?_ ?_
  ·refine Imp.Am ?_ ?_
   ·simp(disch:=omega)only[go_sem,List.take_zero,Eg,List.filter_nil,List.map_nil]
   ·exact gI
  rintro k hk K hK;refine gO ?_;refine And.intro (fun hlt'=>?_) (fun hge'=>?_)
  ·obtain⟨c,hc⟩:∃ c,set[k]?=some c:=⟨_,gE (by simp at hlt';omega)⟩;have e2:Eg (set.take (k+1)) b=if c=b then Eg (set.take k) b else Eg (set.take k) b++[c]:=by
    rw[take_add_one,hc]
    by_cases h:c=b<;>simp[Eg,List.filter_append,h]
   have hdk:=hdl k;refine Aq 8 [([],[7]),([],[11]),([],[58,59]),([],[60]),([],[8]),([],[9]),([],[62,63]),([],[64])] fol ?_;simp(disch:=omega)only[go_sem,gm,hb,hc]
   by_cases hcb:c=b
   ·rw[if_pos hcb]at e2;simp(disch:=omega)only[go_sem,hcb,decide_true];refine hK _ (k+1) (by simp at hlt';omega) (by simp at hlt';omega) (Imp.Am ?_ gI);rw[e2];simp(disch:=omega)only[go_sem]
   ·rw[if_neg hcb]at e2;simp(disch:=omega)only[go_sem,hcb,decide_false,gm,hc];refine hK _ (k+1) (by simp at hlt';omega) (by simp at hlt';omega) (Imp.Am ?_ gI);rw[e2];refine gO ?_;exact .sl (by simp[Ae.c])
  ·have hkl:k=set.length:=by simp at hge';omega
   subst hkl;clear hK;have hdk:=hdl set.length;rw[take_length]at hdk ⊢;have hv2:=H7 hv (Eg set b);have hf:=Lp h (Eg set b);have hrl2:=Ns hf (Bh hv2);refine FW [4672] (f64_ok s (Eg set b) h (by omega)) gI rfl ?_;have er:AP s (Eg set b)=(BY s (Eg set b),0):=by simp[AP,hv]
   rw[er];refine gO ?_;refine Ac (f20_ok (BY s (Eg set b)) hf) ?_;rw[IE hv2];refine gO ?_;refine Ac (f29_ok (DW (BY s (Eg set b))).2 p (by omega)) ?_;cases hq:Be (DW (BY s (Eg set b))).2 p
   ·simp(disch:=omega)only[go_sem];exact step set (by simp[BU,hs,hbp,hq]) hP _ AR
   ·simp(disch:=omega)only[go_sem];exact step (DW (BY s (Eg set b))).2 (by simp[BU,hs,hbp,hq]) hrl2 _ AR
 ·subst hil;simp(disch:=omega)only[go_sem,take_length];exact AE _
theorem f211_ok(l:List AO)(hl:l.length≤1000000):Ad C0 211 [AH l,AH l] [] (B true) []:=by
 refine Ad.go f211 ?_;unfold f211;simp(disch:=omega)only[go_sem,bne_self_eq_false];refine Ab (α:=Nat) (fun i=>⟨[(5,I i),(0,AH l),(1,AH l)],[]⟩) (fun i=>i≤(l).length∧True) (fun i=>(l).length-i) 0 ⟨by omega,trivial⟩ ?_ ?_
 ·exact BB
 rintro i ⟨hi,hP⟩ J hJ;refine gO ?_;refine ⟨fun hlt=>?_,fun hge=>?_⟩;rotate_left;have hil:i=(l).length:=by simp at hge;omega
 rotate_left;obtain⟨b,hb⟩:∃ b,(l)[i]?=some b:=⟨_,gE (by simp at hlt;omega)⟩;have hbm:=mG hb;have hlt2:i<(l).length:=by simp at hlt;omega
 refine Aq 8 [([],[0]),([],[5]),([],[17,18]),([],[19]),([],[1]),([],[5]),([],[21,22]),([],[23])] fol ?_;simp(disch:=omega)only[go_sem,gm,hb]
 ·refine hJ _ (i+1) ⟨by simp at hlt;omega,trivial⟩ (by simp at hlt;omega) AR
 ·subst hil;exact AE _
theorem f212_ok(l:List AS)(hl:l.length≤1000000):Ad C0 212 [A7 l,A7 l] [] (B true) []:=by
 refine Ad.go f212 ?_;unfold f212;simp(disch:=omega)only[go_sem,bne_self_eq_false];refine Ab (α:=Nat) (fun i=>⟨[(5,I i),(0,A7 l),(1,A7 l)],[]⟩) (fun i=>i≤(l).length∧True) (fun i=>(l).length-i) 0 ⟨by omega,trivial⟩ ?_ ?_
 ·exact BB
 rintro i ⟨hi,hP⟩ J hJ;refine gO ?_;refine ⟨fun hlt=>?_,fun hge=>?_⟩;rotate_left;have hil:i=(l).length:=by simp at hge;omega
 rotate_left;obtain⟨b,hb⟩:∃ b,(l)[i]?=some b:=⟨_,gE (by simp at hlt;omega)⟩;have hbm:=mG hb;have hlt2:i<(l).length:=by simp at hlt;omega
 refine Aq 8 [([],[0]),([],[5]),([],[17,18]),([],[19]),([],[1]),([],[5]),([],[21,22]),([],[23])] fol ?_;simp(disch:=omega)only[go_sem,gm,hb]
 ·refine hJ _ (i+1) ⟨by simp at hlt;omega,trivial⟩ (by simp at hlt;omega) AR
 ·subst hil;exact AE _
theorem f136_ok(q:Queue)(h1:q.holds.length≤1000000)(h2:q.An.length≤1000000)(h3:q.waits.length≤1000000):Ad C0 136 [.agg q.c,.agg q.c] [] (B true) []:=by
 refine Ad.go f136 ?_;unfold f136;simp(disch:=omega)only[go_sem,beq_self_eq_true,Bool.and_self]
 first|(refine Ac (f211_ok q.holds h1) ?_)|(refine Ar (f211_ok q.holds h1) ?_)
 simp(disch:=omega)only[go_sem]
 first|(refine Ac (f212_ok q.An h2) ?_)|(refine Ar (f212_ok q.An h2) ?_)
 simp(disch:=omega)only[go_sem]
 first|(refine Ac (f212_ok q.waits h3) ?_)|(refine Ar (f212_ok q.waits h3) ?_)
 refine gO ?_;exact AE _
theorem f78_ok(l:List Queue)(hl:l.length≤1000000)(ha:∀ q∈l,BC q≤100):Ad C0 78 [Ay l,Ay l] [] (B true) []:=by
 refine Ad.go f78 ?_;unfold f78;simp(disch:=omega)only[go_sem,bne_self_eq_false];refine Ab (α:=Nat) (fun i=>⟨[(5,I i),(0,Ay l),(1,Ay l)],[]⟩) (fun i=>i≤(l).length∧True) (fun i=>(l).length-i) 0 ⟨by omega,trivial⟩ ?_ ?_
 ·exact BB
 rintro i ⟨hi,hP⟩ J hJ;refine gO ?_;refine ⟨fun hlt=>?_,fun hge=>?_⟩;rotate_left;have hil:i=(l).length:=by simp at hge;omega
 rotate_left;obtain⟨b,hb⟩:∃ b,(l)[i]?=some b:=⟨_,gE (by simp at hlt;omega)⟩;have hbm:=mG hb;have hlt2:i<(l).length:=by simp at hlt;omega
 refine Aq 8 [([],[0]),([],[5]),([],[17,18]),([],[19]),([],[1]),([],[5]),([],[21,22]),([],[23])] fol ?_;simp(disch:=omega)only[go_sem,gm,hb]
 ·obtain⟨h1,h2,h3⟩:=Bb (ha b hbm)
  first|(refine Ac (f136_ok b h1 h2 h3) ?_)|(refine Ar (f136_ok b h1 h2 h3) ?_)
  refine gO ?_;refine hJ _ (i+1) ⟨by simp at hlt;omega,trivial⟩ (by simp at hlt;omega) AR
 ·subst hil;exact AE _
theorem f137_ok:∀ (N:Nat) (e:Expr),SizeOf.sizeOf e<N→Ad C0 137 [.agg e.c,.agg e.c] [] (B true) []
 | 0,_,h=>by omega
 | N+1,e,h=>by
  refine Ad.lens f137 fun hlen=>?_
  simp only[D9,lens,Expr.By,List.length_map,and_true,true_and]at hlen;refine Ad.go f137 ?_;unfold f137;simp(disch:=omega)only[go_sem,bne_self_eq_false,beq_self_eq_true,Bool.and_self,Bool.not_true];refine Ab (α:=Nat) (fun i=>⟨[(5,I i),(2,.ptr 128 0),(3,.ptr 192 0)],[(128,e.c),(192,e.c)]⟩) (fun i=>i≤(e.kids).length∧True) (fun i=>(e.kids).length-i) 0 ⟨by omega,trivial⟩ ?_ ?_
  ·exact BB
  rintro i ⟨hi,hP⟩ J hJ;refine gO ?_;refine ⟨fun hlt=>?_,fun hge=>?_⟩;rotate_left;have hil:i=(e.kids).length:=by simp at hge;omega
  rotate_left;obtain⟨b,hb⟩:∃ b,(e.kids)[i]?=some b:=⟨_,gE (by simp at hlt;omega)⟩;have hbm:=mG hb;have hlt2:i<(e.kids).length:=by simp at hlt;omega
  refine Aq 10 [([],[2]),([],[34]),([],[5]),([],[35,36]),([],[37]),([],[3]),([],[39]),([],[5]),([],[40,41]),([],[42])] fol ?_;simp(disch:=omega)only[go_sem,gm,hb]
  ·have hsz:=CX hbm
   first|(refine Ac (f137_ok N b (by omega)) ?_)|(refine Ar (f137_ok N b (by omega)) ?_)
   refine gO ?_;refine hJ _ (i+1) ⟨by simp at hlt;omega,trivial⟩ (by simp at hlt;omega) AR
  ·subst hil;exact AE _
theorem f79_ok(n:Need):Ad C0 79 [.agg n.c,.agg n.c] [] (B true) []:=by
 refine Ad.go f79 ?_;unfold f79;simp(disch:=omega)only[go_sem,beq_self_eq_true,Bool.and_self];refine Ai (f137_ok _ n.expr (Nat.lt_succ_self _)) (by simp(disch:=omega)only[go_sem,Expr.By]) rfl ?_;refine gO ?_;exact AE _
theorem f38_ok(s:WS)(h:Few s):Ad C0 38 [.agg s.c,.agg s.c] [] (B true) []:=by
 have h1:=h.nq;have h2:=h.nn;refine Ad.go f38 ?_;unfold f38;refine gO ?_;refine Ac (f78_ok s.Aa (by omega) h.aq) ?_;simp(disch:=omega)only[go_sem,bne_self_eq_false];refine Ab (α:=Nat) (fun i=>⟨[(5,I i),(2,.ptr 128 0),(3,.ptr 192 0)],[(128,s.c),(192,s.c)]⟩) (fun i=>i≤(s.Ao).length∧True) (fun i=>(s.Ao).length-i) 0 ⟨by omega,trivial⟩ ?_ ?_
 ·exact BB
 rintro i ⟨hi,hP⟩ J hJ;refine gO ?_;refine ⟨fun hlt=>?_,fun hge=>?_⟩;rotate_left;have hil:i=(s.Ao).length:=by simp at hge;omega
 rotate_left;obtain⟨b,hb⟩:∃ b,(s.Ao)[i]?=some b:=⟨_,gE (by simp at hlt;omega)⟩;have hbm:=mG hb;have hlt2:i<(s.Ao).length:=by simp at hlt;omega
 refine Aq 10 [([],[2]),([],[28]),([],[5]),([],[29,30]),([],[31]),([],[3]),([],[33]),([],[5]),([],[34,35]),([],[36])] fol ?_;simp(disch:=omega)only[go_sem,gm,hb]
 ·first|(refine Ac (f79_ok b) ?_)|(refine Ar (f79_ok b) ?_)
  refine gO ?_;refine hJ _ (i+1) ⟨by simp at hlt;omega,trivial⟩ (by simp at hlt;omega) AR
 ·subst hil;exact AE _
theorem YW{s:WS}(h:Few s)(p:Ae):(Hh s p).1.length≤20000:=by
 unfold Hh;split
 ·rename_i hv;have hg:=Bh hv;split
  ·have key:∀ (l set:List Ae),set.length≤20000→(l.foldl (BU s p) set).length≤20000:=by
    intro l
    induction l with
    | nil=>intro set h;exact h
    | cons q l ih =>
     intro set hset;rw[List.foldl_cons];refine ih _ ?_;unfold BU;split
     ·exact hset
     ·split
      ·exact Ns (Lp h _) (Zm hg _)
      ·exact hset
   exact key _ _ (Ns h hg)
  ·simp
 ·simp
end Go.Rd
open Go Go.Abs Go.Proofs
set_option maxRecDepth 100000
namespace Go.Rd
set_option maxHeartbeats 8000000
theorem VU:∀ (n:Nat) (s:WS),Cm s→(Ah s).length≤n→∀ p,∀ x∈BG (BP s p),x∈BG s:=by
 intro n
 induction n with
 | zero =>
  intro s h hn p x hx;have hx:=MT _ _ (CE h p) (Nat.le_refl _) x hx;have:=((JP h p x).1 hx).1;rw[Nj hn]at this;cases this
 | succ n ih =>
  intro s h hn p x hx;cases hs:BT s with
  | nil =>
   rw[Ku h hs];exact((JP h p x).1 (MT _ _ (CE h p) (Nat.le_refl _) x hx)).1
  | cons g l =>
   rw[NW h hs]
   by_cases e:g=p
   ·rw[e];exact hx
   ·have hg:g∈BT s:=hs▸List.mem_cons_self;have d1:=EG h (DK.1 hg).1;refine ih _ (CE h g) (by omega) p x ?_;rw[QS h,← NV _ _ (CE h p) (Nat.le_refl _) g (N1 h e hg)];exact hx
theorem RH(l:List Ae)(ms:List Ae):∀ s:WS,Cm s→Cm (ms.foldl (fun x p=>if Be l p then x else BP x p) s)∧∀ x∈BG (ms.foldl (fun x p=>if Be l p then x else BP x p) s),x∈BG s:=by
 induction ms with
 | nil=>exact fun _ h=>⟨h,fun _ h=>h⟩
 | cons m ms ih =>
  intro s h;simp only[List.foldl_cons];split
  ·exact ih s h
  ·have:=ih _ (CE h m);exact⟨this.1,fun x hx=>VU _ s h (Nat.le_refl _) m x (this.2 x hx)⟩
theorem Lt{s:WS}(h:Cm s)(l:List Ae):Cm (BY s l):=(RH l _ s h).1
theorem XI{s:WS}(h:Cm s)(l:List Ae):∀ x∈BG (BY s l),x∈BG s:=(RH l _ s h).2
end Go.Rd
open Go Go.Abs Go.Proofs
set_option maxRecDepth 100000
namespace Go.Rd
set_option maxHeartbeats 8000000
open List (map_cons map_nil take_add_one take_length)
open Bool (and_eq_true)
open Option (getD_none getD_some isSome_none isSome_some toList_some)
open Tryz
theorem f83_ok(a b:Cause)(hl:a.members.length≤1000000)(hm:b.members.length≤1000000):Ad C0 83 [.agg a.c,.agg b.c] [] (B (decide (a=b))) []:=by
 refine Ad.go f83 ?_;unfold f83;refine gO ?_
 by_cases h1:a.proc=b.proc
 rotate_left
 ·have h0:a≠b:=fun h=>h1 (by rw[h])
  simp(disch:=omega)only[go_sem,h1,decide_false];refine Ap _ ?_;exact wb (by simp[h0])
 simp(disch:=omega)only[go_sem,h1,decide_true]
 by_cases h2:a.name=b.name
 rotate_left
 ·have h0:a≠b:=fun h=>h2 (by rw[h])
  have e:(a.name==b.name)=false:=by simp[h2]
  simp(disch:=omega)only[go_sem,e];refine Ap _ ?_;exact wb (by simp[h0])
 have e2:(a.name==b.name)=true:=by simp[h2]
 simp(disch:=omega)only[go_sem,e2]
 by_cases h3:a.why=b.why
 rotate_left
 ·have h0:a≠b:=fun h=>h3 (by rw[h])
  have e:(a.why==b.why)=false:=by simp[h3]
  simp(disch:=omega)only[go_sem,e];refine Ap _ ?_;exact wb (by simp[h0])
 have e3:(a.why==b.why)=true:=by simp[h3]
 simp(disch:=omega)only[go_sem,e3];refine Ac (f24_ok a.members b.members hl hm) ?_;refine gO ?_;refine Ap _ ?_;obtain⟨a1,a2,a3,a4⟩:=a;obtain⟨b1,b2,b3,b4⟩:=b;simp only at h1 h2 h3;subst h1 h2 h3;exact wb (by simp)
mutual
theorem Y5:∀ e f:Expr,eqE e f=true→e=f
 |.mk k a l,.mk k' a' l',h=>by
  rw[MX]at h;simp only[Bool.and_eq_true,Expr.k,Expr.atom,Expr.kids]at h;obtain⟨⟨h1,h2⟩,h3⟩:=h;rw[of_decide_eq_true h1,of_decide_eq_true h2,WQ l l' h3]
theorem WQ:∀ l m:List Expr,BL eqE l m=true→l=m
 |[],[],_=>rfl
 |[],_::_,h=>by simp[BL]at h
 |_::_,[],h=>by simp[BL]at h
 | e::l,f::m,h=>by
  simp only[BL,Bool.and_eq_true]at h;rw[Y5 e f h.1,WQ l m h.2]
end
end Go.Rd
open Go Go.Abs Go.Proofs
set_option maxRecDepth 100000
namespace Go.Rd
set_option maxHeartbeats 8000000
theorem WR:∀ l m:List Need,BL eqN l m=true→l=m
 |[],[],_=>rfl
 |[],_::_,h=>by simp[BL]at h
 |_::_,[],h=>by simp[BL]at h
 | ⟨p,e,g⟩::l,⟨p',e',g'⟩::m,h=>by
  simp only[BL,eqN,Bool.and_eq_true,decide_eq_true_eq]at h;obtain⟨⟨⟨h1,h2⟩,h3⟩,h4⟩:=h;rw[h1,h2,Y5 e e' h3,WR l m h4]
theorem U0(q:Queue):Br (F6 q)=Br q:=by
 unfold Br F6 Bt;simp only[List.map_append,List.map_map];rfl
theorem Wn(q:Queue)(p:Ae):(As (F6 q) p).isSome=(As q p).isSome:=by
 refine Bool.eq_iff_iff.2 ?_;rw[NI,NI];simp only[F6,List.mem_append,List.mem_map];constructor
 ·rintro⟨w,hw|⟨v,hv,rfl⟩,rfl⟩
  ·exact⟨w,.inl hw,rfl⟩
  ·exact⟨v,.inr hv,rfl⟩
 ·rintro⟨w,hw|hw,rfl⟩
  ·exact⟨w,.inl hw,rfl⟩
  ·exact⟨DH w,.inr ⟨w,hw,rfl⟩,rfl⟩
theorem O7(p:Ae)(name:Bs)(l:List Queue):CR (l.map F6) p name=CR l p name:=by
 unfold CR;rw[List.foldl_map];congr 1;funext w q;rw[Wn];rfl
theorem QL(l:List Queue):(l.map F6).flatMap Br=l.flatMap Br:=by
 rw[List.flatMap_map];congr 1;funext q;exact U0 q
theorem VD{a b:WS}(h:Js a b=true):Ah a=Ah b∧∀ p,BH a p=BH b p:=by
 simp only[Js,Bool.and_eq_true]at h;have h2:=WR _ _ h.2;have h1:a.Aa.map F6=b.Aa.map F6:=by
  have:=h.1;rw[Lk (g:=F6) MA]at this;exact of_decide_eq_true this
 constructor
 ·unfold Ah AN;rw[h2,← QL a.Aa,h1,QL]
 ·intro p;unfold BH CU;rw[h2];cases b.Ao.find? (fun n=>decide (n.proc=p)) with
  |none=>rfl
  |some n =>
   simp only;congr 2;funext x;rw[← O7,h1,O7]
end Go.Rd
open Go Go.Abs Go.Proofs
set_option maxRecDepth 100000
namespace Go.Rd
set_option maxHeartbeats 8000000
open List (cons_append nil_append)
open Tryz
theorem f43_ok(w:Wit)(h:Few w.state)(hm:w.members.length≤1000000)(hc:w.AJ.length≤10000000)(hcm:∀ c∈w.AJ,c.members.length≤1000000):Ad C0 43 [.agg w.c,.agg w.c] [] (B true) []:=by
 refine Ad.go f43 ?_;unfold f43;refine gO ?_;refine Ac (f38_ok w.state h) ?_;refine gO ?_;refine Ac (f24_ok w.members w.members hm hm) ?_;simp(disch:=omega)only[go_sem,decide_true,bne_self_eq_false];refine Ab (α:=Nat) (fun i=>⟨[(5,I i),(2,.ptr 128 0),(3,.ptr 192 0)],[(128,w.c),(192,w.c)]⟩) (fun i=>i≤(w.AJ).length∧True) (fun i=>(w.AJ).length-i) 0 ⟨by omega,trivial⟩ ?_ ?_
 ·exact BB
 rintro i ⟨hi,hP⟩ J hJ;refine gO ?_;refine ⟨fun hlt=>?_,fun hge=>?_⟩;rotate_left;have hil:i=(w.AJ).length:=by simp at hge;omega
 rotate_left;obtain⟨b,hb⟩:∃ b,(w.AJ)[i]?=some b:=⟨_,gE (by simp at hlt;omega)⟩;have hbm:=mG hb;have hlt2:i<(w.AJ).length:=by simp at hlt;omega
 refine Aq 10 [([],[2]),([],[36]),([],[5]),([],[37,38]),([],[39]),([],[3]),([],[41]),([],[5]),([],[42,43]),([],[44])] fol ?_;simp(disch:=omega)only[go_sem,gm,hb]
 ·first|(refine Ac (f83_ok b b (hcm b hbm) (hcm b hbm)) ?_)|(refine Ar (f83_ok b b (hcm b hbm) (hcm b hbm)) ?_)
  simp(disch:=omega)only[go_sem,decide_true];refine hJ _ (i+1) ⟨by simp at hlt;omega,trivial⟩ (by simp at hlt;omega) AR
 ·subst hil;exact AE _
end Go.Rd
open Go Go.Abs Go.Proofs
set_option maxRecDepth 100000
namespace Go.Rd
set_option maxHeartbeats 8000000
open List (mem_cons)
theorem Z2{s:WS}{f:Ae}(hf:f∉Ah s):BP s f=s:=by
 have hn:∀ q∈s.Aa,f∉Br q:=fun q hq hm=>hf ((Dc s f).2 (.inl ⟨q,hq,hm⟩))
 have e1:(s.Aa.map fun q=>Cd q f)=s.Aa:=by
  conv=>rhs;rw[← List.map_id s.Aa]
  refine List.map_congr_left fun q hq=>?_
  have:Be (Br q) f=false:=by simpa [Be]using hn q hq
  simp[Cd,this]
 have e2:Jf s.Ao f=s.Ao:=by
  unfold Jf;rw[List.filter_eq_self];intro n hm;exact decide_eq_true fun e=>hf ((Dc s f).2 (.inr ⟨n,hm,e⟩))
 unfold BP;rw[e1,e2]
theorem Z5{s:WS}(hg:Cm s){l:List Ae}{f:Ae}(hf:Be l f=false):BY (BP s f) l=BY s l:=by
 by_cases hm:f∈Ah s
 ·exact Xb hg hf hm
 ·rw[Z2 hm]
theorem QT{A B:List Ae}(h:∀ x,Be B x=true→Be A x=true):∀ (ms:List Ae) (s:WS),Cm s→BY (F3 A ms s) B=BY s B
 |[],_,_=>rfl
 | m::ms,s,hg=>by
  show BY (F3 A ms (if Be A m then s else BP s m)) B=BY s B;split
  ·exact QT h ms s hg
  ·rename_i hm;rw[QT h ms _ (CE hg m)];refine Z5 hg ?_;cases hb:Be B m
   ·rfl
   ·exact absurd (h m hb) hm
theorem Xc{s:WS}(hg:Cm s){A B:List Ae}(h:∀ x,Be B x=true→Be A x=true):BY (BY s A) B=BY s B:=QT h _ s hg
theorem Qr{A:List Ae}{x:Ae}:∀ (ms:List Ae) (s:WS),Cm s→x∈Ah (F3 A ms s)→x∈Ah s∧(x∈ms→Be A x=true)
 |[],_,_,h=>⟨h,fun h=>by cases h⟩
 | m::ms,s,hg,h=>by
  have h':x∈Ah (F3 A ms (if Be A m then s else BP s m)):=h;split at h'
  ·rename_i hm;obtain⟨a,b⟩:=Qr ms s hg h';refine⟨a,fun hx=>?_⟩;rcases mem_cons.1 hx with rfl|hx
   ·exact hm
   ·exact b hx
  ·obtain⟨a,b⟩:=Qr ms _ (CE hg m) h';obtain⟨a1,a2⟩:=(JP hg m x).1 a;refine⟨a1,fun hx=>?_⟩;rcases mem_cons.1 hx with rfl|hx
   ·exact absurd rfl a2
   ·exact b hx
theorem PC{s:WS}(hg:Cm s){A:List Ae}{x:Ae}(h:x∈Ah (BY s A)):x∈A∧x∈Ah s:=by
 obtain⟨a,b⟩:=Qr (Ah s) s hg h;exact⟨by simpa [Be]using b a,a⟩
def Ij(s:WS)(A:List Ae):List Ae:=BG (BY s A)
theorem NU{s:WS}(hg:Cm s){A:List Ae}{x:Ae}(h:x∈Ij s A):x∈A:=(PC hg (MT _ _ (Lt hg A) (Nat.le_refl _) x h)).1
theorem VS{s:WS}(hg:Cm s){A B:List Ae}(h:∀ x,x∈A→x∈B){x:Ae}(hx:x∈Ij s A):x∈Ij s B:=by
 unfold Ij at *;rw[← Xc (s:=s) hg (A:=B) (B:=A) (fun x hx=>by simp only[Be,decide_eq_true_eq]at *;exact h x hx)]at hx;exact XI (Lt hg B) A x hx
theorem XH{s:WS}(hv:AD s=true)(hf:Few s):BG (BY s (BG s))=BG s:=by
 obtain⟨y,k,h,hy⟩:=Tz _ s 0 (Kc.start hv hf) (Nat.le_refl _);obtain⟨_,h2⟩:=h.fin hy;rw[h2,h.dead]
theorem P6{s:WS}(hv:AD s=true)(hf:Few s)(A:List Ae):Ij s (Ij s A)=Ij s A:=by
 have hg:=Bh hv;have:=XH (H7 hv A) (Lp hf A);unfold Ij;rw[← Xc (s:=s) hg (A:=A) (B:=BG (BY s A)) (fun x hx=>by simp only[Be,decide_eq_true_eq]at *;exact NU hg hx)];exact this
structure Mx(s:WS)(p:Ae)(set:List Ae):Prop where
 fix:Ij s set=set
 mem:p∈set
theorem XD{s:WS}(hv:AD s=true)(hf:Few s){p q:Ae}{set:List Ae}(h:Mx s p set):Mx s p (BU s p set q)∧(∀ x,x∈BU s p set q→x∈set)∧(q≠p→q∈BU s p set q→p∉Ij s (Eg set q)):=by
 have hg:=Bh hv;unfold BU;split
 ·rename_i h1;refine⟨h,fun x hx=>hx,fun hne hq=>?_⟩;rcases h1 with h1|h1
  ·exact absurd h1 hne
  ·simp[Be]at h1;exact absurd hq h1
 ·rename_i h1;split
  ·rename_i h2;refine⟨⟨P6 hv hf _,by simpa [Be]using h2⟩,fun x hx=>?_,fun _ hq=>?_⟩
   ·have:=NU hg (A:=Eg set q) hx;simp[Eg]at this;exact this.1
   ·have:=NU hg (A:=Eg set q) hq;simp[Eg]at this
  ·rename_i h2;exact⟨h,fun x hx=>hx,fun _ _ hp=>h2 (by simp only[Be,decide_eq_true_eq];exact hp)⟩
theorem RE{s:WS}(hv:AD s=true)(hf:Few s){p:Ae}:∀ (l set:List Ae),Mx s p set→Mx s p (l.foldl (BU s p) set)∧(∀ x,x∈l.foldl (BU s p) set→x∈set)∧∀ q∈l,q≠p→q∈l.foldl (BU s p) set→p∉Ij s (Eg (l.foldl (BU s p) set) q)
 |[],set,h=>⟨h,fun _ hx=>hx,fun _ hq=>by cases hq⟩
 | r::l,set,h=>by
  obtain⟨a1,a2,a3⟩:=XD hv hf (q:=r) h;obtain⟨b1,b2,b3⟩:=RE hv hf l _ a1;refine⟨b1,fun x hx=>a2 x (b2 x hx),fun q hq hne hm=>?_⟩;rcases mem_cons.1 hq with rfl|hq
  ·intro hp;have h1:=a3 hne (b2 _ hm);refine h1 (VS (Bh hv) (fun x hx=>?_) hp);simp only[Eg,List.mem_filter,decide_eq_true_eq]at hx ⊢;exact⟨a2 x (b2 x hx.1),hx.2⟩
  ·exact b3 q hq hne hm
theorem YV{s:WS}(hv:AD s=true)(hf:Few s){p:Ae}(hp:p∈BG s){core:List Ae}(h:Hh s p=(core,0)):Ij s core=core∧p∈core:=by
 have hall:BY s (Ah s)=s:=Vc fun p hp=>by simpa [Be]using hp
 have h0:Mx s p (BG s):=⟨by
  have:=P6 hv hf (Ah s);unfold Ij at this;rw[hall]at this;exact this,hp⟩
 obtain⟨c1,_,_⟩:=RE hv hf (BG s) (BG s) h0;have hc:Hh s p=((BG s).foldl (BU s p) (BG s),0):=by
  have:Be (DW s).2 p=true:=by simp only[Be,decide_eq_true_eq];exact hp
  simp only[Hh,hv,if_true,this];rfl
 rw[hc]at h;have:=congrArg Prod.fst h;simp only at this;rw[← this];exact⟨c1.fix,c1.mem⟩
end Go.Rd
