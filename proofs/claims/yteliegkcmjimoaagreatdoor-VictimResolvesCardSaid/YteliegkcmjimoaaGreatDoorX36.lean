/- part 36 of the proof -/
import Derived.Test.YteliegkcmjimoaaGreatDoorX35
set_option linter.all false
open Go Go.Abs Go.Proofs
set_option maxRecDepth 100000
namespace Go.Rd
set_option maxHeartbeats 8000000
open List (cons_append length_map length_take mem_cons mem_map nil_append take_add_one take_length)
open Bool (false_eq_true)
open Nat (le_refl)
open Tryz
def kq:∀ (N:Nat) (e:Expr),SizeOf.sizeOf e<N->dS N e->Ad C0 147 [.agg e.c] [] (.agg e.c) []
 | 0,_,h,_=>by omega
 | N+1,e,h,hk=>by
  have XS:=hk.1;refine Ad.lens f147 λhlen=>?_
  simp only[FZ,lens,Expr.Dg,length_map,and_true,true_and]at hlen;refine Ad.go f147 ?_;unfold f147;refine gO ?_;refine AF (e.kids) (λi=>⟨[(9,I i),(8,I e.kids.length),(7,JP e.kids),(1,.ptr 64 0),(2,.ptr 128 0),(3,.sl (.own 1088 0) 5 ((e.kids.take i).map Expr.c))],[(64,e.c),(128,(Expr.mk 0 a0 []).c)]⟩) (λi=>True) trivial ?_ ?_
  ·refine AT.Aq ?_ ?_
   all_goals(try simp(disch:=omega)only[go_sem])
   all_goals(try(repeat'(with_reducible apply And.intro)))
   all_goals(first|exact .Cr (by omega)|exact .A8 (by omega)|exact .sl (by simp[a0,Expr.Dg,Expr.k,Expr.atom,Expr.kids])|exact .int (by simp[a0,Expr.Dg,Expr.k,Expr.atom,Expr.kids])|exact .eq (by simp[a0,Expr.Dg,Expr.k,Expr.atom,Expr.kids]))
  rintro i ⟨hi,hP⟩ J hJ;refine gO ?_;refine Bo hi (λAP b hb Cg AX=>?_) λBa=>?_
  simp(disch:=omega)only[go_sem,gm,hb]
  ·have Hb:=EM Cg;have H0:i<e.kids.length:=by omega
   have ID:min i e.kids.length+1<=4294967296:=by omega
   refine Ab (kq N b (by omega) (hk.2 b Cg)) ?_;simp(disch:=omega)only[go_sem,length_map,length_take];refine hJ _ (i+1) ⟨by omega,trivial⟩ (by omega) (AT.Aq ?_ ?_)
   ·simp(disch:=omega)only[go_sem];exact .sl (by simp[take_add_one,hb,Expr.Dg])
   ·simp(disch:=omega)only[go_sem,Expr.Dg]
  ·subst Ba;simp(disch:=omega)only[go_sem,take_length];refine CU ⟨[],[],[1088]⟩ _ ?_;simp(disch:=omega)only[go_sem,Expr.Dg]
def AaK(s:WS)(o:C1)(h:Iy s)(hl:o.lower.length<=1000000):Ad C0 92 [.agg s.c,.agg o.c] [] (.BC [.agg (Cm s o).1.c,I (Cm s o).2]) []:=by
 have dD:=h.nq;have Y4:=h.nn;have Sv:=De h;refine Ad.go f92 ?_;unfold f92;refine gO ?_;refine Ab (Qz s h) ?_;cases hv:AI s
 ·have e:Cm s o=(N9,2):=by simp[Cm,hv]
  simp(disch:=omega)only[go_sem,e,N9];refine Al _ ?_;refine .BC (Ae.AJ ?_);simp(disch:=omega)only[go_sem]
  repeat'(with_reducible apply And.intro)
  all_goals(first|exact .A8 (by omega)|exact .agg (Ae.AJ gI))
 refine gO ?_;refine Ab (qV o) ?_;cases ho:Cc o
 ·have e:Cm s o=(N9,1):=by simp[Cm,hv,ho]
  simp(disch:=omega)only[go_sem,e,N9];refine Al _ ?_;refine .BC (Ae.AJ ?_);simp(disch:=omega)only[go_sem]
  repeat'(with_reducible apply And.intro)
  all_goals(first|exact .A8 (by omega)|exact .agg (Ae.AJ gI))
 refine gO ?_;refine Ay 4 [([],[2]),([],[22]),([],[3]),([],[24])] B6 ?_;refine gO ?_
 first|(refine Ab (LB s h) ?_)|(refine Ax (LB s h) ?_)
 refine gO ?_
 first|(refine Ab (KE (Ag s) o.proc (by omega)) ?_)|(refine Ax (KE (Ag s) o.proc (by omega)) ?_)
 cases hp:Br (Ag s) o.proc
 ·have e:Cm s o=(N9,10):=by simp[Cm,hv,ho,hp]
  simp(disch:=omega)only[go_sem,e,N9];refine Al _ ?_;refine .BC (Ae.AJ ?_);simp(disch:=omega)only[go_sem]
  repeat'(with_reducible apply And.intro)
  all_goals(first|exact .A8 (by omega)|exact .agg (Ae.AJ gI))
 have e:Cm s o=(FK s o,0):=by simp[Cm,hv,ho,hp]
 rw[e];have hg:=Be hv;have he:=Kf hv;refine gO ?_;refine AF (s.Aa) (λi=>⟨[(32,I i),(31,I s.Aa.length),(30,AN s.Aa),(2,.ptr 128 0),(3,.ptr 192 0),(6,.ptr 384 0),(4,.ptr 256 0)],[(128,s.c),(192,o.c),(256,jO),(384,[.sl (.own 2688 0) 8 (((s.Aa.take i).map (Fj o)).map Queue.c),.v (.slice none 0 0)])]⟩) (λi=>True) trivial ?_ ?_
 ·exact Ce
 rintro i ⟨hi,hP⟩ J hJ;refine gO ?_;refine Bo hi (λAP b hb Cg AX=>?_) λBa=>?_
 simp(disch:=omega)only[go_sem,gm,hb]
 ·have ha:=h.aq b Cg;have Aa1:min i s.Aa.length+1<=4294967296:=by omega
  refine Ay 6 [([],[6]),([],[36]),([],[8]),([],[3]),([],[38,39]),([4],[40])] B6 ?_;refine gO ?_
  first|(refine Ab (ko b o ha (hg b Cg) hl) ?_)|(refine Ax (ko b o ha (hg b Cg) hl) ?_)
  simp(disch:=omega)only[go_sem,length_map,length_take];refine hJ _ (i+1) ⟨by omega,trivial⟩ (by omega) (AT.Aq gI ?_);refine gO ?_;exact .sl (by simp[take_add_one,hb,Queue.c])
 subst Ba;rw[take_length];clear hJ;refine AF (s.Aw) (λi=>⟨[(48,I i),(47,I s.Aw.length),(46,Io s.Aw),(3,.ptr 192 0),(6,.ptr 384 0),(4,.ptr 256 0)],[(192,o.c),(256,jO),(384,[.sl (.own 2688 0) 8 ((s.Aa.map (Fj o)).map Queue.c),.sl (.own 4224 0) 9 ((E7 (s.Aw.take i) o.proc).map Need.c)])]⟩) (λi=>True) trivial ?_ ?_
 ·exact Ce
 rintro i ⟨hi,hP⟩ J hJ;refine gO ?_;refine Bo hi (λAP b hb Cg AX=>?_) λBa=>?_
 simp(disch:=omega)only[go_sem,gm,hb]
 ·have ID:(E7 (s.Aw.take i) o.proc).length+1<=4294967296:=by
   have:(E7 (s.Aw.take i) o.proc).length<=(s.Aw.take i).length:=List.length_filter_le _ _;rw[length_take]at this;omega
  refine Ab (LC b.proc o.proc) ?_;refine gO ?_;have e1:E7 (s.Aw.take (i+1)) o.proc=if b.proc=o.proc then E7 (s.Aw.take i) o.proc else E7 (s.Aw.take i) o.proc++[b]:=by
   simp only[E7,take_add_one,hb,Option.toList_some,List.filter_append,List.filter_cons,List.filter_nil]
   by_cases h:b.proc=o.proc<;>simp[h]
  refine And.intro (λhh=>?_) (λhh=>?_)
  ·have CZ:¬ b.proc=o.proc:=by simpa using hh
   rw[if_neg CZ]at e1;refine Ai (kq _ b.expr (Nat.lt_succ_self _) (T4 (he b Cg) _)) (by simp(disch:=omega)only[go_sem,Expr.Dg]) rfl ?_;simp(disch:=omega)only[go_sem,Expr.Dg,length_map];refine hJ _ (i+1) ⟨by omega,trivial⟩ (by omega) (AT.Aq gI ?_);refine gO ?_;exact .sl (by rw[e1];simp[Need.c])
  ·have heq:b.proc=o.proc:=by simpa using hh
   rw[if_pos heq]at e1;refine hJ _ (i+1) ⟨by omega,trivial⟩ (by omega) (AT.Aq gI ?_);simp(disch:=omega)only[go_sem,e1]
 ·subst Ba;simp(disch:=omega)only[go_sem,take_length];refine CU ⟨[],[],[2688,4224]⟩ _ ?_;simp(disch:=omega)only[go_sem,FK];exact .eq (by simp)
def Zk{o:C1}{r:Queue}(ho:Cc o=true)(hv:valid r=true)(hw:Ar r o.proc=none)(i:Nat)(hi:i<=o.lower.length):G4 o.proc r ((o.lower.take i).foldl (λq a=>IY o.proc a q) r):=by
 rw[eh ho hv hw i hi];split
 ·grind[PI]
 ·exact .refl hv
def qR(s:WS)(o:C1)(h:Iy s)(hl:o.lower.length<=1000000):Ad C0 25 [.agg s.c,.agg o.c] [] (.BC [.agg (Cm s o).1.c,I (Cm s o).2]) []:=by
 have dD:=h.nq;have Y4:=h.nn;have Sv:=De h;refine Ad.go f25 ?_;unfold f25;refine gO ?_;refine Ab (SO s h) ?_;cases hv:AI s
 ·have e:Cm s o=(N9,2):=by simp[Cm,hv]
  simp only[go_sem,e,N9];refine Al _ ?_;refine .BC (Ae.AJ ?_);refine gO ?_
  repeat'(with_reducible apply And.intro)
  all_goals(first|exact .A8 (by omega)|exact .agg (Ae.AJ gI))
 refine gO ?_;refine Ab (hZ o) ?_;cases ho:Cc o
 ·have e:Cm s o=(N9,1):=by grind[Cm]
  simp only[go_sem,e,N9];refine Al _ ?_;refine .BC (Ae.AJ ?_);refine gO ?_
  repeat'(with_reducible apply And.intro)
  all_goals(first|exact .A8 (by omega)|exact .agg (Ae.AJ gI))
 refine gO ?_;refine Ay 4 [([],[2]),([],[31]),([],[3]),([],[33])] B6 (gO ?_)
 first|(refine Ab (Ow s h) ?_)|(refine Ax (Ow s h) ?_)
 refine gO ?_
 first|(refine Ab (KG (Ag s) o.proc (by omega)) ?_)|(refine Ax (KG (Ag s) o.proc (by omega)) ?_)
 cases hp:Br (Ag s) o.proc
 ·have e:Cm s o=(N9,10):=by grind[Cm]
  simp only[go_sem,e,N9];refine Al _ ?_;refine .BC (Ae.AJ ?_);refine gO ?_
  repeat'(with_reducible apply And.intro)
  all_goals(first|exact .A8 (by omega)|exact .agg (Ae.AJ gI))
 have e:Cm s o=(FK s o,0):=by grind[Cm]
 rw[e];have hg:=Be hv;refine gO ?_;refine AF (s.Aw) (λi=>⟨[(41,I i),(40,I s.Aw.length),(39,Io s.Aw),(2,.ptr 128 0),(3,.ptr 192 0),(6,.ptr 384 0),(4,.ptr 256 0)],[(128,s.c),(192,o.c),(256,jO),(384,[.v (.slice none 0 0),.sl (.own 3456 0) 9 ((E7 (s.Aw.take i) o.proc).map Need.c)])]⟩) (λi=>True) trivial ?_ ?_
 ·exact Ce
 rintro i ⟨hi,hP⟩ J hJ;refine gO ?_;refine Bo hi (λAP b hb Cg AX=>?_) λBa=>?_
 simp(disch:=omega)only[go_sem,hb]
 ·have ID:(E7 (s.Aw.take i) o.proc).length+1<=4294967296:=by
   grind[E7]
  have e1:E7 (s.Aw.take (i+1)) o.proc=if b.proc=o.proc then E7 (s.Aw.take i) o.proc else E7 (s.Aw.take i) o.proc++[b]:=by grind[E7,take_add_one]
  refine And.intro (λhh=>?_) (λhh=>?_)
  ·have CZ:¬ b.proc=o.proc:=by grind
   rw[if_neg CZ]at e1;refine gO ?_;refine hJ _ (i+1) ⟨by omega,trivial⟩ (by omega) (AT.Aq gI ?_);rw[e1];refine gO ?_;exact .sl (by simp[Need.c])
  ·have CZ:b.proc=o.proc:=by grind
   rw[if_pos CZ]at e1;refine hJ _ (i+1) ⟨by omega,trivial⟩ (by omega) (AT.Aq gI ?_);rw[e1];exact gI
 subst Ba;rw[take_length];clear hJ;refine AF (s.Aa) (λi=>⟨[(60,I i),(59,I s.Aa.length),(58,AN s.Aa),(3,.ptr 192 0),(6,.ptr 384 0),(4,.ptr 256 0)],[(192,o.c),(256,jO),(384,[.sl (.own 8960 0) 8 (((s.Aa.take i).map (Fj o)).map Queue.c),.sl (.own 3456 0) 9 ((E7 s.Aw o.proc).map Need.c)])]⟩) (λi=>True) trivial ?_ ?_
 ·exact Ce
 rintro i ⟨hi,hP⟩ J hJ;refine gO ?_;refine Bo hi (λAP b hb Cg AX=>?_) λBa=>?_
 simp(disch:=omega)only[go_sem,hb]
 ·have ha:=h.aq b Cg;have hvb:=hg b Cg;obtain⟨h1,h2,h3⟩:=Bt ha;have Aa1:min i s.Aa.length+1<=4294967296:=by omega
  refine Ab (Nc b o.proc h2 h3) ?_;obtain⟨hx,Ui⟩:=aj o hvb;have rA:Fj o b = { D5 o (La o b) with gen:=b.gen }:=rfl;have fin:∀ st',AT ⟨C0,[]⟩ st' ⟨[(60,I (i+1:Nat)),(59,I s.Aa.length),(58,AN s.Aa),(3,.ptr 192 0),(6,.ptr 384 0),(4,.ptr 256 0)],[(192,o.c),(256,jO),(384,[.sl (.own 8960 0) 8 (((s.Aa.take i).map (Fj o)).map Queue.c++[(Fj o b).c]),.sl (.own 3456 0) 9 ((E7 s.Aw o.proc).map Need.c)])]⟩->J st':=λst' h=>by
   refine hJ st' (i+1) ⟨by omega,trivial⟩ (by omega) ?_;have e:((s.Aa.take (i+1)).map (Fj o)).map Queue.c=((s.Aa.take i).map (Fj o)).map Queue.c++[(Fj o b).c]:=by grind[take_add_one]
   rw[e];exact h
  clear hJ;have hw0:(Ar b o.proc).isSome=false->La o b=b:=λhw=>by grind[La,Bd]
  have iN:(Ar b o.proc).isSome=true->La o b=(Bd b o.proc).1:=λhw=>by grind[La]
  obtain⟨q,rfl⟩:∃ q,q=b:=⟨b,rfl⟩;obtain⟨k,rfl⟩:∃ k,k=i:=⟨i,rfl⟩;cases hw:(Ar q o.proc).isSome
  ·have hr:=hw0 hw;rw[hr]at hx Ui rA;have hrv:valid q=true:=hx.val;refine gO ?_;refine AF (o.lower) (λi=>⟨[(85,I i),(84,I o.lower.length),(83,BG o.lower),(3,.ptr 192 0),(10,.ptr 640 0),(11,I q.gen),(60,I k),(59,I s.Aa.length),(58,AN s.Aa),(6,.ptr 384 0),(4,.ptr 256 0)],[(640,((o.lower.take i).foldl (λq a=>IY o.proc a q) q).c),(192,o.c),(256,jO),(384,[.sl (.own 8960 0) 8 (((s.Aa.take k).map (Fj o)).map Queue.c),.sl (.own 3456 0) 9 ((E7 s.Aw o.proc).map Need.c)])]⟩) (λi=>True) trivial ?_ ?_
   ·exact Ce
   rintro i ⟨hi,hP⟩ J hJ;refine gO ?_;refine Bo hi (λAP b hb Cg AX=>?_) λBa=>?_
   simp(disch:=omega)only[go_sem,hb]
   ·have hxi:=Zk ho hrv Ui i hi;have bk:(o.lower.take (i+1)).foldl (λq a=>IY o.proc a q) q=IY o.proc b ((o.lower.take i).foldl (λq a=>IY o.proc a q) q):=by grind[take_add_one]
    generalize (o.lower.take i).foldl (λq a=>IY o.proc a q) q=y at hxi bk;have hyv:=hxi.val;have hya:=MP hyv;obtain⟨y1,y2,y3⟩:=Bt hya;refine Ab (E0 y o.proc y1) ?_;have cp:∀ z,IY o.proc b y=z->∀ st',AT ⟨C0,[]⟩ st' ⟨[(85,I (i+1:Nat)),(84,I o.lower.length),(83,BG o.lower),(3,.ptr 192 0),(10,.ptr 640 0),(11,I q.gen),(60,I k),(59,I s.Aa.length),(58,AN s.Aa),(6,.ptr 384 0),(4,.ptr 256 0)],[(640,z.c),(192,o.c),(256,jO),(384,[.sl (.own 8960 0) 8 (((s.Aa.take k).map (Fj o)).map Queue.c),.sl (.own 3456 0) 9 ((E7 s.Aw o.proc).map Need.c)])]⟩->J st':=λz hz st' h=>by
     refine hJ st' (i+1) ⟨by omega,trivial⟩ (by omega) ?_;rw[bk,hz];exact h
    clear hJ
    by_cases hn:b.name=y.res.name
    rotate_left
    ·have n0:(b.name==y.res.name)=false:=by grind
     simp(disch:=omega)only[go_sem,n0];exact cp y (Ns hn) _ AK
    have n0:(b.name==y.res.name)=true:=by grind
    by_cases hd:Am y.holds o.proc=b.AH
    ·have e1:decide (Am y.holds o.proc=b.AH)=true:=decide_eq_true hd;simp(disch:=omega)only[go_sem,n0,e1];exact cp y (by simp_all[IY]) _ AK
    have e1:decide (Am y.holds o.proc=b.AH)=false:=decide_eq_false hd;simp only[go_sem,n0,e1];refine Ab (Fp b.AH) ?_;have low:(b.AH.zero=true\/y.res.covers (Am y.holds o.proc) b.AH=true)->IY o.proc b y=if (AD y o.proc b.AH).2.2=0 then (AD y o.proc b.AH).1 else y:=λhh=>by simp_all[IY]
    cases hz:b.AH.zero
    ·refine gO ?_;refine Ab (KH y.res (Am y.holds o.proc) b.AH) ?_;cases hc:y.res.covers (Am y.holds o.proc) b.AH
     ·refine gO ?_;exact cp y (by simp_all[IY]) _ AK
     have ja:=low (.inr hc);refine gO ?_;refine Ab (Wl y o.proc b.AH hya) ?_;generalize AD y o.proc b.AH=w at ja;obtain⟨w1,w2,w3⟩:=w
     by_cases hs:w3=0
     ·subst hs;refine gO ?_;exact cp w1 (by grind) _ AK
     ·have bt:(w3==0)=false:=by grind
      simp(disch:=omega)only[go_sem,bt];exact cp y (by grind) _ AK
    ·have ja:=low (.inl hz);refine gO ?_;refine Ab (Wl y o.proc b.AH hya) ?_;generalize AD y o.proc b.AH=w at ja;obtain⟨w1,w2,w3⟩:=w
     by_cases hs:w3=0
     ·subst hs;refine gO ?_;exact cp w1 (by grind) _ AK
     ·have bt:(w3==0)=false:=by grind
      simp(disch:=omega)only[go_sem,bt];exact cp y (by grind) _ AK
   ·subst Ba;rw[take_length,lZ ho hrv Ui];have hlx:=PI o hrv Ui;obtain⟨z1,z2,z3⟩:=Bt (MP hlx.val);refine Ab (SP (D5 o q) z1 z2 z3) ?_;simp(disch:=omega)only[go_sem];refine fin _ (AT.Aq gI ?_);rw[rA];exact gI
  ·refine gO ?_;refine Ab (qW q o.proc ha) ?_;generalize Bd q o.proc=c at iN;obtain⟨r,g,x⟩:=c;have hr:=iN hw;simp only at hr;rw[hr]at hx Ui rA;have hrv:valid r=true:=hx.val;refine gO ?_;refine AF (o.lower) (λi=>⟨[(85,I i),(84,I o.lower.length),(83,BG o.lower),(3,.ptr 192 0),(10,.ptr 640 0),(11,I q.gen),(60,I k),(59,I s.Aa.length),(58,AN s.Aa),(6,.ptr 384 0),(4,.ptr 256 0)],[(640,((o.lower.take i).foldl (λq a=>IY o.proc a q) r).c),(192,o.c),(256,jO),(384,[.sl (.own 8960 0) 8 (((s.Aa.take k).map (Fj o)).map Queue.c),.sl (.own 3456 0) 9 ((E7 s.Aw o.proc).map Need.c)])]⟩) (λi=>True) trivial ?_ ?_
   ·exact Ce
   rintro i ⟨hi,hP⟩ J hJ;refine gO ?_;refine Bo hi (λAP b hb Cg AX=>?_) λBa=>?_
   simp(disch:=omega)only[go_sem,hb]
   ·have hxi:=Zk ho hrv Ui i hi;have bk:(o.lower.take (i+1)).foldl (λq a=>IY o.proc a q) r=IY o.proc b ((o.lower.take i).foldl (λq a=>IY o.proc a q) r):=by grind[take_add_one]
    generalize (o.lower.take i).foldl (λq a=>IY o.proc a q) r=y at hxi bk;have hyv:=hxi.val;have hya:=MP hyv;obtain⟨y1,y2,y3⟩:=Bt hya;refine Ab (E0 y o.proc y1) ?_;have cp:∀ z,IY o.proc b y=z->∀ st',AT ⟨C0,[]⟩ st' ⟨[(85,I (i+1:Nat)),(84,I o.lower.length),(83,BG o.lower),(3,.ptr 192 0),(10,.ptr 640 0),(11,I q.gen),(60,I k),(59,I s.Aa.length),(58,AN s.Aa),(6,.ptr 384 0),(4,.ptr 256 0)],[(640,z.c),(192,o.c),(256,jO),(384,[.sl (.own 8960 0) 8 (((s.Aa.take k).map (Fj o)).map Queue.c),.sl (.own 3456 0) 9 ((E7 s.Aw o.proc).map Need.c)])]⟩->J st':=λz hz st' h=>by
     refine hJ st' (i+1) ⟨by omega,trivial⟩ (by omega) ?_;rw[bk,hz];exact h
    clear hJ
    by_cases hn:b.name=y.res.name
    rotate_left
    ·have n0:(b.name==y.res.name)=false:=by grind
     simp(disch:=omega)only[go_sem,n0];exact cp y (Ns hn) _ AK
    have n0:(b.name==y.res.name)=true:=by grind
    by_cases hd:Am y.holds o.proc=b.AH
    ·have e1:decide (Am y.holds o.proc=b.AH)=true:=decide_eq_true hd;simp(disch:=omega)only[go_sem,n0,e1];exact cp y (by simp_all[IY]) _ AK
    have e1:decide (Am y.holds o.proc=b.AH)=false:=decide_eq_false hd;simp only[go_sem,n0,e1];refine Ab (Fp b.AH) ?_;have low:(b.AH.zero=true\/y.res.covers (Am y.holds o.proc) b.AH=true)->IY o.proc b y=if (AD y o.proc b.AH).2.2=0 then (AD y o.proc b.AH).1 else y:=λhh=>by simp_all[IY]
    cases hz:b.AH.zero
    ·refine gO ?_;refine Ab (KH y.res (Am y.holds o.proc) b.AH) ?_;cases hc:y.res.covers (Am y.holds o.proc) b.AH
     ·refine gO ?_;exact cp y (by simp_all[IY]) _ AK
     have ja:=low (.inr hc);refine gO ?_;refine Ab (Wl y o.proc b.AH hya) ?_;generalize AD y o.proc b.AH=w at ja;obtain⟨w1,w2,w3⟩:=w
     by_cases hs:w3=0
     ·subst hs;refine gO ?_;exact cp w1 (by grind) _ AK
     ·have bt:(w3==0)=false:=by grind
      simp(disch:=omega)only[go_sem,bt];exact cp y (by grind) _ AK
    ·have ja:=low (.inl hz);refine gO ?_;refine Ab (Wl y o.proc b.AH hya) ?_;generalize AD y o.proc b.AH=w at ja;obtain⟨w1,w2,w3⟩:=w
     by_cases hs:w3=0
     ·subst hs;refine gO ?_;exact cp w1 (by grind) _ AK
     ·have bt:(w3==0)=false:=by grind
      simp(disch:=omega)only[go_sem,bt];exact cp y (by grind) _ AK
   ·subst Ba;rw[take_length,lZ ho hrv Ui];have hlx:=PI o hrv Ui;obtain⟨z1,z2,z3⟩:=Bt (MP hlx.val);refine Ab (SP (D5 o r) z1 z2 z3) ?_;simp(disch:=omega)only[go_sem];refine fin _ (AT.Aq gI ?_);rw[rA];exact gI
 ·subst Ba;refine gO ?_;refine CU ⟨[],[],[8960,3456]⟩ _ ?_;simp only[go_sem,FK];exact .eq (by simp)
def Iq(s:WS)(o:C1):Bool:=Cc o&&Br (Ca s).2 o.proc
def CD(s:WS)(l:List C1):Bool:=AI s&&decide (l.length<=40)&&l.all (Iq s)
def gX(s:WS)(l:List C1)(h:Iy s)(hl:l.length<=1000000):Ad C0 18 [.agg s.c,Cw l] [] (B (CD s l)) []:=by
 refine Ad.go f18 ?_;unfold f18;refine gO ?_;refine Ab (Qz s h) ?_;cases hv:AI s
 ·simp(disch:=omega)only[go_sem];refine Al _ ?_;exact wb (by simp[CD,hv])
 by_cases hn:40<l.length
 ·have k1:(40<(l.length:Int))=True:=eq_true (by omega);simp(disch:=omega)only[go_sem,k1,length_map];refine Al _ ?_;exact wb (by simp[CD];omega)
 have k1:(40<(l.length:Int))=False:=eq_false (by omega);have hdl:=mm h (Be hv);simp(disch:=omega)only[go_sem,k1,length_map,decide_false];refine Ab (gZ s h) ?_;rw[DW hv];refine gO ?_;refine AF (l) (λi=>⟨[(24,I i),(23,I l.length),(22,Cw l),(6,AL (Ca s).2)],[]⟩) (λi=>(l.take i).all (Iq s)=true) rfl ?_ ?_
 ·exact Ce
 rintro i ⟨hi,hP⟩ J hJ;refine gO ?_;refine Bo hi (λAP b hb Cg AX=>?_) λBa=>?_
 simp(disch:=omega)only[go_sem,gm,hb]
 ·have no:Iq s b=false->CD s l=false:=λhh=>by
   have:l.all (Iq s)=false:=by rw[List.all_eq_false];exact⟨b,Cg,by simp[hh]⟩
   simp[CD,this]
  have yes:Iq s b=true->(l.take (i+1)).all (Iq s)=true:=λhh=>by rw[take_add_one,hb];simp[hP,hh]
  refine Ab (qV b) ?_;cases ho:Cc b
  ·simp(disch:=omega)only[go_sem];refine Al _ ?_;exact wb (by rw[no (by simp[Iq,ho])])
  refine gO ?_;refine Ab (KE (Ca s).2 b.proc (by omega)) ?_;cases hd:Br (Ca s).2 b.proc
  ·simp(disch:=omega)only[go_sem];refine Al _ ?_;exact wb (by rw[no (by simp[Iq,hd])])
  ·simp(disch:=omega)only[go_sem];refine hJ _ (i+1) ⟨by omega,(yes (by simp[Iq,ho,hd]))⟩ (by omega) AK
 ·subst Ba;rw[take_length]at hP;refine Al _ ?_;exact wb (by simp only[CD,hv,hP];simp;omega)
def o0:C1:=⟨p0,0,0,[]⟩
def Az(s:WS)(l:List C1):Srch:=⟨l.length,λi=>(l.getD i o0).cost,λi=>(l.getD i o0).proc,λS=>EF s l S⟩
theorem VP{st:List Ac}{p:Ac}(h:p∉st):GX st p=0:=by grind[GX,FL]
theorem ai{st:List Ac}{p:Ac}(h:p∈st):∃ i,i<st.length/\st[i]?=some p/\GX st p=2 ^ i:=by
 unfold GX;cases hf:st.findIdx? (λq=>decide (BF p q=0)) with
 |none =>
  grind[CJ]
 |some i =>
  obtain⟨h1,h2,_⟩:=List.findIdx?_eq_some_iff_getElem.1 hf;have h3:BF p st[i]=0:=by grind
  exact⟨i,h1,by grind[FL],rfl⟩
def Sp(st ps:List Ac):Nat:=ps.foldl (λm p=>m ||| GX st p) 0
theorem pq(st ps:List Ac)(p:Ac):Sp st (ps++[p])=Sp st ps ||| GX st p:=by simp[Sp]
def U4{st:List Ac}(hl:st.length<=62)(p:Ac):GX st p<2 ^ 62:=by
 by_cases h:p∈st
 ·obtain⟨i,h1,_,h3⟩:=ai h;rw[h3];exact Nat.pow_lt_pow_right (by omega) (by omega)
 grind[VP]
def fT{st:List Ac}(hl:st.length<=62):∀ (ps:List Ac) (m:Nat),m<2 ^ 62->ps.foldl (λm p=>m ||| GX st p) m<2 ^ 62
 |[],_,h=>h
 | p::ps,m,h=>fT hl ps _ (Nat.or_lt_two_pow h (U4 hl p))
def mA{st:List Ac}(hl:st.length<=62)(ps:List Ac):Sp st ps<2 ^ 62:=fT hl ps 0 (Nat.pow_pos (by omega))
theorem uP{x i:Nat}:x &&& 2 ^ i=0↔x.testBit i=false:=by
 constructor
 ·intro h;have:=congrArg (λn=>n.testBit i) h;simpa [Nat.testBit_two_pow_self]using this
 ·intro h;refine Nat.eq_of_testBit_eq λj=>?_
  grind
theorem ZW{st:List Ac}{p:Ac}{i:Nat}(hp:p∈st)(hb:GX st p=2 ^ i)(hi:st[i]?=some p):∀ (ps:List Ac) (m:Nat),(ps.foldl (λm p=>m ||| GX st p) m).testBit i=(m.testBit i||decide (p∈ps))
 |[],m=>by simp
 | q::ps,m=>by
  rw[List.foldl_cons,ZW hp hb hi ps,Nat.testBit_or]
  by_cases hq:q∈st
  ·obtain⟨j,_,h2,h3⟩:=ai hq;rw[h3,Nat.testBit_two_pow]
   by_cases hj:j=i
   ·subst hj;rw[hi]at h2;injection h2 with h2
    subst h2;simp
   ·have:p≠q:=λe=>by
     subst e;rw[hb]at h3;exact hj (Nat.pow_right_inj (by omega) |>.1 h3).symm
    simp[hj,this]
  ·rw[VP hq];have:p≠q:=λe=>hq (e▸hp)
   simp[this]
theorem tX{st:List Ac}{p:Ac}{i:Nat}(hp:p∈st)(hb:GX st p=2 ^ i)(hi:st[i]?=some p)(ps:List Ac):(Sp st ps).testBit i=decide (p∈ps):=by grind[Sp,ZW]
theorem fS{st:List Ac}(ps:List Ac)(p:Ac):Sp st ps &&& GX st p=0↔¬ (p∈st/\p∈ps):=by by_cases h:p∈st<;>grind[ai,uP,tX,VP]
def KZ(s:WS)(st:List Ac)(v:Nat):List Ac:=(Ag s).filter λp=>decide (v &&& GX st p=0)
def OI(s:WS)(st:List Ac)(v:Nat):Bool:=decide (Bl (Fw s (KZ s st v))=[])
def QZ{s:WS}{opts:List C1}{S:List Nat}(h:EF s opts S=true):∃ x V,Fy opts S (s,[])=some (x,V)/\(Dq x V).all (λp=>Br V p)=true:=by grind[EF]
def Xy{s x:WS}{opts:List C1}{S:List Nat}{V:List Ac}(hv:AI s=true)(h:Fy opts S (s,[])=some (x,V)):V=S.map λi=>(opts.getD i o0).proc:=by
 have hg:=Be hv;obtain⟨_,_,W,h1,h2,h3⟩:=Mu S hg hv (MV.refl hg) h;simp at h1;subst h1;refine List.ext_getElem? λk=>?_
 grind
def xi{s:WS}{opts:List C1}(hv:CD s opts=true){S:List Nat}(hS:∀ i∈S,i<opts.length)(h:EF s opts S=true):OI s (Bl s) (Sp (Bl s) (S.map (Az s opts).gv))=true:=by
 have lR:AI s=true:=by simp_all[CD]
 obtain⟨x,V,h1,h2⟩:=QZ h;have hV:=Xy lR h1;unfold OI;rw[decide_eq_true_eq];refine UA lR h1 h2 λv zd hm=>?_
 unfold KZ at hm;rw[List.mem_filter]at hm;have h3:=of_decide_eq_true hm.2;rw[fS]at h3;refine h3 ⟨?_,by rw[hV]at zd;exact zd⟩;rw[hV]at zd;obtain⟨i,hi,rfl⟩:=mem_map.1 zd;simp_all[CD,Iq,Br,Bl]
def Oi{s:WS}{o:C1}(hv:AI s=true)(h:(Cm s o).2=0):AI (Cm s o).1=true:=by
 unfold Cm at h ⊢;rw[if_pos hv]at h ⊢;split at h
 ·rename_i ho;split at h
  ·rename_i hp;rw[if_pos ho,if_pos hp];exact Iw hv (by simpa [Br]using hp)
  ·simp at h
 ·simp at h
def Tw(x:WS × List Ac):Bool:=(Dq x.1 x.2).all λp=>Br x.2 p
theorem Uz(s:WS)(opts:List C1)(S:List Nat):EF s opts S=match Fy opts S (s,[]) with
 |some x=>Tw x
 |none=>false:=by
 unfold EF Tw;cases Fy opts S (s,[])<;>rfl
def ia(s:WS)(opts:List C1)(S:List Nat)(hv:AI s=true)(hl:opts.length<=1000000)(hS:S.length<=1000000)(hi:∀ i∈S,i<opts.length)(hw:∀ o∈opts,o.lower.length<=1000000):Ad C0 44 [.agg s.c,Cw opts,E3 S] [] (B (EF s opts S)) []:=by
 rw[Uz];refine Ad.go f44 ?_;unfold f44;refine gO ?_;refine Ao (α:=Nat × WS × List Ac) (λx=>⟨[(1,Cw opts),(16,E3 S),(17,I S.length),(18,I x.1),(3,.ptr 192 0),(7,.sl (.own 2624 0) 3 (x.2.2.map Ac.c))],[(192,x.2.1.c)]⟩) (λx=>x.1<=S.length/\AI x.2.1=true/\x.2.2.length=x.1/\Fy opts (S.drop x.1) x.2=Fy opts S (s,[])) (λx=>S.length-x.1) (0,s,[]) ⟨by simp,hv,rfl,rfl⟩ ?_ ?_
 ·refine AT.Aq ?_ gI;simp(disch:=omega)only[go_sem]
 rintro⟨i,t,V⟩ ⟨j1,j2,j3,j4⟩ J hJ
 replace j1:i<=S.length:=j1
 replace j2:AI t=true:=j2
 replace j3:V.length=i:=j3
 replace j4:Fy opts (S.drop i) (t,V)=Fy opts S (s,[]):=j4
 by_cases AP:i<S.length
 ·have e1:((i:Int)<(S.length:Int))=True:=eq_true (by omega);obtain⟨k,hk⟩:∃ k,S[i]?=some k:=⟨_,gE AP⟩;have X7:=hi k (mG hk);obtain⟨o,CC⟩:∃ o,opts[k]?=some o:=⟨_,gE X7⟩;simp(disch:=omega)only[go_sem,e1,gm,hk,decide_true];have hf:=GF j2;have GI:Fy opts (S.drop i) (t,V)=if (Cm t o).2=0 then Fy opts (S.drop (i+1)) ((Cm t o).1,V++[o.proc]) else none:=by
   have e:S.drop i=k::S.drop (i+1):=by
    rw[List.drop_eq_getElem_cons AP];rw[gE AP]at hk;rw[Option.some.inj hk]
   rw[e];simp only[Fy,CC]
  have hval:=Oi (o:=o) j2;generalize hA:Cm t o=c at GI hval;obtain⟨u,x⟩:=c;refine Dj 4095 [(0,1,0),(1,2,0),(2,4,0),(3,8,6),(4,16,8),(5,32,17),(6,64,32),(7,128,64),(8,256,64),(9,512,0),(10,1024,767),(11,2048,2047)] [0,1,2,4,512,3,5,513,6,514,516,7,515,517,14,518,15,519,30,526,31,527,542,63,543,127,575,255,383,639,511,767,895,1023,1791,2047,4095] (λm=>⟨XE m [(1,23,.agg t.c),(2,24,Cw opts),(4,25,I k),(8,26,.ep .no k o.c 0),(16,27,.agg o.c),(32,28,.BC [.agg u.c,I x]),(64,22,.BC [.agg u.c,I x]),(128,29,.agg u.c),(256,30,I x),(512,10,.ptr 640 0),(2048,11,I x)]++[(1,Cw opts),(16,E3 S),(17,I S.length),(18,I i),(3,.ptr 192 0),(7,.sl (.own 2624 0) 3 (V.map Ac.c)),(9,I k)],((if m / 512%2=1 then [(640,(if m / 1024%2=1 then u.c else N9.c))] else [])++[(192,t.c)])⟩) ?_ ?_ ?_ B6
  ·exact AT.Aq gI gI
  ·simp (maxSteps:=100000000)only[Di,Dh,D0,DZ,and_true,Nat.reduceDiv,Nat.reduceMod,Nat.reduceAnd,Nat.reduceEqDiff,reduceIte,true_and,and_false,false_and,and_self]
   repeat'(with_reducible refine And.intro ?_ ?_)
   all_goals simp(disch:=omega)only[go_sem,gm,CC,nil_append,N9]
   all_goals first|exact AT.Aq gI (by simp(disch:=omega)only[go_sem,nil_append,cons_append,N9];try(repeat'(with_reducible apply And.intro));all_goals exact .A8 (by omega))|exact AT.Aq gI (by simp(disch:=omega)only[go_sem,nil_append,cons_append])|(refine Ab (AaK t o hf (hw o (mG CC))) ?_;rw[hA];simp(disch:=omega)only[go_sem];exact AT.Aq gI (by simp(disch:=omega)only[go_sem,nil_append,cons_append]))
  by_cases hx:x=0
  ·subst hx;have ID:V.length+1<=4294967296:=by omega
   simp(disch:=omega)only[go_sem,gm,CC,nil_append,cons_append,length_map];refine hJ _ (i+1,u,V++[o.proc]) ⟨AP,hval rfl,by simp[j3],by rw[<- j4,GI];simp⟩ (by simp;omega) (AT.Aq ?_ gI);refine gO ?_;exact .sl (by simp[Ac.c])
  ·have Vt:(x==0)=false:=by simpa using hx
   have hx2:(x !=0)=true:=by simpa using hx
   rw[<- j4,GI,if_neg hx];simp(disch:=omega)only[go_sem,Vt,hx2,nil_append,cons_append];exact AQ _
 ·have e1:((i:Int)<(S.length:Int))=False:=eq_false (by omega);simp(disch:=omega)only[go_sem,e1,decide_false];have hf:=GF j2;have Aa9:Fy opts S (s,[])=some (t,V):=by
   rw[<- j4,List.drop_eq_nil_of_le (by omega)];rfl
  rw[Aa9];refine FU [2624] (qL t V hf (by omega)) gI rfl ?_;have e:MW t V=(Dq t V,0):=by simp[MW,j2]
  rw[e];have gr:(Dq t V).length<=20000:=by
   have h1:=(JD (Ag t).length t V (Be j2) (le_refl _)).2.2.1;exact Nat.le_trans (BP _ _ (Nz _) h1) (De hf)
  refine gO ?_;clear hJ;refine AF ((Dq t V)) (λi=>⟨[(53,I i),(52,I (Dq t V).length),(51,AL (Dq t V)),(7,AL V)],[]⟩) (λi=>((Dq t V).take i).all (λp=>Br V p)=true) rfl ?_ ?_
  ·exact Ce
  rintro i ⟨hi,hP⟩ J hJ;refine gO ?_;refine Bo hi (λAP b hb Cg AX=>?_) λBa=>?_
  simp(disch:=omega)only[go_sem,gm,hb]
  ·refine Ab (KE V b (by omega)) ?_;cases Ss:Br V b
   ·simp(disch:=omega)only[go_sem];refine Al _ ?_;exact wb (by
     have:(Dq t V).all (λp=>Br V p)=false:=by rw[List.all_eq_false];exact⟨b,Cg,by simp[Ss]⟩
     simp[Tw,this])
   ·simp(disch:=omega)only[go_sem];refine hJ _ (i+1) ⟨by omega,(by rw[take_add_one,hb];simp[hP,Ss])⟩ (by omega) AK
  ·subst Ba;rw[take_length]at hP;refine Al _ ?_;exact wb (by simp[Tw,hP])
def EC(s:WS)(l:List C1):CD s l=true↔AI s=true/\l.length<=40/\∀ o∈l,Cc o=true/\o.proc∈(Ca s).2:=by
 simp[CD,Bool.and_eq_true,decide_eq_true_eq,List.all_eq_true,Iq,Br];grind
theorem PM{o:C1}(h:Cc o=true):o.lower.length<=8:=by simp_all[Cc]
def JT(opts:List C1):Int->List Ac->List Int->Bool
 |_,_,[]=>true
 | last,V,i::S=>if i<=last then false else match opts[i.toNat]? with
  |some o=>if Br V o.proc then false else JT opts i (V++[o.proc]) S
  |none=>false
def GU(s:WS)(opts:List C1)(S:List Int):Bool:=CD s opts&&(JT opts (-1) [] S&&EF s opts (S.map Int.toNat))
def Zw{opts:List C1}:∀ (S:List Int) (last:Int) (V:List Ac),-1<=last->JT opts last V S=true->∀ i∈S,0<=i/\i.toNat<opts.length
 |[],_,_,_,_,i,hi=>by grind
 | k::S,last,V,hl,h,i,hi=>by
  simp only[JT]at h;split at h
  ·cases h
  ·rename_i hk;split at h
   ·rename_i o ho;split at h
    ·cases h
    ·rcases mem_cons.1 hi with rfl|hi
     ·grind
     ·exact Zw S k _ (by omega) h i hi
   grind
def sf{opts:List C1}{S:List Int}(h:∀ i∈S,0<=i/\i.toNat<opts.length):Ju S=E3 (S.map Int.toNat):=by
 unfold Ju E3;rw[List.map_map];congr 1;refine List.map_congr_left λi hi=>?_
 have:=(h i hi).1;simp only[Function.comp,Fq];rw[Int.toNat_of_nonneg this]
def jX{α:Type}{S:List α}{i:Nat}{k:α}(h:S[i]?=some k):S.drop i=k::S.drop (i+1):=by
 obtain⟨hl,rfl⟩:=List.getElem?_eq_some_iff.1 h;simp
def Qy(s:WS)(opts:List C1)(S:List Int)(h:Iy s)(hl:opts.length<=1000000)(hS:S.length<=1000000):Ad C0 20 [.agg s.c,Cw opts,Ju S] [] (B (GU s opts S)) []:=by
 refine Ad.go f20 ?_;unfold f20;refine gO ?_;refine Ab (gX s opts h hl) ?_;cases hv:CD s opts
 ·refine gO ?_;refine Al _ ?_;exact wb (by simp[GU,hv])
 obtain⟨v1,v2,v3⟩:=(EC s opts).1 hv;refine gO ?_;refine Ao (α:=Nat × Int × List Ac) (λx=>⟨[(1,Cw opts),(2,Ju S),(3,.ptr 192 0),(7,I x.2.1),(8,.sl (.own 3008 0) 3 (x.2.2.map Ac.c)),(15,Ju S),(16,I S.length),(17,I x.1)],[(192,s.c)]⟩) (λx=>x.1<=S.length/\x.2.2.length=x.1/\-1<=x.2.1/\JT opts x.2.1 x.2.2 (S.drop x.1)=JT opts (-1) [] S) (λx=>S.length-x.1) (0,-1,[]) ⟨by simp,rfl,by simp,rfl⟩ AK ?_;rintro⟨i,last,V⟩ ⟨j1,j2,j3,j4⟩ J hJ;simp only at j1 j2 j3 j4
 by_cases AP:i<S.length
 ·have e1:((i:Int)<(S.length:Int))=True:=eq_true (by omega);obtain⟨k,hk⟩:∃ k,S[i]?=some k:=⟨_,gE AP⟩;rw[jX hk]at j4;simp only[JT]at j4
  by_cases c1:k<=last
  ·rw[if_pos c1]at j4;simp only[go_sem,e1,hk,eq_true c1];refine Al _ ?_;exact wb (by grind[GU])
  rw[if_neg c1]at j4
  by_cases c2:(opts.length:Int)<=k
  ·have c3:opts[k.toNat]?=none:=List.getElem?_eq_none (by omega);rw[c3]at j4;simp only[go_sem,e1,hk,eq_false c1,eq_true c2];refine Al _ ?_;exact wb (by grind[GU])
  obtain⟨n,rfl⟩:∃ n:Nat,k=n:=⟨k.toNat,by omega⟩;obtain⟨o,ho⟩:∃ o,opts[n]?=some o:=⟨_,gE (by omega)⟩;rw[Int.toNat_natCast,ho]at j4;simp only at j4;refine gS ?_;refine B4 [3008] (KE V o.proc (by omega)) gI rfl trivial ?_;cases hd:Br V o.proc
  ·rw[hd]at j4;simp at j4;have ID:V.length+1<=4294967296:=by omega
   refine gS ?_;refine hJ _ (i+1,n,V++[o.proc]) ⟨AP,by grind,by grind,j4⟩ (by omega) (AT.Aq ?_ gI);refine gO ?_;exact .sl (by simp[Ac.c])
  ·rw[hd]at j4;simp only[if_true]at j4;refine gO ?_;refine Al _ ?_;exact wb (by grind[GU])
 ·have e1:((i:Int)<(S.length:Int))=False:=eq_false (by omega);rw[List.drop_eq_nil_of_le (by omega)]at j4;simp only[JT]at j4;have Hf:=Zw S (-1) [] (by omega) j4.symm;rw[sf Hf];refine gS ?_;refine Ab (ia s opts (S.map Int.toNat) v1 hl (by grind) (λi hi=>by grind) (λo ho=>by grind[PM])) ?_ (hx:=by refine gO ?_;exact .sl (by grind));refine gO ?_;refine Al _ ?_;exact wb (by grind[GU])
def U5(c:List Nat × Int):List AV:=[E3 c.1,I c.2]
attribute [go_sem] U5
def CE(s:WS)(l:List C1):(List Nat × Int) × Int:=if CD s l then (if Bl s=[] then (([],0),14) else match best (Az s l) with
 |some S=>((S,Bj (Az s l).cost S),0)
 |none=>(([],0),10)) else (([],0),2)
def dc{s:WS}(hv:AI s=true):(Bl s).length<=8:=by
 have hg:=Be hv;have h1:=BP _ _ (V9 s hg) (Jo _ s hg (le_refl _));have h2:=((GQ s).1 hv).2.2;omega
def tH{s:WS}{l:List C1}{i:Nat}{o:C1}(h:l[i]?=some o):(Az s l).gv i=o.proc/\(Az s l).cost i=o.cost:=by simp[Az,h]
theorem JC{s:WS}{l:List C1}(hv:CD s l=true){i:Nat}(hi:i<l.length):∃ o,l[i]?=some o/\o∈l/\Cc o=true/\o.proc∈Bl s/\(Az s l).gv i=o.proc/\(Az s l).cost i=o.cost:=by
 have h1:=gE hi;have hm:=mG h1;obtain⟨_,_,h3⟩:=(EC s l).1 hv;exact⟨_,h1,hm,(h3 _ hm).1,(h3 _ hm).2,tH h1⟩
def R6{o:C1}(h:Cc o=true):1<=o.cost/\o.cost<=1073741824:=by simp_all[Cc]
def HV{s:WS}{l:List C1}(hv:CD s l=true):∀ i,i<(Az s l).n->1<=(Az s l).cost i/\(Az s l).cost i<=1073741824:=λi hi=>by
 obtain⟨o,_,_,h1,_,_,h2⟩:=JC hv hi;simp_all[R6]
def U6{P:Srch}(hc:∀ i,i<P.n->1<=P.cost i/\P.cost i<=1073741824):∀ {S:List Nat},(∀ i∈S,i<P.n)->0<=Bj P.cost S/\Bj P.cost S<=1073741824*S.length
 |[],_=>by simp[Bj]
 | i::S,h=>by
  have h1:=hc i (h i (by simp));have h2:=U6 hc (S:=S) λj hj=>h j (by grind)
  simp only[Bj,List.length_cons];omega
def MF{P:Srch}{S:List Nat}(h:isSet P S):S.length<=P.n:=by
 have:=BP S (List.range P.n) (h.1.imp λh=>by omega) λx hx=>List.mem_range.2 (h.2.1 x hx)
 simpa using this
def tD{s:WS}{l:List C1}(hv:CD s l=true){S:List Nat}(h:isSet (Az s l) S):S.length<=(Bl s).length:=by
 have:=BP _ (Bl s) h.2.2 λx hx=>by
  obtain⟨i,hi,rfl⟩:=mem_map.1 hx;obtain⟨o,_,_,_,h1,h2,_⟩:=JC hv (h.2.1 i hi);grind
 simpa using this
def TV{s:WS}{l:List C1}(hv:CD s l=true)(hd:Bl s≠[]){S:List Nat}(h:JN (Az s l) (some S)):CE s l=((S,Bj (Az s l).cost S),0):=by
 have hb:=Yp h (U3 λi hi=>(HV hv i hi).1);simp[CE,hv,if_true,if_neg hd,<- hb]
def TU{s:WS}{l:List C1}(hv:CD s l=true)(hd:Bl s≠[])(h:JN (Az s l) none):CE s l=(([],0),10):=by
 have hb:=Yp h (U3 λi hi=>(HV hv i hi).1);simp[CE,hv,if_true,if_neg hd,<- hb]
def mJ{s:WS}{l:List C1}(hv:CD s l=true){S:List Nat}{i:Nat}(hi:i<l.length):Sp (Bl s) (S.map (Az s l).gv) &&& GX (Bl s) ((Az s l).gv i)=0↔again (Az s l) S i=false:=by grind[JC,fS,LU]
def jQ(a b:Nat)(ha:a<4611686018427387904)(hb:b<4611686018427387904):bits .and .i64 (a:Int) (b:Int)=((a &&& b:Nat):Int):=by
 have hx:a &&& b<2 ^ 62:=Nat.and_lt_two_pow _ (by omega);have h1:(BitVec.ofInt 64 (a:Int)).toNat=a:=by grind
 have h2:(BitVec.ofInt 64 (b:Int)).toNat=b:=by grind
 show IntKind.i64.wrap ((BitVec.ofInt 64 (a:Int) &&& BitVec.ofInt 64 (b:Int)).toNat:Int)=_;grind[IntKind.wrap_i64]
def Ab9(a b:Nat)(ha:a<4611686018427387904)(hb:b<4611686018427387904):bits .or .i64 (a:Int) (b:Int)=((a ||| b:Nat):Int):=by
 have hx:a ||| b<2 ^ 62:=Nat.or_lt_two_pow (by omega) (by omega);have h1:(BitVec.ofInt 64 (a:Int)).toNat=a:=by grind
 have h2:(BitVec.ofInt 64 (b:Int)).toNat=b:=by grind
 show IntKind.i64.wrap ((BitVec.ofInt 64 (a:Int) ||| BitVec.ofInt 64 (b:Int)).toNat:Int)=_;grind[IntKind.wrap_i64]
def Kc(s:WS)(st:List Ac):List Nat->List AV
 |[]=>[]
 | k::l=>I k::B (OI s st k)::Kc s st l
def Zm(s:WS)(st:List Ac)(v:Nat):∀ l,Kc s st l++[I v,B (OI s st v)]=Kc s st (l++[v])
 |[]=>rfl
 | k::l=>by simp only[Kc,cons_append,Zm s st v l]
@[go_sem] theorem sv(f:AV->AV)(s:WS)(st:List Ac):∀ l,F0 f (Kc s st l)=Kc s st l
 |[]=>rfl
 | k::l=>by simp only[Kc,F0,AV.Cz,sv f s st l]
def QC(s:WS)(st:List Ac)(v:Nat):∀ l:List Nat,if v∈l then ∃ j,Ie false [1] [.int .i64 v] (Kc s st l)=some (some (j,B (OI s st v))) else Ie false [1] [.int .i64 v] (Kc s st l)=some none
 |[]=>by simp[Kc,Ie]
 | k::l=>by
  have ih:=QC s st v l
  by_cases hk:v=k
  ·subst hk;rw[if_pos (by simp)];simp_all[Kc,Ie,Hs,BT]
  ·have CZ:((v:Int)==(k:Int))=false:=by grind
   by_cases hm:v∈l
   ·rw[if_pos hm]at ih;obtain⟨j,hj⟩:=ih;rw[if_pos (by grind)];exact⟨j+1,by grind[Kc,Ie,Hs,BT]⟩
   ·rw[if_neg hm]at ih;rw[if_neg (by grind)];grind[Kc,Ie,Hs,BT]
theorem xD{s:WS}{st:List Ac}{v:Nat}{l:List Nat}(h:v∈l):HP C0.P 151 (Kc s st l) (I v)=some (.BC [B (OI s st v),B true]):=by
 have:=QC s st v l;rw[if_pos h]at this;obtain⟨j,hj⟩:=this;have hm:et C0.P 151=some (3,false,[1],4):=F.zm;unfold HP;rw[hm];simp only[Hs,false_eq_true,if_false,hj];rfl
theorem so{s:WS}{st:List Ac}{v:Nat}{l:List Nat}(h:v∉l):HP C0.P 151 (Kc s st l) (I v)=some (.BC [B false,B false])/\∀ x,PH C0.P 151 (Kc s st l) (I v) x=some (Kc s st l++[I v,x]):=by
 have hj:=QC s st v l;rw[if_neg h]at hj;have hm:et C0.P 151=some (3,false,[1],4):=F.zm;unfold HP PH;rw[hm];have hz:ga C0.P 4=some (B false):=by kernel_rfl
 refine⟨?_,λx=>?_⟩
 ·simp only[Hs,false_eq_true,if_false,hj,hz,Option.map_some];rfl
 ·simp only[Hs,false_eq_true,if_false,hj];rfl
def Tg(l:List Nat)(v:Nat):List Nat:=if v∈l then l else l++[v]
def AaL(s:WS)(st:List Ac)(l:List Nat)(v:Nat)(hv:AI s=true)(GR:st.length<=62)(hbv:v<4611686018427387904) :
 Ad C0 93 [I v,.ptr 63 0,.ptr 127 0,.ptr 191 0] [(63,[.mp 31]),(127,s.c),(191,[AL st]),(31,Kc s st l)] (B (OI s st v)) [(63,[.mp 31]),(127,s.c),(191,[AL st]),(31,Kc s st (Tg l v))]:=by
 have hf:=GF hv;have Sv:=De hf;refine Ad.go f93 ?_;unfold f93;refine gO ?_
 by_cases hk:v∈l
 ·have hl:=xD (s:=s) (st:=st) hk;have e:Tg l v=l:=by simp[Tg,hk]
  rw[e];refine gS ?_;refine AY ⟨[],[(63,63),(127,127),(191,191),(31,31)],[]⟩ _ (by(try simp only[go_sem,Cx,Gv])<;>rfl) ⟨rfl,rfl⟩ (by simp[lk]) ?_ ?_
  ·exact gI
  ·exact gI
 obtain⟨hl,Hf⟩:=so (s:=s) (st:=st) hk;have e:Tg l v=l++[v]:=by simp[Tg,hk]
 rw[e];refine gS ?_;refine Ab (LB s hf) (gO ?_);refine AF ((Ag s)) (λi=>⟨[(0,I v),(1,.ptr 63 0),(2,.ptr 127 0),(3,.ptr 191 0),(6,B false),(8,.sl (.own 2496 0) 3 (((Ag s).take i).filter (λp=>decide (v &&& GX st p=0)) |>.map Ac.c)),(24,AL (Ag s)),(25,I (Ag s).length),(26,I i)],[(63,[.mp 31]),(127,s.c),(191,[AL st]),(31,Kc s st l)]⟩) (λi=>True) trivial ?_ ?_
 ·exact Ce
 rintro i ⟨hi,hP⟩ J hJ;refine gO ?_;refine Bo hi (λAP b hb Cg AX=>?_) λBa=>?_
 simp(disch:=omega)only[go_sem,hb]
 ·refine Ab (ic st b GR) ?_;have hbl:=U4 GR b;have hand:=jQ v (GX st b) hbv (by omega);have ID:((List.filter (λp=>decide (v &&& GX st p=0)) (List.take i (Ag s)))).length+1<=4294967296:=by grind
  have e1:(List.take (i+1) (Ag s)).filter (λp=>decide (v &&& GX st p=0))=(if v &&& GX st b=0 then (List.take i (Ag s)).filter (λp=>decide (v &&& GX st p=0))++[b] else (List.take i (Ag s)).filter (λp=>decide (v &&& GX st p=0))):=by
   rw[take_add_one,hb];grind
  simp(disch:=omega)only[go_sem,hand];refine⟨λh=>?_,λh=>?_⟩
  ·have h0:v &&& GX st b=0:=by grind
   rw[if_pos h0]at e1;refine hJ _ (i+1) ⟨by omega,trivial⟩ (by omega) (AT.Aq ?_ gI);rw[e1];simp only[go_sem,List.map_append]
  ·have h0:¬ v &&& GX st b=0:=by grind
   rw[if_neg h0]at e1;refine hJ _ (i+1) ⟨by omega,trivial⟩ (by omega) (AT.Aq ?_ gI);rw[e1];exact gI
 ·subst Ba;rw[take_length];have hrl:(KZ s st v).length<=1000000:=by grind[KZ]
  refine FU [2496] (AaM s (KZ s st v) hf hrl) (by simp only[go_sem,KZ]) rfl ?_;have e2:HG s (KZ s st v)=(Fw s (KZ s st v),0):=by simp[HG,hv]
  have hv2:=jJ hv (KZ s st v);have e3:GS (Fw s (KZ s st v))=Ca (Fw s (KZ s st v)):=DW hv2;have hh:OI s st v=decide ((Ca (Fw s (KZ s st v))).2=[]):=rfl;rw[e2];refine gO ?_;refine Ab (gZ (Fw s (KZ s st v)) (GF hv2)) ?_;rw[e3];have hd:(((Ca (Fw s (KZ s st v))).2.length:Int)==0)=OI s st v:=by
   rw[hh];cases (Ca (Fw s (KZ s st v))).2<;>simp
   omega
  simp only[go_sem,hd,Hf];refine AY ⟨[],[(63,63),(127,127),(191,191),(31,31)],[]⟩ _ (by(try simp only[go_sem,Cx,Gv])<;>rfl) ⟨rfl,rfl⟩ (by simp[lk]) ?_ ?_
  ·exact gI
  ·simp only[go_sem,Zm]
def Aaw(s:WS)(st:List Ac):Ad C0 46 [.agg s.c,AL st] [] (.fn 93 [.ptr 0 0,.ptr 1 0,.ptr 2 0]) [(0,[.mp 62]),(1,s.c),(2,[AL st]),(62,[])]:=by
 refine Ad.go f46 ?_;unfold f46;simp only[go_sem,jl];refine AY ⟨[],[(320,0),(128,1),(192,2),(446,62)],[]⟩ _ (by(try simp only[go_sem,Cx,Gv])<;>rfl) ⟨rfl,rfl⟩ (by grind) ?_ ?_
 ·exact gI
 ·exact gI
def XQ(e:Int):Ci (.BC [.agg [.v (.slice none 0 0),.v (.int .i64 0)],.v (.int .i64 e)]) (.BC [.agg [E3 [],I 0],I e]) :=
 .BC (Ae.AJ ⟨.agg (Ae.AJ ⟨.A8 (by omega),.rfl,trivial⟩),.rfl,trivial⟩)
def nG{P:Srch}(hn:P.n<=64){h:List Cand}(hF:Front P h):P0 h:=λc hc=>by
 obtain⟨S,hS,rfl⟩:=hF.yd c hc;exact Pl (n:=64) λi hi=>by have:=hS.2.1 i hi;omega
def gY(s:WS)(opts:List C1)(h:Iy s)(hl:opts.length<=1000000)(D:Nat)(hD:CD s opts=true->∀ T,isSet (Az s opts) T->T.length<=D)(hM:(opts.length+1) ^ D<=4000000000):Ad C0 22 [.agg s.c,Cw opts] [] (.BC [.agg (U5 (CE s opts).1),I (CE s opts).2]) []:=by
 refine Ad.go f22 ?_;unfold f22;refine gO ?_;refine Ab (gX s opts h hl) ?_;cases hv:CD s opts
 ·have e:CE s opts=(([],0),2):=by simp[CE,hv]
  rw[e];refine gO ?_;refine Al _ ?_;exact XQ _
 obtain⟨v1,v2,v3⟩:=(EC s opts).1 hv;have hdl:=dc v1;refine gO ?_;refine Ab (gZ s h) ?_;rw[DW v1]
 by_cases hd:Bl s=[]
 ·have e:CE s opts=(([],0),14):=by grind[CE]
  have cj:(Ca s).2=[]:=hd;rw[e];refine gS ?_;refine Al _ ?_;exact XQ _
 have cj:(((Ca s).2.length:Int)==0)=false:=by
  have:(Ca s).2.length≠0:=λh0=>hd (List.eq_nil_of_length_eq_zero h0)
  simp;grind
 refine gS ?_;refine call2 ⟨⟨[],[],[]⟩,[],[(0,2049),(1,2050),(2,2051),(62,2110)]⟩ (Aaw s (Ca s).2) (gO ?_);have hn:(Az s opts).n=opts.length:=rfl;have hD:=hD hv;refine Ao (α:=List Cand × List Nat) (λx=>⟨[(1,Cw opts),(2,.ptr 128 0),(4,.ptr 256 0),(7,AL (Ca s).2),(8,.fn 93 [.ptr 2049 0,.ptr 2050 0,.ptr 2051 0]),(9,.ptr 2240 0)],[(128,s.c),(256,[.v (.slice none 0 0),.v (.int .i64 0)]),(2240,[.sl (.own 2176 0) 2 (x.1.map Cand.c)]),(2049,[.mp 2110]),(2050,s.c),(2051,[AL (Ca s).2]),(2110,Kc s (Ca s).2 x.2)]⟩) (λx=>Front (Az s opts) x.1/\wG (Az s opts).n D x.1<=4000000000) (λx=>wG (Az s opts).n D x.1) ([Dv (Az s opts) []],[]) ⟨AaU _,by grind[wG0]⟩ ?_ ?_
 ·refine AT.Aq gI ?_;simp only[go_sem,Dv,Bj,code,Kc];exact .sl (by simp)
 rintro⟨hp,kn⟩ ⟨hF,hW⟩ J0 pB;simp only at hF hW;have hlen:=sh (Az s opts).n D hp;have Md:=nG (by omega) hF;refine gO ?_;refine B4 [2176] (ib hp) gI rfl trivial ?_
 by_cases h0:hp=[]
 ·subst h0;refine gO ?_;refine Al _ ?_;rw[TU hv hd (nF hF)];exact XQ _
 have uC:0<hp.length:=List.length_pos_iff.2 h0;have e0:((0:Int)<(hp.length:Int))=True:=eq_true (by omega);obtain⟨c0,hc0⟩:∃ c0,hp[0]?=some c0:=⟨_,gE uC⟩;obtain⟨S,hS,rfl⟩:=hF.yd c0 (mG hc0);obtain⟨p1,p2,p3,p4,p5⟩:=R8 Hy Hz hF.heap hc0;refine gS ?_;have AeU:=Aax hp (Dv (Az s opts) S) p1 h0 (by omega) Md;have uE:=λhs=>iy (by omega) hF hS hc0 hs
 have Me:=ix (by omega) hD hF hS hc0;have uw:P0 ((LL AU hp).take (hp.length-1)):=λc hc=>Md c (p3.mem_iff.2 (by grind))
 generalize (LL AU hp).take (hp.length-1)=g0 at AeU p2 p3 uE Me uw;refine call2 ⟨⟨[(2176,0)],[(2240,63)],[]⟩,[],[]⟩ AeU ?_;have hco:C0.P.concrete 95=true:=F.AgY;simp only[go_sem,Dv,↓hco];have GR:(Ca s).2.length<=62:=Nat.le_trans hdl (by omega);have nL:∀ i∈S,i<opts.length:=hS.2.1;have hSl:=MF hS;refine Ab (Aay (Bj (Az s opts).cost S) S hS.1 (λi hi=>by grind)) ?_;refine gO ?_;refine AF (S) (λi=>⟨[(1,Cw opts),(2,.ptr 128 0),(4,.ptr 256 0),(7,AL (Ca s).2),(8,.fn 93 [.ptr 2049 0,.ptr 2050 0,.ptr 2051 0]),(9,.ptr 2240 0),(10,.ptr 640 0),(11,E3 S),(12,I (Sp (Ca s).2 ((S.take i).map (Az s opts).gv))),(47,E3 S),(48,I S.length),(49,I i)],[(128,s.c),(256,[.v (.slice none 0 0),.v (.int .i64 0)]),(2240,[.sl (.own 2176 0) 2 (g0.map Cand.c)]),(2049,[.mp 2110]),(2050,s.c),(2051,[AL (Ca s).2]),(2110,Kc s (Ca s).2 kn),(640,[I (Bj (Az s opts).cost S),U (code S)])]⟩) (λi=>True) trivial ?_ ?_
 ·have Q4:=@Sp.eq_1;exact Gd
 rintro i ⟨hi,hP⟩ J hJ;refine gO ?_;refine Bo hi (λAP b hb Cg AX=>?_) λBa=>?_
 simp(disch:=omega)only[go_sem,gm,hb]
 ·obtain⟨o,ho,hom,CC,xl,iO,P4⟩:=JC hv (nL b Cg);simp only[go_sem,ho];refine Ab (ic (Ca s).2 o.proc GR) ?_;have e1:Sp (Ca s).2 ((S.take (i+1)).map (Az s opts).gv)=Sp (Ca s).2 ((S.take i).map (Az s opts).gv) ||| GX (Ca s).2 o.proc:=by grind[take_add_one,pq]
  have hor:=Ab9 _ _ (mA GR ((S.take i).map (Az s opts).gv)) (U4 GR o.proc);simp(disch:=omega)only[go_sem,hor];refine hJ _ (i+1) ⟨by omega,trivial⟩ (by omega) (AT.Aq ?_ gI);rw[e1];exact gI
 subst Ba;rw[take_length];clear hJ;have hvl:=mA GR (S.map (Az s opts).gv);obtain⟨v,r6⟩:∃ v,v=Sp (Ca s).2 (S.map (Az s opts).gv):=⟨_,rfl⟩;rw[<- r6]at hvl ⊢;refine call2 ⟨⟨[],[(2049,63),(2050,127),(2051,191),(2110,31)],[]⟩,[],[]⟩ (AaL s (Ca s).2 kn v v1 GR hvl) ?_;obtain⟨kn',X8⟩:∃ k,k=Tg kn v:=⟨_,rfl⟩;rw[<- X8];have hww:∀ o∈opts,o.lower.length<=1000000:=λo ho=>by grind[PM]
 cases hs:EF s opts S;rotate_left
 ·have hh:OI s (Ca s).2 v=true:=by rw[r6];exact xi hv nL hs
  rw[hh,TV hv hd (iw (by omega) (λi hi=>(HV hv i hi).1) hF hS hc0 hs)];refine gO ?_;refine Ab (ia s opts S v1 hl (by omega) nL hww) ?_;rw[hs];refine gO ?_;exact AQ _
 have uE:=uE hs;have hlp:=eX g0 (kids (Az s opts) S ((Az s opts).n-Em S)) p2;have rL:=sh (Az s opts).n D (Jd g0 (kids (Az s opts) S ((Az s opts).n-Em S)));generalize hFd:Jd g0 (kids (Az s opts) S ((Az s opts).n-Em S))=Z at uE hlp rL Me;have RN:code S<18446744073709551616:=Pl (n:=64) λi hi=>by grind
 have Aa6:=U6 (HV hv) nL;cases hh:OI s (Ca s).2 v
 all_goals simp(disch:=omega)only[go_sem]
 rotate_left;refine Ab (ia s opts S v1 hl (by omega) nL hww) ?_;rw[hs];simp(disch:=omega)only[go_sem]
 all_goals
  refine Ab (Aaz (code S) RN) ?_;rw[oq hS.1];refine gO ?_;refine Ao (α:=Nat × List Cand) (λx=>⟨[(1,Cw opts),(2,.ptr 128 0),(4,.ptr 256 0),(7,AL (Ca s).2),(8,.fn 93 [.ptr 2049 0,.ptr 2050 0,.ptr 2051 0]),(9,.ptr 2240 0),(10,.ptr 640 0),(12,I v),(15,I x.1)],[(128,s.c),(256,[.v (.slice none 0 0),.v (.int .i64 0)]),(2240,[.sl (.own 2176 0) 2 (x.2.map Cand.c)]),(2049,[.mp 2110]),(2050,s.c),(2051,[AL (Ca s).2]),(2110,Kc s (Ca s).2 kn'),(640,[I (Bj (Az s opts).cost S),U (code S)])]⟩) (λx=>Em S<=x.1/\x.1<=opts.length/\Heap AU x.2/\P0 x.2/\Jd x.2 (kids (Az s opts) S (opts.length-x.1))=Z) (λx=>opts.length-x.1) (Em S,g0) ⟨le_refl _,lU hS,p2,uw,hFd⟩ AK ?_;rintro⟨i,g⟩ ⟨i1,i2,i3,i4,i5⟩ J hJ;simp only at i1 i2 i3 i4 i5
  by_cases Hf:i<opts.length
  rotate_left
  ·have hei:opts.length-i=0:=by omega
   rw[hei]at i5;have hgF:g=Z:=i5;subst hgF;have e1:((i:Int)<(opts.length:Int))=False:=eq_false (by omega);simp(disch:=omega)only[go_sem,e1,decide_false,length_map];exact pB _ (g,kn') ⟨uE,by grind⟩ (by omega) AK
  have e1:((i:Int)<(opts.length:Int))=True:=eq_true (by omega);obtain⟨o,ho,hom,CC,xl,iO,P4⟩:=JC hv Hf;have hoc:=R6 CC;simp(disch:=omega)only[go_sem,e1,decide_true,length_map,gm,ho];refine Ab (ic (Ca s).2 o.proc GR) ?_;have hand:=jQ v (GX (Ca s).2 o.proc) hvl (U4 GR o.proc);have LP:=mJ (S:=S) hv Hf;rw[iO]at LP;have wZ:v &&& GX (Ca s).2 o.proc=0↔again (Az s opts) S i=false:=by rw[r6];exact LP
  obtain⟨f,hf⟩:∃ f,opts.length-i=f+1:=⟨opts.length-i-1,by omega⟩;have hfi:(Az s opts).n-(f+1)=i:=by omega
  have yS:opts.length-(i+1)=f:=by omega
  rw[hf]at i5;simp only[kids,hfi]at i5;simp(disch:=omega)only[go_sem,hand];refine⟨λhb=>?_,λhb=>?_⟩
  ·have h0:v &&& GX (Ca s).2 o.proc=0:=by grind
   have ha:=wZ.1 h0;rw[ha]at i5;simp only[false_eq_true,if_false,List.singleton_append,Jd]at i5;refine Ay 17 [([],[9]),([],[95]),([],[10]),([],[97]),([],[1]),([],[15]),([],[99,100]),([],[101]),([],[102]),([],[98,103]),([],[10]),([],[105]),([],[15]),([],[107]),([],[106,108]),([],[104,109]),([],[110])] B6 ?_;have Ahq:C0.P.concrete 92=true:=F.AgX;obtain⟨z,hz⟩:∃ z,z=2 ^ i:=⟨_,rfl⟩;have xu:z<18446744073709551616:=by
    have h1:z<2 ^ 64:=by rw[hz];exact Nat.pow_lt_pow_right (by decide) (by omega)
    exact h1
   have Ah7:IntKind.u64.wrap (1*2 ^ min i 64)=(z:Int):=by rw[show min i 64=i by omega,Int.one_mul,show ((2:Int) ^ i)=((z:Nat):Int) by grind,K7 xu]
   have Ahm:=bits_or_u64_nat (code S) z RN xu;have n9:((i:Int)<0)=False:=eq_false (by omega);have UP:(Dv (Az s opts) (S++[i]))=⟨Bj (Az s opts).cost S+o.cost,code S ||| z⟩:=by simp only[Dv,H9,Bj,P4,Yu,hz,Int.add_zero]
   have WE:=eX _ (kids (Az s opts) S f) (Tt Hy Hz i3 (Dv (Az s opts) (S++[i]))).1;have uB:=(Tt Hy Hz i3 (Dv (Az s opts) (S++[i])));have iE:=uB.2.length_eq;rw[i5]at WE;simp only[List.length_cons]at iE;have hns:code S ||| z<18446744073709551616:=Nat.or_lt_two_pow (n:=64) RN xu;have hpf:P0 (Xr AU g (Dv (Az s opts) (S++[i]))):=λc hc=>by
    rcases mem_cons.1 (uB.2.mem_iff.1 hc) with h1|h1
    ·grind
    ·exact i4 c h1
   rw[UP]at i5 uB iE WE hpf;simp(disch:=omega)only[go_sem,↓hco,↓Ahq,gm,ho,n9,Ah7,Ahm];refine call2 ⟨⟨[(2176,0)],[(2240,63)],[]⟩,[],[]⟩ (AaA g ⟨Bj (Az s opts).cost S+o.cost,code S ||| z⟩ (by omega) i4 hns) (gO ?_);exact hJ _ (i+1,Xr AU g ⟨Bj (Az s opts).cost S+o.cost,code S ||| z⟩) ⟨by omega,Hf,uB.1,hpf,by grind⟩ (by omega) AK
  ·have h0:¬ v &&& GX (Ca s).2 o.proc=0:=by grind
   have ha:again (Az s opts) S i=true:=by grind
   rw[ha]at i5;simp only[if_true,nil_append]at i5;refine hJ _ (i+1,g) ⟨by omega,Hf,i3,i4,by grind⟩ (by omega) AK
def DV:Nat->Expr->Bool
 | 0,_=>false
 | d+1,e=>decide (e.kids.length<=10)&&e.kids.all (DV d)
end Go.Rd
