/- part 21 of the proof -/
import Derived.Test.YthachdiockkofaaGreatDoorW14
set_option linter.all false
open Go Go.Abs Go.Proofs
set_option maxRecDepth 100000
namespace Go.Rd
set_option maxHeartbeats 8000000
open List (length_map length_take take_add_one take_length)
open Bool (eq_false_iff)
open Tryz
theorem f84_ok(l m:List Ae)(hl:l.length≤1000000):Ad C0 84 [Ax l,Ax m] [] (B (decide (l=m))) []:=by
 refine Ad.go f84 ?_;unfold f84
 by_cases hn:l.length=m.length
 rotate_left
 ·have e1:((l.length:Int) !=m.length)=true:=by simp only[bne_iff_ne,ne_eq];omega
  have e2:l≠m:=fun h=>hn (by rw[h])
  simp(disch:=omega)only[go_sem,e1];refine Ap _ ?_;exact wb (by simp[e2])
 have e1:((l.length:Int) !=m.length)=false:=by simp[hn]
 simp(disch:=omega)only[go_sem,e1];refine Ab (α:=Nat) (fun i=>⟨[(13,I i),(12,I l.length),(0,Ax l),(1,Ax m)],[]⟩) (fun i=>i≤(l).length∧l.take i=m.take i) (fun i=>(l).length-i) 0 ⟨by omega,rfl⟩ ?_ ?_
 ·exact BB
 rintro i ⟨hi,hP⟩ J hJ;refine gO ?_;refine ⟨fun hlt=>?_,fun hge=>?_⟩;rotate_left;have hil:i=(l).length:=by simp at hge;omega
 rotate_left;obtain⟨b,hb⟩:∃ b,(l)[i]?=some b:=⟨_,gE (by simp at hlt;omega)⟩;have hbm:=mG hb;have hlt2:i<(l).length:=by simp at hlt;omega
 refine Aq 8 [([],[0]),([],[5]),([],[16,17]),([],[18]),([],[1]),([],[5]),([],[20,21]),([],[22])] fol ?_;simp(disch:=omega)only[go_sem,gm,hb]
 ·obtain⟨c,hc⟩:∃ c,m[i]?=some c:=⟨_,gE (by omega)⟩;simp(disch:=omega)only[go_sem,gm,hb,hc]
  by_cases hbc:b=c
  ·simp(disch:=omega)only[go_sem,hbc,decide_true];refine hJ _ (i+1) ⟨by simp at hlt;omega,(by rw[take_add_one,take_add_one,hb,hc,hP,hbc])⟩ (by simp at hlt;omega) AR
  ·simp(disch:=omega)only[go_sem,hbc,decide_false];refine Ap _ ?_;refine wb ?_;have:l≠m:=fun h=>hbc (by rw[h,hc]at hb;simpa using hb.symm)
   simp[this]
 ·subst hil;rw[take_length,hn,take_length]at hP;refine Ap _ ?_;exact wb (by simp[hP])
@[go_sem] theorem gG(p q:AO):(p.proc.site==q.proc.site&&(p.proc.inc==q.proc.inc&&(p.proc.num==q.proc.num&&decide (p.amt=q.amt))))=decide (p=q):=by
 obtain⟨⟨a,b,c⟩,⟨d,e⟩⟩:=p;obtain⟨⟨a',b',c'⟩,⟨d',e'⟩⟩:=q;refine Bool.eq_iff_iff.2 ?_;simp[and_assoc]
@[go_sem] theorem gU(p q:AS):(p.proc.site==q.proc.site&&(p.proc.inc==q.proc.inc&&(p.proc.num==q.proc.num&&(p.amt.mode==q.amt.mode&&(p.amt.AA==q.amt.AA&&(p.prio==q.prio&&p.Df==q.Df))))))=decide (p=q):=by
 obtain⟨⟨a,b,c⟩,⟨d,e⟩,f,g⟩:=p;obtain⟨⟨a',b',c'⟩,⟨d',e'⟩,f',g'⟩:=q;refine Bool.eq_iff_iff.2 ?_;simp[and_assoc]
@[go_sem] theorem im(p q:Res):(p.name==q.name&&(p.kind==q.kind&&(p.AA==q.AA&&p.home==q.home)))=decide (p=q):=by
 obtain⟨a,b,c,d⟩:=p;obtain⟨a',b',c',d'⟩:=q;refine Bool.eq_iff_iff.2 ?_;simp
def DH(w:AS):AS:={ w with Df:=0 }
@[go_sem] theorem fB(p q:AS):(p.proc.site==q.proc.site&&(p.proc.inc==q.proc.inc&&(p.proc.num==q.proc.num&&(p.amt.mode==q.amt.mode&&(p.amt.AA==q.amt.AA&&p.prio==q.prio)))))=decide (DH p=DH q):=by
 obtain⟨⟨a,b,c⟩,⟨d,e⟩,f,g⟩:=p;obtain⟨⟨a',b',c'⟩,⟨d',e'⟩,f',g'⟩:=q;refine Bool.eq_iff_iff.2 ?_;simp[and_assoc,DH]
theorem f220_ok(l m:List AO)(hl:l.length≤1000000)(hm:m.length≤1000000):Ad C0 220 [AH l,AH m] [] (B (decide (l=m))) []:=by
 refine Ad.go f220 ?_;unfold f220
 by_cases hn:l.length=m.length
 rotate_left
 ·have e1:((l.length:Int) !=m.length)=true:=by simp only[bne_iff_ne,ne_eq];omega
  have e2:l≠m:=fun h=>hn (by rw[h])
  simp(disch:=omega)only[go_sem,e1];refine Ap _ ?_;exact wb (by simp[e2])
 have e1:((l.length:Int) !=m.length)=false:=by simp[hn]
 simp(disch:=omega)only[go_sem,e1];refine Ab (α:=Nat) (fun i=>⟨[(13,I i),(12,I l.length),(0,AH l),(1,AH m)],[]⟩) (fun i=>i≤(l).length∧l.take i=m.take i) (fun i=>(l).length-i) 0 ⟨by omega,rfl⟩ ?_ ?_
 ·exact BB
 rintro i ⟨hi,hP⟩ J hJ;refine gO ?_;refine ⟨fun hlt=>?_,fun hge=>?_⟩;rotate_left;have hil:i=(l).length:=by simp at hge;omega
 rotate_left;obtain⟨b,hb⟩:∃ b,(l)[i]?=some b:=⟨_,gE (by simp at hlt;omega)⟩;have hbm:=mG hb;have hlt2:i<(l).length:=by simp at hlt;omega
 refine Aq 8 [([],[0]),([],[5]),([],[16,17]),([],[18]),([],[1]),([],[5]),([],[20,21]),([],[22])] fol ?_;simp(disch:=omega)only[go_sem,gm,hb]
 ·obtain⟨c,hc⟩:∃ c,m[i]?=some c:=⟨_,gE (by omega)⟩;simp(disch:=omega)only[go_sem,gm,hb,hc]
  by_cases hbc:b=c
  ·simp(disch:=omega)only[go_sem,hbc,decide_true];refine hJ _ (i+1) ⟨by simp at hlt;omega,(by rw[take_add_one,take_add_one,hb,hc,hP,hbc])⟩ (by simp at hlt;omega) AR
  ·simp(disch:=omega)only[go_sem,hbc,decide_false];refine Ap _ ?_;refine wb ?_;have:l≠m:=fun h=>hbc (by rw[h,hc]at hb;simpa using hb.symm)
   simp[this]
 ·subst hil;rw[take_length,hn,take_length]at hP;refine Ap _ ?_;exact wb (by simp[hP])
theorem f221_ok(l m:List AS)(hl:l.length≤1000000)(hm:m.length≤1000000):Ad C0 221 [A7 l,A7 m] [] (B (decide (l=m))) []:=by
 refine Ad.go f221 ?_;unfold f221
 by_cases hn:l.length=m.length
 rotate_left
 ·have e1:((l.length:Int) !=m.length)=true:=by simp only[bne_iff_ne,ne_eq];omega
  have e2:l≠m:=fun h=>hn (by rw[h])
  simp(disch:=omega)only[go_sem,e1];refine Ap _ ?_;exact wb (by simp[e2])
 have e1:((l.length:Int) !=m.length)=false:=by simp[hn]
 simp(disch:=omega)only[go_sem,e1];refine Ab (α:=Nat) (fun i=>⟨[(13,I i),(12,I l.length),(0,A7 l),(1,A7 m)],[]⟩) (fun i=>i≤(l).length∧l.take i=m.take i) (fun i=>(l).length-i) 0 ⟨by omega,rfl⟩ ?_ ?_
 ·exact BB
 rintro i ⟨hi,hP⟩ J hJ;refine gO ?_;refine ⟨fun hlt=>?_,fun hge=>?_⟩;rotate_left;have hil:i=(l).length:=by simp at hge;omega
 rotate_left;obtain⟨b,hb⟩:∃ b,(l)[i]?=some b:=⟨_,gE (by simp at hlt;omega)⟩;have hbm:=mG hb;have hlt2:i<(l).length:=by simp at hlt;omega
 refine Aq 8 [([],[0]),([],[5]),([],[16,17]),([],[18]),([],[1]),([],[5]),([],[20,21]),([],[22])] fol ?_;simp(disch:=omega)only[go_sem,gm,hb]
 ·obtain⟨c,hc⟩:∃ c,m[i]?=some c:=⟨_,gE (by omega)⟩;simp(disch:=omega)only[go_sem,gm,hb,hc]
  by_cases hbc:b=c
  ·simp(disch:=omega)only[go_sem,hbc,decide_true];refine hJ _ (i+1) ⟨by simp at hlt;omega,(by rw[take_add_one,take_add_one,hb,hc,hP,hbc])⟩ (by simp at hlt;omega) AR
  ·simp(disch:=omega)only[go_sem,hbc,decide_false];refine Ap _ ?_;refine wb ?_;have:l≠m:=fun h=>hbc (by rw[h,hc]at hb;simpa using hb.symm)
   simp[this]
 ·subst hil;rw[take_length,hn,take_length]at hP;refine Ap _ ?_;exact wb (by simp[hP])
theorem f223_ok(a b:AS):Ad C0 223 [.agg a.c,.agg b.c] [] (B (decide (DH a=DH b))) []:=by
 refine Ad.go f223 ?_;unfold f223;refine gO ?_;exact AE _
def BL{α:Type}(f:α→α→Bool):List α→List α→Bool
 |[],[]=>true
 | a::l,b::m=>f a b&&BL f l m
 |_,_=>false
theorem I0{α:Type}{f:α→α→Bool}:∀ {l m:List α},BL f l m=true→l.length=m.length
 |[],[],_=>rfl
 |[],_::_,h=>by simp[BL]at h
 |_::_,[],h=>by simp[BL]at h
 | a::l,b::m,h=>by
  simp only[BL,Bool.and_eq_true]at h;simp[I0 h.2]
theorem Kw{α:Type}{f:α→α→Bool}:∀ {l m:List α} {i:Nat} {a b:α},l.length=m.length→l[i]?=some a→m[i]?=some b→BL f (l.take i) (m.take i)=true→BL f (l.take (i+1)) (m.take (i+1))=f a b∧(f a b=false→BL f l m=false)
 |[],_,i,a,b,_,ha,_,_=>by simp at ha
 | x::l,[],i,a,b,hl,_,_,_=>by simp at hl
 | x::l,y::m,0,a,b,hl,ha,hb,_=>by
  simp only[List.getElem?_cons_zero,Option.some.injEq]at ha hb;subst ha;subst hb;refine⟨by simp[BL],fun h=>by simp[BL,h]⟩
 | x::l,y::m,i+1,a,b,hl,ha,hb,h=>by
  simp only[List.getElem?_cons_succ]at ha hb;simp only[List.take_succ_cons,BL,Bool.and_eq_true]at h ⊢;obtain⟨k1,k2⟩:=Kw (by simpa using hl) ha hb h.2;exact⟨by rw[h.1,k1];rfl,fun h3=>by rw[k2 h3];simp⟩
theorem f222_ok(l m:List AS)(hl:l.length≤1000000)(hm:m.length≤1000000):Ad C0 222 [A7 l,A7 m,.fn 223 []] [] (B (BL (fun a b=>decide (DH a=DH b)) l m)) []:=by
 refine Ad.go f222 ?_;unfold f222
 by_cases hn:l.length=m.length
 rotate_left
 ·have e1:((l.length:Int) !=m.length)=true:=by simp only[bne_iff_ne,ne_eq];omega
  have e2:BL (fun a b=>decide (DH a=DH b)) l m=false:=eq_false_iff.2 fun h=>hn (I0 h)
  simp(disch:=omega)only[go_sem,e1];refine Ap _ ?_;exact wb e2.symm
 have e1:((l.length:Int) !=m.length)=false:=by simp[hn]
 simp(disch:=omega)only[go_sem,e1];refine Ab (α:=Nat) (fun i=>⟨[(17,I i),(16,I l.length),(15,A7 l),(1,A7 m),(2,.fn 223 [])],[]⟩) (fun i=>i≤(l).length∧BL (fun a b=>decide (DH a=DH b)) (l.take i) (m.take i)=true) (fun i=>(l).length-i) 0 ⟨by omega,rfl⟩ ?_ ?_
 ·exact BB
 rintro i ⟨hi,hP⟩ J hJ;refine gO ?_;refine ⟨fun hlt=>?_,fun hge=>?_⟩;rotate_left;have hil:i=(l).length:=by simp at hge;omega
 rotate_left;obtain⟨b,hb⟩:∃ b,(l)[i]?=some b:=⟨_,gE (by simp at hlt;omega)⟩;have hbm:=mG hb;simp(disch:=omega)only[go_sem,gm,hb]
 ·obtain⟨c,hc⟩:∃ c,m[i]?=some c:=⟨_,gE (by simp at hlt;omega)⟩;obtain⟨k1,k2⟩:=Kw (f:=fun a b=>decide (DH a=DH b)) hn hb hc hP;simp(disch:=omega)only[go_sem,gm,hc];refine Ac (f223_ok b c) ?_;cases hbc:decide (DH b=DH c)
  ·simp(disch:=omega)only[go_sem];refine Ap _ ?_;exact wb (k2 hbc).symm
  ·simp(disch:=omega)only[go_sem];refine hJ _ (i+1) ⟨by simp at hlt;omega,(k1.trans hbc)⟩ (by simp at hlt;omega) AR
 ·subst hil;rw[take_length,hn,take_length]at hP;refine Ap _ ?_;exact wb hP.symm
def FT(a b:Queue):Bool:=decide (a.res=b.res)&&decide (a.holds=b.holds)&&decide (a.An=b.An)&&BL (fun a b=>decide (DH a=DH b)) a.waits b.waits
theorem f144_ok(a b:Queue)(ha:BC a≤100)(hb:BC b≤100):Ad C0 144 [.agg a.c,.agg b.c] [] (B (FT a b)) []:=by
 obtain⟨a1,a2,a3⟩:=Bb ha;obtain⟨b1,b2,b3⟩:=Bb hb;refine Ad.go f144 ?_;unfold f144;refine gO ?_
 by_cases h1:a.res=b.res
 rotate_left
 ·simp(disch:=omega)only[go_sem,h1,decide_false];refine Ap _ ?_;exact wb (by simp[FT,h1])
 simp(disch:=omega)only[go_sem,h1,decide_true];refine Ac (f220_ok a.holds b.holds a1 b1) ?_;cases h2:decide (a.holds=b.holds)
 ·simp(disch:=omega)only[go_sem];refine Ap _ ?_;exact wb (by simp only[FT,h2,Bool.and_false,Bool.false_and])
 refine gO ?_;refine Ac (f221_ok a.An b.An a2 b2) ?_;cases h3:decide (a.An=b.An)
 ·simp(disch:=omega)only[go_sem];refine Ap _ ?_;exact wb (by simp only[FT,h3,Bool.and_false,Bool.false_and])
 refine gO ?_;refine Ac (f222_ok a.waits b.waits a3 b3) ?_;refine gO ?_;refine Ap _ ?_;exact wb (by simp only[FT,h1,h2,h3,decide_true,Bool.true_and])
theorem f143_ok(l m:List Queue)(hl:l.length≤1000000)(hm:m.length≤1000000)(al:∀ q∈l,BC q≤100)(am:∀ q∈m,BC q≤100):Ad C0 143 [Ay l,Ay m,.fn 144 []] [] (B (BL FT l m)) []:=by
 refine Ad.go f143 ?_;unfold f143
 by_cases hn:l.length=m.length
 rotate_left
 ·have e1:((l.length:Int) !=m.length)=true:=by simp only[bne_iff_ne,ne_eq];omega
  have e2:BL FT l m=false:=eq_false_iff.2 fun h=>hn (I0 h)
  simp(disch:=omega)only[go_sem,e1];refine Ap _ ?_;exact wb e2.symm
 have e1:((l.length:Int) !=m.length)=false:=by simp[hn]
 simp(disch:=omega)only[go_sem,e1];refine Ab (α:=Nat) (fun i=>⟨[(17,I i),(16,I l.length),(15,Ay l),(1,Ay m),(2,.fn 144 [])],[]⟩) (fun i=>i≤(l).length∧BL FT (l.take i) (m.take i)=true) (fun i=>(l).length-i) 0 ⟨by omega,rfl⟩ ?_ ?_
 ·exact BB
 rintro i ⟨hi,hP⟩ J hJ;refine gO ?_;refine ⟨fun hlt=>?_,fun hge=>?_⟩;rotate_left;have hil:i=(l).length:=by simp at hge;omega
 rotate_left;obtain⟨b,hb⟩:∃ b,(l)[i]?=some b:=⟨_,gE (by simp at hlt;omega)⟩;have hbm:=mG hb;simp(disch:=omega)only[go_sem,gm,hb]
 ·obtain⟨c,hc⟩:∃ c,m[i]?=some c:=⟨_,gE (by simp at hlt;omega)⟩;obtain⟨k1,k2⟩:=Kw (f:=FT) hn hb hc hP;simp(disch:=omega)only[go_sem,gm,hc];refine Ac (f144_ok b c (al b hbm) (am c (mG hc))) ?_;cases hbc:FT b c
  ·simp(disch:=omega)only[go_sem];refine Ap _ ?_;exact wb (k2 hbc).symm
  ·simp(disch:=omega)only[go_sem];refine hJ _ (i+1) ⟨by simp at hlt;omega,(k1.trans hbc)⟩ (by simp at hlt;omega) AR
 ·subst hil;rw[take_length,hn,take_length]at hP;refine Ap _ ?_;exact wb hP.symm
def eqE:Expr→Expr→Bool
 |.mk k a l,f=>decide (k=f.k)&&decide (a=f.atom)&&go l f.kids
where go:List Expr→List Expr→Bool
 |[],[]=>true
 | e::l,f::m=>eqE e f&&go l m
 |_,_=>false
theorem Y6:∀ l m,eqE.go l m=BL eqE l m
 |[],[]=>by simp[eqE.go,BL]
 |[],_::_=>by simp[eqE.go,BL]
 |_::_,[]=>by simp[eqE.go,BL]
 | e::l,f::m=>by simp[eqE.go,BL,Y6 l m]
theorem MX(e f:Expr):eqE e f=(decide (e.k=f.k)&&decide (e.atom=f.atom)&&BL eqE e.kids f.kids):=by
 cases e with
 | mk k a l=>rw[eqE,Y6];rfl
theorem f269_ok(l m:List Expr)(hf:∀ e∈l,∀ f,Ad C0 224 [.agg e.c,.agg f.c] [] (B (eqE e f)) []):Ad C0 269 [EJ l,EJ m,.fn 224 []] [] (B (BL eqE l m)) []:=by
 refine Ad.lens f269 fun hlen=>?_
 simp only[D9,lens,length_map,and_true,true_and]at hlen;refine Ad.go f269 ?_;unfold f269
 by_cases hn:l.length=m.length
 rotate_left
 ·have e1:((l.length:Int) !=m.length)=true:=by simp only[bne_iff_ne,ne_eq];omega
  have e2:BL eqE l m=false:=eq_false_iff.2 fun h=>hn (I0 h)
  simp(disch:=omega)only[go_sem,e1];refine Ap _ ?_;exact wb e2.symm
 have e1:((l.length:Int) !=m.length)=false:=by simp[hn]
 simp(disch:=omega)only[go_sem,e1];refine Ab (α:=Nat) (fun i=>⟨[(17,I i),(16,I l.length),(15,EJ l),(1,EJ m),(2,.fn 224 [])],[]⟩) (fun i=>i≤(l).length∧BL eqE (l.take i) (m.take i)=true) (fun i=>(l).length-i) 0 ⟨by omega,rfl⟩ ?_ ?_
 ·exact BB
 rintro i ⟨hi,hP⟩ J hJ;refine gO ?_;refine ⟨fun hlt=>?_,fun hge=>?_⟩;rotate_left;have hil:i=(l).length:=by simp at hge;omega
 rotate_left;obtain⟨b,hb⟩:∃ b,(l)[i]?=some b:=⟨_,gE (by simp at hlt;omega)⟩;have hbm:=mG hb;simp(disch:=omega)only[go_sem,gm,hb]
 ·obtain⟨c,hc⟩:∃ c,m[i]?=some c:=⟨_,gE (by simp at hlt;omega)⟩;obtain⟨k1,k2⟩:=Kw (f:=eqE) hn hb hc hP;have hlt2:i<l.length:=by simp at hlt;omega
  simp(disch:=omega)only[go_sem,gm,hc];refine Ai (hf b hbm c) (by simp(disch:=omega)only[go_sem,Expr.By]) rfl ?_;cases hbc:eqE b c
  ·simp(disch:=omega)only[go_sem];refine Ap _ ?_;exact wb (k2 hbc).symm
  ·simp(disch:=omega)only[go_sem];refine hJ _ (i+1) ⟨by simp at hlt;omega,(k1.trans hbc)⟩ (by simp at hlt;omega) AR
 ·subst hil;rw[take_length,hn,take_length]at hP;refine Ap _ ?_;exact wb hP.symm
theorem f224_ok:∀ (N:Nat) (e:Expr),SizeOf.sizeOf e<N→∀ f:Expr,Ad C0 224 [.agg e.c,.agg f.c] [] (B (eqE e f)) []
 | 0,_,h,_=>by omega
 | N+1,e,h,f=>by
  refine Ad.go f224 ?_;unfold f224;refine gO ?_
  by_cases h1:e.k=f.k
  rotate_left
  ·have e1:(e.k==f.k)=false:=by simp[h1]
   simp(disch:=omega)only[go_sem,e1];refine Ap _ ?_;exact wb (by simp[MX,h1])
  have e1:(e.k==f.k)=true:=by simp[h1]
  simp(disch:=omega)only[go_sem,e1]
  by_cases h2:e.atom=f.atom
  rotate_left
  ·simp(disch:=omega)only[go_sem,h2,decide_false];refine Ap _ ?_;exact wb (by simp[MX,h2])
  simp(disch:=omega)only[go_sem,h2,decide_true];refine Ac (f269_ok e.kids f.kids fun x hx y=>f224_ok N x (by have:=CX hx;omega) y) ?_;refine gO ?_;refine Ap _ ?_;exact wb (by simp[MX,h1,h2])
def eqN(a b:Need):Bool:=decide (a.proc=b.proc)&&decide (a.gen=b.gen)&&eqE a.expr b.expr
theorem f146_ok(a b:Need):Ad C0 146 [.agg a.c,.agg b.c] [] (B (eqN a b)) []:=by
 refine Ad.go f146 ?_;unfold f146;refine gO ?_
 by_cases h1:a.proc=b.proc
 rotate_left
 ·simp(disch:=omega)only[go_sem,h1,decide_false];refine Ap _ ?_;exact wb (by simp[eqN,h1])
 simp(disch:=omega)only[go_sem,h1,decide_true]
 by_cases h2:a.gen=b.gen
 rotate_left
 ·have e1:(a.gen==b.gen)=false:=by simp[h2]
  simp(disch:=omega)only[go_sem,e1];refine Ap _ ?_;exact wb (by simp[eqN,h2])
 have e1:(a.gen==b.gen)=true:=by simp[h2]
 simp(disch:=omega)only[go_sem,e1];refine Ai (f224_ok _ a.expr (Nat.lt_succ_self _) b.expr) (by simp(disch:=omega)only[go_sem,Expr.By]) rfl ?_;refine gO ?_;refine Ap _ ?_;exact wb (by simp[eqN,h1,h2])
theorem f145_ok(l m:List Need)(hl:l.length≤1000000):Ad C0 145 [DU l,DU m,.fn 146 []] [] (B (BL eqN l m)) []:=by
 refine Ad.go f145 ?_;unfold f145
 by_cases hn:l.length=m.length
 rotate_left
 ·have e1:((l.length:Int) !=m.length)=true:=by simp only[bne_iff_ne,ne_eq];omega
  have e2:BL eqN l m=false:=eq_false_iff.2 fun h=>hn (I0 h)
  simp(disch:=omega)only[go_sem,e1];refine Ap _ ?_;exact wb e2.symm
 have e1:((l.length:Int) !=m.length)=false:=by simp[hn]
 simp(disch:=omega)only[go_sem,e1];refine Ab (α:=Nat) (fun i=>⟨[(17,I i),(16,I l.length),(15,DU l),(1,DU m),(2,.fn 146 [])],[]⟩) (fun i=>i≤(l).length∧BL eqN (l.take i) (m.take i)=true) (fun i=>(l).length-i) 0 ⟨by omega,rfl⟩ ?_ ?_
 ·exact BB
 rintro i ⟨hi,hP⟩ J hJ;refine gO ?_;refine ⟨fun hlt=>?_,fun hge=>?_⟩;rotate_left;have hil:i=(l).length:=by simp at hge;omega
 rotate_left;obtain⟨b,hb⟩:∃ b,(l)[i]?=some b:=⟨_,gE (by simp at hlt;omega)⟩;have hbm:=mG hb;simp(disch:=omega)only[go_sem,gm,hb]
 ·obtain⟨c,hc⟩:∃ c,m[i]?=some c:=⟨_,gE (by simp at hlt;omega)⟩;obtain⟨k1,k2⟩:=Kw (f:=eqN) hn hb hc hP;simp(disch:=omega)only[go_sem,gm,hc];refine Ac (f146_ok b c) ?_;cases hbc:eqN b c
  ·simp(disch:=omega)only[go_sem];refine Ap _ ?_;exact wb (k2 hbc).symm
  ·simp(disch:=omega)only[go_sem];refine hJ _ (i+1) ⟨by simp at hlt;omega,(k1.trans hbc)⟩ (by simp at hlt;omega) AR
 ·subst hil;rw[take_length,hn,take_length]at hP;refine Ap _ ?_;exact wb hP.symm
def Js(a b:WS):Bool:=BL FT a.Aa b.Aa&&BL eqN a.Ao b.Ao
theorem f89_ok(a b:WS)(ha:Few a)(hb:Few b):Ad C0 89 [.agg a.c,.agg b.c] [] (B (Js a b)) []:=by
 have a1:=ha.nq;have a2:=ha.nn;have b1:=hb.nq;refine Ad.go f89 ?_;unfold f89;refine gO ?_;refine Ac (f143_ok a.Aa b.Aa (by omega) (by omega) ha.aq hb.aq) ?_;cases h1:BL FT a.Aa b.Aa
 ·simp(disch:=omega)only[go_sem];refine Ap _ ?_;exact wb (by simp[Js,h1])
 refine gO ?_;refine Ac (f145_ok a.Ao b.Ao (by omega)) ?_;refine gO ?_;refine Ap _ ?_;exact wb (by simp[Js,h1])
theorem f216_ok:∀ (N:Nat) (e:Expr),SizeOf.sizeOf e<N→Ux N e→Ad C0 216 [.agg e.c] [] (.agg e.c) []
 | 0,_,h,_=>by omega
 | N+1,e,h,hk=>by
  have hk1:=hk.1;refine Ad.lens f216 fun hlen=>?_
  simp only[D9,lens,Expr.By,length_map,and_true,true_and]at hlen;refine Ad.go f216 ?_;unfold f216;refine gO ?_;refine Ab (α:=Nat) (fun i=>⟨[(9,I i),(8,I e.kids.length),(7,EJ e.kids),(1,.ptr 64 0),(2,.ptr 128 0),(3,.sl (.own 1088 0) 5 ((e.kids.take i).map Expr.c))],[(64,e.c),(128,(Expr.mk 0 a0 []).c)]⟩) (fun i=>i≤(e.kids).length∧True) (fun i=>(e.kids).length-i) 0 ⟨by omega,trivial⟩ ?_ ?_
  ·refine Imp.Am ?_ ?_
   all_goals(try simp(disch:=omega)only[go_sem])
   all_goals(try(repeat'(with_reducible apply And.intro)))
   all_goals(first|exact .AG (by omega)|exact .Az (by omega)|exact .sl (by simp[a0,Expr.By,Expr.k,Expr.atom,Expr.kids])|exact .int (by simp[a0,Expr.By,Expr.k,Expr.atom,Expr.kids])|exact .eq (by simp[a0,Expr.By,Expr.k,Expr.atom,Expr.kids]))
  rintro i ⟨hi,hP⟩ J hJ;refine gO ?_;refine ⟨fun hlt=>?_,fun hge=>?_⟩;rotate_left;have hil:i=(e.kids).length:=by simp at hge;omega
  rotate_left;obtain⟨b,hb⟩:∃ b,(e.kids)[i]?=some b:=⟨_,gE (by simp at hlt;omega)⟩;have hbm:=mG hb;simp(disch:=omega)only[go_sem,gm,hb]
  ·have hsz:=CX hbm;have hlt':i<e.kids.length:=by simp at hlt;omega
   have hbd:min i e.kids.length+1≤4294967296:=by omega
   refine Ac (f216_ok N b (by omega) (hk.2 b hbm)) ?_;simp(disch:=omega)only[go_sem,length_map,length_take];refine hJ _ (i+1) ⟨by omega,trivial⟩ (by omega) (Imp.Am ?_ ?_)
   ·simp(disch:=omega)only[go_sem];exact .sl (by simp[take_add_one,hb,Expr.By])
   ·simp(disch:=omega)only[go_sem,Expr.By]
  ·subst hil;simp(disch:=omega)only[go_sem,take_length];refine Cf ⟨[],[],[1088]⟩ _ ?_;simp(disch:=omega)only[go_sem,Expr.By]
theorem f140_ok(n:Need)(hx:A4 n.expr=true):Ad C0 140 [.agg n.c] [] (.agg n.c) []:=by
 refine Ad.go f140 ?_;unfold f140;refine gO ?_;refine Ai (f216_ok _ n.expr (Nat.lt_succ_self _) (OR hx _)) (by simp(disch:=omega)only[go_sem,Expr.By]) rfl ?_;simp(disch:=omega)only[go_sem,Expr.By];refine B8 _ ?_;simp(disch:=omega)only[go_sem,Expr.By]
theorem f215_ok(n:Need)(p:Ae):Ad C0 215 [.agg n.c,.ptr 63 0] [(63,p.c)] (B (decide (n.proc=p))) [(63,p.c)]:=by
 refine Ad.go f215 ?_;unfold f215;refine gO ?_;refine Ac (f61_ok n.proc p) ?_;refine gO ?_;refine Bc ⟨[],[(63,63)],[]⟩ _ (by(try simp(disch:=omega)only[go_sem,C6,IJ])<;>rfl) ⟨rfl,rfl⟩ (by simp[lk]) ?_ ?_
 ·exact gI
 ·exact gI
theorem Zo{α:Type}{f:α→Bool}{l:List α}(h:l.find? f=none):l.findIdx? f=none:=by
 rw[List.findIdx?_eq_none_iff];intro x hx;simpa using List.find?_eq_none.1 h x hx
def KT(l:List Need)(p:Ae):Int:=match l.findIdx? (fun n=>decide (n.proc=p)) with
 |some i=>i
 |none=>-1
theorem f214_ok(l:List Need)(p:Ae)(hl:l.length≤1000000):Ad C0 214 [DU l,.fn 215 [.ptr 63 0]] [(63,p.c)] (I (KT l p)) [(63,p.c)]:=by
 refine Ad.go f214 ?_;unfold f214;refine gO ?_;refine Ab (α:=Nat) (fun i=>⟨[(8,I i),(7,I l.length),(0,DU l),(1,.fn 215 [.ptr 63 0])],[(63,p.c)]⟩) (fun i=>i≤l.length∧(l.take i).find? (fun n=>decide (n.proc=p))=none) (fun i=>l.length-i) 0 ⟨by omega,rfl⟩ ?_ ?_
 ·refine Imp.Am ?_ ?_
  ·exact gI
  ·exact gI
 rintro i ⟨hi,hP⟩ J hJ;refine gO ?_;refine ⟨fun hlt=>?_,fun hge=>?_⟩;rotate_left
 ·have hil:i=l.length:=by simp at hge;omega
  subst hil;rw[take_length]at hP;refine Bc ⟨[],[(63,63)],[]⟩ _ (by(try simp(disch:=omega)only[go_sem,C6,IJ])<;>rfl) ⟨rfl,rfl⟩ (by simp[lk]) ?_ ?_
  ·simp(disch:=omega)only[go_sem];exact wi (by rw[KT,Zo hP])
  ·exact gI
 obtain⟨b,hb⟩:∃ b,l[i]?=some b:=⟨_,gE (by simp at hlt;omega)⟩;simp(disch:=omega)only[go_sem,gm,hb];refine Bn ⟨⟨[],[(63,63)],[]⟩,[],[]⟩ (f215_ok b p) gI rfl gI (.inl rfl) ?_;refine gO ?_;refine⟨fun h=>?_,fun h=>?_⟩
 ·refine Bc ⟨[],[(63,63)],[]⟩ _ (by(try simp(disch:=omega)only[go_sem,C6,IJ])<;>rfl) ⟨rfl,rfl⟩ (by simp[lk]) ?_ ?_
  ·simp(disch:=omega)only[go_sem];exact wi (by unfold KT;rw[FA hP b hb h])
  ·exact gI
 ·refine hJ _ (i+1) ⟨by simp at hlt;omega,by rw[BS hP hb];simp[h]⟩ (by simp at hlt;omega) AR
theorem f139_ok(l:List Need)(p:Ae)(hl:l.length≤1000000):Ad C0 139 [DU l,.agg p.c] [] (I (KT l p)) []:=by
 refine Ad.go f139 ?_;unfold f139;refine gO ?_;refine Bn ⟨⟨[],[(192,63)],[]⟩,[],[]⟩ (f214_ok l p hl) gI rfl gI (.inl rfl) ?_;refine gO ?_;exact AE _
def Nh(s:WS)(p:Ae):Option Need:=s.Ao.find? fun n=>decide (n.proc=p)
theorem f86_ok(s:WS)(p:Ae)(h:Few s)(hx:∀ n∈s.Ao,A4 n.expr=true):Ad C0 86 [.agg s.c,.agg p.c] [] (.tup [.agg ((Nh s p).getD n0).c,B (Nh s p).isSome]) []:=by
 have h1:=h.nn;refine Ad.go f86 ?_;unfold f86;refine gO ?_;refine Ac (f139_ok s.Ao p (by omega)) ?_;cases hf:s.Ao.findIdx? (fun n=>decide (n.proc=p)) with
 |none =>
  have e0:KT s.Ao p = -1:=by rw[KT,hf]
  have e1:Nh s p=none:=by
   unfold Nh;rw[List.find?_eq_none];intro x hx;simpa using List.findIdx?_eq_none_iff.1 hf x hx
  have em:(0≤(-1:Int))=False:=by simp
  simp(disch:=omega)only[go_sem,e0,e1,em,decide_false,n0,p0,a0];refine B8 _ ?_;simp(disch:=omega)only[go_sem,Expr.k,Expr.atom,Expr.kids];refine .tup (Aj.AM ?_);simp(disch:=omega)only[go_sem]
  repeat'(with_reducible apply And.intro)
  all_goals(first|exact .Az (by omega)|exact .agg (Aj.AM gI))
 |some i =>
  obtain⟨k1,k2,k3⟩:=List.findIdx?_eq_some_iff_getElem.1 hf;have hb:s.Ao[i]?=some s.Ao[i]:=gE k1;have hm:=List.getElem_mem k1;have e0:KT s.Ao p=i:=by rw[KT,hf]
  have e1:Nh s p=some s.Ao[i]:=by
   unfold Nh;rw[List.find?_eq_some_iff_getElem];exact⟨k2,i,k1,rfl,fun j hj=>by simpa using k3 j hj⟩
  generalize s.Ao[i]=b at hb hm e1 k2;have em:(0≤(i:Int))=True:=eq_true (by omega);simp(disch:=omega)only[go_sem,e0,e1,em,decide_true,gm,hb];refine Ai (f140_ok b (hx b hm)) (by simp(disch:=omega)only[go_sem,Expr.By]) rfl ?_;refine gO ?_;exact AE _
def GP(n:Nat)(dead:List Bool):List Bool:=(List.range n).map fun i=>!(dead.getD i false)
def Qo(e:Expr)(dead:List Bool):Bool:=!decide ((Ag e).length=0)&&!DL (DD (Ag e) (GP (Ag e).length dead)) e
theorem VT{n i:Nat}{dead:List Bool}(h:i<n):(((GP n dead).take i).map fun b=>[B b])++[[B (!(dead.getD i false))]]=((GP n dead).take (i+1)).map fun b=>[B b]:=by
 have:(GP n dead)[i]?=some (!(dead.getD i false)):=by simp[GP,h]
 rw[take_add_one,this];simp
theorem ab{α:Type}(a:List α)(z v:α)(k:Nat):(a++List.replicate (k+1) z).set a.length v=(a++[v])++List.replicate k z:=by
 rw[List.set_append_right _ _ (Nat.le_refl _),Nat.sub_self];simp[List.replicate_succ]
theorem f88_ok(e:Expr)(dead:List Bool):Ad C0 88 [.agg e.c,GN dead] [] (B (Qo e dead)) []:=by
 have hl:=Cj e;refine Ad.lens f88 fun hlen=>?_
 simp only[D9,lens,Expr.By,length_map,and_true,true_and]at hlen;refine Ad.go f88 ?_;unfold f88;refine gO ?_;refine Ai (f87_ok e) (by simp(disch:=omega)only[go_sem,Expr.By]) rfl ?_
 by_cases h0:(Ag e).length=0
 ·have e1:(((Ag e).length:Int)==0)=true:=by simp[h0]
  simp(disch:=omega)only[go_sem,e1];refine Ap _ ?_;exact wb (by simp[Qo,h0])
 have e1:(((Ag e).length:Int)==0)=false:=by simp[h0]
 simp(disch:=omega)only[go_sem,e1];have hdl:(GP (Ag e).length dead).length=(Ag e).length:=by simp[GP]
 refine Ab (α:=Nat) (fun i=>⟨[(18,I i),(17,I (Ag e).length),(1,GN dead),(2,.ptr 128 0),(5,Bv (Ag e)),(6,.sl (.own 960 0) 1 (((GP (Ag e).length dead).take i).map (fun b=>[B b])++List.replicate ((Ag e).length-i) [B false]))],[(128,e.c)]⟩) (fun i=>i≤((Ag e)).length∧True) (fun i=>((Ag e)).length-i) 0 ⟨by omega,trivial⟩ ?_ ?_
 ·exact BB
 rintro i ⟨hi,hP⟩ J hJ;refine gO ?_;refine ⟨fun hlt=>?_,fun hge=>?_⟩;rotate_left;have hil:i=((Ag e)).length:=by simp at hge;omega
 rotate_left;obtain⟨b,hb⟩:∃ b,((Ag e))[i]?=some b:=⟨_,gE (by simp at hlt;omega)⟩;have hbm:=mG hb;have hlt2:i<((Ag e)).length:=by simp at hlt;omega
 simp(disch:=omega)only[go_sem,gm,hb]
 ·have hlen:min i (Ag e).length+((Ag e).length-i)=(Ag e).length:=by omega
  have hget:(((GP (Ag e).length dead).take i).map (fun b=>[B b])++List.replicate ((Ag e).length-i) [B false])[i]?=some [B false]:=by
   rw[List.getElem?_append_right (by simp;omega),List.getElem?_replicate];simp;omega
  have nxt:((((GP (Ag e).length dead).take i).map (fun b=>[B b])++List.replicate ((Ag e).length-i) [B false])).set i [B (!(dead.getD i false))]=((GP (Ag e).length dead).take (i+1)).map (fun b=>[B b])++List.replicate ((Ag e).length-(i+1)) [B false]:=by
   have e2:=ab (((GP (Ag e).length dead).take i).map fun b=>[B b]) [B false] [B (!(dead.getD i false))] ((Ag e).length-(i+1));simp only[length_map,length_take,hdl,Nat.min_eq_left (show i≤(Ag e).length by omega)]at e2;rw[show (Ag e).length-i=((Ag e).length-(i+1))+1 by omega,e2,VT hlt2]
  by_cases hd:dead.length≤i
  ·have e3:decide ((dead.length:Int)≤i)=true:=decide_eq_true (by omega);have e4:dead.getD i false=false:=by simp[List.getD,List.getElem?_eq_none hd]
   rw[e4]at nxt;simp(disch:=omega)only[go_sem,e3,hget,List.length_append,List.length_replicate,length_map,length_take,hdl,hlen];refine hJ _ (i+1) ⟨by omega,trivial⟩ (by omega) (Imp.Am ?_ gI);refine gO ?_;exact .sl nxt
  ·have e3:decide ((dead.length:Int)≤i)=false:=decide_eq_false (by omega);obtain⟨d,hdd⟩:∃ d,dead[i]?=some d:=⟨_,gE (by omega)⟩;have e4:dead.getD i false=d:=by simp[List.getD,hdd]
   rw[e4]at nxt;have hd2:i<dead.length:=by omega
   simp(disch:=omega)only[go_sem,e3,hget,hdd,gm,List.length_append,List.length_replicate,length_map,length_take,hdl,hlen];refine hJ _ (i+1) ⟨by omega,trivial⟩ (by omega) (Imp.Am ?_ gI);refine gO ?_;exact .sl nxt
 ·subst hil;have e3:(List.take (Ag e).length (GP (Ag e).length dead))=GP (Ag e).length dead:=List.take_of_length_le (by omega);simp(disch:=omega)only[go_sem,Nat.sub_self,List.replicate_zero,List.append_nil,e3];refine C2 [960] (f142_ok e (Ag e) (GP (Ag e).length dead) (by omega)) (by simp(disch:=omega)only[go_sem,Expr.By]) rfl trivial ?_;refine gO ?_;refine Ap _ ?_;exact wb (by simp[Qo,h0])
end Go.Rd
