/- part 17 of the proof -/
import Derived.Test.YthachdiockkofaaGreatDoorL12
set_option linter.all false
open Go Go.Abs Go.Proofs
set_option maxRecDepth 100000
namespace Go.Rd
set_option maxHeartbeats 8000000
open List (length_map length_take)
open Bool (eq_false_iff)
open Tryz
def f84_ok(l m:List Ab)(hl:l.length≤1000000):Ad C0 84 [AX l,AX m] [] (B (decide (l=m))) []:=by
 refine Ad.go f84 ?_;unfold f84
 by_cases hn:l.length=m.length
 rotate_left
 ·have e1:((l.length:Int) !=m.length)=true:=by simp only[bne_iff_ne,ne_eq];omega
  have e2:l≠m:=fun h=>hn (by rw[h])
  simp(disch:=omega)only[go_sem,e1];refine As _ ?_;exact wb (by simp[e2])
 have e1:((l.length:Int) !=m.length)=false:=by simp[hn]
 simp(disch:=omega)only[go_sem,e1];refine Ac (α:=Nat) (fun i=>⟨[(13,I i),(12,I l.length),(0,AX l),(1,AX m)],[]⟩) (fun i=>i≤(l).length∧l.take i=m.take i) (fun i=>(l).length-i) 0 ⟨by omega,rfl⟩ ?_ ?_
 ·exact B0
 rintro i ⟨hi,hP⟩ J hJ;refine gO ?_;refine gR (l:=l) hi (fun b hb hbm hlt=>?_) (fun hil=>?_);refine Aw 8 [([],[0]),([],[5]),([],[16,17]),([],[18]),([],[1]),([],[5]),([],[20,21]),([],[22])] fol ?_;simp(disch:=omega)only[go_sem,gm,hb]
 ·obtain⟨c,hc⟩:∃ c,m[i]?=some c:=⟨_,gE (by omega)⟩;simp(disch:=omega)only[go_sem,gm,hb,hc]
  by_cases hbc:b=c
  ·simp(disch:=omega)only[go_sem,hbc,decide_true];refine hJ _ (i+1) ⟨by omega,(by rw[tA,tA,hb,hc,hP,hbc])⟩ (by omega) AT
  ·simp(disch:=omega)only[go_sem,hbc,decide_false];refine As _ ?_;refine wb ?_;have:l≠m:=fun h=>hbc (by rw[h,hc]at hb;simpa using hb.symm)
   simp[this]
 ·subst hil;rw[tL,hn,tL]at hP;refine As _ ?_;exact wb (by simp[hP])
@[go_sem] theorem j8(p q:AK):(p.proc.site==q.proc.site&&(p.proc.inc==q.proc.inc&&(p.proc.num==q.proc.num&&decide (p.amt=q.amt))))=decide (p=q):=by
 obtain⟨⟨a,b,c⟩,⟨d,e⟩⟩:=p;obtain⟨⟨a',b',c'⟩,⟨d',e'⟩⟩:=q;refine Bool.eq_iff_iff.2 ?_;simp[and_assoc]
@[go_sem] theorem kv(p q:AP):(p.proc.site==q.proc.site&&(p.proc.inc==q.proc.inc&&(p.proc.num==q.proc.num&&(p.amt.mode==q.amt.mode&&(p.amt.Ax==q.amt.Ax&&(p.prio==q.prio&&p.CQ==q.CQ))))))=decide (p=q):=by
 obtain⟨⟨a,b,c⟩,⟨d,e⟩,f,g⟩:=p;obtain⟨⟨a',b',c'⟩,⟨d',e'⟩,f',g'⟩:=q;refine Bool.eq_iff_iff.2 ?_;simp[and_assoc]
@[go_sem] theorem kN(p q:Res):(p.name==q.name&&(p.kind==q.kind&&(p.Ax==q.Ax&&p.home==q.home)))=decide (p=q):=by
 obtain⟨a,b,c,d⟩:=p;obtain⟨a',b',c',d'⟩:=q;refine Bool.eq_iff_iff.2 ?_;simp
def DQ(w:AP):AP:={ w with CQ:=0 }
@[go_sem] theorem jf(p q:AP):(p.proc.site==q.proc.site&&(p.proc.inc==q.proc.inc&&(p.proc.num==q.proc.num&&(p.amt.mode==q.amt.mode&&(p.amt.Ax==q.amt.Ax&&p.prio==q.prio)))))=decide (DQ p=DQ q):=by
 obtain⟨⟨a,b,c⟩,⟨d,e⟩,f,g⟩:=p;obtain⟨⟨a',b',c'⟩,⟨d',e'⟩,f',g'⟩:=q;refine Bool.eq_iff_iff.2 ?_;simp[and_assoc,DQ]
def f220_ok(l m:List AK)(hl:l.length≤1000000)(hm:m.length≤1000000):Ad C0 220 [AL l,AL m] [] (B (decide (l=m))) []:=by
 refine Ad.go f220 ?_;unfold f220
 by_cases hn:l.length=m.length
 rotate_left
 ·have e1:((l.length:Int) !=m.length)=true:=by simp only[bne_iff_ne,ne_eq];omega
  have e2:l≠m:=fun h=>hn (by rw[h])
  simp(disch:=omega)only[go_sem,e1];refine As _ ?_;exact wb (by simp[e2])
 have e1:((l.length:Int) !=m.length)=false:=by simp[hn]
 simp(disch:=omega)only[go_sem,e1];refine Ac (α:=Nat) (fun i=>⟨[(13,I i),(12,I l.length),(0,AL l),(1,AL m)],[]⟩) (fun i=>i≤(l).length∧l.take i=m.take i) (fun i=>(l).length-i) 0 ⟨by omega,rfl⟩ ?_ ?_
 ·exact B0
 rintro i ⟨hi,hP⟩ J hJ;refine gO ?_;refine gR (l:=l) hi (fun b hb hbm hlt=>?_) (fun hil=>?_);refine Aw 8 [([],[0]),([],[5]),([],[16,17]),([],[18]),([],[1]),([],[5]),([],[20,21]),([],[22])] fol ?_;simp(disch:=omega)only[go_sem,gm,hb]
 ·obtain⟨c,hc⟩:∃ c,m[i]?=some c:=⟨_,gE (by omega)⟩;simp(disch:=omega)only[go_sem,gm,hb,hc]
  by_cases hbc:b=c
  ·simp(disch:=omega)only[go_sem,hbc,decide_true];refine hJ _ (i+1) ⟨by omega,(by rw[tA,tA,hb,hc,hP,hbc])⟩ (by omega) AT
  ·simp(disch:=omega)only[go_sem,hbc,decide_false];refine As _ ?_;refine wb ?_;have:l≠m:=fun h=>hbc (by rw[h,hc]at hb;simpa using hb.symm)
   simp[this]
 ·subst hil;rw[tL,hn,tL]at hP;refine As _ ?_;exact wb (by simp[hP])
def f221_ok(l m:List AP)(hl:l.length≤1000000)(hm:m.length≤1000000):Ad C0 221 [Be l,Be m] [] (B (decide (l=m))) []:=by
 refine Ad.go f221 ?_;unfold f221
 by_cases hn:l.length=m.length
 rotate_left
 ·have e1:((l.length:Int) !=m.length)=true:=by simp only[bne_iff_ne,ne_eq];omega
  have e2:l≠m:=fun h=>hn (by rw[h])
  simp(disch:=omega)only[go_sem,e1];refine As _ ?_;exact wb (by simp[e2])
 have e1:((l.length:Int) !=m.length)=false:=by simp[hn]
 simp(disch:=omega)only[go_sem,e1];refine Ac (α:=Nat) (fun i=>⟨[(13,I i),(12,I l.length),(0,Be l),(1,Be m)],[]⟩) (fun i=>i≤(l).length∧l.take i=m.take i) (fun i=>(l).length-i) 0 ⟨by omega,rfl⟩ ?_ ?_
 ·exact B0
 rintro i ⟨hi,hP⟩ J hJ;refine gO ?_;refine gR (l:=l) hi (fun b hb hbm hlt=>?_) (fun hil=>?_);refine Aw 8 [([],[0]),([],[5]),([],[16,17]),([],[18]),([],[1]),([],[5]),([],[20,21]),([],[22])] fol ?_;simp(disch:=omega)only[go_sem,gm,hb]
 ·obtain⟨c,hc⟩:∃ c,m[i]?=some c:=⟨_,gE (by omega)⟩;simp(disch:=omega)only[go_sem,gm,hb,hc]
  by_cases hbc:b=c
  ·simp(disch:=omega)only[go_sem,hbc,decide_true];refine hJ _ (i+1) ⟨by omega,(by rw[tA,tA,hb,hc,hP,hbc])⟩ (by omega) AT
  ·simp(disch:=omega)only[go_sem,hbc,decide_false];refine As _ ?_;refine wb ?_;have:l≠m:=fun h=>hbc (by rw[h,hc]at hb;simpa using hb.symm)
   simp[this]
 ·subst hil;rw[tL,hn,tL]at hP;refine As _ ?_;exact wb (by simp[hP])
def f223_ok(a b:AP):Ad C0 223 [.agg a.c,.agg b.c] [] (B (decide (DQ a=DQ b))) []:=by
 refine Ad.go f223 ?_;unfold f223;refine gO ?_;exact AQ _
def B6{α:Type}(f:α→α→Bool):List α→List α→Bool
 |[],[]=>true
 | a::l,b::m=>f a b&&B6 f l m
 |_,_=>false
def Jy{α:Type}{f:α→α→Bool}:∀ {l m:List α},B6 f l m=true→l.length=m.length
 |[],[],_=>rfl
 |[],_::_,h=>by simp[B6]at h
 |_::_,[],h=>by simp[B6]at h
 | a::l,b::m,h=>by
  simp only[B6,Bool.and_eq_true]at h;simp[Jy h.2]
def Ld{α:Type}{f:α→α→Bool}:∀ {l m:List α} {i:Nat} {a b:α},l.length=m.length→l[i]?=some a→m[i]?=some b→B6 f (l.take i) (m.take i)=true→B6 f (l.take (i+1)) (m.take (i+1))=f a b∧(f a b=false→B6 f l m=false)
 |[],_,i,a,b,_,ha,_,_=>by simp at ha
 | x::l,[],i,a,b,hl,_,_,_=>by simp at hl
 | x::l,y::m,0,a,b,hl,ha,hb,_=>by
  simp only[List.getElem?_cons_zero,zO]at ha hb;subst ha;subst hb;refine⟨by simp[B6],fun h=>by simp[B6,h]⟩
 | x::l,y::m,i+1,a,b,hl,ha,hb,h=>by
  simp only[List.getElem?_cons_succ]at ha hb;simp only[List.take_succ_cons,B6,Bool.and_eq_true]at h ⊢;obtain⟨k1,k2⟩:=Ld (by simpa using hl) ha hb h.2;exact⟨by rw[h.1,k1];rfl,fun h3=>by rw[k2 h3];simp⟩
def f222_ok(l m:List AP)(hl:l.length≤1000000)(hm:m.length≤1000000):Ad C0 222 [Be l,Be m,.fn 223 []] [] (B (B6 (fun a b=>decide (DQ a=DQ b)) l m)) []:=by
 refine Ad.go f222 ?_;unfold f222
 by_cases hn:l.length=m.length
 rotate_left
 ·have e1:((l.length:Int) !=m.length)=true:=by simp only[bne_iff_ne,ne_eq];omega
  have e2:B6 (fun a b=>decide (DQ a=DQ b)) l m=false:=eq_false_iff.2 fun h=>hn (Jy h)
  simp(disch:=omega)only[go_sem,e1];refine As _ ?_;exact wb e2.symm
 have e1:((l.length:Int) !=m.length)=false:=by simp[hn]
 simp(disch:=omega)only[go_sem,e1];refine Ac (α:=Nat) (fun i=>⟨[(17,I i),(16,I l.length),(15,Be l),(1,Be m),(2,.fn 223 [])],[]⟩) (fun i=>i≤(l).length∧B6 (fun a b=>decide (DQ a=DQ b)) (l.take i) (m.take i)=true) (fun i=>(l).length-i) 0 ⟨by omega,rfl⟩ ?_ ?_
 ·exact B0
 rintro i ⟨hi,hP⟩ J hJ;refine gO ?_;refine gR (l:=l) hi (fun b hb hbm hlt=>?_) (fun hil=>?_);simp(disch:=omega)only[go_sem,gm,hb]
 ·obtain⟨c,hc⟩:∃ c,m[i]?=some c:=⟨_,gE (by omega)⟩;obtain⟨k1,k2⟩:=Ld (f:=fun a b=>decide (DQ a=DQ b)) hn hb hc hP;simp(disch:=omega)only[go_sem,gm,hc];refine Ae (f223_ok b c) ?_;cases hbc:decide (DQ b=DQ c)
  ·simp(disch:=omega)only[go_sem];refine As _ ?_;exact wb (k2 hbc).symm
  ·simp(disch:=omega)only[go_sem];refine hJ _ (i+1) ⟨by omega,(k1.trans hbc)⟩ (by omega) AT
 ·subst hil;rw[tL,hn,tL]at hP;refine As _ ?_;exact wb hP.symm
def Gu(a b:Queue):Bool:=decide (a.res=b.res)&&decide (a.holds=b.holds)&&decide (a.Ao=b.Ao)&&B6 (fun a b=>decide (DQ a=DQ b)) a.waits b.waits
def f144_ok(a b:Queue)(ha:BG a≤100)(hb:BG b≤100):Ad C0 144 [.agg a.c,.agg b.c] [] (B (Gu a b)) []:=by
 obtain⟨a1,a2,a3⟩:=Bu ha;obtain⟨b1,b2,b3⟩:=Bu hb;refine Ad.go f144 ?_;unfold f144;refine gO ?_
 by_cases h1:a.res=b.res
 rotate_left
 ·simp(disch:=omega)only[go_sem,h1,decide_false];refine As _ ?_;exact wb (by simp[Gu,h1])
 simp(disch:=omega)only[go_sem,h1,decide_true];refine Ae (f220_ok a.holds b.holds a1 b1) ?_;cases h2:decide (a.holds=b.holds)
 ·simp(disch:=omega)only[go_sem];refine As _ ?_;exact wb (by simp only[Gu,h2,Bool.and_false,Bool.false_and])
 refine gO ?_;refine Ae (f221_ok a.Ao b.Ao a2 b2) ?_;cases h3:decide (a.Ao=b.Ao)
 ·simp(disch:=omega)only[go_sem];refine As _ ?_;exact wb (by simp only[Gu,h3,Bool.and_false,Bool.false_and])
 refine gO ?_;refine Ae (f222_ok a.waits b.waits a3 b3) ?_;refine gO ?_;refine As _ ?_;exact wb (by simp only[Gu,h1,h2,h3,decide_true,Bool.true_and])
def f143_ok(l m:List Queue)(hl:l.length≤1000000)(hm:m.length≤1000000)(al:∀ q∈l,BG q≤100)(am:∀ q∈m,BG q≤100):Ad C0 143 [AB l,AB m,.fn 144 []] [] (B (B6 Gu l m)) []:=by
 refine Ad.go f143 ?_;unfold f143
 by_cases hn:l.length=m.length
 rotate_left
 ·have e1:((l.length:Int) !=m.length)=true:=by simp only[bne_iff_ne,ne_eq];omega
  have e2:B6 Gu l m=false:=eq_false_iff.2 fun h=>hn (Jy h)
  simp(disch:=omega)only[go_sem,e1];refine As _ ?_;exact wb e2.symm
 have e1:((l.length:Int) !=m.length)=false:=by simp[hn]
 simp(disch:=omega)only[go_sem,e1];refine Ac (α:=Nat) (fun i=>⟨[(17,I i),(16,I l.length),(15,AB l),(1,AB m),(2,.fn 144 [])],[]⟩) (fun i=>i≤(l).length∧B6 Gu (l.take i) (m.take i)=true) (fun i=>(l).length-i) 0 ⟨by omega,rfl⟩ ?_ ?_
 ·exact B0
 rintro i ⟨hi,hP⟩ J hJ;refine gO ?_;refine gR (l:=l) hi (fun b hb hbm hlt=>?_) (fun hil=>?_);simp(disch:=omega)only[go_sem,gm,hb]
 ·obtain⟨c,hc⟩:∃ c,m[i]?=some c:=⟨_,gE (by omega)⟩;obtain⟨k1,k2⟩:=Ld (f:=Gu) hn hb hc hP;simp(disch:=omega)only[go_sem,gm,hc];refine Ae (f144_ok b c (al b hbm) (am c (mG hc))) ?_;cases hbc:Gu b c
  ·simp(disch:=omega)only[go_sem];refine As _ ?_;exact wb (k2 hbc).symm
  ·simp(disch:=omega)only[go_sem];refine hJ _ (i+1) ⟨by omega,(k1.trans hbc)⟩ (by omega) AT
 ·subst hil;rw[tL,hn,tL]at hP;refine As _ ?_;exact wb hP.symm
def eqE:Expr→Expr→Bool
 |.mk k a l,f=>decide (k=f.k)&&decide (a=f.atom)&&go l f.kids
where go:List Expr→List Expr→Bool
 |[],[]=>true
 | e::l,f::m=>eqE e f&&go l m
 |_,_=>false
def aA:∀ l m,eqE.go l m=B6 eqE l m
 |[],[]=>by simp[eqE.go,B6]
 |[],_::_=>by simp[eqE.go,B6]
 |_::_,[]=>by simp[eqE.go,B6]
 | e::l,f::m=>by simp[eqE.go,B6,aA l m]
def Qa(e f:Expr):eqE e f=(decide (e.k=f.k)&&decide (e.atom=f.atom)&&B6 eqE e.kids f.kids):=by
 cases e with
 | mk k a l=>rw[eqE,aA];rfl
def f269_ok(l m:List Expr)(hf:∀ e∈l,∀ f,Ad C0 224 [.agg e.c,.agg f.c] [] (B (eqE e f)) []):Ad C0 269 [Fa l,Fa m,.fn 224 []] [] (B (B6 eqE l m)) []:=by
 refine Ad.lens f269 fun hlen=>?_
 simp only[ED,lens,length_map,and_true,true_and]at hlen;refine Ad.go f269 ?_;unfold f269
 by_cases hn:l.length=m.length
 rotate_left
 ·have e1:((l.length:Int) !=m.length)=true:=by simp only[bne_iff_ne,ne_eq];omega
  have e2:B6 eqE l m=false:=eq_false_iff.2 fun h=>hn (Jy h)
  simp(disch:=omega)only[go_sem,e1];refine As _ ?_;exact wb e2.symm
 have e1:((l.length:Int) !=m.length)=false:=by simp[hn]
 simp(disch:=omega)only[go_sem,e1];refine Ac (α:=Nat) (fun i=>⟨[(17,I i),(16,I l.length),(15,Fa l),(1,Fa m),(2,.fn 224 [])],[]⟩) (fun i=>i≤(l).length∧B6 eqE (l.take i) (m.take i)=true) (fun i=>(l).length-i) 0 ⟨by omega,rfl⟩ ?_ ?_
 ·exact B0
 rintro i ⟨hi,hP⟩ J hJ;refine gO ?_;refine gR (l:=l) hi (fun b hb hbm hlt=>?_) (fun hil=>?_);simp(disch:=omega)only[go_sem,gm,hb]
 ·obtain⟨c,hc⟩:∃ c,m[i]?=some c:=⟨_,gE (by omega)⟩;obtain⟨k1,k2⟩:=Ld (f:=eqE) hn hb hc hP;have hlt:i<l.length:=by omega
  simp(disch:=omega)only[go_sem,gm,hc];refine Ah (hf b hbm c) (by simp(disch:=omega)only[go_sem,Expr.BV]) rfl ?_;cases hbc:eqE b c
  ·simp(disch:=omega)only[go_sem];refine As _ ?_;exact wb (k2 hbc).symm
  ·simp(disch:=omega)only[go_sem];refine hJ _ (i+1) ⟨by omega,(k1.trans hbc)⟩ (by omega) AT
 ·subst hil;rw[tL,hn,tL]at hP;refine As _ ?_;exact wb hP.symm
def f224_ok:∀ (N:Nat) (e:Expr),SizeOf.sizeOf e<N→∀ f:Expr,Ad C0 224 [.agg e.c,.agg f.c] [] (B (eqE e f)) []
 | 0,_,h,_=>by omega
 | N+1,e,h,f=>by
  refine Ad.go f224 ?_;unfold f224;refine gO ?_
  by_cases h1:e.k=f.k
  rotate_left
  ·have e1:(e.k==f.k)=false:=by simp[h1]
   simp(disch:=omega)only[go_sem,e1];refine As _ ?_;exact wb (by simp[Qa,h1])
  have e1:(e.k==f.k)=true:=by simp[h1]
  simp(disch:=omega)only[go_sem,e1]
  by_cases h2:e.atom=f.atom
  rotate_left
  ·simp(disch:=omega)only[go_sem,h2,decide_false];refine As _ ?_;exact wb (by simp[Qa,h2])
  simp(disch:=omega)only[go_sem,h2,decide_true];refine Ae (f269_ok e.kids f.kids fun x hx y=>f224_ok N x (by have:=DB hx;omega) y) ?_;refine gO ?_;refine As _ ?_;exact wb (by simp[Qa,h1,h2])
def eqN(a b:Need):Bool:=decide (a.proc=b.proc)&&decide (a.gen=b.gen)&&eqE a.expr b.expr
def f146_ok(a b:Need):Ad C0 146 [.agg a.c,.agg b.c] [] (B (eqN a b)) []:=by
 refine Ad.go f146 ?_;unfold f146;refine gO ?_
 by_cases h1:a.proc=b.proc
 rotate_left
 ·simp(disch:=omega)only[go_sem,h1,decide_false];refine As _ ?_;exact wb (by simp[eqN,h1])
 simp(disch:=omega)only[go_sem,h1,decide_true]
 by_cases h2:a.gen=b.gen
 rotate_left
 ·have e1:(a.gen==b.gen)=false:=by simp[h2]
  simp(disch:=omega)only[go_sem,e1];refine As _ ?_;exact wb (by simp[eqN,h2])
 have e1:(a.gen==b.gen)=true:=by simp[h2]
 simp(disch:=omega)only[go_sem,e1];refine Ah (f224_ok _ a.expr (Nat.lt_succ_self _) b.expr) (by simp(disch:=omega)only[go_sem,Expr.BV]) rfl ?_;refine gO ?_;refine As _ ?_;exact wb (by simp[eqN,h1,h2])
def f145_ok(l m:List Need)(hl:l.length≤1000000):Ad C0 145 [Fe l,Fe m,.fn 146 []] [] (B (B6 eqN l m)) []:=by
 refine Ad.go f145 ?_;unfold f145
 by_cases hn:l.length=m.length
 rotate_left
 ·have e1:((l.length:Int) !=m.length)=true:=by simp only[bne_iff_ne,ne_eq];omega
  have e2:B6 eqN l m=false:=eq_false_iff.2 fun h=>hn (Jy h)
  simp(disch:=omega)only[go_sem,e1];refine As _ ?_;exact wb e2.symm
 have e1:((l.length:Int) !=m.length)=false:=by simp[hn]
 simp(disch:=omega)only[go_sem,e1];refine Ac (α:=Nat) (fun i=>⟨[(17,I i),(16,I l.length),(15,Fe l),(1,Fe m),(2,.fn 146 [])],[]⟩) (fun i=>i≤(l).length∧B6 eqN (l.take i) (m.take i)=true) (fun i=>(l).length-i) 0 ⟨by omega,rfl⟩ ?_ ?_
 ·exact B0
 rintro i ⟨hi,hP⟩ J hJ;refine gO ?_;refine gR (l:=l) hi (fun b hb hbm hlt=>?_) (fun hil=>?_);simp(disch:=omega)only[go_sem,gm,hb]
 ·obtain⟨c,hc⟩:∃ c,m[i]?=some c:=⟨_,gE (by omega)⟩;obtain⟨k1,k2⟩:=Ld (f:=eqN) hn hb hc hP;simp(disch:=omega)only[go_sem,gm,hc];refine Ae (f146_ok b c) ?_;cases hbc:eqN b c
  ·simp(disch:=omega)only[go_sem];refine As _ ?_;exact wb (k2 hbc).symm
  ·simp(disch:=omega)only[go_sem];refine hJ _ (i+1) ⟨by omega,(k1.trans hbc)⟩ (by omega) AT
 ·subst hil;rw[tL,hn,tL]at hP;refine As _ ?_;exact wb hP.symm
def Mz(a b:WS):Bool:=B6 Gu a.Aa b.Aa&&B6 eqN a.AE b.AE
def f89_ok(a b:WS)(ha:Few a)(hb:Few b):Ad C0 89 [.agg a.c,.agg b.c] [] (B (Mz a b)) []:=by
 have a1:=ha.nq;have a2:=ha.nn;have b1:=hb.nq;refine Ad.go f89 ?_;unfold f89;refine gO ?_;refine Ae (f143_ok a.Aa b.Aa (by omega) (by omega) ha.aq hb.aq) ?_;cases h1:B6 Gu a.Aa b.Aa
 ·simp(disch:=omega)only[go_sem];refine As _ ?_;exact wb (by simp[Mz,h1])
 refine gO ?_;refine Ae (f145_ok a.AE b.AE (by omega)) ?_;refine gO ?_;refine As _ ?_;exact wb (by simp[Mz,h1])
def f216_ok:∀ (N:Nat) (e:Expr),SizeOf.sizeOf e<N→Vz N e→Ad C0 216 [.agg e.c] [] (.agg e.c) []
 | 0,_,h,_=>by omega
 | N+1,e,h,hk=>by
  have hk1:=hk.1;refine Ad.lens f216 fun hlen=>?_
  simp only[ED,lens,Expr.BV,length_map,and_true,true_and]at hlen;refine Ad.go f216 ?_;unfold f216;refine gO ?_;refine Ac (α:=Nat) (fun i=>⟨[(9,I i),(8,I e.kids.length),(7,Fa e.kids),(1,.ptr 64 0),(2,.ptr 128 0),(3,.sl (.own 1088 0) 5 ((e.kids.take i).map Expr.c))],[(64,e.c),(128,(Expr.mk 0 a0 []).c)]⟩) (fun i=>i≤(e.kids).length∧True) (fun i=>(e.kids).length-i) 0 ⟨by omega,trivial⟩ ?_ ?_
  ·refine Imp.Ar ?_ ?_
   all_goals(try simp(disch:=omega)only[go_sem])
   all_goals(try(repeat'(with_reducible apply And.intro)))
   all_goals(first|exact .AO (by omega)|exact .AJ (by omega)|exact .sl (by simp[a0,Expr.BV,Expr.k,Expr.atom,Expr.kids])|exact .int (by simp[a0,Expr.BV,Expr.k,Expr.atom,Expr.kids])|exact .eq (by simp[a0,Expr.BV,Expr.k,Expr.atom,Expr.kids]))
  rintro i ⟨hi,hP⟩ J hJ;refine gO ?_;refine gR (l:=e.kids) hi (fun b hb hbm hlt=>?_) (fun hil=>?_);simp(disch:=omega)only[go_sem,gm,hb]
  ·have hsz:=DB hbm;have hlt':i<e.kids.length:=by omega
   have hbd:min i e.kids.length+1≤4294967296:=by omega
   refine Ae (f216_ok N b (by omega) (hk.2 b hbm)) ?_;simp(disch:=omega)only[go_sem,length_map,length_take];refine hJ _ (i+1) ⟨by omega,trivial⟩ (by omega) (Imp.Ar ?_ ?_)
   ·simp(disch:=omega)only[go_sem];exact .sl (by simp[tA,hb,Expr.BV])
   ·simp(disch:=omega)only[go_sem,Expr.BV]
  ·subst hil;simp(disch:=omega)only[go_sem,tL];refine CL ⟨[],[],[1088]⟩ _ ?_;simp(disch:=omega)only[go_sem,Expr.BV]
def f140_ok(n:Need)(hx:Bb n.expr=true):Ad C0 140 [.agg n.c] [] (.agg n.c) []:=by
 refine Ad.go f140 ?_;unfold f140;refine gO ?_;refine Ah (f216_ok _ n.expr (Nat.lt_succ_self _) (Pt hx _)) (by simp(disch:=omega)only[go_sem,Expr.BV]) rfl ?_;simp(disch:=omega)only[go_sem,Expr.BV];refine Cn _ ?_;simp(disch:=omega)only[go_sem,Expr.BV]
def f215_ok(n:Need)(p:Ab):Ad C0 215 [.agg n.c,.ptr 63 0] [(63,p.c)] (B (decide (n.proc=p))) [(63,p.c)]:=by
 refine Ad.go f215 ?_;unfold f215;refine gO ?_;refine Ae (f61_ok n.proc p) ?_;refine gO ?_;refine Bd ⟨[],[(63,63)],[]⟩ _ (by(try simp(disch:=omega)only[go_sem,Dp,JQ])<;>rfl) ⟨rfl,rfl⟩ (by simp[lk]) ?_ ?_
 ·exact gI
 ·exact gI
def aV{α:Type}{f:α→Bool}{l:List α}(h:l.find? f=none):l.findIdx? f=none:=by
 rw[List.findIdx?_eq_none_iff];intro x hx;simpa using List.find?_eq_none.1 h x hx
def Lu(l:List Need)(p:Ab):Int:=match l.findIdx? (fun n=>decide (n.proc=p)) with
 |some i=>i
 |none=>-1
def f214_ok(l:List Need)(p:Ab)(hl:l.length≤1000000):Ad C0 214 [Fe l,.fn 215 [.ptr 63 0]] [(63,p.c)] (I (Lu l p)) [(63,p.c)]:=by
 refine Ad.go f214 ?_;unfold f214;refine gO ?_;refine Ac (α:=Nat) (fun i=>⟨[(8,I i),(7,I l.length),(0,Fe l),(1,.fn 215 [.ptr 63 0])],[(63,p.c)]⟩) (fun i=>i≤l.length∧(l.take i).find? (fun n=>decide (n.proc=p))=none) (fun i=>l.length-i) 0 ⟨by omega,rfl⟩ ?_ ?_
 ·refine Imp.Ar ?_ ?_
  ·exact gI
  ·exact gI
 rintro i ⟨hi,hP⟩ J hJ;refine gO ?_;refine ⟨fun hlt=>?_,fun hge=>?_⟩;rotate_left
 ·have hil:i=l.length:=by simp at hge;omega
  subst hil;rw[tL]at hP;refine Bd ⟨[],[(63,63)],[]⟩ _ (by(try simp(disch:=omega)only[go_sem,Dp,JQ])<;>rfl) ⟨rfl,rfl⟩ (by simp[lk]) ?_ ?_
  ·simp(disch:=omega)only[go_sem];exact wi (by rw[Lu,aV hP])
  ·exact gI
 obtain⟨b,hb⟩:∃ b,l[i]?=some b:=⟨_,gE (by simp at hlt;omega)⟩;simp(disch:=omega)only[go_sem,gm,hb];refine Bq ⟨⟨[],[(63,63)],[]⟩,[],[]⟩ (f215_ok b p) gI rfl gI (.inl rfl) ?_;refine gO ?_;refine⟨fun h=>?_,fun h=>?_⟩
 ·refine Bd ⟨[],[(63,63)],[]⟩ _ (by(try simp(disch:=omega)only[go_sem,Dp,JQ])<;>rfl) ⟨rfl,rfl⟩ (by simp[lk]) ?_ ?_
  ·simp(disch:=omega)only[go_sem];exact wi (by unfold Lu;rw[F8 hP b hb h])
  ·exact gI
 ·refine hJ _ (i+1) ⟨by simp at hlt;omega,by rw[BW hP hb];simp[h]⟩ (by simp at hlt;omega) AT
def f139_ok(l:List Need)(p:Ab)(hl:l.length≤1000000):Ad C0 139 [Fe l,.agg p.c] [] (I (Lu l p)) []:=by
 refine Ad.go f139 ?_;unfold f139;refine gO ?_;refine Bq ⟨⟨[],[(192,63)],[]⟩,[],[]⟩ (f214_ok l p hl) gI rfl gI (.inl rfl) ?_;refine gO ?_;exact AQ _
def NO(s:WS)(p:Ab):Option Need:=s.AE.find? fun n=>decide (n.proc=p)
def f86_ok(s:WS)(p:Ab)(h:Few s)(hx:∀ n∈s.AE,Bb n.expr=true):Ad C0 86 [.agg s.c,.agg p.c] [] (.tup [.agg ((NO s p).getD n0).c,B (NO s p).isSome]) []:=by
 have h1:=h.nn;refine Ad.go f86 ?_;unfold f86;refine gO ?_;refine Ae (f139_ok s.AE p (by omega)) ?_;cases hf:s.AE.findIdx? (fun n=>decide (n.proc=p)) with
 |none =>
  have e0:Lu s.AE p = -1:=by rw[Lu,hf]
  have e1:NO s p=none:=by
   unfold NO;rw[List.find?_eq_none];intro x hx;simpa using List.findIdx?_eq_none_iff.1 hf x hx
  have em:(0≤(-1:Int))=False:=by simp
  simp(disch:=omega)only[go_sem,e0,e1,em,decide_false,n0,p0,a0];refine Cn _ ?_;simp(disch:=omega)only[go_sem,Expr.k,Expr.atom,Expr.kids];refine .tup (Ai.AR ?_);simp(disch:=omega)only[go_sem]
  repeat'(with_reducible apply And.intro)
  all_goals(first|exact .AJ (by omega)|exact .agg (Ai.AR gI))
 |some i =>
  obtain⟨k1,k2,k3⟩:=List.findIdx?_eq_some_iff_getElem.1 hf;have hb:s.AE[i]?=some s.AE[i]:=gE k1;have hm:=List.getElem_mem k1;have e0:Lu s.AE p=i:=by rw[Lu,hf]
  have e1:NO s p=some s.AE[i]:=by
   unfold NO;rw[List.find?_eq_some_iff_getElem];exact⟨k2,i,k1,rfl,fun j hj=>by simpa using k3 j hj⟩
  generalize s.AE[i]=b at hb hm e1 k2;have em:(0≤(i:Int))=True:=eq_true (by omega);simp(disch:=omega)only[go_sem,e0,e1,em,decide_true,gm,hb];refine Ah (f140_ok b (hx b hm)) (by simp(disch:=omega)only[go_sem,Expr.BV]) rfl ?_;refine gO ?_;exact AQ _
def Hm(n:Nat)(dead:List Bool):List Bool:=(List.range n).map fun i=>!(dead.getD i false)
def QZ(e:Expr)(dead:List Bool):Bool:=!decide ((Ag e).length=0)&&!Ez (D0 (Ag e) (Hm (Ag e).length dead)) e
def Xb{n i:Nat}{dead:List Bool}(h:i<n):(((Hm n dead).take i).map fun b=>[B b])++[[B (!(dead.getD i false))]]=((Hm n dead).take (i+1)).map fun b=>[B b]:=by
 have:(Hm n dead)[i]?=some (!(dead.getD i false)):=by simp[Hm,h]
 rw[tA,this];simp
def bX{α:Type}(a:List α)(z v:α)(k:Nat):(a++List.replicate (k+1) z).set a.length v=(a++[v])++List.replicate k z:=by
 rw[List.set_append_right _ _ (Nat.le_refl _),Nat.sub_self];simp[List.replicate_succ]
def f88_ok(e:Expr)(dead:List Bool):Ad C0 88 [.agg e.c,HR dead] [] (B (QZ e dead)) []:=by
 have hl:=CF e;refine Ad.lens f88 fun hlen=>?_
 simp only[ED,lens,Expr.BV,length_map,and_true,true_and]at hlen;refine Ad.go f88 ?_;unfold f88;refine gO ?_;refine Ah (f87_ok e) (by simp(disch:=omega)only[go_sem,Expr.BV]) rfl ?_
 by_cases h0:(Ag e).length=0
 ·have e1:(((Ag e).length:Int)==0)=true:=by simp[h0]
  simp(disch:=omega)only[go_sem,e1];refine As _ ?_;exact wb (by simp[QZ,h0])
 have e1:(((Ag e).length:Int)==0)=false:=by simp[h0]
 simp(disch:=omega)only[go_sem,e1];have hdl:(Hm (Ag e).length dead).length=(Ag e).length:=by simp[Hm]
 refine Ac (α:=Nat) (fun i=>⟨[(18,I i),(17,I (Ag e).length),(1,HR dead),(2,.ptr 128 0),(5,BB (Ag e)),(6,.sl (.own 960 0) 1 (((Hm (Ag e).length dead).take i).map (fun b=>[B b])++List.replicate ((Ag e).length-i) [B false]))],[(128,e.c)]⟩) (fun i=>i≤((Ag e)).length∧True) (fun i=>((Ag e)).length-i) 0 ⟨by omega,trivial⟩ ?_ ?_
 ·exact B0
 rintro i ⟨hi,hP⟩ J hJ;refine gO ?_;refine gR (l:=(Ag e)) hi (fun b hb hbm hlt=>?_) (fun hil=>?_);simp(disch:=omega)only[go_sem,gm,hb]
 ·have hlen:min i (Ag e).length+((Ag e).length-i)=(Ag e).length:=by omega
  have hget:(((Hm (Ag e).length dead).take i).map (fun b=>[B b])++List.replicate ((Ag e).length-i) [B false])[i]?=some [B false]:=by
   rw[List.getElem?_append_right (by simp;omega),List.getElem?_replicate];simp;omega
  have nxt:((((Hm (Ag e).length dead).take i).map (fun b=>[B b])++List.replicate ((Ag e).length-i) [B false])).set i [B (!(dead.getD i false))]=((Hm (Ag e).length dead).take (i+1)).map (fun b=>[B b])++List.replicate ((Ag e).length-(i+1)) [B false]:=by
   have e2:=bX (((Hm (Ag e).length dead).take i).map fun b=>[B b]) [B false] [B (!(dead.getD i false))] ((Ag e).length-(i+1));simp only[length_map,length_take,hdl,Nat.min_eq_left (show i≤(Ag e).length by omega)]at e2;rw[show (Ag e).length-i=((Ag e).length-(i+1))+1 by omega,e2,Xb hlt]
  by_cases hd:dead.length≤i
  ·have e3:decide ((dead.length:Int)≤i)=true:=decide_eq_true (by omega);have e4:dead.getD i false=false:=by simp[List.getD,List.getElem?_eq_none hd]
   rw[e4]at nxt;simp(disch:=omega)only[go_sem,e3,hget,List.length_append,List.length_replicate,length_map,length_take,hdl,hlen];refine hJ _ (i+1) ⟨by omega,trivial⟩ (by omega) (Imp.Ar ?_ gI);refine gO ?_;exact .sl nxt
  ·have e3:decide ((dead.length:Int)≤i)=false:=decide_eq_false (by omega);obtain⟨d,hdd⟩:∃ d,dead[i]?=some d:=⟨_,gE (by omega)⟩;have e4:dead.getD i false=d:=by simp[List.getD,hdd]
   rw[e4]at nxt;have hd2:i<dead.length:=by omega
   simp(disch:=omega)only[go_sem,e3,hget,hdd,gm,List.length_append,List.length_replicate,length_map,length_take,hdl,hlen];refine hJ _ (i+1) ⟨by omega,trivial⟩ (by omega) (Imp.Ar ?_ gI);refine gO ?_;exact .sl nxt
 ·subst hil;have e3:(List.take (Ag e).length (Hm (Ag e).length dead))=Hm (Ag e).length dead:=List.take_of_length_le (by omega);simp(disch:=omega)only[go_sem,Nat.sub_self,List.replicate_zero,List.append_nil,e3];refine Dd [960] (f142_ok e (Ag e) (Hm (Ag e).length dead) (by omega)) (by simp(disch:=omega)only[go_sem,Expr.BV]) rfl trivial ?_;refine gO ?_;refine As _ ?_;exact wb (by simp[QZ,h0])
end Go.Rd
