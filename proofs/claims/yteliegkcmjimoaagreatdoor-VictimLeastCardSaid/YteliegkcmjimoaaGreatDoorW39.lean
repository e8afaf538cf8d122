/- part 39 of the proof -/
import Derived.Test.YteliegkcmjimoaaGreatDoorW38
set_option linter.all false
open Go Go.Abs Go.Proofs
set_option maxRecDepth 100000
namespace Go.Rd
set_option maxHeartbeats 8000000
open List (all_eq_false cons_append length_map length_take nil_append take_add_one take_length)
open Tryz
def wh(q:Queue)(p:Ac)(h:q.As.length<=1000000):Ad C0 252 [.ptr 63 0,.ptr 127 0] [(63,q.c),(127,p.c)] (.BC []) [(63,{ q with As:=Bv q.As p:Queue }.c),(127,p.c)]:=by
 refine Ad.go f252 ?_;unfold f252;refine gO ?_;refine Ab (Vi q.As p h) ?_;refine gO ?_;refine AY ⟨[],[(63,63),(127,127)],[]⟩ _ rfl ⟨rfl,rfl⟩ (by simp[lk]) ?_ ?_
 ·exact gI
 ·exact gI
def wj(q:Queue)(p:Ac)(h:q.waits.length<=1000000):Ad C0 253 [.ptr 63 0,.ptr 127 0] [(63,q.c),(127,p.c)] (.BC []) [(63,{ q with waits:=Bv q.waits p:Queue }.c),(127,p.c)]:=by
 refine Ad.go f253 ?_;unfold f253;refine gO ?_;refine Ab (Vi q.waits p h) ?_;refine gO ?_;refine AY ⟨[],[(63,63),(127,127)],[]⟩ _ rfl ⟨rfl,rfl⟩ (by simp[lk]) ?_ ?_
 ·exact gI
 ·exact gI
def wo(q:Queue)(p:Ac)(a:BR)(h:q.holds.length<=1000000):Ad C0 258 [.ptr 63 0,.ptr 127 0,.ptr 191 0] [(63,q.c),(127,p.c),(191,a.c)] (.BC []) [(63,(Hc q p a).c),(127,p.c),(191,a.c)]:=by
 refine Ad.go f258 ?_;unfold f258;refine gO ?_;refine Ab (Rz q.holds p a h) (gO ?_);refine AY ⟨[],[(63,63),(127,127),(191,191)],[]⟩ _ rfl ⟨rfl,rfl⟩ (by simp[lk]) ?_ ?_
 ·exact gI
 ·simp only[go_sem,Hc]
@[reducible] def tK(a b:Nat):AV:=.mem true [.fn 252 [.ptr a 0,.ptr b 0],.fn 253 [.ptr a 0,.ptr b 0]]
@[reducible] def tL(a b c:Nat):AV:=.mem true [.fn 258 [.ptr a 0,.ptr b 0,.ptr c 0]]
theorem qN(q:Queue)(p:Ac)(h:BS q<=1000000):Ad C0 185 [.ptr 63 0,tK 63 127] [(63,q.c),(127,p.c)] (.BC [.agg (Ee (Dw q p)).c,Bg (Co (Dw q p)).2,I 0]) [(63,(Ee (Dw q p)).c),(127,p.c)]:=by
 have h2:q.As.length<=1000000:=by grind[BS,B7]
 have h3:q.waits.length<=1000000:=by unfold BS B7 at h;omega
 have h4:BS (Dw q p)<=1000000:=by
  have:=Cq q.As p;have:=Cq q.waits p;unfold BS B7 at h ⊢;simp only[Dw];omega
 refine Ad.go f185 ?_;unfold f185;have z0:(decide ((0:Int)<2))=true:=by decide
 have z1:(decide ((1:Int)<2))=true:=by decide
 have z2:(decide ((2:Int)<2))=false:=by decide
 refine gO ?_;refine Ao (α:=Nat) (λi=>⟨[(12,I i),(11,I 2),(10,tK 63 127),(0,.ptr 63 0),(4,.ptr 256 0)],[(63,(if i=0 then q else if i=1 then { q with As:=Bv q.As p:Queue } else Dw q p).c),(127,p.c),(256,(⟨⟨[],0,0,0⟩,[],[],[],0⟩:Queue).c)]⟩) (λi=>i<=2) (λi=>2-i) 0 (by simp) ?_ ?_
 ·refine AT.Aq ?_ ?_
  ·exact gI
  ·exact gI
 rintro i hi J hJ;obtain rfl|rfl|rfl:i=0\/i=1\/i=2:=by omega
 ·refine gO ?_;refine By ⟨⟨[],[(63,63),(127,127)],[]⟩,[],[]⟩ (wh q p h2) gI rfl gI (.inl rfl) (gO ?_);refine hJ _ 1 (by omega) (by omega) (AT.Aq gI (by exact gI))
 ·refine gO ?_;refine By ⟨⟨[],[(63,63),(127,127)],[]⟩,[],[]⟩ (wj { q with As:=Bv q.As p } p h3) gI rfl gI (.inl rfl) (gO ?_);refine hJ _ 2 (by omega) (by omega) (AT.Aq gI (by simp only[go_sem,Dw]))
 ·clear hJ;refine gO ?_;refine By ⟨⟨[],[(63,63)],[]⟩,[],[]⟩ (aP (Dw q p) h4) gI rfl gI (.inl rfl) (gO ?_);refine Ab (aQ (Co (Dw q p)).1.gen) ?_;refine gO ?_;refine AY ⟨[],[(63,63),(127,127)],[]⟩ _ (by(try simp only[go_sem,Cx,Gv])<;>rfl) ⟨rfl,rfl⟩ (by simp[lk]) ?_ ?_
  ·simp only[go_sem,Ee]
  ·simp only[go_sem,Ee]
def qO(q:Queue)(p:Ac)(a:BR)(h:BS q+1<=1000000):Ad C0 185 [.ptr 63 0,tL 63 127 191] [(63,q.c),(127,p.c),(191,a.c)] (.BC [.agg (Ee (Hc q p a)).c,Bg (Co (Hc q p a)).2,I 0]) [(63,(Ee (Hc q p a)).c),(127,p.c),(191,a.c)]:=by
 have h1:q.holds.length<=1000000:=by grind[BS]
 have h4:BS (Hc q p a)<=1000000:=by
  have:=JB q.holds p a;unfold BS B7 at h ⊢;simp only[Hc];omega
 refine Ad.go f185 ?_;unfold f185;have z0:(decide ((0:Int)<1))=true:=by decide
 have z1:(decide ((1:Int)<1))=false:=by decide
 refine gO ?_;refine Ao (α:=Nat) (λi=>⟨[(12,I i),(11,I 1),(10,tL 63 127 191),(0,.ptr 63 0),(4,.ptr 256 0)],[(63,(if i=0 then q else Hc q p a).c),(127,p.c),(191,a.c),(256,(⟨⟨[],0,0,0⟩,[],[],[],0⟩:Queue).c)]⟩) (λi=>i<=1) (λi=>1-i) 0 (by simp) ?_ ?_
 ·refine AT.Aq ?_ ?_
  ·exact gI
  ·exact gI
 rintro i hi J hJ;obtain rfl|rfl:i=0\/i=1:=by omega
 ·refine gO ?_;refine By ⟨⟨[],[(63,63),(127,127),(191,191)],[]⟩,[],[]⟩ (wo q p a h1) gI rfl gI (.inl rfl) (gO ?_);refine hJ _ 1 (by omega) (by omega) (AT.Aq gI (by exact gI))
 ·clear hJ;refine gO ?_;refine By ⟨⟨[],[(63,63)],[]⟩,[],[]⟩ (aP (Hc q p a) h4) gI rfl gI (.inl rfl) (gO ?_);refine Ab (aQ (Co (Hc q p a)).1.gen) ?_;refine gO ?_;refine AY ⟨[],[(63,63),(127,127),(191,191)],[]⟩ _ (by(try simp only[go_sem,Cx,Gv])<;>rfl) ⟨rfl,rfl⟩ (by simp[lk]) ?_ ?_
  ·simp only[go_sem,Ee]
  ·simp only[go_sem,Ee]
def vU(q:Queue)(p:Ac)(h:BS q<=100):Ad C0 200 [.agg q.c,.agg p.c] [] (.BC [.agg (Bd q p).1.c,Bg (Bd q p).2.1,I (Bd q p).2.2]) []:=by
 obtain⟨h1,h2,h3⟩:=Bt h;have h4:q.As.length+q.waits.length<=1000000:=by grind[BS,B7]
 refine Ad.go f200 ?_;unfold f200;refine gO ?_;refine Ab (Wn q h1 h3) ?_;cases hv:valid q
 ·have e:Bd q p=(q0,[],2):=by simp[Bd,hv]
  simp only[go_sem,e,q0];refine Al _ ?_;refine .BC (Ae.AJ ?_);refine gO ?_
  repeat'(with_reducible apply And.intro)
  all_goals(first|exact .A8 (by omega)|exact .agg (Ae.AJ gI))
 refine gO ?_;refine Ab (kT q p h4) ?_;cases hw:(Ar q p).isSome
 ·have e:Bd q p=(q0,[],10):=by grind[Bd]
  simp only[go_sem,e,q0];refine Al _ ?_;refine .BC (Ae.AJ ?_);refine gO ?_
  repeat'(with_reducible apply And.intro)
  all_goals(first|exact .A8 (by omega)|exact .agg (Ae.AJ gI))
 have e:Bd q p=(Ee (Dw q p),(Co (Dw q p)).2,0):=by grind[Bd]
 rw[e];refine gO ?_;refine Ab (aL q h1 h2 h3) ?_;refine gO ?_;refine By ⟨⟨[],[(576,63),(192,127)],[]⟩,[],[]⟩ (qN q p (by omega)) gI rfl gI (.inl rfl) (gO ?_);exact AQ _
def iq{q:Queue}{p:Ac}(h:Ar q p=none):FG q.As p<0:=by grind[Ga,FG]
def kI(q:Queue)(p:Ac)(a:BR)(h:BS q<=100)(hw:Ar q p=none):Ad C0 205 [.agg q.c,.agg p.c,.agg a.c] [] (.BC [.agg (AD q p a).1.c,Bg (AD q p a).2.1,I (AD q p a).2.2]) []:=by
 obtain⟨h1,h2,h3⟩:=Bt h;have Ui:(Ar q p).isSome=false:=by grind
 have hwf:(0<=FG q.As p)=False:=eq_false (by simp_all[iq]);refine Ad.go f205 ?_;unfold f205;refine gO ?_;refine Ab (Wn q h1 h3) ?_;cases hv:valid q
 ·have e:AD q p a=(q0,[],2):=by simp[AD,hv]
  simp only[go_sem,e,q0];refine Al _ ?_;refine .BC (Ae.AJ ?_);refine gO ?_
  repeat'(with_reducible apply And.intro)
  all_goals(first|exact .A8 (by omega)|exact .agg (Ae.AJ gI))
 refine gO ?_;refine Ab (J8 q p h1) ?_;refine gO ?_;refine Ab (J9 (Am q.holds p)) ?_;cases hz:(Am q.holds p).zero;rotate_left
 ·have e:AD q p a=(q0,[],10):=by grind[AD]
  simp only[go_sem,e,q0];refine Al _ ?_;refine .BC (Ae.AJ ?_);refine gO ?_
  repeat'(with_reducible apply And.intro)
  all_goals(first|exact .A8 (by omega)|exact .agg (Ae.AJ gI))
 refine gO ?_;refine Ab (Vm q.As p h2) ?_;simp(disch:=omega)only[go_sem,hwf,decide_false];refine Ab (RA q.res (Am q.holds p) a) ?_;cases hc:q.res.covers (Am q.holds p) a
 ·have e:AD q p a=(q0,[],12):=by grind[AD]
  simp only[go_sem,e,q0];refine Al _ ?_;refine .BC (Ae.AJ ?_);refine gO ?_
  repeat'(with_reducible apply And.intro)
  all_goals(first|exact .A8 (by omega)|exact .agg (Ae.AJ gI))
 refine gO ?_;refine Ab (aL q h1 h2 h3) (gO ?_);cases ha:decide (Am q.holds p=a);rotate_left
 ·have NZ:decide (a=Am q.holds p)=true:=by grind
  have e:AD q p a=(q,[],0):=by grind[AD]
  refine gS ?_;exact Gw _
 have NZ:decide (a=Am q.holds p)=false:=by grind
 have e:AD q p a=(Ee (Hc q p a),(Co (Hc q p a)).2,0):=by grind[AD]
 rw[e];refine gS ?_;refine By ⟨⟨[],[(640,63),(256,127),(320,191)],[]⟩,[],[]⟩ (qO q p a (by omega)) gI rfl gI (.inl rfl) (gO ?_);exact AQ _
def bu(l:List Atom)(name:Bs):Int:=match l.findIdx? (λa=>a.name==name) with
 |some i=>i
 |none=>-1
def vV(q:Queue)(a:Atom):Ad C0 202 [.agg a.c,.ptr 63 0] [(63,q.c)] (B (a.name==q.res.name)) [(63,q.c)]:=by
 refine Ad.go f202 ?_;unfold f202;refine gO ?_;refine AY ⟨[],[(63,63)],[]⟩ _ (by(try simp only[go_sem,Cx,Gv])<;>rfl) ⟨rfl,rfl⟩ (by simp[lk]) ?_ ?_
 ·exact gI
 ·exact gI
def kH(l:List Atom)(q:Queue)(hl:l.length<=1000000):Ad C0 201 [BG l,.fn 202 [.ptr 63 0]] [(63,q.c)] (I (bu l q.res.name)) [(63,q.c)]:=by
 refine Ad.go f201 ?_;unfold f201;refine gO ?_;refine AF (l) (λi=>⟨[(0,BG l),(1,.fn 202 [.ptr 63 0]),(7,I l.length),(8,I i)],[(63,q.c)]⟩) (λi=>(l.take i).find? (λa=>a.name==q.res.name)=none) rfl ?_ ?_
 ·exact Ce
 rintro i ⟨hi,hP⟩ J hJ;refine gO ?_;refine Bo hi (λAP b hb Cg AX=>?_) λBa=>?_
 simp(disch:=omega)only[go_sem,hb]
 ·refine By ⟨⟨[],[(63,63)],[]⟩,[],[]⟩ (vV q b) gI rfl gI (.inl rfl) ?_;cases hn:b.name==q.res.name
  ·refine gO ?_;refine hJ _ (i+1) ⟨by omega,(by grind[Cp])⟩ (by omega) AK
  ·have e:bu l q.res.name=i:=by unfold bu;rw[Hj hP b hb hn]
   simp only[go_sem,e];refine AY ⟨[],[(63,63)],[]⟩ _ (by(try simp only[go_sem,Cx,Gv])<;>rfl) ⟨rfl,rfl⟩ (by simp[lk]) ?_ ?_
   ·exact gI
   ·exact gI
 ·subst Ba;rw[take_length]at hP;have e:bu l q.res.name = -1:=by grind[bu]
  refine gS ?_;refine AY ⟨[],[(63,63)],[]⟩ _ (by(try simp only[go_sem,Cx,Gv])<;>rfl) ⟨rfl,rfl⟩ (by simp[lk]) ?_ ?_
  ·exact gI
  ·exact gI
def Y9{l:List Atom}{name:Bs}{a:Atom}(h:l.find? (λa=>a.name==name)=some a):∃ i:Nat,bu l name=i/\l[i]?=some a:=by
 obtain⟨i,hi⟩:∃ i,l.findIdx? (λa=>a.name==name)=some i:=by cases hf:l.findIdx? (λa=>a.name==name)<;>grind
 refine⟨i,by grind[bu],?_⟩;rw[List.findIdx?_eq_some_iff_getElem]at hi;obtain⟨AP,h1,h2⟩:=hi;have:l.find? (λa=>a.name==name)=some l[i]:=by
  rw[List.find?_eq_some_iff_getElem];grind
 rw[this]at h;rw[gE AP,<- Option.some.inj h]
def Y8{l:List Atom}{name:Bs}(h:l.find? (λa=>a.name==name)=none):bu l name = -1:=by grind[bu]
def nv(q:Queue)(p:Ac):BS (Dw q p)<=BS q:=by grind[Cq,BS,B7,Dw]
def qh(o:C1)(q:Queue):BS (La o q)<=BS q:=by
 unfold La;split
 ·unfold Bd;split
  ·simp[BS,B7,q0]
  ·split
   ·simp[BS,B7,q0]
   ·exact Nat.le_trans (jP _) (nv q o.proc)
 omega
def ko(q:Queue)(o:C1)(h:BS q<=100)(hv:valid q=true)(hl:o.lower.length<=1000000):Ad C0 146 [.agg q.c,.agg o.c] [] (.agg (Fj o q).c) []:=by
 obtain⟨h1,h2,h3⟩:=Bt h;refine Ad.go f146 ?_;unfold f146;refine gO ?_;refine Ay 10 [([],[2]),([],[17]),([],[18]),([],[2]),([],[20]),([2],[21]),([],[2]),([],[23]),([2,5],[24]),([2],[2])] B6 (gO ?_)
 first|(refine Ab (Ve q.holds h1) ?_)|(refine Ax (Ve q.holds h1) ?_)
 refine gO ?_
 first|(refine Ab (Lk q.As h2) ?_)|(refine Ax (Lk q.As h2) ?_)
 refine gO ?_
 first|(refine Ab (Lk q.waits h3) ?_)|(refine Ax (Lk q.waits h3) ?_)
 refine gO ?_;refine Ab (vU q o.proc h) ?_;obtain⟨hx,Ui⟩:=aj o hv;have N2:(La o q).res=q.res:=hx.res;have Ka:=qh o q;obtain⟨r,hr⟩:∃ r,La o q=r:=⟨_,rfl⟩;rw[hr]at Ui N2 Ka;have rA:Fj o q = { D5 o r with gen:=q.gen }:=by rw[Fj,hr]
 obtain⟨c1,c2,c3⟩:=Bt (q:=r) (by omega);unfold La at hr;rw[rA];generalize Bd q o.proc=c at hr;obtain⟨r',g,x⟩:=c
 by_cases hx0:x=0
 ·simp[hx0]at hr;subst hr;simp only[go_sem,hx0];refine By ⟨⟨[],[(128,63)],[]⟩,[],[]⟩ (kH o.lower r' hl) gI rfl gI (.inl rfl) ?_;cases Ug:W4 o r'.res.name with
  |none =>
   have e:D5 o r'=r':=by grind[D5]
   simp only[go_sem,Y8 Ug,e];exact AQ _
  |some a =>
   obtain⟨k,XS,gn⟩:=Y9 Ug;have elq:D5 o r'=if (Am r'.holds o.proc).zero=false/\Am r'.holds o.proc≠a.AH/\r'.res.covers (Am r'.holds o.proc) a.AH=true/\(AD r' o.proc a.AH).2.2=0 then (AD r' o.proc a.AH).1 else r':=by grind[D5]
   simp only[go_sem,XS];refine Ay 12 [([],[3]),([],[46]),([],[9]),([],[47,48]),([],[49]),([],[50]),([],[2]),([],[3]),([],[53]),([],[52,54]),([],[]),([],[])] B6 ?_;simp only[go_sem,gn]
   first|(refine Ab (J8 r' o.proc c1) ?_)|(refine Ax (J8 r' o.proc c1) ?_)
   cases hz:(Am r'.holds o.proc).zero;rotate_left
   ·have e0:((Am r'.holds o.proc).mode==0&&(Am r'.holds o.proc).AG==0)=true:=hz;have e:D5 o r'=r':=by grind
    simp only[go_sem,e0,e];exact AQ _
   have e0:((Am r'.holds o.proc).mode==0&&(Am r'.holds o.proc).AG==0)=false:=hz
   by_cases hd:Am r'.holds o.proc=a.AH
   ·have e1:decide (Am r'.holds o.proc=a.AH)=true:=decide_eq_true hd;have e:D5 o r'=r':=by grind
    simp only[go_sem,e0,e1,e];exact AQ _
   have e1:decide (Am r'.holds o.proc=a.AH)=false:=decide_eq_false hd;simp only[go_sem,e0,e1];refine Ab (RA r'.res (Am r'.holds o.proc) a.AH) ?_;cases hc:r'.res.covers (Am r'.holds o.proc) a.AH
   ·have e:D5 o r'=r':=by grind
    simp only[go_sem,e];exact AQ _
   refine gO ?_;refine Ab (kI r' o.proc a.AH (by omega) Ui) ?_
   by_cases hs:(AD r' o.proc a.AH).2.2=0
   ·have e:D5 o r'=(AD r' o.proc a.AH).1:=by grind
    rw[e];generalize AD r' o.proc a.AH=y at hs;obtain⟨y1,y2,y3⟩:=y;simp only at hs;subst hs;refine gO ?_;exact AQ _
   ·have e:D5 o r'=r':=by grind
    rw[e];generalize AD r' o.proc a.AH=y at hs;obtain⟨y1,y2,y3⟩:=y;simp only at hs;have bt:(y3==0)=false:=by grind
    simp only[go_sem,bt];exact AQ _
 ·simp[hx0]at hr;subst hr;have Vt:(x==0)=false:=by grind
  refine gS ?_;refine By ⟨⟨[],[(128,63)],[]⟩,[],[]⟩ (kH o.lower q hl) gI rfl gI (.inl rfl) ?_;cases Ug:W4 o q.res.name with
  |none =>
   have e:D5 o q=q:=by grind[D5]
   simp only[go_sem,Y8 Ug,e];exact AQ _
  |some a =>
   obtain⟨k,XS,gn⟩:=Y9 Ug;have elq:D5 o q=if (Am q.holds o.proc).zero=false/\Am q.holds o.proc≠a.AH/\q.res.covers (Am q.holds o.proc) a.AH=true/\(AD q o.proc a.AH).2.2=0 then (AD q o.proc a.AH).1 else q:=by grind[D5]
   simp only[go_sem,XS];refine Ay 12 [([],[3]),([],[46]),([],[9]),([],[47,48]),([],[49]),([],[50]),([],[2]),([],[3]),([],[53]),([],[52,54]),([],[]),([],[])] B6 ?_;simp only[go_sem,gn]
   first|(refine Ab (J8 q o.proc c1) ?_)|(refine Ax (J8 q o.proc c1) ?_)
   cases hz:(Am q.holds o.proc).zero;rotate_left
   ·have e0:((Am q.holds o.proc).mode==0&&(Am q.holds o.proc).AG==0)=true:=hz;have e:D5 o q=q:=by grind
    simp only[go_sem,e0,e];exact AQ _
   have e0:((Am q.holds o.proc).mode==0&&(Am q.holds o.proc).AG==0)=false:=hz
   by_cases hd:Am q.holds o.proc=a.AH
   ·have e1:decide (Am q.holds o.proc=a.AH)=true:=decide_eq_true hd;have e:D5 o q=q:=by grind
    simp only[go_sem,e0,e1,e];exact AQ _
   have e1:decide (Am q.holds o.proc=a.AH)=false:=decide_eq_false hd;simp only[go_sem,e0,e1];refine Ab (RA q.res (Am q.holds o.proc) a.AH) ?_;cases hc:q.res.covers (Am q.holds o.proc) a.AH
   ·have e:D5 o q=q:=by grind
    simp only[go_sem,e];exact AQ _
   refine gO ?_;refine Ab (kI q o.proc a.AH (by omega) Ui) ?_
   by_cases hs:(AD q o.proc a.AH).2.2=0
   ·have e:D5 o q=(AD q o.proc a.AH).1:=by grind
    rw[e];generalize AD q o.proc a.AH=y at hs;obtain⟨y1,y2,y3⟩:=y;simp only at hs;subst hs;refine gO ?_;exact AQ _
   ·have e:D5 o q=q:=by grind
    rw[e];generalize AD q o.proc a.AH=y at hs;obtain⟨y1,y2,y3⟩:=y;simp only at hs;have bt:(y3==0)=false:=by grind
    refine gS ?_;exact AQ _
def kq:∀ (N:Nat) (e:Expr),SizeOf.sizeOf e<N->dS N e->Ad C0 147 [.agg e.c] [] (.agg e.c) []
 | 0,_,h,_=>by omega
 | N+1,e,h,hk=>by
  have XS:=hk.1;refine Ad.lens f147 λhlen=>?_
  simp only[FZ,lens,Expr.Dg,length_map,and_true,true_and]at hlen;refine Ad.go f147 ?_;unfold f147;refine gO ?_;refine AF (e.kids) (λi=>⟨[(9,I i),(8,I e.kids.length),(7,JP e.kids),(1,.ptr 64 0),(2,.ptr 128 0),(3,.sl (.own 1088 0) 5 ((e.kids.take i).map Expr.c))],[(64,e.c),(128,(Expr.mk 0 a0 []).c)]⟩) (λi=>True) trivial ?_ ?_
  ·refine AT.Aq ?_ ?_
   all_goals(try simp(disch:=omega)only[go_sem])
   all_goals(try(repeat'(with_reducible apply And.intro)))
   all_goals(first|exact .Cr (by omega)|exact .A8 (by omega)|exact .sl (by simp[a0,Expr.Dg,Expr.k,Expr.atom,Expr.kids])|exact .int (by simp[a0,Expr.Dg,Expr.k,Expr.atom,Expr.kids])|exact .eq (by simp[a0,Expr.Dg,Expr.k,Expr.atom,Expr.kids]))
  rintro i ⟨hi,hP⟩ J hJ;refine gO ?_;refine Bo hi (λAP b hb Cg AX=>?_) λBa=>?_
  simp(disch:=omega)only[go_sem,gm,hb]
  ·have Hb:=EM Cg;have H0:i<e.kids.length:=by omega
   have ID:min i e.kids.length+1<=4294967296:=by omega
   refine Ab (kq N b (by omega) (hk.2 b Cg)) ?_;simp(disch:=omega)only[go_sem,length_map,length_take];refine hJ _ (i+1) ⟨by omega,trivial⟩ (by omega) (AT.Aq ?_ ?_)
   ·simp(disch:=omega)only[go_sem];exact .sl (by simp[take_add_one,hb,Expr.Dg])
   ·simp(disch:=omega)only[go_sem,Expr.Dg]
  ·subst Ba;simp(disch:=omega)only[go_sem,take_length];refine CU ⟨[],[],[1088]⟩ _ ?_;simp(disch:=omega)only[go_sem,Expr.Dg]
def AaK(s:WS)(o:C1)(h:Iy s)(hl:o.lower.length<=1000000):Ad C0 92 [.agg s.c,.agg o.c] [] (.BC [.agg (Cm s o).1.c,I (Cm s o).2]) []:=by
 have dD:=h.nq;have Y4:=h.nn;have Sv:=De h;refine Ad.go f92 ?_;unfold f92;refine gO ?_;refine Ab (Qz s h) ?_;cases hv:AI s
 ·have e:Cm s o=(N9,2):=by simp[Cm,hv]
  simp(disch:=omega)only[go_sem,e,N9];refine Al _ ?_;refine .BC (Ae.AJ ?_);simp(disch:=omega)only[go_sem]
  repeat'(with_reducible apply And.intro)
  all_goals(first|exact .A8 (by omega)|exact .agg (Ae.AJ gI))
 refine gO ?_;refine Ab (qV o) ?_;cases ho:Cc o
 ·have e:Cm s o=(N9,1):=by simp[Cm,hv,ho]
  simp(disch:=omega)only[go_sem,e,N9];refine Al _ ?_;refine .BC (Ae.AJ ?_);simp(disch:=omega)only[go_sem]
  repeat'(with_reducible apply And.intro)
  all_goals(first|exact .A8 (by omega)|exact .agg (Ae.AJ gI))
 refine gO ?_;refine Ay 4 [([],[2]),([],[22]),([],[3]),([],[24])] B6 ?_;refine gO ?_
 first|(refine Ab (LB s h) ?_)|(refine Ax (LB s h) ?_)
 refine gO ?_
 first|(refine Ab (KE (Ag s) o.proc (by omega)) ?_)|(refine Ax (KE (Ag s) o.proc (by omega)) ?_)
 cases hp:Br (Ag s) o.proc
 ·have e:Cm s o=(N9,10):=by simp[Cm,hv,ho,hp]
  simp(disch:=omega)only[go_sem,e,N9];refine Al _ ?_;refine .BC (Ae.AJ ?_);simp(disch:=omega)only[go_sem]
  repeat'(with_reducible apply And.intro)
  all_goals(first|exact .A8 (by omega)|exact .agg (Ae.AJ gI))
 have e:Cm s o=(FK s o,0):=by simp[Cm,hv,ho,hp]
 rw[e];have hg:=Be hv;have he:=Kf hv;refine gO ?_;refine AF (s.Aa) (λi=>⟨[(32,I i),(31,I s.Aa.length),(30,AN s.Aa),(2,.ptr 128 0),(3,.ptr 192 0),(6,.ptr 384 0),(4,.ptr 256 0)],[(128,s.c),(192,o.c),(256,jO),(384,[.sl (.own 2688 0) 8 (((s.Aa.take i).map (Fj o)).map Queue.c),.v (.slice none 0 0)])]⟩) (λi=>True) trivial ?_ ?_
 ·exact Ce
 rintro i ⟨hi,hP⟩ J hJ;refine gO ?_;refine Bo hi (λAP b hb Cg AX=>?_) λBa=>?_
 simp(disch:=omega)only[go_sem,gm,hb]
 ·have ha:=h.aq b Cg;have Aa1:min i s.Aa.length+1<=4294967296:=by omega
  refine Ay 6 [([],[6]),([],[36]),([],[8]),([],[3]),([],[38,39]),([4],[40])] B6 ?_;refine gO ?_
  first|(refine Ab (ko b o ha (hg b Cg) hl) ?_)|(refine Ax (ko b o ha (hg b Cg) hl) ?_)
  simp(disch:=omega)only[go_sem,length_map,length_take];refine hJ _ (i+1) ⟨by omega,trivial⟩ (by omega) (AT.Aq gI ?_);refine gO ?_;exact .sl (by simp[take_add_one,hb,Queue.c])
 subst Ba;rw[take_length];clear hJ;refine AF (s.Aw) (λi=>⟨[(48,I i),(47,I s.Aw.length),(46,Io s.Aw),(3,.ptr 192 0),(6,.ptr 384 0),(4,.ptr 256 0)],[(192,o.c),(256,jO),(384,[.sl (.own 2688 0) 8 ((s.Aa.map (Fj o)).map Queue.c),.sl (.own 4224 0) 9 ((E7 (s.Aw.take i) o.proc).map Need.c)])]⟩) (λi=>True) trivial ?_ ?_
 ·exact Ce
 rintro i ⟨hi,hP⟩ J hJ;refine gO ?_;refine Bo hi (λAP b hb Cg AX=>?_) λBa=>?_
 simp(disch:=omega)only[go_sem,gm,hb]
 ·have ID:(E7 (s.Aw.take i) o.proc).length+1<=4294967296:=by
   have:(E7 (s.Aw.take i) o.proc).length<=(s.Aw.take i).length:=List.length_filter_le _ _;rw[length_take]at this;omega
  refine Ab (LC b.proc o.proc) ?_;refine gO ?_;have e1:E7 (s.Aw.take (i+1)) o.proc=if b.proc=o.proc then E7 (s.Aw.take i) o.proc else E7 (s.Aw.take i) o.proc++[b]:=by
   simp only[E7,take_add_one,hb,Option.toList_some,List.filter_append,List.filter_cons,List.filter_nil]
   by_cases h:b.proc=o.proc<;>simp[h]
  refine And.intro (λhh=>?_) (λhh=>?_)
  ·have CZ:¬ b.proc=o.proc:=by simpa using hh
   rw[if_neg CZ]at e1;refine Ai (kq _ b.expr (Nat.lt_succ_self _) (T4 (he b Cg) _)) (by simp(disch:=omega)only[go_sem,Expr.Dg]) rfl ?_;simp(disch:=omega)only[go_sem,Expr.Dg,length_map];refine hJ _ (i+1) ⟨by omega,trivial⟩ (by omega) (AT.Aq gI ?_);refine gO ?_;exact .sl (by rw[e1];simp[Need.c])
  ·have heq:b.proc=o.proc:=by simpa using hh
   rw[if_pos heq]at e1;refine hJ _ (i+1) ⟨by omega,trivial⟩ (by omega) (AT.Aq gI ?_);simp(disch:=omega)only[go_sem,e1]
 ·subst Ba;simp(disch:=omega)only[go_sem,take_length];refine CU ⟨[],[],[2688,4224]⟩ _ ?_;simp(disch:=omega)only[go_sem,FK];exact .eq (by simp)
def Zk{o:C1}{r:Queue}(ho:Cc o=true)(hv:valid r=true)(hw:Ar r o.proc=none)(i:Nat)(hi:i<=o.lower.length):G4 o.proc r ((o.lower.take i).foldl (λq a=>IY o.proc a q) r):=by
 rw[eh ho hv hw i hi];split
 ·grind[PI]
 ·exact .refl hv
def qR(s:WS)(o:C1)(h:Iy s)(hl:o.lower.length<=1000000):Ad C0 25 [.agg s.c,.agg o.c] [] (.BC [.agg (Cm s o).1.c,I (Cm s o).2]) []:=by
 have dD:=h.nq;have Y4:=h.nn;have Sv:=De h;refine Ad.go f25 ?_;unfold f25;refine gO ?_;refine Ab (SO s h) ?_;cases hv:AI s
 ·have e:Cm s o=(N9,2):=by simp[Cm,hv]
  simp only[go_sem,e,N9];refine Al _ ?_;refine .BC (Ae.AJ ?_);refine gO ?_
  repeat'(with_reducible apply And.intro)
  all_goals(first|exact .A8 (by omega)|exact .agg (Ae.AJ gI))
 refine gO ?_;refine Ab (hZ o) ?_;cases ho:Cc o
 ·have e:Cm s o=(N9,1):=by grind[Cm]
  simp only[go_sem,e,N9];refine Al _ ?_;refine .BC (Ae.AJ ?_);refine gO ?_
  repeat'(with_reducible apply And.intro)
  all_goals(first|exact .A8 (by omega)|exact .agg (Ae.AJ gI))
 refine gO ?_;refine Ay 4 [([],[2]),([],[31]),([],[3]),([],[33])] B6 (gO ?_)
 first|(refine Ab (Ow s h) ?_)|(refine Ax (Ow s h) ?_)
 refine gO ?_
 first|(refine Ab (KG (Ag s) o.proc (by omega)) ?_)|(refine Ax (KG (Ag s) o.proc (by omega)) ?_)
 cases hp:Br (Ag s) o.proc
 ·have e:Cm s o=(N9,10):=by grind[Cm]
  simp only[go_sem,e,N9];refine Al _ ?_;refine .BC (Ae.AJ ?_);refine gO ?_
  repeat'(with_reducible apply And.intro)
  all_goals(first|exact .A8 (by omega)|exact .agg (Ae.AJ gI))
 have e:Cm s o=(FK s o,0):=by grind[Cm]
 rw[e];have hg:=Be hv;refine gO ?_;refine AF (s.Aw) (λi=>⟨[(41,I i),(40,I s.Aw.length),(39,Io s.Aw),(2,.ptr 128 0),(3,.ptr 192 0),(6,.ptr 384 0),(4,.ptr 256 0)],[(128,s.c),(192,o.c),(256,jO),(384,[.v (.slice none 0 0),.sl (.own 3456 0) 9 ((E7 (s.Aw.take i) o.proc).map Need.c)])]⟩) (λi=>True) trivial ?_ ?_
 ·exact Ce
 rintro i ⟨hi,hP⟩ J hJ;refine gO ?_;refine Bo hi (λAP b hb Cg AX=>?_) λBa=>?_
 simp(disch:=omega)only[go_sem,hb]
 ·have ID:(E7 (s.Aw.take i) o.proc).length+1<=4294967296:=by
   grind[E7]
  have e1:E7 (s.Aw.take (i+1)) o.proc=if b.proc=o.proc then E7 (s.Aw.take i) o.proc else E7 (s.Aw.take i) o.proc++[b]:=by grind[E7,take_add_one]
  refine And.intro (λhh=>?_) (λhh=>?_)
  ·have CZ:¬ b.proc=o.proc:=by grind
   rw[if_neg CZ]at e1;refine gO ?_;refine hJ _ (i+1) ⟨by omega,trivial⟩ (by omega) (AT.Aq gI ?_);rw[e1];refine gO ?_;exact .sl (by simp[Need.c])
  ·have CZ:b.proc=o.proc:=by grind
   rw[if_pos CZ]at e1;refine hJ _ (i+1) ⟨by omega,trivial⟩ (by omega) (AT.Aq gI ?_);rw[e1];exact gI
 subst Ba;rw[take_length];clear hJ;refine AF (s.Aa) (λi=>⟨[(60,I i),(59,I s.Aa.length),(58,AN s.Aa),(3,.ptr 192 0),(6,.ptr 384 0),(4,.ptr 256 0)],[(192,o.c),(256,jO),(384,[.sl (.own 8960 0) 8 (((s.Aa.take i).map (Fj o)).map Queue.c),.sl (.own 3456 0) 9 ((E7 s.Aw o.proc).map Need.c)])]⟩) (λi=>True) trivial ?_ ?_
 ·exact Ce
 rintro i ⟨hi,hP⟩ J hJ;refine gO ?_;refine Bo hi (λAP b hb Cg AX=>?_) λBa=>?_
 simp(disch:=omega)only[go_sem,hb]
 ·have ha:=h.aq b Cg;have hvb:=hg b Cg;obtain⟨h1,h2,h3⟩:=Bt ha;have Aa1:min i s.Aa.length+1<=4294967296:=by omega
  refine Ab (Nc b o.proc h2 h3) ?_;obtain⟨hx,Ui⟩:=aj o hvb;have rA:Fj o b = { D5 o (La o b) with gen:=b.gen }:=rfl;have fin:∀ st',AT ⟨C0,[]⟩ st' ⟨[(60,I (i+1:Nat)),(59,I s.Aa.length),(58,AN s.Aa),(3,.ptr 192 0),(6,.ptr 384 0),(4,.ptr 256 0)],[(192,o.c),(256,jO),(384,[.sl (.own 8960 0) 8 (((s.Aa.take i).map (Fj o)).map Queue.c++[(Fj o b).c]),.sl (.own 3456 0) 9 ((E7 s.Aw o.proc).map Need.c)])]⟩->J st':=λst' h=>by
   refine hJ st' (i+1) ⟨by omega,trivial⟩ (by omega) ?_;have e:((s.Aa.take (i+1)).map (Fj o)).map Queue.c=((s.Aa.take i).map (Fj o)).map Queue.c++[(Fj o b).c]:=by grind[take_add_one]
   rw[e];exact h
  clear hJ;have hw0:(Ar b o.proc).isSome=false->La o b=b:=λhw=>by grind[La,Bd]
  have iN:(Ar b o.proc).isSome=true->La o b=(Bd b o.proc).1:=λhw=>by grind[La]
  obtain⟨q,rfl⟩:∃ q,q=b:=⟨b,rfl⟩;obtain⟨k,rfl⟩:∃ k,k=i:=⟨i,rfl⟩;cases hw:(Ar q o.proc).isSome
  ·have hr:=hw0 hw;rw[hr]at hx Ui rA;have VJ:valid q=true:=hx.val;refine gO ?_;refine AF (o.lower) (λi=>⟨[(85,I i),(84,I o.lower.length),(83,BG o.lower),(3,.ptr 192 0),(10,.ptr 640 0),(11,I q.gen),(60,I k),(59,I s.Aa.length),(58,AN s.Aa),(6,.ptr 384 0),(4,.ptr 256 0)],[(640,((o.lower.take i).foldl (λq a=>IY o.proc a q) q).c),(192,o.c),(256,jO),(384,[.sl (.own 8960 0) 8 (((s.Aa.take k).map (Fj o)).map Queue.c),.sl (.own 3456 0) 9 ((E7 s.Aw o.proc).map Need.c)])]⟩) (λi=>True) trivial ?_ ?_
   ·exact Ce
   rintro i ⟨hi,hP⟩ J hJ;refine gO ?_;refine Bo hi (λAP b hb Cg AX=>?_) λBa=>?_
   simp(disch:=omega)only[go_sem,hb]
   ·have hxi:=Zk ho VJ Ui i hi;have bk:(o.lower.take (i+1)).foldl (λq a=>IY o.proc a q) q=IY o.proc b ((o.lower.take i).foldl (λq a=>IY o.proc a q) q):=by grind[take_add_one]
    generalize (o.lower.take i).foldl (λq a=>IY o.proc a q) q=y at hxi bk;have hyv:=hxi.val;have Xz:=MP hyv;obtain⟨y1,y2,y3⟩:=Bt Xz;refine Ab (E0 y o.proc y1) ?_;have cp:∀ z,IY o.proc b y=z->∀ st',AT ⟨C0,[]⟩ st' ⟨[(85,I (i+1:Nat)),(84,I o.lower.length),(83,BG o.lower),(3,.ptr 192 0),(10,.ptr 640 0),(11,I q.gen),(60,I k),(59,I s.Aa.length),(58,AN s.Aa),(6,.ptr 384 0),(4,.ptr 256 0)],[(640,z.c),(192,o.c),(256,jO),(384,[.sl (.own 8960 0) 8 (((s.Aa.take k).map (Fj o)).map Queue.c),.sl (.own 3456 0) 9 ((E7 s.Aw o.proc).map Need.c)])]⟩->J st':=λz hz st' h=>by
     refine hJ st' (i+1) ⟨by omega,trivial⟩ (by omega) ?_;rw[bk,hz];exact h
    clear hJ
    by_cases hn:b.name=y.res.name
    rotate_left
    ·have n0:(b.name==y.res.name)=false:=by grind
     simp(disch:=omega)only[go_sem,n0];exact cp y (Ns hn) _ AK
    have n0:(b.name==y.res.name)=true:=by grind
    by_cases hd:Am y.holds o.proc=b.AH
    ·have e1:decide (Am y.holds o.proc=b.AH)=true:=decide_eq_true hd;simp(disch:=omega)only[go_sem,n0,e1];exact cp y (by simp_all[IY]) _ AK
    have e1:decide (Am y.holds o.proc=b.AH)=false:=decide_eq_false hd;simp only[go_sem,n0,e1];refine Ab (Fp b.AH) ?_;have low:(b.AH.zero=true\/y.res.covers (Am y.holds o.proc) b.AH=true)->IY o.proc b y=if (AD y o.proc b.AH).2.2=0 then (AD y o.proc b.AH).1 else y:=λhh=>by simp_all[IY]
    cases hz:b.AH.zero
    ·refine gO ?_;refine Ab (KH y.res (Am y.holds o.proc) b.AH) ?_;cases hc:y.res.covers (Am y.holds o.proc) b.AH
     ·refine gO ?_;exact cp y (by simp_all[IY]) _ AK
     have ja:=low (.inr hc);refine gO ?_;refine Ab (Wl y o.proc b.AH Xz) ?_;generalize AD y o.proc b.AH=w at ja;obtain⟨w1,w2,w3⟩:=w
     by_cases hs:w3=0
     ·subst hs;refine gO ?_;exact cp w1 (by grind) _ AK
     ·have bt:(w3==0)=false:=by grind
      simp(disch:=omega)only[go_sem,bt];exact cp y (by grind) _ AK
    ·have ja:=low (.inl hz);refine gO ?_;refine Ab (Wl y o.proc b.AH Xz) ?_;generalize AD y o.proc b.AH=w at ja;obtain⟨w1,w2,w3⟩:=w
     by_cases hs:w3=0
     ·subst hs;refine gO ?_;exact cp w1 (by grind) _ AK
     ·have bt:(w3==0)=false:=by grind
      simp(disch:=omega)only[go_sem,bt];exact cp y (by grind) _ AK
   ·subst Ba;rw[take_length,lZ ho VJ Ui];have hlx:=PI o VJ Ui;obtain⟨z1,z2,z3⟩:=Bt (MP hlx.val);refine Ab (SP (D5 o q) z1 z2 z3) ?_;simp(disch:=omega)only[go_sem];refine fin _ (AT.Aq gI ?_);rw[rA];exact gI
  ·refine gO ?_;refine Ab (qW q o.proc ha) ?_;generalize Bd q o.proc=c at iN;obtain⟨r,g,x⟩:=c;have hr:=iN hw;simp only at hr;rw[hr]at hx Ui rA;have VJ:valid r=true:=hx.val;refine gO ?_;refine AF (o.lower) (λi=>⟨[(85,I i),(84,I o.lower.length),(83,BG o.lower),(3,.ptr 192 0),(10,.ptr 640 0),(11,I q.gen),(60,I k),(59,I s.Aa.length),(58,AN s.Aa),(6,.ptr 384 0),(4,.ptr 256 0)],[(640,((o.lower.take i).foldl (λq a=>IY o.proc a q) r).c),(192,o.c),(256,jO),(384,[.sl (.own 8960 0) 8 (((s.Aa.take k).map (Fj o)).map Queue.c),.sl (.own 3456 0) 9 ((E7 s.Aw o.proc).map Need.c)])]⟩) (λi=>True) trivial ?_ ?_
   ·exact Ce
   rintro i ⟨hi,hP⟩ J hJ;refine gO ?_;refine Bo hi (λAP b hb Cg AX=>?_) λBa=>?_
   simp(disch:=omega)only[go_sem,hb]
   ·have hxi:=Zk ho VJ Ui i hi;have bk:(o.lower.take (i+1)).foldl (λq a=>IY o.proc a q) r=IY o.proc b ((o.lower.take i).foldl (λq a=>IY o.proc a q) r):=by grind[take_add_one]
    generalize (o.lower.take i).foldl (λq a=>IY o.proc a q) r=y at hxi bk;have hyv:=hxi.val;have Xz:=MP hyv;obtain⟨y1,y2,y3⟩:=Bt Xz;refine Ab (E0 y o.proc y1) ?_;have cp:∀ z,IY o.proc b y=z->∀ st',AT ⟨C0,[]⟩ st' ⟨[(85,I (i+1:Nat)),(84,I o.lower.length),(83,BG o.lower),(3,.ptr 192 0),(10,.ptr 640 0),(11,I q.gen),(60,I k),(59,I s.Aa.length),(58,AN s.Aa),(6,.ptr 384 0),(4,.ptr 256 0)],[(640,z.c),(192,o.c),(256,jO),(384,[.sl (.own 8960 0) 8 (((s.Aa.take k).map (Fj o)).map Queue.c),.sl (.own 3456 0) 9 ((E7 s.Aw o.proc).map Need.c)])]⟩->J st':=λz hz st' h=>by
     refine hJ st' (i+1) ⟨by omega,trivial⟩ (by omega) ?_;rw[bk,hz];exact h
    clear hJ
    by_cases hn:b.name=y.res.name
    rotate_left
    ·have n0:(b.name==y.res.name)=false:=by grind
     simp(disch:=omega)only[go_sem,n0];exact cp y (Ns hn) _ AK
    have n0:(b.name==y.res.name)=true:=by grind
    by_cases hd:Am y.holds o.proc=b.AH
    ·have e1:decide (Am y.holds o.proc=b.AH)=true:=decide_eq_true hd;simp(disch:=omega)only[go_sem,n0,e1];exact cp y (by simp_all[IY]) _ AK
    have e1:decide (Am y.holds o.proc=b.AH)=false:=decide_eq_false hd;simp only[go_sem,n0,e1];refine Ab (Fp b.AH) ?_;have low:(b.AH.zero=true\/y.res.covers (Am y.holds o.proc) b.AH=true)->IY o.proc b y=if (AD y o.proc b.AH).2.2=0 then (AD y o.proc b.AH).1 else y:=λhh=>by simp_all[IY]
    cases hz:b.AH.zero
    ·refine gO ?_;refine Ab (KH y.res (Am y.holds o.proc) b.AH) ?_;cases hc:y.res.covers (Am y.holds o.proc) b.AH
     ·refine gO ?_;exact cp y (by simp_all[IY]) _ AK
     have ja:=low (.inr hc);refine gO ?_;refine Ab (Wl y o.proc b.AH Xz) ?_;generalize AD y o.proc b.AH=w at ja;obtain⟨w1,w2,w3⟩:=w
     by_cases hs:w3=0
     ·subst hs;refine gO ?_;exact cp w1 (by grind) _ AK
     ·have bt:(w3==0)=false:=by grind
      simp(disch:=omega)only[go_sem,bt];exact cp y (by grind) _ AK
    ·have ja:=low (.inl hz);refine gO ?_;refine Ab (Wl y o.proc b.AH Xz) ?_;generalize AD y o.proc b.AH=w at ja;obtain⟨w1,w2,w3⟩:=w
     by_cases hs:w3=0
     ·subst hs;refine gO ?_;exact cp w1 (by grind) _ AK
     ·have bt:(w3==0)=false:=by grind
      simp(disch:=omega)only[go_sem,bt];exact cp y (by grind) _ AK
   ·subst Ba;rw[take_length,lZ ho VJ Ui];have hlx:=PI o VJ Ui;obtain⟨z1,z2,z3⟩:=Bt (MP hlx.val);refine Ab (SP (D5 o r) z1 z2 z3) ?_;simp(disch:=omega)only[go_sem];refine fin _ (AT.Aq gI ?_);rw[rA];exact gI
 ·subst Ba;refine gO ?_;refine CU ⟨[],[],[8960,3456]⟩ _ ?_;simp only[go_sem,FK];exact .eq (by simp)
def Iq(s:WS)(o:C1):Bool:=Cc o&&Br (Ca s).2 o.proc
def CD(s:WS)(l:List C1):Bool:=AI s&&decide (l.length<=40)&&l.all (Iq s)
def gX(s:WS)(l:List C1)(h:Iy s)(hl:l.length<=1000000):Ad C0 18 [.agg s.c,Cw l] [] (B (CD s l)) []:=by
 refine Ad.go f18 ?_;unfold f18;refine gO ?_;refine Ab (Qz s h) ?_;cases hv:AI s
 ·simp(disch:=omega)only[go_sem];refine Al _ ?_;exact wb (by simp[CD,hv])
 by_cases hn:40<l.length
 ·have k1:(40<(l.length:Int))=True:=eq_true (by omega);simp(disch:=omega)only[go_sem,k1,length_map];refine Al _ ?_;exact wb (by simp[CD];omega)
 have k1:(40<(l.length:Int))=False:=eq_false (by omega);have ud:=mm h (Be hv);simp(disch:=omega)only[go_sem,k1,length_map,decide_false];refine Ab (gZ s h) ?_;rw[DW hv];refine gO ?_;refine AF (l) (λi=>⟨[(24,I i),(23,I l.length),(22,Cw l),(6,AL (Ca s).2)],[]⟩) (λi=>(l.take i).all (Iq s)=true) rfl ?_ ?_
 ·exact Ce
 rintro i ⟨hi,hP⟩ J hJ;refine gO ?_;refine Bo hi (λAP b hb Cg AX=>?_) λBa=>?_
 simp(disch:=omega)only[go_sem,gm,hb]
 ·have no:Iq s b=false->CD s l=false:=λhh=>by
   have:l.all (Iq s)=false:=by rw[all_eq_false];exact⟨b,Cg,by simp[hh]⟩
   simp[CD,this]
  have yes:Iq s b=true->(l.take (i+1)).all (Iq s)=true:=λhh=>by rw[take_add_one,hb];simp[hP,hh]
  refine Ab (qV b) ?_;cases ho:Cc b
  ·simp(disch:=omega)only[go_sem];refine Al _ ?_;exact wb (by rw[no (by simp[Iq,ho])])
  refine gO ?_;refine Ab (KE (Ca s).2 b.proc (by omega)) ?_;cases hd:Br (Ca s).2 b.proc
  ·simp(disch:=omega)only[go_sem];refine Al _ ?_;exact wb (by rw[no (by simp[Iq,hd])])
  ·simp(disch:=omega)only[go_sem];refine hJ _ (i+1) ⟨by omega,(yes (by simp[Iq,ho,hd]))⟩ (by omega) AK
 ·subst Ba;rw[take_length]at hP;refine Al _ ?_;exact wb (by simp only[CD,hv,hP];simp;omega)
def Aam(s:WS)(l:List C1)(h:Iy s)(hl:l.length<=1000000):Ad C0 19 [.agg s.c,Cw l] [] (B (CD s l)) []:=by
 refine Ad.go f19 ?_;unfold f19;refine gO ?_;refine Ab (SO s h) ?_;cases hv:AI s
 ·simp(disch:=omega)only[go_sem];refine Al _ ?_;exact wb (by simp[CD,hv])
 by_cases hn:40<l.length
 ·have k1:(40<(l.length:Int))=True:=eq_true (by omega);simp(disch:=omega)only[go_sem,k1,length_map];refine Al _ ?_;exact wb (by simp[CD];omega)
 have k1:(40<(l.length:Int))=False:=eq_false (by omega);have ud:=mm h (Be hv);simp(disch:=omega)only[go_sem,k1,length_map,decide_false];refine Ab (Wk s h) ?_;rw[DW hv];refine gO ?_;refine AF (l) (λi=>⟨[(24,I i),(23,I l.length),(22,Cw l),(6,AL (Ca s).2)],[]⟩) (λi=>(l.take i).all (Iq s)=true) rfl ?_ ?_
 ·exact Ce
 rintro i ⟨hi,hP⟩ J hJ;refine gO ?_;refine Bo hi (λAP b hb Cg AX=>?_) λBa=>?_
 simp(disch:=omega)only[go_sem,gm,hb]
 ·have no:Iq s b=false->CD s l=false:=λhh=>by
   have:l.all (Iq s)=false:=by rw[all_eq_false];exact⟨b,Cg,by simp[hh]⟩
   simp[CD,this]
  have yes:Iq s b=true->(l.take (i+1)).all (Iq s)=true:=λhh=>by rw[take_add_one,hb];simp[hP,hh]
  refine Ab (hZ b) ?_;cases ho:Cc b
  ·simp(disch:=omega)only[go_sem];refine Al _ ?_;exact wb (by rw[no (by simp[Iq,ho])])
  refine gO ?_;refine Ab (KG (Ca s).2 b.proc (by omega)) ?_;cases hd:Br (Ca s).2 b.proc
  ·simp(disch:=omega)only[go_sem];refine Al _ ?_;exact wb (by rw[no (by simp[Iq,hd])])
  ·simp(disch:=omega)only[go_sem];refine hJ _ (i+1) ⟨by omega,(yes (by simp[Iq,ho,hd]))⟩ (by omega) AK
 ·subst Ba;rw[take_length]at hP;refine Al _ ?_;exact wb (by simp only[CD,hv,hP];simp;omega)
def o0:C1:=⟨p0,0,0,[]⟩
def Az(s:WS)(l:List C1):Srch:=⟨l.length,λi=>(l.getD i o0).cost,λi=>(l.getD i o0).proc,λS=>EF s l S⟩
theorem VP{st:List Ac}{p:Ac}(h:p∉st):GX st p=0:=by grind[GX,FL]
theorem ai{st:List Ac}{p:Ac}(h:p∈st):∃ i,i<st.length/\st[i]?=some p/\GX st p=2 ^ i:=by
 unfold GX;cases hf:st.findIdx? (λq=>decide (BF p q=0)) with
 |none =>
  grind[CJ]
 |some i =>
  obtain⟨h1,h2,_⟩:=List.findIdx?_eq_some_iff_getElem.1 hf;have h3:BF p st[i]=0:=by grind
  exact⟨i,h1,by grind[FL],rfl⟩
def Sp(st ps:List Ac):Nat:=ps.foldl (λm p=>m ||| GX st p) 0
theorem pq(st ps:List Ac)(p:Ac):Sp st (ps++[p])=Sp st ps ||| GX st p:=by simp[Sp]
def U4{st:List Ac}(hl:st.length<=62)(p:Ac):GX st p<2 ^ 62:=by
 by_cases h:p∈st
 ·obtain⟨i,h1,_,h3⟩:=ai h;rw[h3];exact Nat.pow_lt_pow_right (by omega) (by omega)
 grind[VP]
def fT{st:List Ac}(hl:st.length<=62):∀ (ps:List Ac) (m:Nat),m<2 ^ 62->ps.foldl (λm p=>m ||| GX st p) m<2 ^ 62
 |[],_,h=>h
 | p::ps,m,h=>fT hl ps _ (Nat.or_lt_two_pow h (U4 hl p))
def mA{st:List Ac}(hl:st.length<=62)(ps:List Ac):Sp st ps<2 ^ 62:=fT hl ps 0 (Nat.pow_pos (by omega))
theorem uP{x i:Nat}:x &&& 2 ^ i=0↔x.testBit i=false:=by
 constructor
 ·intro h;have:=congrArg (λn=>n.testBit i) h;simpa [Nat.testBit_two_pow_self]using this
 ·intro h;refine Nat.eq_of_testBit_eq λj=>?_
  grind
theorem ZW{st:List Ac}{p:Ac}{i:Nat}(hp:p∈st)(hb:GX st p=2 ^ i)(hi:st[i]?=some p):∀ (ps:List Ac) (m:Nat),(ps.foldl (λm p=>m ||| GX st p) m).testBit i=(m.testBit i||decide (p∈ps))
 |[],m=>by simp
 | q::ps,m=>by
  rw[List.foldl_cons,ZW hp hb hi ps,Nat.testBit_or]
  by_cases hq:q∈st
  ·obtain⟨j,_,h2,h3⟩:=ai hq;rw[h3,Nat.testBit_two_pow]
   by_cases hj:j=i
   ·subst hj;rw[hi]at h2;injection h2 with h2
    subst h2;simp
   ·have:p≠q:=λe=>by
     subst e;rw[hb]at h3;exact hj (Nat.pow_right_inj (by omega) |>.1 h3).symm
    simp[hj,this]
  ·rw[VP hq];have:p≠q:=λe=>hq (e▸hp)
   simp[this]
theorem tX{st:List Ac}{p:Ac}{i:Nat}(hp:p∈st)(hb:GX st p=2 ^ i)(hi:st[i]?=some p)(ps:List Ac):(Sp st ps).testBit i=decide (p∈ps):=by grind[Sp,ZW]
theorem fS{st:List Ac}(ps:List Ac)(p:Ac):Sp st ps &&& GX st p=0↔¬ (p∈st/\p∈ps):=by by_cases h:p∈st<;>grind[ai,uP,tX,VP]
def KZ(s:WS)(st:List Ac)(v:Nat):List Ac:=(Ag s).filter λp=>decide (v &&& GX st p=0)
def OI(s:WS)(st:List Ac)(v:Nat):Bool:=decide (Bl (Fw s (KZ s st v))=[])
def QZ{s:WS}{opts:List C1}{S:List Nat}(h:EF s opts S=true):∃ x V,Fy opts S (s,[])=some (x,V)/\(Dq x V).all (λp=>Br V p)=true:=by grind[EF]
def Xy{s x:WS}{opts:List C1}{S:List Nat}{V:List Ac}(hv:AI s=true)(h:Fy opts S (s,[])=some (x,V)):V=S.map λi=>(opts.getD i o0).proc:=by
 have hg:=Be hv;obtain⟨_,_,W,h1,h2,h3⟩:=Mu S hg hv (MV.refl hg) h;simp at h1;subst h1;refine List.ext_getElem? λk=>?_
 grind
def xi{s:WS}{opts:List C1}(hv:CD s opts=true){S:List Nat}(hS:∀ i∈S,i<opts.length)(h:EF s opts S=true):OI s (Bl s) (Sp (Bl s) (S.map (Az s opts).gv))=true:=by
 have lR:AI s=true:=by simp_all[CD]
 obtain⟨x,V,h1,h2⟩:=QZ h;have hV:=Xy lR h1;unfold OI;rw[decide_eq_true_eq];refine UA lR h1 h2 λv zd hm=>?_
 unfold KZ at hm;rw[List.mem_filter]at hm;have h3:=of_decide_eq_true hm.2;rw[fS]at h3;refine h3 ⟨?_,by rw[hV]at zd;exact zd⟩;rw[hV]at zd;obtain⟨i,hi,rfl⟩:=List.mem_map.1 zd;simp_all[CD,Iq,Br,Bl]
def Oi{s:WS}{o:C1}(hv:AI s=true)(h:(Cm s o).2=0):AI (Cm s o).1=true:=by
 unfold Cm at h ⊢;rw[if_pos hv]at h ⊢;split at h
 ·rename_i ho;split at h
  ·rename_i hp;rw[if_pos ho,if_pos hp];exact Iw hv (by simpa [Br]using hp)
  ·simp at h
 ·simp at h
def Tw(x:WS × List Ac):Bool:=(Dq x.1 x.2).all λp=>Br x.2 p
theorem Uz(s:WS)(opts:List C1)(S:List Nat):EF s opts S=match Fy opts S (s,[]) with
 |some x=>Tw x
 |none=>false:=by
 unfold EF Tw;cases Fy opts S (s,[])<;>rfl
def ia(s:WS)(opts:List C1)(S:List Nat)(hv:AI s=true)(hl:opts.length<=1000000)(hS:S.length<=1000000)(hi:∀ i∈S,i<opts.length)(hw:∀ o∈opts,o.lower.length<=1000000):Ad C0 44 [.agg s.c,Cw opts,E3 S] [] (B (EF s opts S)) []:=by
 rw[Uz];refine Ad.go f44 ?_;unfold f44;refine gO ?_;refine Ao (α:=Nat × WS × List Ac) (λx=>⟨[(1,Cw opts),(16,E3 S),(17,I S.length),(18,I x.1),(3,.ptr 192 0),(7,.sl (.own 2624 0) 3 (x.2.2.map Ac.c))],[(192,x.2.1.c)]⟩) (λx=>x.1<=S.length/\AI x.2.1=true/\x.2.2.length=x.1/\Fy opts (S.drop x.1) x.2=Fy opts S (s,[])) (λx=>S.length-x.1) (0,s,[]) ⟨by simp,hv,rfl,rfl⟩ ?_ ?_
 ·refine AT.Aq ?_ gI;simp(disch:=omega)only[go_sem]
 rintro⟨i,t,V⟩ ⟨j1,j2,j3,j4⟩ J hJ
 replace j1:i<=S.length:=j1
 replace j2:AI t=true:=j2
 replace j3:V.length=i:=j3
 replace j4:Fy opts (S.drop i) (t,V)=Fy opts S (s,[]):=j4
 by_cases AP:i<S.length
 ·have e1:((i:Int)<(S.length:Int))=True:=eq_true (by omega);obtain⟨k,hk⟩:∃ k,S[i]?=some k:=⟨_,gE AP⟩;have X7:=hi k (mG hk);obtain⟨o,CC⟩:∃ o,opts[k]?=some o:=⟨_,gE X7⟩;simp(disch:=omega)only[go_sem,e1,gm,hk,decide_true];have hf:=GF j2;have GI:Fy opts (S.drop i) (t,V)=if (Cm t o).2=0 then Fy opts (S.drop (i+1)) ((Cm t o).1,V++[o.proc]) else none:=by
   have e:S.drop i=k::S.drop (i+1):=by
    rw[List.drop_eq_getElem_cons AP];rw[gE AP]at hk;rw[Option.some.inj hk]
   rw[e];simp only[Fy,CC]
  have hval:=Oi (o:=o) j2;generalize hA:Cm t o=c at GI hval;obtain⟨u,x⟩:=c;refine Dj 4095 [(0,1,0),(1,2,0),(2,4,0),(3,8,6),(4,16,8),(5,32,17),(6,64,32),(7,128,64),(8,256,64),(9,512,0),(10,1024,767),(11,2048,2047)] [0,1,2,4,512,3,5,513,6,514,516,7,515,517,14,518,15,519,30,526,31,527,542,63,543,127,575,255,383,639,511,767,895,1023,1791,2047,4095] (λm=>⟨XE m [(1,23,.agg t.c),(2,24,Cw opts),(4,25,I k),(8,26,.ep .no k o.c 0),(16,27,.agg o.c),(32,28,.BC [.agg u.c,I x]),(64,22,.BC [.agg u.c,I x]),(128,29,.agg u.c),(256,30,I x),(512,10,.ptr 640 0),(2048,11,I x)]++[(1,Cw opts),(16,E3 S),(17,I S.length),(18,I i),(3,.ptr 192 0),(7,.sl (.own 2624 0) 3 (V.map Ac.c)),(9,I k)],((if m / 512%2=1 then [(640,(if m / 1024%2=1 then u.c else N9.c))] else [])++[(192,t.c)])⟩) ?_ ?_ ?_ B6
  ·exact AT.Aq gI gI
  ·simp (maxSteps:=100000000)only[Di,Dh,D0,DZ,and_true,Nat.reduceDiv,Nat.reduceMod,Nat.reduceAnd,Nat.reduceEqDiff,reduceIte,true_and,and_false,false_and,and_self]
   repeat'(with_reducible refine And.intro ?_ ?_)
   all_goals simp(disch:=omega)only[go_sem,gm,CC,nil_append,N9]
   all_goals first|exact AT.Aq gI (by simp(disch:=omega)only[go_sem,nil_append,cons_append,N9];try(repeat'(with_reducible apply And.intro));all_goals exact .A8 (by omega))|exact AT.Aq gI (by simp(disch:=omega)only[go_sem,nil_append,cons_append])|(refine Ab (AaK t o hf (hw o (mG CC))) ?_;rw[hA];simp(disch:=omega)only[go_sem];exact AT.Aq gI (by simp(disch:=omega)only[go_sem,nil_append,cons_append]))
  by_cases hx:x=0
  ·subst hx;have ID:V.length+1<=4294967296:=by omega
   simp(disch:=omega)only[go_sem,gm,CC,nil_append,cons_append,length_map];refine hJ _ (i+1,u,V++[o.proc]) ⟨AP,hval rfl,by simp[j3],by rw[<- j4,GI];simp⟩ (by simp;omega) (AT.Aq ?_ gI);refine gO ?_;exact .sl (by simp[Ac.c])
  ·have Vt:(x==0)=false:=by simpa using hx
   have Xj:(x !=0)=true:=by simpa using hx
   rw[<- j4,GI,if_neg hx];simp(disch:=omega)only[go_sem,Vt,Xj,nil_append,cons_append];exact AQ _
 ·have e1:((i:Int)<(S.length:Int))=False:=eq_false (by omega);simp(disch:=omega)only[go_sem,e1,decide_false];have hf:=GF j2;have Aa9:Fy opts S (s,[])=some (t,V):=by
   rw[<- j4,List.drop_eq_nil_of_le (by omega)];rfl
  rw[Aa9];refine FU [2624] (qL t V hf (by omega)) gI rfl ?_;have e:MW t V=(Dq t V,0):=by simp[MW,j2]
  rw[e];have gr:(Dq t V).length<=20000:=by
   have h1:=(JD (Ag t).length t V (Be j2) (Nat.le_refl _)).2.2.1;exact Nat.le_trans (BP _ _ (Nz _) h1) (De hf)
  refine gO ?_;clear hJ;refine AF ((Dq t V)) (λi=>⟨[(53,I i),(52,I (Dq t V).length),(51,AL (Dq t V)),(7,AL V)],[]⟩) (λi=>((Dq t V).take i).all (λp=>Br V p)=true) rfl ?_ ?_
  ·exact Ce
  rintro i ⟨hi,hP⟩ J hJ;refine gO ?_;refine Bo hi (λAP b hb Cg AX=>?_) λBa=>?_
  simp(disch:=omega)only[go_sem,gm,hb]
  ·refine Ab (KE V b (by omega)) ?_;cases Ss:Br V b
   ·simp(disch:=omega)only[go_sem];refine Al _ ?_;exact wb (by
     have:(Dq t V).all (λp=>Br V p)=false:=by rw[all_eq_false];exact⟨b,Cg,by simp[Ss]⟩
     simp[Tw,this])
   ·simp(disch:=omega)only[go_sem];refine hJ _ (i+1) ⟨by omega,(by rw[take_add_one,hb];simp[hP,Ss])⟩ (by omega) AK
  ·subst Ba;rw[take_length]at hP;refine Al _ ?_;exact wb (by simp[Tw,hP])
end Go.Rd
