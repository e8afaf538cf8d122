/- part 31 of the proof -/
import Derived.Test.YthachdiockkofaaGreatDoorL28
import Derived.Test.YthachdiockkofaaGreatDoorL29
import Derived.Test.YthachdiockkofaaGreatDoorL30
set_option linter.all false
open Go Go.Abs Go.Proofs
set_option maxRecDepth 100000
namespace Go.Rd
set_option maxHeartbeats 8000000
open List (cons_append foldl_nil length_append length_map map_append map_cons map_nil map_set mem_filterMap mem_map nil_append set_set take_zero)
open Bool (and_eq_true false_eq_true)
open Option (toList_some)
open Nat (le_trans)
open Tryz
def GL(w:Am)(i:Nat)(x:Pcs)(name:Bs):Am :=
 let w1:=Cg w (A8 w.Aa x.proc ⟨name,⟨0,0⟩⟩).1 (A8 w.Aa x.proc ⟨name,⟨0,0⟩⟩).2.1
 AF w1 i (BC { x with led:=(FZ x.led name).1 })
def D3(w:Am)(i:Nat)(x:Pcs)(name:Bs):Am × Int :=
 if x.waiting then (w,14) else if (An x.led.entries name).mode==0&&(An x.led.entries name).Ax==0 then (w,10) else (Bl (GL w i x name),0)
def f123_ok(Inv:Am→Prop)(hI:Io Inv)(w:Am)(i:Nat)(x:Pcs)(name:Bs)(hx:w.procs[i]?=some x)(hf:D5 w.Aa)
 (hc:x.waiting=false→Inv (GL w i x name)) (hp:w.procs.length≤8) (hev:w.CX.length≤500000) :
 Ad C0 123 [.ptr 63 0,I i,.v (.string (str name))] [(63,w.c)] (I (D3 w i x name).2) [(63,(D3 w i x name).1.c)]:=by
 have hi:=Aj hx;refine Ad.go f123 ?_;unfold f123;simp(disch:=omega)only[go_sem,gm,hx];cases h1:x.waiting;rotate_left
 ·have ht:D3 w i x name=(w,14):=by simp[D3,h1]
  rw[ht];simp(disch:=omega)only[go_sem,h1];refine Cp ⟨[(0,0),(1,1)],[(63,63)],[]⟩ _ ?_ ?_
  ·exact gI
  ·exact gI
 have c2:=hc h1;simp(disch:=omega)only[go_sem,h1,gm,hx];refine Ae (f190_ok x.led.entries name) ?_;refine gO ?_;cases h2:((An x.led.entries name).mode==0&&(An x.led.entries name).Ax==0);rotate_left
 ·have ht:D3 w i x name=(w,10):=by simp only[D3,h1,h2];rfl
  rw[ht];simp(disch:=omega)only[go_sem,h2];refine Cp ⟨[(0,0),(1,1)],[(63,63)],[]⟩ _ ?_ ?_
  ·exact gI
  ·exact gI
 have ht:D3 w i x name=(Bl (GL w i x name),0):=by simp only[D3,h1,h2];rfl
 rw[ht];simp(disch:=omega)only[go_sem,h2];have k3:=G2 hf x.proc ⟨name,⟨0,0⟩⟩;refine Aw 23 [([],[0]),([],[34]),([],[35]),([],[36]),([],[37]),([],[0]),([],[39]),([],[40]),([],[41]),([],[42]),([],[1]),([],[43,44]),([],[45]),([],[46]),([],[2]),([],[48]),([],[38,47,49]),([16],[50]),([16],[33]),([16],[33]),([16],[33]),([16],[51]),([16],[52])] fol ?_;simp(disch:=omega)only[go_sem,gm,hx]
 first|(refine Ae (f192_ok w.Aa x.proc ⟨name,⟨0,0⟩⟩ hf) ?_)|(refine Av (f192_ok w.Aa x.proc ⟨name,⟨0,0⟩⟩ hf) ?_)
 refine gO ?_;refine call2 ⟨⟨[(0,0),(1,1)],[(63,63)],[]⟩,[],[]⟩ (f184_ok w (A8 w.Aa x.proc ⟨name,⟨0,0⟩⟩).1 (A8 w.Aa x.proc ⟨name,⟨0,0⟩⟩).2.1 (by omega)) ?_;have e1:GL w i x name=AF (Cg w (A8 w.Aa x.proc ⟨name,⟨0,0⟩⟩).1 (A8 w.Aa x.proc ⟨name,⟨0,0⟩⟩).2.1) i (BC { x with led:=(FZ x.led name).1 }):=rfl;have e2:(Cg w (A8 w.Aa x.proc ⟨name,⟨0,0⟩⟩).1 (A8 w.Aa x.proc ⟨name,⟨0,0⟩⟩).2.1).procs=w.procs:=rfl;have e3:(Cg w (A8 w.Aa x.proc ⟨name,⟨0,0⟩⟩).1 (A8 w.Aa x.proc ⟨name,⟨0,0⟩⟩).2.1).CX.length=w.CX.length+(A8 w.Aa x.proc ⟨name,⟨0,0⟩⟩).2.1.length:=by simp[Cg]
 generalize Cg w (A8 w.Aa x.proc ⟨name,⟨0,0⟩⟩).1 (A8 w.Aa x.proc ⟨name,⟨0,0⟩⟩).2.1=w1 at e1 e2 e3 ⊢;refine gO ?_;rw[← e2]at hx hi;refine En (st':=⟨[(0,.ptr 63 0),(1,I i),(2,.v (.string (str name)))],[(63,w1.c)]⟩) AT ?_;refine QJ 20 [([],[0]),([0],[59]),([0,1],[60]),([0,1,2],[61]),([0,1,2,3],[62]),([],[1]),([],[0]),([6],[65]),([6,7],[66]),([6,7,8],[67]),([6,7,8,9],[68]),([],[1]),([6,7,8,9,10,11],[69,70]),([6,7,8,9,10,11,12],[71]),([6,7,8,9,10,11,12,13],[72]),([],[2]),([6,7,8,9,10,11,12,13,14,15],[73,74]),([6,7,8,9,10,11,12,13,14,15,16],[75]),([6,7,8,9,10,11,12,13,14,15,16,17],[58]),([6,7,8,9,10,11,12,13,14,15,16,17],[58]),([0,1,2,3,4,5,6,7,8,9,10,11,12,13,14,15,16,17,18],[]),([0,1,2,3,4,5,6,7,8,9,10,11,12,13,14,15,16,17,18,20],[]),([0,1,2,3,4,5,6,7,8,9,10,11,12,13,14,15,16,17,18,20,21],[])] [19] [63,64,76,58,0,1,2] fol kR ?_;simp(disch:=omega)only[go_sem,gm,hx]
 first|(refine Ae (f193_ok x.led name) ?_)|(refine Av (f193_ok x.led name) ?_)
 simp(disch:=omega)only[go_sem,gm,hx];have hx5:(AF w1 i { x with led:=(FZ x.led name).1 }).procs[i]?=some { x with led:=(FZ x.led name).1 }:=by simp[AF,hi]
 refine call2 ⟨⟨[(0,0),(1,1)],[(63,63)],[]⟩,[],[]⟩ (f121_ok (AF w1 i { x with led:=(FZ x.led name).1 }) i _ hx5) ?_ (hh:=?_);rotate_left
 ·simp only[AF];refine gO ?_;exact .sl (by simp only[map_set,set_set];rfl)
 have e4:AF (AF w1 i { x with led:=(FZ x.led name).1 }) i (BC { x with led:=(FZ x.led name).1 })=GL w i x name:=by rw[e1];simp[AF]
 rw[e4];have e5:(GL w i x name).CX.length≤w.CX.length+101:=by rw[e1];simp only[AF];omega
 have e6:=Ik (GL w i x name);have e7:=(hI.few _ c2).2.1;refine gO ?_;refine call2 ⟨⟨[(0,0),(1,1)],[(63,63)],[]⟩,[],[]⟩ (f122_ok Inv hI (GL w i x name) c2 (by omega)) ?_;refine gO ?_;refine Cp ⟨[(0,0),(1,1)],[(63,63)],[]⟩ _ ?_ ?_
 ·exact gI
 ·exact gI
def FX(w:Am)(p:Ab)(a:Atom):Am:=match BS w.Aa a.name with
 |none=>w
 |some k=>if decide (At (w.Aa.getD k q0).holds p=a.amt) then w else Cg w (A8 w.Aa p a).1 (A8 w.Aa p a).2.1
def Cs(w:Am)(p:Ab)(az:List Atom):Am:=az.foldl (fun w a=>FX w p a) w
def K6{w:Am}{p:Ab}{az:List Atom}{i:Nat}{b:Atom}(hb:az[i]?=some b):Cs w p (az.take (i+1))=FX (Cs w p (az.take i)) p b:=by
 simp[Cs,tA,hb,List.foldl_append]
def UZ(w:Am)(p:Ab)(a:Atom):(FX w p a).procs=w.procs:=by
 unfold FX;split
 ·rfl
 ·split<;>rfl
def FJ(w:Am)(p:Ab):∀ az:List Atom,(Cs w p az).procs=w.procs
 |[]=>rfl
 | a::az=>by
  show (Cs (FX w p a) p az).procs=w.procs;rw[FJ,UZ]
def TD(w:Am)(p:Ab)(az:List Atom):Prop:=∀ i b,az[i]?=some b→D5 (Cs w p (az.take i)).Aa∧∃ k,BS (Cs w p (az.take i)).Aa b.name=some k
def YL{w:Am}{p:Ab}{a:Atom}(h:D5 w.Aa):(FX w p a).CX.length≤w.CX.length+101:=by
 have:=G2 h p a;unfold FX;split
 ·omega
 ·split
  ·omega
  ·simp only[Cg,length_append];omega
def Ir{w:Am}{p:Ab}{az:List Atom}(h:TD w p az):∀ i,i≤az.length→(Cs w p (az.take i)).CX.length≤w.CX.length+101*i
 | 0,_=>by simp[Cs]
 | i+1,hi=>by
  obtain⟨b,hb⟩:∃ b,az[i]?=some b:=⟨_,gE (by omega)⟩;have h1:=Ir h i (by omega);have h2:=YL (p:=p) (a:=b) (h i b hb).1;rw[K6 hb];omega
def Ec(w:Am)(i:Nat)(x:Pcs):Am:=if x.waiting then AH w i x else w
def CG(x:Pcs):Pcs:=if x.waiting then Br x else x
def Fc(x:Pcs)(l:Ledger):Pcs:={ x with led:=l }
def KM(w:Am)(i:Nat)(x:Pcs)(label:Int):Am :=
 AF (Cs (AF (Ec w i x) i (Fc (CG x) (Bx x.led label).1)) (CG x).proc (Bx x.led label).2.1) i (BC (Fc (CG x) (Bx x.led label).1))
def DT(w:Am)(i:Nat)(x:Pcs)(label:Int):Am × Int :=
 if (Bx x.led label).2.2=0 then (Bl (KM w i x label),0) else (w,(Bx x.led label).2.2)
def f125_ok(Inv:Am→Prop)(hI:Io Inv)(w:Am)(i:Nat)(x:Pcs)(label:Int)(hx:w.procs[i]?=some x)
 (hd:x.waiting=true→Mx w x (Ag x.req.expr))
 (hc:(Bx x.led label).2.2=0→TD (AF (Ec w i x) i (Fc (CG x) (Bx x.led label).1)) (CG x).proc (Bx x.led label).2.1∧Inv (KM w i x label))
 (hl:(Bx x.led label).2.1.length≤1000) (hp:w.procs.length≤8) (hev:w.CX.length≤500000) :
 Ad C0 125 [.ptr 63 0,I i,I label] [(63,w.c)] (I (DT w i x label).2) [(63,(DT w i x label).1.c)]:=by
 have hi:=Aj hx;refine Ad.go f125 ?_;unfold f125;simp(disch:=omega)only[go_sem,gm,hx];refine Ae (f195_ok x.led label) ?_;refine gO ?_
 by_cases h1:(Bx x.led label).2.2=0
 rotate_left
 ·have ht:DT w i x label=(w,(Bx x.led label).2.2):=by simp[DT,h1]
  rw[ht];have h1':((Bx x.led label).2.2 !=0)=true:=by simpa using h1
  simp(disch:=omega)only[go_sem,h1'];refine Cp ⟨[(0,0),(1,1)],[(63,63)],[]⟩ _ ?_ ?_
  ·exact gI
  ·exact gI
 obtain⟨c1,c2⟩:=hc h1;have ht:DT w i x label=(Bl (KM w i x label),0):=by simp[DT,h1]
 rw[ht];simp(disch:=omega)only[go_sem,h1,gm,hx];cases h2:x.waiting
 ·simp(disch:=omega)only[go_sem,h2];obtain⟨w3,hw3⟩:∃ w3,w3=Ec w i x:=⟨_,rfl⟩;obtain⟨y,hy⟩:∃ y,y=CG x:=⟨_,rfl⟩;have hx3:w3.procs[i]?=some y:=by rw[hw3,hy];simp[Ec,CG,h2,hx]
  have he3:w3.CX.length≤w.CX.length+1608:=by
   rw[hw3];simp only[Ec,h2];simp
  have hi3:=Aj hx3;unfold KM at c2 ⊢;rw[← hw3,← hy]at c1 c2 ⊢;have hww:w3=w:=by rw[hw3];simp[Ec,h2]
  rw[← hww];have hyx:y=x:=by rw[hy];simp[CG,h2]
  clear hw3 hy hd hc ht;subst hyx;generalize (Bx y.led label).2.1=az at c1 c2 hl ⊢;generalize (Bx y.led label).1=led at c1 c2 ⊢;refine Aw 7 [([],[0]),([],[54]),([],[55]),([],[56]),([],[57]),([],[1]),([],[7])] fol ?_;simp(disch:=omega)only[go_sem,gm,hx3];obtain⟨o,rfl⟩:∃ o,o=i:=⟨i,rfl⟩;have he4:(AF w3 o (Fc y led)).CX.length=w3.CX.length:=rfl;have hx4:(AF w3 o (Fc y led)).procs[o]?=some (Fc y led):=by simp[AF,hi3]
  refine Ac (α:=Nat) (fun i=>⟨[(11,I i),(8,BB az),(0,.ptr 63 0),(1,I o),(10,.ptr 640 0)],[(63,(Cs (AF w3 o (Fc y led)) y.proc (az.take i)).c),(640,y.proc.c)]⟩) (fun i=>i≤az.length) (fun i=>az.length-i) 0 (Nat.zero_le _) ?_ ?_
  ·simp only[take_zero,Cs,foldl_nil,AF];exact Imp.Ar gI (by simp(disch:=omega)only[go_sem];exact .sl (by simp only[map_set,set_set];rfl))
  generalize AF w3 o (Fc y led)=w4 at c1 c2 he4 hx4 ⊢;clear hx3 hi3;intro i hi2 J hJ;refine gO ?_;refine ⟨fun hlt=>?_,fun hge=>?_⟩
  ·obtain⟨b,hb⟩:∃ b,az[i]?=some b:=⟨_,gE (by simp at hlt;omega)⟩;have hlt2:i<az.length:=Aj hb;obtain⟨g5,k,hk⟩:=c1 i b hb;have g1:=Ir c1 i hi2;have g2:=G2 g5 y.proc b;have g4:=K6 (w:=w4) (p:=y.proc) hb;generalize Cs w4 y.proc (az.take i)=w5 at g1 g2 g4 g5 hk ⊢;obtain⟨hk0,q,hq,_⟩:=C5 hk;have hgq:w5.Aa.getD k q0=q:=by simp[List.getD,hq]
   have g6:FX w5 y.proc b=if decide (At q.holds y.proc=b.amt) then w5 else Cg w5 (A8 w5.Aa y.proc b).1 (A8 w5.Aa y.proc b).2.1:=by unfold FX;rw[hk];simp only[hgq]
   obtain⟨q1,q2,q3⟩:=Bu (g5.q q (mG hq));have hn5:=g5.n;refine Aw 25 [([],[0]),([],[69]),([],[70]),([],[71]),([],[72]),([],[0]),([],[74]),([],[75]),([],[76]),([],[77]),([],[8]),([],[11]),([],[79,80]),([],[81]),([],[82]),([],[78,83]),([15],[73,84]),([15],[85]),([],[10]),([15],[86,87]),([],[8]),([],[11]),([],[89,90]),([],[91]),([],[92])] fol ?_;simp(disch:=omega)only[go_sem,gm,hb]
   first|(refine Ae (JC w5.Aa b.name (by omega)) ?_)|(refine Av (JC w5.Aa b.name (by omega)) ?_)
   simp(disch:=omega)only[go_sem,hk,atI,gm,hq]
   first|(refine Ae (f163_ok q y.proc q1) ?_)|(refine Av (f163_ok q y.proc q1) ?_)
   simp(disch:=omega)only[go_sem,gm,hb];cases hH:decide (At q.holds y.proc=b.amt)
   ·rw[hH]at g6;simp only[false_eq_true,if_false]at g6;simp(disch:=omega)only[go_sem,hH,zF];refine Aw 17 [([],[0]),([],[96]),([],[97]),([],[98]),([],[99]),([],[10]),([],[8]),([],[11]),([],[102,103]),([],[104]),([],[100,101,105]),([10],[106]),([10],[95]),([10],[95]),([10],[95]),([10],[107]),([10],[108])] fol ?_;simp(disch:=omega)only[go_sem,gm,hb]
    first|(refine Ae (f192_ok w5.Aa y.proc b g5) ?_)|(refine Av (f192_ok w5.Aa y.proc b g5) ?_)
    refine gO ?_;refine call2 ⟨⟨[(0,0),(1,1)],[(63,63)],[]⟩,[],[]⟩ (f184_ok w5 (A8 w5.Aa y.proc b).1 (A8 w5.Aa y.proc b).2.1 (by omega)) ?_;rw[← g6,← g4];refine gO ?_;exact hJ _ (i+1) (by omega) (by omega) AT
   ·rw[hH,if_pos rfl]at g6;simp(disch:=omega)only[go_sem,hH,zT];refine hJ _ (i+1) (by omega) (by omega) (Imp.Ar gI ?_);rw[g4,g6];simp(disch:=omega)only[go_sem]
  ·have hil:i=az.length:=by simp at hge;omega
   subst hil;rw[tL];have g1:=Ir c1 _ (Nat.le_refl _);rw[tL]at g1;have g3:(Cs w4 y.proc az).procs[o]?=some (Fc y led):=by rw[FJ];exact hx4
   refine call2 ⟨⟨[(0,0),(1,1)],[(63,63)],[]⟩,[],[]⟩ (f121_ok (Cs w4 y.proc az) o (Fc y led) g3) ?_;have g7:(AF (Cs w4 y.proc az) o (BC (Fc y led))).CX.length=(Cs w4 y.proc az).CX.length:=rfl;generalize AF (Cs w4 y.proc az) o (BC (Fc y led))=w6 at c2 g7 ⊢;have k2:=(hI.few _ c2).2.1;have k4:=Ik w6;refine gO ?_;refine call2 ⟨⟨[(0,0),(1,1)],[(63,63)],[]⟩,[],[]⟩ (f122_ok Inv hI w6 c2 (by omega)) ?_;refine gO ?_;refine Cp ⟨[(0,0),(1,1)],[(63,63)],[]⟩ _ ?_ ?_
   ·exact gI
   ·exact gI
 ·simp(disch:=omega)only[go_sem,h2];obtain⟨w3,hw3⟩:∃ w3,w3=Ec w i x:=⟨_,rfl⟩;obtain⟨y,hy⟩:∃ y,y=CG x:=⟨_,rfl⟩;have hx3:w3.procs[i]?=some y:=by rw[hw3,hy];simp[Ec,CG,h2,Bm,hi]
  have he3:w3.CX.length≤w.CX.length+1608:=by
   rw[hw3];simp only[Ec,h2];have:=Jm (i:=i) (hd h2);simpa using this
  have hi3:=Aj hx3;unfold KM at c2 ⊢;rw[← hw3,← hy]at c1 c2 ⊢;refine call2 ⟨⟨[(0,0),(1,1)],[(63,63)],[]⟩,[],[]⟩ (f120_ok w i x hx (hd h2) (by omega)) ?_;rw[show AH w i x=w3 by rw[hw3];simp[Ec,h2]];clear hw3 hy hd hc ht;generalize (Bx x.led label).2.1=az at c1 c2 hl ⊢;generalize (Bx x.led label).1=led at c1 c2 ⊢;simp(disch:=omega)only[go_sem,gm,hx3];refine Aw 7 [([],[0]),([],[54]),([],[55]),([],[56]),([],[57]),([],[1]),([],[7])] fol ?_;simp(disch:=omega)only[go_sem,gm,hx3];obtain⟨o,rfl⟩:∃ o,o=i:=⟨i,rfl⟩;have he4:(AF w3 o (Fc y led)).CX.length=w3.CX.length:=rfl;have hx4:(AF w3 o (Fc y led)).procs[o]?=some (Fc y led):=by simp[AF,hi3]
  refine Ac (α:=Nat) (fun i=>⟨[(11,I i),(8,BB az),(0,.ptr 63 0),(1,I o),(10,.ptr 640 0)],[(63,(Cs (AF w3 o (Fc y led)) y.proc (az.take i)).c),(640,y.proc.c)]⟩) (fun i=>i≤az.length) (fun i=>az.length-i) 0 (Nat.zero_le _) ?_ ?_
  ·simp only[take_zero,Cs,foldl_nil,AF];exact Imp.Ar gI (by simp(disch:=omega)only[go_sem];exact .sl (by simp only[map_set,set_set];rfl))
  generalize AF w3 o (Fc y led)=w4 at c1 c2 he4 hx4 ⊢;clear hx3 hi3;intro i hi2 J hJ;refine gO ?_;refine ⟨fun hlt=>?_,fun hge=>?_⟩
  ·obtain⟨b,hb⟩:∃ b,az[i]?=some b:=⟨_,gE (by simp at hlt;omega)⟩;have hlt2:i<az.length:=Aj hb;obtain⟨g5,k,hk⟩:=c1 i b hb;have g1:=Ir c1 i hi2;have g2:=G2 g5 y.proc b;have g4:=K6 (w:=w4) (p:=y.proc) hb;generalize Cs w4 y.proc (az.take i)=w5 at g1 g2 g4 g5 hk ⊢;obtain⟨hk0,q,hq,_⟩:=C5 hk;have hgq:w5.Aa.getD k q0=q:=by simp[List.getD,hq]
   have g6:FX w5 y.proc b=if decide (At q.holds y.proc=b.amt) then w5 else Cg w5 (A8 w5.Aa y.proc b).1 (A8 w5.Aa y.proc b).2.1:=by unfold FX;rw[hk];simp only[hgq]
   obtain⟨q1,q2,q3⟩:=Bu (g5.q q (mG hq));have hn5:=g5.n;refine Aw 25 [([],[0]),([],[69]),([],[70]),([],[71]),([],[72]),([],[0]),([],[74]),([],[75]),([],[76]),([],[77]),([],[8]),([],[11]),([],[79,80]),([],[81]),([],[82]),([],[78,83]),([15],[73,84]),([15],[85]),([],[10]),([15],[86,87]),([],[8]),([],[11]),([],[89,90]),([],[91]),([],[92])] fol ?_;simp(disch:=omega)only[go_sem,gm,hb]
   first|(refine Ae (JC w5.Aa b.name (by omega)) ?_)|(refine Av (JC w5.Aa b.name (by omega)) ?_)
   simp(disch:=omega)only[go_sem,hk,atI,gm,hq]
   first|(refine Ae (f163_ok q y.proc q1) ?_)|(refine Av (f163_ok q y.proc q1) ?_)
   simp(disch:=omega)only[go_sem,gm,hb];cases hH:decide (At q.holds y.proc=b.amt)
   ·rw[hH]at g6;simp only[false_eq_true,if_false]at g6;simp(disch:=omega)only[go_sem,hH,zF];refine Aw 17 [([],[0]),([],[96]),([],[97]),([],[98]),([],[99]),([],[10]),([],[8]),([],[11]),([],[102,103]),([],[104]),([],[100,101,105]),([10],[106]),([10],[95]),([10],[95]),([10],[95]),([10],[107]),([10],[108])] fol ?_;simp(disch:=omega)only[go_sem,gm,hb]
    first|(refine Ae (f192_ok w5.Aa y.proc b g5) ?_)|(refine Av (f192_ok w5.Aa y.proc b g5) ?_)
    refine gO ?_;refine call2 ⟨⟨[(0,0),(1,1)],[(63,63)],[]⟩,[],[]⟩ (f184_ok w5 (A8 w5.Aa y.proc b).1 (A8 w5.Aa y.proc b).2.1 (by omega)) ?_;rw[← g6,← g4];refine gO ?_;exact hJ _ (i+1) (by omega) (by omega) AT
   ·rw[hH,if_pos rfl]at g6;simp(disch:=omega)only[go_sem,hH,zT];refine hJ _ (i+1) (by omega) (by omega) (Imp.Ar gI ?_);rw[g4,g6];simp(disch:=omega)only[go_sem]
  ·have hil:i=az.length:=by simp at hge;omega
   subst hil;rw[tL];have g1:=Ir c1 _ (Nat.le_refl _);rw[tL]at g1;have g3:(Cs w4 y.proc az).procs[o]?=some (Fc y led):=by rw[FJ];exact hx4
   refine call2 ⟨⟨[(0,0),(1,1)],[(63,63)],[]⟩,[],[]⟩ (f121_ok (Cs w4 y.proc az) o (Fc y led) g3) ?_;have g7:(AF (Cs w4 y.proc az) o (BC (Fc y led))).CX.length=(Cs w4 y.proc az).CX.length:=rfl;generalize AF (Cs w4 y.proc az) o (BC (Fc y led))=w6 at c2 g7 ⊢;have k2:=(hI.few _ c2).2.1;have k4:=Ik w6;refine gO ?_;refine call2 ⟨⟨[(0,0),(1,1)],[(63,63)],[]⟩,[],[]⟩ (f122_ok Inv hI w6 c2 (by omega)) ?_;refine gO ?_;refine Cp ⟨[(0,0),(1,1)],[(63,63)],[]⟩ _ ?_ ?_
   ·exact gI
   ·exact gI
def Pe{x:Pcs}{a:Nat}(hv:A9 x.led=true):∀ (az:List Atom) (w:Am),CE w.Aa→Il w.Aa x→dT w.Aa x a→(∀ b∈az,(∃ e∈x.led.entries,e.name=b.name)∧b.amt=An (x.led.entries.take a) b.name) →
 TD w x.proc az∧Fj x.proc w.Aa (Cs w x.proc az).Aa
 |[],w,h,_,_,_=>⟨fun i b hb=>by simp at hb,.refl h⟩
 | b::az,w,h,hf,hr,hb=>by
  obtain⟨hb1,hb2⟩:=hb b (by simp);obtain⟨k,q,f1,f2,f3,f4⟩:=hf b.name hb1;have hg:w.Aa.getD k q0=q:=by simp[List.getD,f2]
  obtain⟨r1,r2⟩:=hr q (mG f2);have key:Fj x.proc w.Aa (FX w x.proc b).Aa∧dT (FX w x.proc b).Aa x a:=by
   unfold FX;simp only[f1,hg];split
   ·exact⟨.refl h,hr⟩
   ·rename_i hne;have hne:At q.holds x.proc≠b.amt:=by simpa using hne
    have hh:At q.holds x.proc=An x.led.entries b.name:=by
     rcases r2 with r2|r2
     ·rw[r2,f3]
     ·rw[f3,← hb2]at r2;exact absurd r2 hne
    obtain⟨q1,e1,hs,hqr,g1,g2⟩:=Hu (a:=b) h f1 f2 r1 (by rw[hh];exact Gd f4) (by rw[hh,hb2];exact OC f4 (OF hv b.name a));simp only[Cg];rw[e1];refine⟨hs,fun q' hq'=>?_⟩;rcases CO (q:=q) hq' with rfl|⟨j,_,hj⟩
    ·exact⟨g1,.inr (by rw[g2,hb2,hqr,f3])⟩
    ·exact hr q' (mG hj)
  obtain⟨g1,g2⟩:=Pe hv az (FX w x.proc b) key.1.tab (hf.res key.1.res) key.2 fun c hc=>hb c (by simp[hc])
  refine⟨fun i c hc=>?_,key.1.trans g2⟩;cases i with
  | zero =>
   simp at hc;subst hc;exact⟨CV h,k,f1⟩
  | succ i=>exact g1 i c (by simpa using hc)
def Sl(x:Pcs):(CG x).proc=x.proc∧(CG x).waiting=false∧(CG x).led=x.led:=by
 unfold CG;cases hw:x.waiting
 ·exact⟨rfl,hw,rfl⟩
 ·exact⟨rfl,rfl,rfl⟩
def cj{l:Ledger}{label:Int}(h:(Bx l label).2.2=0):A9 l=true∧∃ a n,(Bx l label).2.1=Jd l a∧(Bx l label).1=Np l a n:=by
 unfold Bx at h ⊢;split at h
 ·simp at h
 ·rename_i hv;refine⟨by simpa using hv,?_⟩;cases hb:KL l label with
  |none=>rw[hb]at h;simp at h
  |some p=>obtain⟨a,n⟩:=p;exact⟨a,n,by simp[hv],by simp[hv]⟩
def Sj{w:Am}{i:Nat}{x:Pcs}{label:Int}(h:JE none w)(hx:w.procs[i]?=some x)(hf:Il w.Aa x)(hi:x.waiting=false→Idle w.Aa x)(hpt:x.waiting=true→∀ q∈w.Aa,(∀ a∈Ag x.req.expr,q.res.name≠a.name)→KF q x.proc (An x.led.entries q.res.name))
 (h0:(Bx x.led label).2.2=0):TD (AF (Ec w i x) i (Fc (CG x) (Bx x.led label).1)) (CG x).proc (Bx x.led label).2.1∧JE none (KM w i x label):=by
 obtain⟨hv,a,n,e1,e2⟩:=cj h0;obtain⟨p1,p2,p3⟩:=Sl x;have hli:=Aj hx;have hcalm:JE none (Ec w i x)∧(Ec w i x).procs[i]?=some (CG x)∧(∀ q∈(Ec w i x).Aa,KF q x.proc (An x.led.entries q.res.name))∧(Ec w i x).Aa.map (·.res)=w.Aa.map (·.res):=by
  unfold Ec CG;cases hw:x.waiting
  ·exact⟨h,hx,hi hw,rfl⟩
  ·simp only[if_true];obtain⟨_,g1,g2⟩:=Eb h hx hw;have hg:=h.good i x hx (by simp) hw;have hres:=(Lc (Ag x.req.expr) w h.tab hg.k hg.fd).2.1.res;refine⟨g1,by rw[Bm];simp[hli],fun q hq=>?_,hres⟩;rcases g2 q hq with g|⟨g,gn⟩
   ·exact g
   ·exact hpt hw q g gn
 obtain⟨c1,c2,c3,c4⟩:=hcalm;obtain⟨w1,hw1⟩:∃ w1,w1=AF (Ec w i x) i (Fc (CG x) (Bx x.led label).1):=⟨_,rfl⟩;have d1:JE (some i) w1:=by rw[hw1];exact(c1.but i).set' c2 rfl
 have d2:w1.Aa=(Ec w i x).Aa:=by rw[hw1];rfl
 have d3:w1.procs[i]?=some (Fc (CG x) (Bx x.led label).1):=by rw[hw1];simp[AF,Aj c2]
 obtain⟨g1,g2⟩:=Pe (a:=a) hv (Jd x.led a) w1 d1.tab (by rw[d2];exact hf.res c4) (fun q hq=>by
  rw[d2]at hq;exact⟨(c3 q hq).1,.inl (c3 q hq).2⟩) (fun b hb=>by
  simp only[Jd,mem_map]at hb;obtain⟨m,hm,rfl⟩:=hb;obtain⟨e,he,hn⟩:=(D9 _ _).1 hm;exact⟨⟨e,List.mem_of_mem_drop he,hn⟩,rfl⟩)
 unfold KM;rw[← hw1,p1,e1];refine⟨g1,?_⟩;have d4:(Fc (CG x) (Bx x.led label).1).proc=x.proc:=p1;exact JE.set (z:=Fc (CG x) (Bx x.led label).1) (d1.step d3 (FJ _ _ _) (d4▸g2)) (by rw[FJ];exact d3) rfl (fun e=>by simp[BC,Fc,p2]at e)
def QX{w:Am}{i:Nat}{x:Pcs}{name:Bs}(h:JE none w)(hx:w.procs[i]?=some x)(hw:x.waiting=false):RQ (GL w i x name):=by
 rcases Xy x.proc ⟨name,⟨0,0⟩⟩ h.tab with hl|hs
 ·refine .inr ⟨hl,by simpa [GL,AF,Cg]using h.n,fun z hz hzw=>?_⟩;simp only[GL,AF,Cg]at hz;rcases List.mem_or_eq_of_mem_set hz with hz|rfl
  ·exact h.reqs z hz hzw
  ·simp[BC,hw]at hzw
 ·refine .inl ?_;unfold GL;exact JE.set (w:=Cg w (A8 w.Aa x.proc ⟨name,⟨0,0⟩⟩).1 (A8 w.Aa x.proc ⟨name,⟨0,0⟩⟩).2.1) ((h.but i).step hx rfl hs) hx rfl (fun e=>by simp[BC,hw]at e)
def OL{r:Res}{a:Amt}(ha:r.fits a=true)(hc:r.covers ⟨0,0⟩ a=false):C8 r ⟨0,0⟩ a=a:=by
 have hs:=(B9 ha).1;have p1:r.permits ⟨0,0⟩=true:=by simp[Res.permits,hs,Amt.zero]
 have p2:r.permits a=true:=by simp[Res.permits,hs,ha]
 unfold C8;simp only[p1,p2,hc,Bool.and_self,zT,false_eq_true,if_false,Hl ha,if_true]
def Un{q:Queue}{x:Pcs}(hl:An x.led.entries q.res.name=⟨0,0⟩∨q.res.fits (An x.led.entries q.res.name)=true):∀ (az:List Atom),(∀ a∈az,a.name=q.res.name→q.res.fits a.amt=true)→CJ q x az=true→Kq q x.proc (An x.led.entries q.res.name)
 |[],_,h=>by
  simp only[CJ,and_eq_true,zD,Bool.not_eq_true']at h;exact KF.k ⟨E1 h.2,h.1⟩
 | a::az,hf,h=>by
  unfold CJ at h;split at h
  ·exact Un hl az (fun b hb=>hf b (by simp[hb])) h
  rename_i hn;have hn:a.name=q.res.name:=by simpa using hn
  have hfa:=hf a (by simp) hn;split at h
  ·exact Un hl az (fun b hb=>hf b (by simp[hb])) h
  rename_i hc;have hc:q.res.covers (An x.led.entries q.res.name) a.amt=false:=by simpa using hc
  split at h
  ·rename_i hw;have hw:=E1 (by simpa using hw);have hg:At q.holds x.proc=C8 q.res (An x.led.entries q.res.name) a.amt:=by simpa using h
   refine⟨fun hh=>by rw[hw]at hh;simp at hh,.inr ?_⟩;rw[hg];rcases hl with hl|hl
   ·rw[hl]at hc ⊢;rw[OL hfa hc];exact⟨Gd hfa,Hl hfa⟩
   ·obtain⟨j1,j2,_⟩:=MP hl hfa hc;exact⟨Gd j1,j2⟩
  ·split at h
   ·cases h
   ·simp only[and_eq_true,zD]at h;exact⟨fun _=>h.1,.inl h.1⟩
def Ro{q:Queue}{x:Pcs}:∀ (az:List Atom),(∀ a∈az,q.res.name≠a.name)→CJ q x az=true→KF q x.proc (An x.led.entries q.res.name)
 |[],_,h=>by
  simp only[CJ,and_eq_true,zD,Bool.not_eq_true']at h;exact⟨E1 h.2,h.1⟩
 | a::az,hf,h=>by
  unfold CJ at h;rw[if_pos (by simpa using Ne.symm (hf a (by simp)))]at h;exact Ro az (fun b hb=>hf b (by simp[hb])) h
def Mn{l:List Res}:∀ {az:List Atom},GG l az=0→∀ a∈az,Gb l a=0
 |[],_,a,ha=>by cases ha
 | b::az,h,a,ha=>by
  simp only[GG]at h;split at h
  ·rename_i hb;rcases List.mem_cons.1 ha with rfl|ha
   ·exact hb
   ·exact Mn h a ha
  ·rename_i hb;exact absurd h hb
def CZ{t:List Queue}(ht:CE t){e:Expr}(h:Cm (CB t) e=0){a:Atom}(ha:a∈Ag e):∃ k q,BS t a.name=some k∧t[k]?=some q∧q.res.name=a.name∧q.res.fits a.amt=true:=by
 unfold Cm at h;split at h
 ·have:=Mn h a ha;unfold Gb at this;split at this
  ·simp at this
  ·cases hr:Pw (CB t) a.name with
   |none=>rw[hr]at this;simp at this
   |some r =>
    rw[hr]at this;simp only at this;split at this
    ·rename_i hf;unfold Pw at hr;have hm:=List.mem_of_find?_eq_some hr;have hn:r.name=a.name:=by simpa using List.find?_some hr
     simp only[CB,mem_map]at hm;obtain⟨q,hq,rfl⟩:=hm;obtain⟨k,hk⟩:=List.getElem?_of_mem hq;exact⟨k,q,by rw[← hn];exact Nv ht hk,hk,hn,hf⟩
    ·simp at this
 ·simp at h
structure Fit(w:Am):Prop where
 je:JE none w
 idle:∀ x∈w.procs,x.waiting=false→Idle w.Aa x
 wait:∀ x∈w.procs,x.waiting=true→∀ q∈w.Aa,(∀ a∈Ag x.req.expr,q.res.name≠a.name)→KF q x.proc (An x.led.entries q.res.name)
 fits:∀ x∈w.procs,Il w.Aa x
 led:∀ x∈w.procs,A9 x.led=true
 now:0≤w.now∧w.now≤1073741824
 ev:w.CX=[]
def JP{l:List Pcs}(h:∀ i x,l[i]?=some x→(decide (i=0)||decide (Bc (l.getD (i-1) x0).proc x.proc<0))=true):∀ d i x y,l[i]?=some x→l[i+d+1]?=some y→Bc x.proc y.proc<0
 | 0,i,x,y,hx,hy=>by
  have:=h (i+1) y hy;have hd:l.getD (i+1-1) x0=x:=by simp[List.getD,hx]
  rw[hd]at this;simpa using this
 | d+1,i,x,y,hx,hy=>by
  have hlt:=Aj hy;obtain⟨z,hz⟩:∃ z,l[i+d+1]?=some z:=⟨_,gE (by omega)⟩;have h1:=JP h d i x z hx hz;have h2:=h (i+(d+1)+1) y hy;have hd:l.getD (i+(d+1)+1-1) x0=z:=by simp[List.getD,show i+(d+1)+1-1=i+d+1 by omega,hz]
  rw[hd]at h2;exact CU h1 (by simpa using h2)
def cX{t:List Queue}{x:Pcs}(hv:A9 x.led=true)(h:(EX x.led).all (Ge t)=true):Il t x:=fun n hn=>by
 have h1:=(S5 hv hn).1;have h2:=List.all_eq_true.1 h _ h1;unfold Ge at h2;simp only at h2;cases hf:BS t n with
 |none=>rw[hf]at h2;cases h2
 |some k =>
  rw[hf]at h2;obtain⟨_,q,hq,hnm⟩:=C5 hf;have hg:t.getD k q0=q:=by simp[List.getD,hq]
  simp only[hg]at h2;exact⟨k,q,rfl,hq,hnm,h2⟩
def Ov{t:List Queue}(ht:CE t){x:Pcs}(h:Il t x){q:Queue}(hq:q∈t):An x.led.entries q.res.name=⟨0,0⟩∨q.res.fits (An x.led.entries q.res.name)=true:=by
 by_cases hn:∃ e∈x.led.entries,e.name=q.res.name
 ·obtain⟨k,q',h1,h2,_,h4⟩:=h _ hn;obtain⟨j,hj⟩:=List.getElem?_of_mem hq;have:=Nv ht hj;rw[this]at h1;have:=Option.some.inj h1;subst this;rw[hj]at h2;have:=Option.some.inj h2;subst this;exact .inr h4
 ·exact .inl (LX hn)
def c9{t:List Queue}{x:Pcs}(ht:CE t)(hv:A9 x.led=true)(h:G0 t x=true):Idle t x:=fun q hq=>by
 simp only[G0,and_eq_true,zD]at h;obtain⟨⟨⟨_,_⟩,h3⟩,h4⟩:=h;have h4:Eh t x.proc=[]:=by
  have:((Eh t x.proc).length:Int)=0:=by simpa using h4
  exact List.eq_nil_of_length_eq_zero (by omega)
 have hw:Aq q x.proc=none:=by
  unfold Eh at h4;rw[List.filterMap_eq_nil_iff]at h4;have:=h4 q hq;simpa using this
 refine⟨hw,?_⟩;cases hz:(At q.holds x.proc).zero
 ·have hm:(⟨q.res.name,At q.holds x.proc⟩:Atom)∈Gz t x.proc:=by
   unfold Gz;rw[mem_filterMap];exact⟨q,hq,by simp[hz]⟩
  rw[← h3]at hm;unfold EX at hm;rw[mem_filterMap]at hm;obtain⟨n,_,hn⟩:=hm;split at hn
  ·cases hn
  ·simp only[zO,Atom.mk.injEq]at hn;rw[← hn.2,hn.1]
 ·rw[zero_eq hz]
  by_cases hn:∃ e∈x.led.entries,e.name=q.res.name
  ·exfalso;obtain⟨h5,h6⟩:=S5 hv hn;rw[h3]at h5;unfold Gz at h5;rw[mem_filterMap]at h5;obtain⟨q',hq',he⟩:=h5;split at he
   ·cases he
   ·rename_i hz';simp only[zO,Atom.mk.injEq]at he;obtain⟨i,hi⟩:=List.getElem?_of_mem hq;obtain⟨j,hj⟩:=List.getElem?_of_mem hq';have:=EY ht hj hi he.1;subst this;rw[hi]at hj;have:=Option.some.inj hj;subst this;exact hz' hz
  ·exact(LX hn).symm
def Kf{c:Cen}(h:Cw c=true):Fit ⟨c.now,c.Aa,c.procs,[]⟩:=by
 simp only[Cw,and_eq_true,zD,CM]at h;obtain⟨⟨⟨⟨⟨h1,h2⟩,h3⟩,h4⟩,h5⟩,h6⟩:=h;have ht:=(DU _).1 h3;have hpos:∀ x∈c.procs,EI x=true∧(EX x.led).all (Ge c.Aa)=true∧(if x.waiting then F3 c.now c.Aa x else G0 c.Aa x)=true:=fun x hx=>by
  obtain⟨i,hi⟩:=List.getElem?_of_mem hx;have:=h6 i x hi;simp only[DG,Es,and_eq_true]at this;exact⟨this.1.1.1,this.1.1.2,this.1.2⟩
 have hord:∀ i x,c.procs[i]?=some x→(decide (i=0)||decide (Bc (c.procs.getD (i-1) x0).proc x.proc<0))=true:=fun i x hi=>by
  have:=h6 i x hi;simp only[DG,and_eq_true]at this;exact this.2
 have hled:∀ x∈c.procs,A9 x.led=true:=fun x hx=>by
  have:=(hpos x hx).1;simp only[EI,and_eq_true]at this;exact this.1.1.2
 have hfit:∀ x∈c.procs,Il c.Aa x:=fun x hx=>cX (hled x hx) (hpos x hx).2.1
 have hwait:∀ x∈c.procs,x.waiting=true→Bb x.req.expr=true∧Cm (CB c.Aa) x.req.expr=0∧∀ q∈c.Aa,CJ q x (Ag x.req.expr)=true:=fun x hx hw=>by
  have:=(hpos x hx).2.2;rw[hw,if_pos rfl]at this;simp only[F3,and_eq_true,List.all_eq_true,GF]at this;refine⟨this.1.1.1.1.1.1.1.1.1.1,?_,this.2⟩;have h7:=this.1.1.1.1.1.2;simpa using h7
 refine⟨⟨ht,h4,fun i j x y hx hy e=>?_,fun j x hj _ hw=>?_⟩,fun x hx hw=>?_,fun x hx hw q hq hn=>Ro _ hn ((hwait x hx hw).2.2 q hq),hfit,hled,⟨h1,h2⟩,rfl⟩
 ·rcases Nat.lt_trichotomy i j with hlt|rfl|hlt
  ·obtain⟨d,rfl⟩:∃ d,j=i+d+1:=⟨j-i-1,by omega⟩;have:=JP hord d i x y hx hy;rw[e,Cj]at this;omega
  ·rfl
  ·obtain⟨d,rfl⟩:∃ d,i=j+d+1:=⟨i-j-1,by omega⟩;have:=JP hord d j y x hy hx;rw[e,Cj]at this;omega
 ·have hx:=mG hj;obtain⟨g1,g2,g3⟩:=hwait x hx hw;refine⟨g1,fun a ha=>?_,fun q hq=>?_⟩
  ·obtain⟨k,_,hk,_⟩:=CZ ht g2 ha;exact⟨k,hk⟩
  ·refine Un (Ov ht (hfit x hx) hq) _ (fun a ha hn=>?_) (g3 q hq);obtain⟨k,q',k1,k2,k3,k4⟩:=CZ ht g2 ha;obtain⟨i,hi⟩:=List.getElem?_of_mem hq;have:=EY ht k2 hi (k3.trans hn);subst this;rw[k2]at hi;have:=Option.some.inj hi;subst this;exact k4
 ·have:=(hpos x hx).2.2;have hw':x.waiting=false:=hw;rw[hw']at this;exact c9 ht (hled x hx) (by simpa using this)
def IK(x:Pcs)(n:Int):Pcs:={ x with led:=(Ed x.led n).1 }
def doI(w:Am)(k:Cmd)(i:Nat)(x:Pcs):Am × Int :=
 if k.kind=2 then Dm w i x k.req
 else if k.kind=3 then (if x.waiting then (Bl (AF (AH w i x) i (BC (Br x))),0) else (w,14))
 else if k.kind=4 then D3 w i x k.name
 else if k.kind=5 then (if x.waiting then (w,14) else if (Ed x.led k.n).2=0 then (AF w i (BC (IK x k.n)),0) else (w,(Ed x.led k.n).2))
 else if k.kind=6 then DT w i x k.n
 else if k.kind=8 then (if x.waiting then (w,14) else (NC w i x,0))
 else (NC w i x,0)
def doW(w:Am)(k:Cmd):Am × Int :=
 if k.kind<1∨9<k.kind then (w,1) else if k.kind=1 then EE w k.proc k.n else if k.kind=9 then HD w k.n
 else match w.procs.findIdx? (fun x=>decide (x.proc=k.proc)) with
 |none=>(w,10)
 |some i=>doI w k i (w.procs.getD i x0)
def LW{w:Am}{i:Nat}{x:Pcs}(h:JE none w)(hx:w.procs[i]?=some x):JE none (KP w i x):=by
 have hs:=Ut x.proc h.tab;have hm:∀ (j:Nat) (y:Pcs),(w.procs.eraseIdx i)[j]?=some y→∃ j',w.procs[j']?=some y∧j'≠i∧j'=if j<i then j else j+1:=fun j y hj=>by
  rw[List.getElem?_eraseIdx]at hj;split at hj
  ·rename_i hlt;exact⟨j,hj,by omega,by simp[hlt]⟩
  ·rename_i hlt;exact⟨j+1,hj,by omega,by simp[hlt]⟩
 refine⟨hs.tab,?_,fun a b u v ha hb e=>?_,fun j y hj _ hw=>?_⟩
 ·simp only[KP,BQ,Cg,List.length_eraseIdx];have:=h.n;split<;>omega
 ·obtain⟨a',h1,_,h3⟩:=hm a u ha;obtain⟨b',k1,_,k3⟩:=hm b v hb;have:=h.uq a' b' u v h1 k1 e;rw[h3,k3]at this;split at this<;>split at this<;>omega
 ·obtain⟨j',h1,h2,_⟩:=hm j y hj;exact(h.good j' y h1 (by simp) hw).step hs fun e=>h2 (h.uq j' i y x h1 hx e)
def dJ{t:List Queue}{p:Ab}(h:CE t):(BO t p).2.length≤100000:=by
 have e:(BO t p).2=I7 t p t.length:=by simp[BO,(DU t).2 h,I7]
 rw[e];have:=O1 (p:=p) (CV h).q t.length (Nat.le_refl _);have:=h.n;omega
def ZW(l:Ledger)(label:Int):(Bx l label).2.1.length≤1000:=by
 unfold Bx;split
 ·simp
 ·rename_i hv;have hl:l.entries.length≤72:=by
   have:A9 l=true:=by simpa using hv
   simp only[A9,and_eq_true,zD]at this;omega
  cases KL l label with
  |none=>simp
  |some p =>
   obtain⟨a,n⟩:=p;simp only[Jd,length_map];have:=L4 (l.entries.drop a);simp at this;omega
def SE{l:List Pcs}{p:Ab}{i:Nat}(h:l.findIdx? (fun x=>decide (x.proc=p))=some i):∃ x,l[i]?=some x:=by
 obtain⟨hi,_⟩:=List.findIdx?_eq_some_iff_getElem.1 h;exact⟨_,gE hi⟩
def f71_ok(w:Am)(k:Cmd)(h:Fit w):Ad C0 71 [.ptr 63 0,.agg k.c] [(63,w.c)] (I (doW w k).2) [(63,(doW w k).1.c)]:=by
 have hp:=h.je.n;have hf:=CV h.je.tab;have hev:w.CX.length=0:=by rw[h.ev];rfl
 have hwc:=Ik w;refine Ad.go f71 ?_;unfold f71;refine gO ?_
 by_cases h1:k.kind<1
 ·have ht:doW w k=(w,1):=by simp[doW,h1]
  rw[ht];simp(disch:=omega)only[go_sem,eq_true h1,decide_true];refine Cp ⟨[(0,0),(1,1)],[(63,63)],[]⟩ _ ?_ ?_
  ·exact gI
  ·exact gI
 by_cases h2:9<k.kind
 ·have ht:doW w k=(w,1):=by simp[doW,h2]
  rw[ht];simp(disch:=omega)only[go_sem,eq_false h1,eq_true h2,decide_true,decide_false];refine Cp ⟨[(0,0),(1,1)],[(63,63)],[]⟩ _ ?_ ?_
  ·exact gI
  ·exact gI
 simp(disch:=omega)only[go_sem,eq_false h1,eq_false h2,decide_false]
 by_cases h3:k.kind=1
 ·have ht:doW w k=EE w k.proc k.n:=by simp[doW,h3]
  rw[ht];simp(disch:=omega)only[go_sem,h3];refine call2 ⟨⟨[(0,0),(1,1)],[(63,63)],[]⟩,[],[]⟩ (f117_ok w k.proc k.n (by omega)) ?_;refine gO ?_;refine Cp ⟨[(0,0),(1,1)],[(63,63)],[]⟩ _ ?_ ?_
  ·exact gI
  ·exact gI
 have h3':(k.kind==1)=false:=by simpa using h3
 simp(disch:=omega)only[go_sem,h3']
 by_cases h4:k.kind=9
 ·have ht:doW w k=HD w k.n:=by simp[doW,h4]
  rw[ht];simp(disch:=omega)only[go_sem,h4];refine call2 ⟨⟨[(0,0),(1,1)],[(63,63)],[]⟩,[],[]⟩ (f118_ok (JE none) JE.ef w k.n (fun t=>⟨h.je.tab,h.je.n,h.je.uq,h.je.good⟩) h.now.1 (by omega)) ?_;refine gO ?_;refine Cp ⟨[(0,0),(1,1)],[(63,63)],[]⟩ _ ?_ ?_
  ·exact gI
  ·exact gI
 have h4':(k.kind==9)=false:=by simpa using h4
 simp(disch:=omega)only[go_sem,h4'];refine Aw 7 [([],[0]),([],[33]),([],[34]),([],[35]),([],[36]),([],[3]),([],[38])] fol ?_;refine gO ?_;refine Dd [0] (f69_ok w.procs k.proc) gI rfl trivial ?_;cases hfi:w.procs.findIdx? (fun x=>decide (x.proc=k.proc)) with
 |none =>
  have ht:doW w k=(w,10):=by simp[doW,h1,h2,h3,h4,hfi]
  have hix:DP w.procs k.proc = -1:=by simp[DP,hfi]
  rw[ht];simp(disch:=omega)only[go_sem,hix];refine Cp ⟨[(0,0),(1,1)],[(63,63)],[]⟩ _ ?_ ?_
  ·exact gI
  ·exact gI
 |some i =>
 obtain⟨x,hx⟩:=SE hfi;have hxm:=mG hx;have hi:=Aj hx;have hix:DP w.procs k.proc=i:=by simp[DP,hfi]
 have ht:doW w k=doI w k i x:=by simp[doW,h1,h2,h3,h4,hfi,List.getD,hx]
 rw[ht];simp(disch:=omega)only[go_sem,hix,eq_false (show ¬ (i:Int)<0 by omega),decide_false,gm,hx]
 by_cases k2:k.kind=2
 ·have ht2:doI w k i x=Dm w i x k.req:=by simp[doI,k2]
  rw[ht2];simp(disch:=omega)only[go_sem,k2];refine call2 ⟨⟨[(0,0),(1,1)],[(63,63)],[]⟩,[],[]⟩ (f119_ok RQ RQ.Fh w i x k.req hx hf (fun a1 a2 a3=>by
   refine UW h.je hx (h.idle x hxm a1) (by simp only[GF,and_eq_true]at a2;exact a2.1.1.1.1) (fun a ha=>?_);obtain⟨n,_,hn,_⟩:=CZ h.je.tab a3 ha;exact⟨n,hn⟩) hp (by omega)) ?_
  refine gO ?_;refine Cp ⟨[(0,0),(1,1)],[(63,63)],[]⟩ _ ?_ ?_
  ·exact gI
  ·exact gI
 have k2':(k.kind==2)=false:=by simpa using k2
 simp(disch:=omega)only[go_sem,k2']
 by_cases k3:k.kind=3
 ·simp(disch:=omega)only[go_sem,k3];cases hw:x.waiting
  ·have ht2:doI w k i x=(w,14):=by simp[doI,k3,hw]
   rw[ht2];simp(disch:=omega)only[go_sem,hw];refine Cp ⟨[(0,0),(1,1)],[(63,63)],[]⟩ _ ?_ ?_
   ·exact gI
   ·exact gI
  have ht2:doI w k i x=(Bl (AF (AH w i x) i (BC (Br x))),0):=by simp[doI,k3,hw]
  rw[ht2];obtain⟨s1,s2,_⟩:=Eb h.je hx hw;have hx1:(AH w i x).procs[i]?=some (Br x):=by rw[Bm];simp[hi]
  have s3:=s2.next hx1;have s4:=Jm (i:=i) s1;have s5:(AF (AH w i x) i (BC (Br x))).CX.length=(AH w i x).CX.length:=rfl;have s6:=Ik (AF (AH w i x) i (BC (Br x)));have s7:=s3.n;simp(disch:=omega)only[go_sem,hw];refine call2 ⟨⟨[(0,0),(1,1)],[(63,63)],[]⟩,[],[]⟩ (f120_ok w i x hx s1 (by omega)) ?_;refine gO ?_;refine call2 ⟨⟨[(0,0),(1,1)],[(63,63)],[]⟩,[],[]⟩ (f121_ok (AH w i x) i (Br x) hx1) ?_;refine gO ?_;refine call2 ⟨⟨[(0,0),(1,1)],[(63,63)],[]⟩,[],[]⟩ (f122_ok (JE none) JE.Fh _ s3 (by omega)) ?_;refine gO ?_;refine Cp ⟨[(0,0),(1,1)],[(63,63)],[]⟩ _ ?_ ?_
  ·exact gI
  ·exact gI
 have k3':(k.kind==3)=false:=by simpa using k3
 simp(disch:=omega)only[go_sem,k3']
 by_cases k4:k.kind=4
 ·have ht2:doI w k i x=D3 w i x k.name:=by simp[doI,k4]
  rw[ht2];simp(disch:=omega)only[go_sem,k4];refine call2 ⟨⟨[(0,0),(1,1)],[(63,63)],[]⟩,[],[]⟩ (f123_ok RQ RQ.Fh w i x k.name hx hf (fun a1=>QX h.je hx a1) hp (by omega)) ?_;refine gO ?_;refine Cp ⟨[(0,0),(1,1)],[(63,63)],[]⟩ _ ?_ ?_
  ·exact gI
  ·exact gI
 have k4':(k.kind==4)=false:=by simpa using k4
 simp(disch:=omega)only[go_sem,k4']
 by_cases k5:k.kind=5
 ·simp(disch:=omega)only[go_sem,k5];cases hw:x.waiting;rotate_left
  ·have ht2:doI w k i x=(w,14):=by simp[doI,k5,hw]
   rw[ht2];simp(disch:=omega)only[go_sem,hw];refine Cp ⟨[(0,0),(1,1)],[(63,63)],[]⟩ _ ?_ ?_
   ·exact gI
   ·exact gI
  simp(disch:=omega)only[go_sem,hw];refine En (st':=⟨[(5,I i),(3,.ptr 192 0),(0,.ptr 63 0)],[(192,k.c),(63,w.c)]⟩) (Imp.Ar gI (by simp(disch:=omega)only[go_sem,k5])) ?_;refine Jv 16 [([],[0]),([0],[84]),([0,1],[85]),([0,1,2],[86]),([0,1,2,3],[87]),([],[5]),([0,1,2,3,4,5],[88,89]),([0,1,2,3,4,5,6],[90]),([0,1,2,3,4,5,6,7],[91]),([],[3]),([9],[93]),([0,1,2,3,4,5,6,7,8,9,10],[92,94]),([0,1,2,3,4,5,6,7,8,9,10,11],[95]),([0,1,2,3,4,5,6,7,8,9,10,11,12],[83]),([0,1,2,3,4,5,6,7,8,9,10,11,12],[83]),([],[]),([0,1,2,3,4,5,6,7,8,9,10,11,12,13,15],[]),([0,1,2,3,4,5,6,7,8,9,10,11,12,13,14,15,16],[])] [14] [([],[83,7,96,5,3,0],let o0:OT:=.done;let o1:OT:=.pick [(17,o0)];let o2:OT:=.pick [(16,o1)];let o3:OT:=.pick [(14,o1)];let o4:OT:=.pick [(14,o2),(16,o3)];o4),([14],[7,96,97,5,3,0],let o0:OT:=.done;let o1:OT:=.pick [(17,o0)];let o2:OT:=.pick [(16,o1)];o2)] fol kR ?_;simp(disch:=omega)only[go_sem,gm,hx]
  first|(refine Ae (f124_ok x.led k.n) ?_)|(refine Av (f124_ok x.led k.n) ?_)
  have hs2:(Ed x.led k.n).2≠0→doI w k i x=(w,(Ed x.led k.n).2):=fun hne=>by simp[doI,k5,hw,hne]
  have hs3:(Ed x.led k.n).2=0→doI w k i x=(AF w i (BC (IK x k.n)),0):=fun he=>by simp[doI,k5,hw,he]
  have hx5:(AF w i (IK x k.n)).procs[i]?=some (IK x k.n):=by simp[AF,hi]
  have hs4:AF (AF w i (IK x k.n)) i (BC (IK x k.n))=AF w i (BC (IK x k.n)):=by simp[AF]
  simp(disch:=omega)only[go_sem]
  repeat'(with_reducible refine And.intro ?_ ?_)
  all_goals intro hc
  all_goals first
   |(have hc':(Ed x.led k.n).2≠0:=by simpa using hc
     rw[hs2 hc'];refine Cp ⟨[(0,0),(1,1)],[(63,63)],[]⟩ _ ?_ ?_
     ·exact gI
     ·exact gI
     done)
   | skip
  all_goals
   have hc':(Ed x.led k.n).2=0:=by simpa using hc
   rw[hs3 hc'];refine En (st':=⟨[(5,I i),(7,.ptr 448 0),(0,.ptr 63 0)],[(448,(Ed x.led k.n).1.c),(63,w.c)]⟩) AT ?_;refine Aw 7 [([],[0]),([],[101]),([],[102]),([],[103]),([],[104]),([],[5]),([],[7])] fol ?_;simp(disch:=omega)only[go_sem,gm,hx,length_map];refine call2 ⟨⟨[(0,0),(1,1)],[(63,63)],[]⟩,[],[]⟩ (f121_ok (AF w i (IK x k.n)) i _ hx5) ?_ (hh:=?_);rotate_left
   ·simp(disch:=omega)only[go_sem,AF,IK];exact .sl (by simp only[map_set];rfl)
   rw[hs4];refine gO ?_;refine Cp ⟨[(0,0),(1,1)],[(63,63)],[]⟩ _ ?_ ?_
   ·exact gI
   ·exact gI
 have k5':(k.kind==5)=false:=by simpa using k5
 simp(disch:=omega)only[go_sem,k5']
 by_cases k6:k.kind=6
 ·have ht2:doI w k i x=DT w i x k.n:=by simp[doI,k6]
  rw[ht2];simp(disch:=omega)only[go_sem,k6];refine call2 ⟨⟨[(0,0),(1,1)],[(63,63)],[]⟩,[],[]⟩ (f125_ok (JE none) JE.Fh w i x k.n hx (fun a1=>(Eb h.je hx a1).1) (fun a1=>Sj h.je hx (h.fits x hxm) (h.idle x hxm) (h.wait x hxm) a1) (ZW _ _) hp (by omega)) ?_;refine gO ?_;refine Cp ⟨[(0,0),(1,1)],[(63,63)],[]⟩ _ ?_ ?_
  ·exact gI
  ·exact gI
 have k6':(k.kind==6)=false:=by simpa using k6
 simp(disch:=omega)only[go_sem,k6'];have hga:=LW h.je hx;have hrl:=dJ (p:=x.proc) h.je.tab
 by_cases k8:k.kind=8
 ·simp(disch:=omega)only[go_sem,k8];cases hw:x.waiting;rotate_left
  ·have ht2:doI w k i x=(w,14):=by simp[doI,k8,hw]
   rw[ht2];simp(disch:=omega)only[go_sem,hw];refine Cp ⟨[(0,0),(1,1)],[(63,63)],[]⟩ _ ?_ ?_
   ·exact gI
   ·exact gI
  have ht2:doI w k i x=(NC w i x,0):=by simp[doI,k8,hw]
  rw[ht2];simp(disch:=omega)only[go_sem,hw];refine call2 ⟨⟨[(0,0),(1,1)],[(63,63)],[]⟩,[],[]⟩ (f126_ok (JE none) JE.Fh w i x hx hp hf hga hrl (by omega)) ?_;refine gO ?_;refine Cp ⟨[(0,0),(1,1)],[(63,63)],[]⟩ _ ?_ ?_
  ·exact gI
  ·exact gI
 have k8':(k.kind==8)=false:=by simpa using k8
 have k7:k.kind=7:=by omega
 have ht2:doI w k i x=(NC w i x,0):=by simp[doI,k7]
 rw[ht2];simp(disch:=omega)only[go_sem,k8',k7];refine call2 ⟨⟨[(0,0),(1,1)],[(63,63)],[]⟩,[],[]⟩ (f126_ok (JE none) JE.Fh w i x hx hp hf hga hrl (by omega)) ?_;refine gO ?_;refine Cp ⟨[(0,0),(1,1)],[(63,63)],[]⟩ _ ?_ ?_
 ·exact gI
 ·exact gI
def RV:Cen:=⟨0,[],[]⟩
def doC(c:Cen)(k:Cmd):Cen × List Ev × Int :=
 if Cw c then (if (doW ⟨c.now,c.Aa,c.procs,[]⟩ k).2=0 then (⟨(doW ⟨c.now,c.Aa,c.procs,[]⟩ k).1.now,(doW ⟨c.now,c.Aa,c.procs,[]⟩ k).1.Aa,(doW ⟨c.now,c.Aa,c.procs,[]⟩ k).1.procs⟩,(doW ⟨c.now,c.Aa,c.procs,[]⟩ k).1.CX,0) else (RV,[],(doW ⟨c.now,c.Aa,c.procs,[]⟩ k).2)) else (RV,[],2)
def f30_ok(c:Cen)(k:Cmd)(h:D5 c.Aa):Ad C0 30 [.agg c.c,.agg k.c] [] (.tup [.agg (doC c k).1.c,Vi (doC c k).2.1,I (doC c k).2.2]) []:=by
 have hn:=h.n;refine Ad.go f30 ?_;unfold f30;refine gO ?_;refine Ae (f68_ok c h) ?_;cases hv:Cw c
 ·have ht:doC c k=(RV,[],2):=by simp[doC,hv]
  rw[ht];simp(disch:=omega)only[go_sem,zF];refine Cn _ ?_;simp(disch:=omega)only[go_sem,RV,map_nil];refine .tup (Ai.AR ?_);simp(disch:=omega)only[go_sem]
  repeat'(with_reducible apply And.intro)
  all_goals(first|exact .AJ (by omega)|exact .agg (Ai.AR gI))
 have hfit:=Kf hv;have hpl:c.procs.length≤8:=hfit.je.n;obtain⟨w,hw⟩:∃ w:Am,w=⟨c.now,c.Aa,c.procs,[]⟩:=⟨_,rfl⟩;have ht:doC c k=(if (doW w k).2=0 then (⟨(doW w k).1.now,(doW w k).1.Aa,(doW w k).1.procs⟩,(doW w k).1.CX,0) else (RV,[],(doW w k).2)):=by simp only[doC,hv,if_true,hw]
 rw[← hw]at hfit;simp(disch:=omega)only[go_sem,zT];refine Bq ⟨⟨[],[],[]⟩,[(0,896)],[]⟩ (f70_ok c (by omega) (by omega)) gI rfl gI (.inl rfl) ?_;refine gO ?_;refine Bq ⟨⟨[(896,0)],[(1024,63)],[]⟩,[(1,1216)],[]⟩ (f71_ok w k hfit) gI rfl ?_ (.inl rfl) ?_
 ·rw[hw];simp(disch:=omega)only[go_sem,map_nil]
  done
 refine gO ?_;refine And.intro (fun hc=>?_) (fun hc=>?_)
 ·have hc':(doW w k).2≠0:=by simpa using hc
  rw[if_neg hc']at ht;rw[ht];refine Cn _ ?_;simp(disch:=omega)only[go_sem,RV,map_nil];refine .tup (Ai.AR ?_);simp(disch:=omega)only[go_sem]
  repeat'(with_reducible apply And.intro)
  all_goals(first|exact .AJ (by omega)|exact .agg (Ai.AR gI))
 ·have hc':(doW w k).2=0:=by simpa using hc
  rw[if_pos hc']at ht;rw[ht];obtain⟨w2,hw2⟩:∃ w2,w2=(doW w k).1:=⟨_,rfl⟩;rw[← hw2];refine En (st':=⟨[(7,.ptr 1024 0),(4,.ptr 256 0)],[(256,[I 0,.v (.slice none 0 0),.v (.slice none 0 0)]),(1024,[I w2.now,AB w2.Aa,.sl (.own 896 0) 16 (w2.procs.map Pcs.c),.sl (.own 1216 0) 7 (w2.CX.map Ev.c)])]⟩) ?_ ?_
  ·rw[hw2];exact AT
  refine Jv 8 [([],[7]),([0],[24]),([0,1],[25]),([0,1,2],[26]),([],[7]),([4],[28]),([4,5],[29]),([4,5,6],[30]),([0,1,2,3],[]),([0,1,2,3,4,5,6,7,8],[]),([0,1,2,3,4,5,6,7,8,9],[])] [4,5,6,7] [([],[27,7,4],let o0:OT:=.done;let o1:OT:=.pick [(10,o0)];let o2:OT:=.pick [(9,o1)];let o3:OT:=.pick [(8,o2)];let o4:OT:=.pick [(7,o2)];let o5:OT:=.pick [(7,o3),(8,o4)];let o6:OT:=.pick [(6,o4)];let o7:OT:=.pick [(6,o5),(8,o6)];let o8:OT:=.pick [(5,o6)];let o9:OT:=.pick [(5,o7),(8,o8)];let o10:OT:=.pick [(4,o8)];let o11:OT:=.pick [(4,o9),(8,o10)];o11),([4],[28,27,7,4],let o0:OT:=.done;let o1:OT:=.pick [(10,o0)];let o2:OT:=.pick [(9,o1)];let o3:OT:=.pick [(8,o2)];let o4:OT:=.pick [(7,o2)];let o5:OT:=.pick [(7,o3),(8,o4)];let o6:OT:=.pick [(6,o4)];let o7:OT:=.pick [(6,o5),(8,o6)];let o8:OT:=.pick [(5,o6)];let o9:OT:=.pick [(5,o7),(8,o8)];o9),([4,5],[29,27,7,4],let o0:OT:=.done;let o1:OT:=.pick [(10,o0)];let o2:OT:=.pick [(9,o1)];let o3:OT:=.pick [(8,o2)];let o4:OT:=.pick [(7,o2)];let o5:OT:=.pick [(7,o3),(8,o4)];let o6:OT:=.pick [(6,o4)];let o7:OT:=.pick [(6,o5),(8,o6)];o7),([4,5,6],[30,27,7,4],let o0:OT:=.done;let o1:OT:=.pick [(10,o0)];let o2:OT:=.pick [(9,o1)];let o3:OT:=.pick [(8,o2)];let o4:OT:=.pick [(7,o2)];let o5:OT:=.pick [(7,o3),(8,o4)];o5),([4,5,6,7],[27,31,7,4],let o0:OT:=.done;let o1:OT:=.pick [(10,o0)];let o2:OT:=.pick [(9,o1)];let o3:OT:=.pick [(8,o2)];o3)] fol kR ?_;simp(disch:=omega)only[go_sem]
  repeat'(with_reducible refine And.intro ?_ ?_)
  all_goals
   refine Bd ⟨[],[],[896,1216]⟩ _ (by(try simp(disch:=omega)only[go_sem,Dp,JQ])<;>rfl) ⟨rfl,rfl⟩ (by simp[lk]) ?_ trivial;simp(disch:=omega)only[go_sem]
attribute [go_sem] DF
def Yl(x n:Int)(h:1≤n):0≤Jj x n∧Jj x n<n:=by
 have e:Jj x n=x%n:=by simp only[Jj];rw[if_neg (by simp;omega)]
 rw[e];exact⟨Int.emod_nonneg x (by omega),Int.emod_lt_of_pos x (by omega)⟩
def Cx(l:List Int)(a:Nat)(n:Int)(h:1≤n):0≤(Ak l a n).1∧(Ak l a n).1<n:=by
 unfold Ak;split
 ·exact⟨Int.le_refl _,by show (0:Int)<n;omega⟩
 ·exact Yl _ _ h
def FB(l:List Int)(a:Nat)(n:Int):a≤(Ak l a n).2∧(a<l.length→(Ak l a n).2=a+1):=by
 unfold Ak;cases hb:l[a]? with
 |none=>exact⟨Nat.le_refl _,fun h=>by rw[gE h]at hb;cases hb⟩
 |some x=>exact⟨Nat.le_succ _,fun _=>rfl⟩
def J9(r:Res)(n:Int):Amt:=if r.kind=1 then ⟨XD.getD (n%8).toNat 0,0⟩ else ⟨0,1+Jj n r.Ax⟩
def f234_ok(r:Res)(n:Int)(hu:r.Ax≤1000000):Ad C0 234 [.agg r.c,I n] [] (.agg (J9 r n).c) []:=by
 refine Ad.go f234 ?_;unfold f234;refine gO ?_
 by_cases h1:r.kind=1
 ·have e:J9 r n=⟨XD.getD (n%8).toNat 0,0⟩:=by simp[J9,h1]
  rw[e];simp(disch:=omega)only[go_sem,h1];refine Ae (f275_ok n) ?_;refine gO ?_;exact AQ _
 ·have e:J9 r n=⟨0,1+Jj n r.Ax⟩:=by simp[J9,h1]
  have h1':(r.kind==1)=false:=by simpa using h1
  rw[e];simp(disch:=omega)only[go_sem,h1'];refine Ae (f51_ok n r.Ax (by omega)) ?_;have hw:IntKind.i64.wrap (1+Jj n r.Ax)=1+Jj n r.Ax:=by
   by_cases hz:1≤r.Ax
   ·have:=Yl n r.Ax hz;exact wrap64 _ (by omega) (by omega)
   ·have:Jj n r.Ax=0:=by simp only[Jj];rw[if_pos (by simp;omega)]
    rw[this];exact wrap64 _ (by omega) (by omega)
  simp(disch:=omega)only[go_sem,hw];exact AQ _
def VI(l:List Int)(az:List Atom)(a:Nat):Expr × Nat:=(.mk 0 (az.getD (Ak l a az.length).1.toNat a0) [],(Ak l a az.length).2)
def GM(f:Nat→Expr × Nat):Nat→Nat→List Expr × Nat
 | 0,a=>([],a)
 | n+1,a=>((GM f n a).1++[(f (GM f n a).2).1],(f (GM f n a).2).2)
def C6(l:List Int)(az:List Atom):Nat→Nat→Expr × Nat
 | 0,a=>VI l az a
 | d+1,a=>if (Ak l a 4).1=0 then VI l az (Ak l a 4).2 else
  (.mk (1+(Ak l (Ak l (Ak l a 4).2 3).2 (1+(Ak l (Ak l a 4).2 3).1)).1) a0 (GM (C6 l az d) (1+(Ak l (Ak l a 4).2 3).1).toNat (Ak l (Ak l (Ak l a 4).2 3).2 (1+(Ak l (Ak l a 4).2 3).1)).2).1,
   (GM (C6 l az d) (1+(Ak l (Ak l a 4).2 3).1).toNat (Ak l (Ak l (Ak l a 4).2 3).2 (1+(Ak l (Ak l a 4).2 3).1)).2).2)
def SQ(f:Nat→Expr × Nat):∀ n a,(GM f n a).1.length=n
 | 0,_=>rfl
 | n+1,a=>by simp[GM,SQ f n a]
def VK{l:List Int}{az:List Atom}{a:Nat}(hz:1≤az.length):∃ (i:Nat) (x:Atom),(Ak l a az.length).1=(i:Int)∧az[i]?=some x∧VI l az a=(.mk 0 x [],(Ak l a az.length).2):=by
 obtain⟨h1,h2⟩:=Cx l a az.length (by omega);obtain⟨i,hi⟩:∃ i:Nat,(Ak l a az.length).1=(i:Int):=⟨_,(Int.toNat_of_nonneg h1).symm⟩;have hlt:i<az.length:=by omega
 refine⟨i,az[i],hi,gE hlt,?_⟩;simp[VI,hi,List.getD,hlt]
def f235_ok(l:List Int)(az:List Atom)(hl:l.length≤1000000)(hz:1≤az.length∧az.length≤100):∀ (d a:Nat),d≤10→Ad C0 235 [.ptr 63 0,BB az,I d] [(63,DF l a)] (.agg (C6 l az d a).1.c) [(63,DF l (C6 l az d a).2)]:=by
 intro d
 induction d with
 | zero =>
  intro a _;obtain⟨i,x,h1,h2,h3⟩:=VK (l:=l) (a:=a) hz.1;have e:C6 l az 0 a=(.mk 0 x [],(Ak l a az.length).2):=by rw[C6,h3]
  refine Ad.go f235 ?_;unfold f235;refine gO ?_;refine call2 ⟨⟨[],[(63,63)],[]⟩,[],[]⟩ (f37_ok l a az.length hl (by omega)) ?_;rw[e];simp(disch:=omega)only[go_sem,h1,gm,h2];refine Cp ⟨[],[(63,63)],[]⟩ _ ?_ ?_
  ·simp(disch:=omega)only[go_sem,Expr.BV,Expr.k,Expr.atom,Expr.kids,map_nil];exact .agg (Ai.AR gI)
  ·exact gI
 | succ d ih =>
  intro a hd;refine Ad.go f235 ?_;unfold f235;have e0:((d:Int)+1==0)=false:=by simp;omega
  have e1:(((d+1:Nat):Int)==0)=false:=by simp;omega
  simp(disch:=omega)only[go_sem,e0,e1];refine call2 ⟨⟨[],[(63,63)],[]⟩,[],[]⟩ (f37_ok l a 4 hl (by omega)) ?_;refine gO ?_
  by_cases h4:(Ak l a 4).1=0
  ·obtain⟨i,x,h1,h2,h3⟩:=VK (l:=l) (a:=(Ak l a 4).2) hz.1;have e:C6 l az (d+1) a=(.mk 0 x [],(Ak l (Ak l a 4).2 az.length).2):=by rw[C6,if_pos h4,h3]
   simp(disch:=omega)only[go_sem,h4];refine call2 ⟨⟨[],[(63,63)],[]⟩,[],[]⟩ (f37_ok l (Ak l a 4).2 az.length hl (by omega)) ?_;rw[e];simp(disch:=omega)only[go_sem,h1,gm,h2];refine Cp ⟨[],[(63,63)],[]⟩ _ ?_ ?_
   ·simp(disch:=omega)only[go_sem,Expr.BV,Expr.k,Expr.atom,Expr.kids,map_nil];exact .agg (Ai.AR gI)
   ·exact gI
  have h4':((Ak l a 4).1==0)=false:=by simpa using h4
  obtain⟨a1,ha1⟩:∃ a1,a1=(Ak l a 4).2:=⟨_,rfl⟩;rw[← ha1];simp(disch:=omega)only[go_sem,h4'];refine call2 ⟨⟨[],[(63,63)],[]⟩,[],[]⟩ (f37_ok l a1 3 hl (by omega)) ?_;obtain⟨b1,b2⟩:=Cx l a1 3 (by omega);obtain⟨m,hm⟩:∃ m:Nat,1+(Ak l a1 3).1=(m:Int):=⟨(1+(Ak l a1 3).1).toNat,by omega⟩;obtain⟨a2,ha2⟩:∃ a2,a2=(Ak l a1 3).2:=⟨_,rfl⟩;rw[← ha2];have hw:IntKind.i64.wrap (1+(Ak l a1 3).1)=m:=by rw[wrap64 _ (by omega) (by omega),hm]
  simp(disch:=omega)only[go_sem,hw,hm];refine call2 ⟨⟨[],[(63,63)],[]⟩,[],[]⟩ (f37_ok l a2 m hl (by omega)) ?_;obtain⟨c1,c2⟩:=Cx l a2 m (by omega);obtain⟨a3,ha3⟩:∃ a3,a3=(Ak l a2 m).2:=⟨_,rfl⟩;rw[← ha3];have hw2:IntKind.i64.wrap (1+(Ak l a2 m).1)=1+(Ak l a2 m).1:=wrap64 _ (by omega) (by omega);have e:C6 l az (d+1) a=(.mk (1+(Ak l a2 m).1) a0 (GM (C6 l az d) m a3).1,(GM (C6 l az d) m a3).2):=by
   rw[C6,if_neg h4,← ha1,hm,← ha2,← ha3];rfl
  rw[e];simp(disch:=omega)only[go_sem,hw2];refine Ac (α:=Nat) (fun i=>⟨[(9,I i),(8,.ptr 512 0),(7,I m),(6,.ptr 384 0),(0,.ptr 63 0),(1,BB az),(2,I (d+1:Nat))],[(512,[I (1+(Ak l a2 m).1),.v (.string (str [])),I 0,I 0,.sl (.own 2944 0) 5 ((GM (C6 l az d) i a3).1.map Expr.c)]),(384,[I 0,.v (.string (str [])),I 0,I 0,.v (.slice none 0 0)]),(63,DF l (GM (C6 l az d) i a3).2)]⟩) (fun i=>i≤m) (fun i=>m-i) 0 (by omega) (Imp.Ar ?_ ?_) ?_
  ·exact gI
  ·simp(disch:=omega)only[go_sem,GM,map_nil]
   done
  rintro i hi J hJ;refine gO ?_;refine ⟨fun hlt=>?_,fun hge=>?_⟩
  ·have hlt2:i<m:=by simp at hlt;omega
   have hkl:=SQ (C6 l az d) i a3;have hkn:GM (C6 l az d) (i+1) a3=((GM (C6 l az d) i a3).1++[(C6 l az d (GM (C6 l az d) i a3).2).1],(C6 l az d (GM (C6 l az d) i a3).2).2):=rfl;generalize GM (C6 l az d) i a3=ks at hkl hkn ⊢;obtain⟨kl,ka⟩:=ks;have hd1:IntKind.i64.wrap (((d+1:Nat):Int)-1)=d:=by rw[wrap64 _ (by omega) (by omega)];omega
   simp only at hkl hkn ⊢;refine Jv 6 [([],[8]),([0],[38]),([],[0]),([],[1]),([],[2]),([4],[42]),([2,3,4,5],[]),([2,3,4,5,6],[]),([0,1,2,3,4,5,6,7],[]),([0,1,2,3,4,5,6,7,8],[]),([0,1,2,3,4,5,6,7,8,9],[])] [0,1] [([],[40,41,43,9,8,7,6,0,1,2],let o0:OT:=.done;let o1:OT:=.pick [(10,o0)];let o2:OT:=.pick [(9,o1)];let o3:OT:=.pick [(8,o2)];let o4:OT:=.pick [(7,o3)];let o5:OT:=.pick [(6,o4)];let o6:OT:=.pick [(1,o3)];let o7:OT:=.pick [(1,o4),(7,o6)];let o8:OT:=.pick [(1,o5),(6,o7)];let o9:OT:=.pick [(0,o6)];let o10:OT:=.pick [(0,o7),(7,o9)];let o11:OT:=.pick [(0,o8),(6,o10)];o11),([0],[38,40,41,43,9,8,7,6,0,1,2],let o0:OT:=.done;let o1:OT:=.pick [(10,o0)];let o2:OT:=.pick [(9,o1)];let o3:OT:=.pick [(8,o2)];let o4:OT:=.pick [(7,o3)];let o5:OT:=.pick [(6,o4)];let o6:OT:=.pick [(1,o3)];let o7:OT:=.pick [(1,o4),(7,o6)];let o8:OT:=.pick [(1,o5),(6,o7)];o8),([0,1],[40,41,43,39,9,8,7,6,0,1,2],let o0:OT:=.done;let o1:OT:=.pick [(10,o0)];let o2:OT:=.pick [(9,o1)];let o3:OT:=.pick [(8,o2)];let o4:OT:=.pick [(7,o3)];let o5:OT:=.pick [(6,o4)];o5)] fol kR ?_;have hd2:((d:Int)+1-1)=d:=by omega
   have hbd:kl.length+1≤4294967296:=by omega
   simp(disch:=omega)only[go_sem,hd2]
   repeat'(with_reducible refine And.intro ?_ ?_)
   all_goals
    refine call2 ⟨⟨[],[(63,63)],[]⟩,[],[]⟩ (ih ka (by omega)) ?_;simp(disch:=omega)only[go_sem]
    repeat'(with_reducible refine And.intro ?_ ?_)
    all_goals
     refine hJ _ (i+1) (by omega) (by omega) (Imp.Ar ?_ ?_)
     ·exact gI
     ·rw[hkn];refine gO ?_;exact .sl (by rw[map_append,map_cons,map_nil,Expr.BV])
  have him:i=m:=by simp at hge;omega
  subst him;refine Cp ⟨[],[(63,63)],[2944]⟩ _ ?_ ?_
  ·simp(disch:=omega)only[go_sem,Expr.BV,Expr.k,Expr.atom,Expr.kids,a0]
  ·exact gI
def shM(n:Int)(i:Nat):Int:=n.fdiv (2 ^ min (3*i) 64)
def GS(cat:List Res)(n:Int):Nat→List Atom
 | 0=>[]
 | i+1=>GS cat n i++[⟨(cat.getD i r0).name,J9 (cat.getD i r0) (shM n i)⟩]
def MC(cat:List Res)(n:Int):∀ i,(GS cat n i).length=i
 | 0=>rfl
 | i+1=>by simp[GS,MC cat n i]
def Ps(l:List Int)(cat:List Res)(a:Nat):Expr × Nat:=C6 l (GS cat (Ak l a 1048576).1 cat.length) 2 (Ak l a 1048576).2
def wrapu(i:Nat)(h:i≤1000):IntKind.u64.wrap (3*(i:Int))=3*i:=by
 simp only[IntKind.wrap,IntKind.signed,IntKind.bits,Bool.false_and,false_eq_true,if_false];omega
def f152_ok(l:List Int)(a:Nat)(cat:List Res)(hl:l.length≤1000000)(hc:1≤cat.length∧cat.length≤100)(hu:∀ r∈cat,r.Ax≤1000000):Ad C0 152 [.ptr 63 0,Fo cat] [(63,DF l a)] (.agg (Ps l cat a).1.c) [(63,DF l (Ps l cat a).2)]:=by
 refine Ad.go f152 ?_;unfold f152;refine gO ?_;refine call2 ⟨⟨[],[(63,63)],[]⟩,[],[]⟩ (f37_ok l a 1048576 hl (by omega)) ?_;refine gO ?_;have e:Ps l cat a=C6 l (GS cat (Ak l a 1048576).1 cat.length) 2 (Ak l a 1048576).2:=rfl;rw[e];generalize (Ak l a 1048576).2=a1;generalize (Ak l a 1048576).1=first;refine Ac (α:=Nat) (fun i=>⟨[(7,I i),(6,.sl (.own 2176 0) 3 ((GS cat first i).map Atom.c)),(5,I first),(4,.ptr 256 0),(0,.ptr 63 0),(1,Fo cat)],[(256,[I 0,.v (.string (str [])),I 0,I 0,.v (.slice none 0 0)]),(63,DF l a1)]⟩) (fun i=>i≤cat.length) (fun i=>cat.length-i) 0 (by omega) (Imp.Ar ?_ ?_) ?_
 ·simp(disch:=omega)only[go_sem,GS,map_nil]
 ·exact gI
 rintro i hi J hJ;simp(disch:=omega)only[go_sem,length_map];refine ⟨fun hlt=>?_,fun hge=>?_⟩
 ·have hlt2:i<cat.length:=by simp at hlt;omega
  obtain⟨r,hr⟩:∃ r,cat[i]?=some r:=⟨_,gE hlt2⟩;have hgd:cat.getD i r0=r:=by simp[List.getD,hr]
  have hur:=hu r (mG hr);have hwu:=wrapu i (by omega);have hal:=MC cat first i;have han:GS cat first (i+1)=GS cat first i++[⟨r.name,J9 r (shM first i)⟩]:=by rw[GS,hgd]
  have hsh:first.fdiv (2 ^ min (3*(i:Int)).toNat 64)=shM first i:=by rw[shM,show (3*(i:Int)).toNat=3*i by omega]
  have hbd:(GS cat first i).length+1≤4294967296:=by omega
  generalize GS cat first i=az at han hal hbd ⊢;refine Aw 18 [([],[6]),([],[1]),([],[7]),([],[17,18]),([],[19]),([],[20]),([],[1]),([],[7]),([],[22,23]),([],[24]),([],[5]),([],[7]),([],[27]),([],[28]),([],[26,29]),([],[25,30]),([15],[21,31]),([15],[32])] fol ?_;simp(disch:=omega)only[go_sem,gm,hr,hwu,eq_false (show ¬ (3*(i:Int))<0 by omega),hsh,Option.map_some]
  first|(refine Ae (f234_ok r (shM first i) hur) ?_)|(refine Av (f234_ok r (shM first i) hur) ?_)
  refine gO ?_;refine hJ _ (i+1) (by omega) (by omega) (Imp.Ar ?_ ?_)
  ·simp(disch:=omega)only[go_sem];rw[han,map_append,map_cons,map_nil];exact .rfl
  ·exact gI
 have him:i=cat.length:=by simp at hge;omega
 subst him;have hal:=MC cat first cat.length;refine Qw [2176] ⟨⟨[],[(63,63)],[]⟩,[],[]⟩ (f235_ok l (GS cat first cat.length) hl (by omega) 2 a1 (by omega)) gI rfl gI (.inl rfl) ?_;refine gO ?_;refine Cp ⟨[],[(63,63)],[]⟩ _ ?_ ?_
 ·exact gI
 ·exact gI
def PX(l:List Int)(a:Nat):Int × Nat:=if (Ak l a 5).1=1 then (1+(Ak l (Ak l a 5).2 20).1,(Ak l (Ak l a 5).2 20).2) else (0,(Ak l a 5).2)
def HA(l:List Int)(cat:List Res)(a:Nat):Req × Nat :=
 (⟨(Ps l cat (PX l (Ak l a 8).2).2).1,(Ak l a 8).1,(PX l (Ak l a 8).2).1⟩,(Ps l cat (PX l (Ak l a 8).2).2).2)
def f96_ok(l:List Int)(a:Nat)(cat:List Res)(hl:l.length≤1000000)(hc:1≤cat.length∧cat.length≤100)(hu:∀ r∈cat,r.Ax≤1000000):Ad C0 96 [.ptr 63 0,Fo cat] [(63,DF l a)] (.agg (HA l cat a).1.c) [(63,DF l (HA l cat a).2)]:=by
 refine Ad.go f96 ?_;unfold f96;refine gO ?_;refine call2 ⟨⟨[],[(63,63)],[]⟩,[],[]⟩ (f37_ok l a 8 hl (by omega)) ?_;have e:HA l cat a=(⟨(Ps l cat (PX l (Ak l a 8).2).2).1,(Ak l a 8).1,(PX l (Ak l a 8).2).1⟩,(Ps l cat (PX l (Ak l a 8).2).2).2):=rfl;rw[e];generalize (Ak l a 8).2=a1;generalize (Ak l a 8).1=prio;refine gO ?_;refine call2 ⟨⟨[],[(63,63)],[]⟩,[],[]⟩ (f37_ok l a1 5 hl (by omega)) ?_
 by_cases h1:(Ak l a1 5).1=1
 ·have e1:PX l a1=(1+(Ak l (Ak l a1 5).2 20).1,(Ak l (Ak l a1 5).2 20).2):=by simp only[PX,h1,if_true]
  rw[e1];have hb:=Cx l (Ak l a1 5).2 20 (by omega);have hw:IntKind.i64.wrap (1+(Ak l (Ak l a1 5).2 20).1)=1+(Ak l (Ak l a1 5).2 20).1:=wrap64 _ (by omega) (by omega);simp(disch:=omega)only[go_sem,h1];refine call2 ⟨⟨[],[(63,63)],[]⟩,[],[]⟩ (f37_ok l (Ak l a1 5).2 20 hl (by omega)) ?_;simp(disch:=omega)only[go_sem,hw];refine call2 ⟨⟨[],[(63,63)],[]⟩,[],[]⟩ (f152_ok l (Ak l (Ak l a1 5).2 20).2 cat hl hc hu) ?_;refine gO ?_;refine Cp ⟨[],[(63,63)],[]⟩ _ ?_ ?_
  ·exact gI
  ·exact gI
 ·have e1:PX l a1=(0,(Ak l a1 5).2):=by simp only[PX,h1,if_false]
  rw[e1];have h1':((Ak l a1 5).1==1)=false:=by simpa using h1
  simp(disch:=omega)only[go_sem,h1'];refine call2 ⟨⟨[],[(63,63)],[]⟩,[],[]⟩ (f152_ok l (Ak l a1 5).2 cat hl hc hu) ?_;refine gO ?_;refine Cp ⟨[],[(63,63)],[]⟩ _ ?_ ?_
  ·exact gI
  ·exact gI
def Fs(l:List Int)(cat:List Res)(n:Int)(p:Ab)(a:Nat):Cmd × Nat :=
 if n=0 then (⟨1,p,D4,[],1+(Ak l a 9).1⟩,(Ak l a 9).2)
 else if n<9 then (⟨2,p,(HA l cat a).1,[],0⟩,(HA l cat a).2)
 else if n=9 then (⟨3,p,D4,[],0⟩,a)
 else if n=10 then (⟨4,p,D4,(cat.getD (Ak l a cat.length).1.toNat r0).name,0⟩,(Ak l a cat.length).2)
 else if n=11 then (⟨5,p,D4,[],1+(Ak l a 4).1⟩,(Ak l a 4).2)
 else if n=12 then (⟨6,p,D4,[],(Ak l a 5).1⟩,(Ak l a 5).2)
 else if n=13 then (⟨7,p,D4,[],0⟩,a)
 else if n=14 then (⟨8,p,D4,[],0⟩,a)
 else (⟨9,p,D4,[],(Ak l a 12).1⟩,(Ak l a 12).2)
def ES(l:List Int)(cat:List Res)(a:Nat):Cmd × Nat:=Fs l cat (Ak l a 16).1 (NW (Ak l (Ak l a 16).2 6).1) (Ak l (Ak l a 16).2 6).2
def f50_ok(l:List Int)(a:Nat)(cat:List Res)(hl:l.length≤1000000)(hc:1≤cat.length∧cat.length≤100)(hu:∀ r∈cat,r.Ax≤1000000):Ad C0 50 [.ptr 63 0,Fo cat] [(63,DF l a)] (.agg (ES l cat a).1.c) [(63,DF l (ES l cat a).2)]:=by
 refine Ad.go f50 ?_;unfold f50;refine gO ?_;refine call2 ⟨⟨[],[(63,63)],[]⟩,[],[]⟩ (f37_ok l a 16 hl (by omega)) ?_;refine gO ?_;refine call2 ⟨⟨[],[(63,63)],[]⟩,[],[]⟩ (f37_ok l (Ak l a 16).2 6 hl (by omega)) ?_;refine gO ?_;refine Ae (et (Ak l (Ak l a 16).2 6).1) ?_;have e:ES l cat a=Fs l cat (Ak l a 16).1 (NW (Ak l (Ak l a 16).2 6).1) (Ak l (Ak l a 16).2 6).2:=rfl;rw[e];generalize NW (Ak l (Ak l a 16).2 6).1=p;generalize (Ak l (Ak l a 16).2 6).2=a1;generalize (Ak l a 16).1=n
 by_cases h0:n=0
 ·have ht:Fs l cat n p a1=(⟨1,p,D4,[],1+(Ak l a1 9).1⟩,(Ak l a1 9).2):=by simp[Fs,h0]
  have hb:=Cx l a1 9 (by omega);have hw:IntKind.i64.wrap (1+(Ak l a1 9).1)=1+(Ak l a1 9).1:=wrap64 _ (by omega) (by omega);rw[ht];simp(disch:=omega)only[go_sem,h0];refine call2 ⟨⟨[],[(63,63)],[]⟩,[],[]⟩ (f37_ok l a1 9 hl (by omega)) ?_;simp(disch:=omega)only[go_sem,hw];refine Cp ⟨[],[(63,63)],[]⟩ _ ?_ ?_
  ·simp(disch:=omega)only[go_sem,D4,e0,a0,Expr.k,Expr.atom,Expr.kids,map_nil];exact .agg (Ai.AR gI)
  ·exact gI
 have h0':(n==0)=false:=by simpa using h0
 simp(disch:=omega)only[go_sem,h0']
 by_cases h1:n<9
 ·have ht:Fs l cat n p a1=(⟨2,p,(HA l cat a1).1,[],0⟩,(HA l cat a1).2):=by simp[Fs,h0,h1]
  rw[ht];simp(disch:=omega)only[go_sem,eq_true h1,decide_true];refine call2 ⟨⟨[],[(63,63)],[]⟩,[],[]⟩ (f96_ok l a1 cat hl hc hu) ?_;refine gO ?_;refine Cp ⟨[],[(63,63)],[]⟩ _ ?_ ?_
  ·simp(disch:=omega)only[go_sem,D4,e0,a0,Expr.k,Expr.atom,Expr.kids,map_nil]
   try exact .agg (Ai.AR gI)
  ·exact gI
 simp(disch:=omega)only[go_sem,eq_false h1,decide_false]
 by_cases h2:n=9
 ·have ht:Fs l cat n p a1=(⟨3,p,D4,[],0⟩,a1):=by simp[Fs,h0,h2]
  rw[ht];simp(disch:=omega)only[go_sem,h2];refine Cp ⟨[],[(63,63)],[]⟩ _ ?_ ?_
  ·simp(disch:=omega)only[go_sem,D4,e0,a0,Expr.k,Expr.atom,Expr.kids,map_nil]
   try exact .agg (Ai.AR gI)
  ·exact gI
 have h2':(n==9)=false:=by simpa using h2
 simp(disch:=omega)only[go_sem,h2']
 by_cases h3:n=10
 ·have ht:Fs l cat n p a1=(⟨4,p,D4,(cat.getD (Ak l a1 cat.length).1.toNat r0).name,0⟩,(Ak l a1 cat.length).2):=by simp[Fs,h3]
  obtain⟨b1,b2⟩:=Cx l a1 cat.length (by omega);obtain⟨i,hi⟩:∃ i:Nat,(Ak l a1 cat.length).1=(i:Int):=⟨_,(Int.toNat_of_nonneg b1).symm⟩;have hil:i<cat.length:=by omega
  have hr:cat[i]?=some cat[i]:=gE hil;have hgd:cat.getD (Ak l a1 cat.length).1.toNat r0=cat[i]:=by rw[hi];simp[List.getD,hr]
  rw[ht,hgd];have hh37:=f37_ok l a1 cat.length hl (by omega);generalize (Ak l a1 cat.length).2=a2 at hh37 ⊢;rw[hi]at hh37;generalize cat[i]=r at hr ⊢;simp(disch:=omega)only[go_sem,h3];refine En (st':=⟨[(6,.ptr 384 0),(4,.ptr 256 0),(0,.ptr 63 0),(1,Fo cat)],[(384,(⟨0,p,D4,[],0⟩:Cmd).c),(256,(⟨0,p0,D4,[],0⟩:Cmd).c),(63,DF l a1)]⟩) (Imp.Ar ?_ ?_) ?_
  ·exact gI
  ·simp(disch:=omega)only[go_sem,D4,e0,a0,p0,Expr.k,Expr.atom,Expr.kids,map_nil]
  refine Dg 4095 [(0,1,0),(1,2,0),(2,4,0),(3,8,4),(4,16,10),(5,32,17),(6,64,32),(7,128,64),(8,256,0),(9,512,272),(10,1024,1023),(11,2048,2047)] [0,1,2,4,256,3,5,257,6,258,12,260,7,259,13,261,14,262,268,15,263,269,30,270,31,271,286,63,287,798,127,319,799,255,383,831,511,895,1023,2047,4095] (fun m=>⟨sel m [(1,40,Fo cat),(2,41,.ptr 63 0),(4,42,Fo cat),(8,43,I cat.length),(16,44,I i),(32,45,.ep .no i r.c 0),(64,46,.ep .no i r.c 0),(128,47,.v (.string (str r.name))),(256,48,.ptr 384 0),(1024,49,.ptr 384 11)]++[(6,.ptr 384 0),(4,.ptr 256 0),(0,.ptr 63 0),(1,Fo cat)],[(384,(⟨(if m / 512%2=1 then 4 else 0),p,D4,(if m / 2048%2=1 then r.name else []),0⟩:Cmd).c),(256,(⟨0,p0,D4,[],0⟩:Cmd).c),(63,DF l (if m / 16%2=1 then a2 else a1))]⟩) ?_ ?_ ?_ fol
  ·exact AT
  ·simp (maxSteps:=100000000)only[Df,De,DY,DX,and_true,Nat.reduceDiv,Nat.reduceMod,Nat.reduceAnd,Nat.reduceEqDiff,reduceIte,true_and,and_false,false_and,and_self]
   repeat'(with_reducible refine And.intro ?_ ?_)
   all_goals simp(disch:=omega)only[go_sem,gm,hr,length_map,nil_append,cons_append]
   all_goals first|exact Imp.Ar (by simp(disch:=omega)only[go_sem,nil_append,cons_append]) (by simp(disch:=omega)only[go_sem,nil_append,cons_append])|(refine call2 ⟨⟨[],[(63,63)],[]⟩,[],[]⟩ hh37 ?_;simp(disch:=omega)only[go_sem];exact Imp.Ar (by simp(disch:=omega)only[go_sem,nil_append,cons_append]) (by simp(disch:=omega)only[go_sem,nil_append,cons_append]))
  refine gO ?_;refine Cp ⟨[],[(63,63)],[]⟩ _ ?_ ?_
  ·simp(disch:=omega)only[go_sem,D4,e0,a0,Expr.k,Expr.atom,Expr.kids,map_nil]
  ·exact gI
 have h3':(n==10)=false:=by simpa using h3
 simp(disch:=omega)only[go_sem,h3']
 by_cases h4:n=11
 ·have ht:Fs l cat n p a1=(⟨5,p,D4,[],1+(Ak l a1 4).1⟩,(Ak l a1 4).2):=by simp[Fs,h4]
  have hb:=Cx l a1 4 (by omega);have hw:IntKind.i64.wrap (1+(Ak l a1 4).1)=1+(Ak l a1 4).1:=wrap64 _ (by omega) (by omega);rw[ht];simp(disch:=omega)only[go_sem,h4];refine call2 ⟨⟨[],[(63,63)],[]⟩,[],[]⟩ (f37_ok l a1 4 hl (by omega)) ?_;simp(disch:=omega)only[go_sem,hw];refine Cp ⟨[],[(63,63)],[]⟩ _ ?_ ?_
  ·simp(disch:=omega)only[go_sem,D4,e0,a0,Expr.k,Expr.atom,Expr.kids,map_nil]
   try exact .agg (Ai.AR gI)
  ·exact gI
 have h4':(n==11)=false:=by simpa using h4
 simp(disch:=omega)only[go_sem,h4']
 by_cases h5:n=12
 ·have ht:Fs l cat n p a1=(⟨6,p,D4,[],(Ak l a1 5).1⟩,(Ak l a1 5).2):=by simp[Fs,h5]
  rw[ht];simp(disch:=omega)only[go_sem,h5];refine call2 ⟨⟨[],[(63,63)],[]⟩,[],[]⟩ (f37_ok l a1 5 hl (by omega)) ?_;refine gO ?_;refine Cp ⟨[],[(63,63)],[]⟩ _ ?_ ?_
  ·simp(disch:=omega)only[go_sem,D4,e0,a0,Expr.k,Expr.atom,Expr.kids,map_nil]
   try exact .agg (Ai.AR gI)
  ·exact gI
 have h5':(n==12)=false:=by simpa using h5
 simp(disch:=omega)only[go_sem,h5']
 by_cases h6:n=13
 ·have ht:Fs l cat n p a1=(⟨7,p,D4,[],0⟩,a1):=by simp[Fs,h6]
  rw[ht];simp(disch:=omega)only[go_sem,h6];refine Cp ⟨[],[(63,63)],[]⟩ _ ?_ ?_
  ·simp(disch:=omega)only[go_sem,D4,e0,a0,Expr.k,Expr.atom,Expr.kids,map_nil]
   try exact .agg (Ai.AR gI)
  ·exact gI
 have h6':(n==13)=false:=by simpa using h6
 simp(disch:=omega)only[go_sem,h6']
 by_cases h7:n=14
 ·have ht:Fs l cat n p a1=(⟨8,p,D4,[],0⟩,a1):=by simp[Fs,h7]
  rw[ht];simp(disch:=omega)only[go_sem,h7];refine Cp ⟨[],[(63,63)],[]⟩ _ ?_ ?_
  ·simp(disch:=omega)only[go_sem,D4,e0,a0,Expr.k,Expr.atom,Expr.kids,map_nil]
   try exact .agg (Ai.AR gI)
  ·exact gI
 have h7':(n==14)=false:=by simpa using h7
 have ht:Fs l cat n p a1=(⟨9,p,D4,[],(Ak l a1 12).1⟩,(Ak l a1 12).2):=by simp[Fs,h0,h1,h2,h3,h4,h5,h6,h7]
 rw[ht];simp(disch:=omega)only[go_sem,h7'];refine call2 ⟨⟨[],[(63,63)],[]⟩,[],[]⟩ (f37_ok l a1 12 hl (by omega)) ?_;refine gO ?_;refine Cp ⟨[],[(63,63)],[]⟩ _ ?_ ?_
 ·simp(disch:=omega)only[go_sem,D4,e0,a0,Expr.k,Expr.atom,Expr.kids,map_nil]
  try exact .agg (Ai.AR gI)
 ·exact gI
def V1:List Bs:=[[97],[98],[99],[100]]
def CI(l:List Int)(a:Nat):Nat→List Res × Nat
 | 0=>([],a)
 | i+1=>((CI l a i).1++[⟨V1.getD i [],1,1,(Ak l (CI l a i).2 4).1⟩],(Ak l (CI l a i).2 4).2)
def Kt(l:List Int)(a:Nat):∀ i,(CI l a i).1.length=i
 | 0=>rfl
 | i+1=>by simp[CI,Kt l a i]
def II(l:List Int)(name:Bs)(m:Int)(a:Nat):Res × Nat:=(⟨name,2,1+(Ak l a m).1,(Ak l (Ak l a m).2 4).1⟩,(Ak l (Ak l a m).2 4).2)
def Ck(l:List Int)(a:Nat):List Res × Nat :=
 ((CI l a 4).1++[(II l [112] 8 (CI l a 4).2).1]++[(II l [113] 3 (II l [112] 8 (CI l a 4).2).2).1],(II l [113] 3 (II l [112] 8 (CI l a 4).2).2).2)
def f113_ok(l:List Int)(a:Nat)(hl:l.length≤1000000):Ad C0 113 [.ptr 63 0] [(63,DF l a)] (Fo (Ck l a).1) [(63,DF l (Ck l a).2)]:=by
 refine Ad.go f113 ?_;unfold f113;refine gO ?_;refine Ac (α:=Nat) (fun i=>⟨[(5,I i),(4,.sl (.own 384 0) 1 (V1.map fun s=>[.v (.string (str s))])),(3,.sl (.own 1408 0) 4 ((CI l a i).1.map Res.c)),(0,.ptr 63 0)],[(63,DF l (CI l a i).2)]⟩) (fun i=>i≤4) (fun i=>4-i) 0 (by omega) (Imp.Ar ?_ ?_) ?_
 ·simp(disch:=omega)only[go_sem,CI,map_nil];exact .sl rfl
 ·simp(disch:=omega)only[go_sem,CI]
 rintro i hi J hJ;have hn4:V1.length=4:=rfl;simp(disch:=omega)only[go_sem,length_map,hn4];refine ⟨fun hlt=>?_,fun hge=>?_⟩
 ·have hlt2:i<4:=by simp at hlt;omega
  obtain⟨s,hs⟩:∃ s,V1[i]?=some s:=⟨_,gE (by rw[hn4];omega)⟩;have hgd:V1.getD i []=s:=by simp[List.getD,hs]
  have hal:=Kt l a i;have han:CI l a (i+1)=((CI l a i).1++[⟨s,1,1,(Ak l (CI l a i).2 4).1⟩],(Ak l (CI l a i).2 4).2):=by rw[CI,hgd]
  generalize CI l a i=ls at han hal ⊢;obtain⟨ll,a1⟩:=ls;simp only at han hal ⊢;have hh37:=f37_ok l a1 4 hl (by omega);generalize (Ak l a1 4).2=a2 at hh37 han ⊢;generalize (Ak l a1 4).1=v at hh37 han ⊢;have hbd:ll.length+1≤4294967296:=by omega
  refine En (st':=⟨[(5,I i),(4,.sl (.own 384 0) 1 (V1.map fun s=>[.v (.string (str s))])),(3,.sl (.own 1408 0) 4 (ll.map Res.c)),(0,.ptr 63 0)],[(63,DF l a1)]⟩) AT ?_;refine Dg 2047 [(0,1,0),(1,2,0),(2,4,0),(3,8,6),(4,16,8),(5,32,0),(6,64,32),(7,128,80),(8,256,128),(9,512,321),(10,1024,1023)] [0,1,2,4,32,3,5,33,6,34,36,96,7,35,37,97,14,38,98,100,15,39,99,101,30,46,102,31,47,103,62,110,63,111,126,127,254,255,510,511,1023,2047] (fun m=>⟨sel m [(1,13,(if m / 512%2=1 then .undef else .sl (.own 1408 0) 4 (ll.map Res.c))),(2,14,.sl (.own 384 0) 1 (V1.map fun s=>[.v (.string (str s))])),(4,15,I i),(8,16,.ep (.own 384 0) i [.v (.string (str s))] 0),(16,17,.v (.string (str s))),(32,18,.ptr 63 0),(64,19,I v),(128,20,.agg (⟨s,1,1,v⟩:Res).c),(256,21,.sl (.own 1344 0) 4 ([(⟨s,1,1,v⟩:Res)].map Res.c)),(512,22,.sl (.own 1408 0) 4 ((ll++[(⟨s,1,1,v⟩:Res)]).map Res.c))]++[(5,I i),(4,.sl (.own 384 0) 1 (V1.map fun s=>[.v (.string (str s))])),(3,(if m / 512%2=1 then (if m / 1024%2=1 then .sl (.own 1408 0) 4 ((ll++[(⟨s,1,1,v⟩:Res)]).map Res.c) else .undef) else .sl (.own 1408 0) 4 (ll.map Res.c))),(0,.ptr 63 0)],[(63,DF l (if m / 64%2=1 then a2 else a1))]⟩) ?_ ?_ ?_ fol
  ·exact AT
  ·simp (maxSteps:=100000000)only[Df,De,DY,DX,and_true,Nat.reduceDiv,Nat.reduceMod,Nat.reduceAnd,Nat.reduceEqDiff,reduceIte,true_and,and_false,false_and,and_self]
   repeat'(with_reducible refine And.intro ?_ ?_)
   all_goals simp(disch:=omega)only[go_sem,gm,hs,length_map,nil_append,cons_append]
   all_goals first|exact Imp.Ar (by simp(disch:=omega)only[go_sem,nil_append,cons_append,map_append,map_cons,map_nil]) (by simp(disch:=omega)only[go_sem,nil_append,cons_append,map_append,map_cons,map_nil])|(refine call2 ⟨⟨[],[(63,63)],[]⟩,[],[]⟩ hh37 ?_;simp(disch:=omega)only[go_sem];exact Imp.Ar (by simp(disch:=omega)only[go_sem,nil_append,cons_append,map_append,map_cons,map_nil]) (by simp(disch:=omega)only[go_sem,nil_append,cons_append,map_append,map_cons,map_nil]))
  refine gO ?_;refine hJ _ (i+1) (by omega) (by omega) (Imp.Ar ?_ ?_)
  ·rw[han];simp(disch:=omega)only[go_sem]
  ·rw[han];simp(disch:=omega)only[go_sem]
 have him:i=4:=by simp at hge;omega
 subst him;have hcm:Ck l a=((CI l a 4).1++[(II l [112] 8 (CI l a 4).2).1]++[(II l [113] 3 (II l [112] 8 (CI l a 4).2).2).1],(II l [113] 3 (II l [112] 8 (CI l a 4).2).2).2):=rfl;rw[hcm];have hll:=Kt l a 4;generalize CI l a 4=ls at hll ⊢;obtain⟨ll,a1⟩:=ls;simp only at hll ⊢;obtain⟨b1,b2⟩:=Cx l a1 8 (by omega);have hp1:II l [112] 8 a1=(⟨[112],2,1+(Ak l a1 8).1,(Ak l (Ak l a1 8).2 4).1⟩,(Ak l (Ak l a1 8).2 4).2):=rfl;rw[hp1];have g1:=f37_ok l a1 8 hl (by omega);have g2:=f37_ok l (Ak l a1 8).2 4 hl (by omega);generalize (Ak l a1 8).2=a2 at g1 g2 ⊢;generalize (Ak l a1 8).1=u1 at b1 b2 g1 ⊢;simp only;generalize (Ak l a2 4).2=a3 at g2 ⊢;generalize (Ak l a2 4).1=h1 at g2 ⊢;obtain⟨c1,c2⟩:=Cx l a3 3 (by omega);have hp2:II l [113] 3 a3=(⟨[113],2,1+(Ak l a3 3).1,(Ak l (Ak l a3 3).2 4).1⟩,(Ak l (Ak l a3 3).2 4).2):=rfl;rw[hp2];have g3:=f37_ok l a3 3 hl (by omega);have g4:=f37_ok l (Ak l a3 3).2 4 hl (by omega);generalize (Ak l a3 3).2=a4 at g3 g4 ⊢;generalize (Ak l a3 3).1=u2 at c1 c2 g3 ⊢;simp only;generalize (Ak l a4 4).2=a5 at g4 ⊢;generalize (Ak l a4 4).1=h2 at g4 ⊢;have hw1:IntKind.i64.wrap (1+u1)=1+u1:=wrap64 _ (by omega) (by omega);have hw2:IntKind.i64.wrap (1+u2)=1+u2:=wrap64 _ (by omega) (by omega);have hbd1:ll.length+1≤4294967296:=by omega
 refine call2 ⟨⟨[],[(63,63)],[]⟩,[],[]⟩ g1 ?_;simp(disch:=omega)only[go_sem,hw1];refine call2 ⟨⟨[],[(63,63)],[]⟩,[],[]⟩ g2 ?_;refine gO ?_;refine call2 ⟨⟨[],[(63,63)],[]⟩,[],[]⟩ g3 ?_;simp(disch:=omega)only[go_sem,hw2];refine call2 ⟨⟨[],[(63,63)],[]⟩,[],[]⟩ g4 ?_;have hbd2:ll.length+1+1≤4294967296:=by omega
 simp(disch:=omega)only[go_sem,length_append,length_map,List.length_singleton];refine Cp ⟨[],[(63,63)],[2560]⟩ _ ?_ ?_
 ·simp(disch:=omega)only[go_sem];exact .sl (by rw[map_append,map_append];rfl)
 ·exact gI
@[reducible] def ae(l:List Cmd):AV:=.sl .no 13 (l.map Cmd.c)
def VJ(l:List Int)(az:List Atom)(a:Nat):a≤(VI l az a).2:=(FB l a az.length).1
def VA{f:Nat→Expr × Nat}(h:∀ a,a≤(f a).2):∀ n a,a≤(GM f n a).2
 | 0,a=>Nat.le_refl _
 | n+1,a=>le_trans (VA h n a) (h _)
def SN(l:List Int)(az:List Atom):∀ d a,a≤(C6 l az d a).2
 | 0,a=>VJ l az a
 | d+1,a=>by
  rw[C6];have h1:=(FB l a 4).1;split
  ·exact le_trans h1 (VJ l az _)
  ·have h2:=(FB l (Ak l a 4).2 3).1;have h3:=(FB l (Ak l (Ak l a 4).2 3).2 (1+(Ak l (Ak l a 4).2 3).1)).1;exact le_trans (le_trans (le_trans h1 h2) h3) (VA (fun a=>SN l az d a) _ _)
def aF(l:List Int)(cat:List Res)(a:Nat):a≤(Ps l cat a).2:=le_trans (FB l a 1048576).1 (SN l _ 2 _)
def df(l:List Int)(a:Nat):a≤(PX l a).2:=by
 have h1:=(FB l a 5).1;have h2:=(FB l (Ak l a 5).2 20).1;unfold PX;split
 ·exact le_trans h1 h2
 ·exact h1
def Wi(l:List Int)(cat:List Res)(a:Nat):a≤(HA l cat a).2:=by
 have h1:=(FB l a 8).1;have h2:=df l (Ak l a 8).2;exact le_trans (le_trans h1 h2) (aF l cat _)
def Z1(l:List Int)(cat:List Res)(n:Int)(p:Ab)(a:Nat):a≤(Fs l cat n p a).2:=by
 unfold Fs
 repeat' split
 all_goals first|exact Nat.le_refl _|exact(FB _ _ _).1|exact Wi _ _ _
def IZ(l:List Int)(cat:List Res)(a:Nat)(h:a<l.length):a<(ES l cat a).2:=by
 have h1:=(FB l a 16).2 h;have h2:=(FB l (Ak l a 16).2 6).1;have h3:=Z1 l cat (Ak l a 16).1 (NW (Ak l (Ak l a 16).2 6).1) (Ak l (Ak l a 16).2 6).2;show a<(Fs l cat (Ak l a 16).1 (NW (Ak l (Ak l a 16).2 6).1) (Ak l (Ak l a 16).2 6).2).2;omega
def Er(l:List Int)(a:Nat):Nat→List Cmd × Nat
 | 0=>([],a)
 | i+1=>((Er l a i).1++[⟨1,NW i,D4,[],1+(Ak l (Er l a i).2 9).1⟩],(Ak l (Er l a i).2 9).2)
def Kw(l:List Int)(a:Nat):∀ i,(Er l a i).1.length=i
 | 0=>rfl
 | i+1=>by simp[Er,Kw l a i]
def Jt(l:List Int)(cat:List Res)(a:Nat):List Cmd :=
 if h:a<l.length then (ES l cat a).1::Jt l cat (ES l cat a).2 else []
 termination_by l.length-a
 decreasing_by have:=IZ l cat a h;omega
def FT(l:List Int):List Res × List Cmd:=((Ck l 0).1,(Er l (Ck l 0).2 4).1++Jt l (Ck l 0).1 (Er l (Ck l 0).2 4).2)
def NM(l:List Int)(a:Nat):∀ i,∀ r∈(CI l a i).1,r.Ax=1
 | 0,r,h=>by simp[CI]at h
 | i+1,r,h=>by
  simp only[CI,List.mem_append,List.mem_singleton]at h;rcases h with h|rfl
  ·exact NM l a i r h
  ·rfl
def Ke(l:List Int)(a:Nat):(Ck l a).1.length=6:=by simp[Ck,Kt]
def K7(l:List Int)(a:Nat):∀ r∈(Ck l a).1,r.Ax≤1000000:=fun r h=>by
 simp only[Ck,List.mem_append,List.mem_singleton]at h;rcases h with (h|rfl)|rfl
 ·have:=NM l a 4 r h;omega
 ·have:=(Cx l (CI l a 4).2 8 (by omega)).2;simp only[II];omega
 ·have:=(Cx l (II l [112] 8 (CI l a 4).2).2 3 (by omega)).2;simp only[II]at this ⊢;omega
def f65_ok(l:List Int)(hl:l.length≤1000000):Ad C0 65 [Q3 l] [] (.tup [Fo (FT l).1,ae (FT l).2]) []:=by
 refine Ad.go f65 ?_;unfold f65;refine gO ?_;refine call2 ⟨⟨[],[(640,63)],[]⟩,[],[]⟩ (f113_ok l 0 hl) ?_;refine gO ?_;have hcl:=Ke l 0;have hcu:=K7 l 0;have hsm:FT l=((Ck l 0).1,(Er l (Ck l 0).2 4).1++Jt l (Ck l 0).1 (Er l (Ck l 0).2 4).2):=rfl;rw[hsm];generalize (Ck l 0).2=a0' at hcl ⊢;generalize (Ck l 0).1=cat at hcl hcu ⊢;refine Ac (α:=Nat) (fun i=>⟨[(7,I i),(6,.sl (.own 1600 0) 13 ((Er l a0' i).1.map Cmd.c)),(5,Fo cat),(4,.ptr 640 0)],[(640,DF l (Er l a0' i).2)]⟩) (fun i=>i≤4) (fun i=>4-i) 0 (by omega) (Imp.Ar ?_ ?_) ?_
 ·simp(disch:=omega)only[go_sem,Er,map_nil]
 ·simp(disch:=omega)only[go_sem,Er]
 rintro i hi J hJ;refine gO ?_;refine ⟨fun hlt=>?_,fun hge=>?_⟩
 ·have hlt2:i<4:=by simp at hlt;omega
  have hal:=Kw l a0' i;have han:Er l a0' (i+1)=((Er l a0' i).1++[⟨1,NW i,D4,[],1+(Ak l (Er l a0' i).2 9).1⟩],(Ak l (Er l a0' i).2 9).2):=rfl;generalize Er l a0' i=ls at han hal ⊢;obtain⟨ll,a1⟩:=ls;simp only at han hal ⊢;have hb:=Cx l a1 9 (by omega);have hw:IntKind.i64.wrap (1+(Ak l a1 9).1)=1+(Ak l a1 9).1:=wrap64 _ (by omega) (by omega);have hbd:ll.length+1≤4294967296:=by omega
  refine Ae (et i) ?_;refine gO ?_;refine call2 ⟨⟨[],[(640,63)],[]⟩,[],[]⟩ (f37_ok l a1 9 hl (by omega)) ?_;simp(disch:=omega)only[go_sem,hw];refine hJ _ (i+1) (by omega) (by omega) (Imp.Ar ?_ ?_)
  ·rw[han];refine gO ?_;rw[map_append];refine .dt (GR.append _ ?_);simp only[D4,e0,a0,Expr.k,Expr.atom,Expr.kids,map_cons,map_nil,Cmd.c,Ab.c,GR,J8,WQ];simp
  ·rw[han];simp(disch:=omega)only[go_sem]
 have him:i=4:=by simp at hge;omega
 subst him;have hal:=Kw l a0' 4;generalize Er l a0' 4=ls at hal ⊢;obtain⟨op,a1⟩:=ls;simp only at hal ⊢;refine Ac (α:=List Cmd × Nat) (fun x=>⟨[(6,.sl (.own 2112 0) 13 (x.1.map Cmd.c)),(5,Fo cat),(4,.ptr 640 0)],[(640,DF l x.2)]⟩) (fun x=>x.1++Jt l cat x.2=op++Jt l cat a1∧x.1.length+(l.length-x.2)≤1000010) (fun x=>l.length-x.2) (op,a1) ⟨rfl,by simp only;omega⟩ (Imp.ren ⟨[(1600,2112)],[(640,640)],[]⟩ ⟨rfl,rfl⟩ (by simp[lk]) ?_ ?_) ?_
 ·exact gI
 ·exact gI
 rintro⟨out,a2⟩ ⟨hx1,hx2⟩ J hJ;simp only at hx1 hx2 ⊢;refine gO ?_;refine call2 ⟨⟨[],[(640,63)],[]⟩,[],[]⟩ (f49_ok l a2 hl) ?_;refine gO ?_;refine ⟨fun hlt=>?_,fun hge=>?_⟩
 ·have hlt2:a2<l.length:=by simp at hlt;omega
  have hun:Jt l cat a2=(ES l cat a2).1::Jt l cat (ES l cat a2).2:=by rw[Jt,dif_pos hlt2]
  have hpr:=IZ l cat a2 hlt2;have hbd:out.length+1≤4294967296:=by omega
  refine call2 ⟨⟨[],[(640,63)],[]⟩,[],[]⟩ (f50_ok l a2 cat hl (by omega) hcu) ?_;refine gO ?_;refine hJ _ (out++[(ES l cat a2).1],(ES l cat a2).2) ⟨?_,?_⟩ ?_ (Imp.Ar ?_ ?_)
  ·rw[← hx1,hun];simp
  ·simp only[length_append,List.length_singleton];omega
  ·simp only;omega
  ·simp(disch:=omega)only[go_sem];exact .sl (by rw[map_append];rfl)
  ·exact gI
 have hge2:l.length≤a2:=by simp at hge;omega
 have hun:Jt l cat a2=[]:=by rw[Jt,dif_neg (by omega)]
 rw[hun,List.append_nil]at hx1;rw[← hx1];refine Bd ⟨[],[],[2112]⟩ _ (by(try simp(disch:=omega)only[go_sem,Dp,JQ])<;>rfl) ⟨rfl,rfl⟩ (by simp[lk]) ?_ trivial;simp(disch:=omega)only[go_sem]
def Hv(r:Res):Queue:=⟨r,[],[],[],0⟩
def MX(l:List Res):List Queue × Int:=if Hj l then (l.map Hv,0) else ([],1)
def f114_ok(l:List Res)(hl:l.length≤1000000):Ad C0 114 [Fo l] [] (.tup [AB (MX l).1,I (MX l).2]) []:=by
 refine Ad.go f114 ?_;unfold f114;refine gO ?_;refine Ae (f168_ok l) ?_;cases h:Hj l
 ·have e:MX l=([],1):=by simp[MX,h]
  rw[e];simp(disch:=omega)only[go_sem,h,zF];refine Cn _ ?_;simp(disch:=omega)only[go_sem,map_nil];refine .tup (Ai.AR ?_);simp(disch:=omega)only[go_sem]
  repeat'(with_reducible apply And.intro)
  all_goals(first|exact .AJ (by omega)|exact .agg (Ai.AR gI))
 ·have e:MX l=(l.map Hv,0):=by simp[MX,h]
  rw[e];simp(disch:=omega)only[go_sem,h,zT];refine Ac (α:=Nat) (fun i=>⟨[(5,I i),(0,Fo l),(4,.sl (.own 1408 0) 8 (((l.take i).map Hv).map Queue.c))],[]⟩) (fun i=>i≤(l).length∧True) (fun i=>(l).length-i) 0 ⟨by omega,trivial⟩ ?_ ?_
  ·exact B0
  rintro i ⟨hi,hP⟩ J hJ;refine gO ?_;refine gR (l:=l) hi (fun b hb hbm hlt=>?_) (fun hil=>?_)
  ·simp(disch:=omega)only[go_sem,gm,hb];refine hJ _ (i+1) ⟨by omega,trivial⟩ (by omega) (Imp.Ar ?_ ?_)
   ·simp(disch:=omega)only[go_sem];rw[tA,hb,toList_some,map_append];refine .dt (GR.append _ ?_);simp only[map_cons,map_nil,Function.comp_def,Hv,Queue.c,GR,J8,WQ];simp
   ·exact gI
  ·subst hil;rw[tL];refine Bd ⟨[],[],[1408]⟩ _ (by(try simp(disch:=omega)only[go_sem,Dp,JQ])<;>rfl) ⟨rfl,rfl⟩ (by simp[lk]) ?_ trivial;simp(disch:=omega)only[go_sem,AB,List.map_map]
def NP(l:List Res):Cen × Int:=if (MX l).2=0 then (⟨0,(MX l).1,[]⟩,0) else (⟨0,[],[]⟩,(MX l).2)
def f66_ok(l:List Res)(hl:l.length≤1000000):Ad C0 66 [Fo l] [] (.tup [.agg (NP l).1.c,I (NP l).2]) []:=by
 refine Ad.go f66 ?_;unfold f66;refine gO ?_;refine Ae (f114_ok l hl) ?_;refine gO ?_
 by_cases h:(MX l).2=0
 ·have e:NP l=(⟨0,(MX l).1,[]⟩,0):=by simp[NP,h]
  rw[e];simp(disch:=omega)only[go_sem,h];refine Cn _ ?_;simp(disch:=omega)only[go_sem,map_nil];refine .tup (Ai.AR ?_);simp(disch:=omega)only[go_sem]
  repeat'(with_reducible apply And.intro)
  all_goals(first|exact .AJ (by omega)|exact .agg (Ai.AR gI))
 ·have e:NP l=(⟨0,[],[]⟩,(MX l).2):=by simp[NP,h]
  have h':((MX l).2 !=0)=true:=by simpa using h
  rw[e];simp(disch:=omega)only[go_sem,h'];refine Cn _ ?_;simp(disch:=omega)only[go_sem,map_nil];refine .tup (Ai.AR ?_);simp(disch:=omega)only[go_sem]
  repeat'(with_reducible apply And.intro)
  all_goals(first|exact .AJ (by omega)|exact .agg (Ai.AR gI))
def VH{w:Am}:∀ (n:Nat) (w:Am),JE none w→JE none (HT n w)
 | 0,w,h=>h
 | n+1,w,h=>by
  simp only[HT];split
  ·exact h
  ·rename_i x hx;split
   ·exact h
   ·rename_i hlt;rcases H9 w with he|⟨k,y,he,hy,hyw⟩
    ·rw[he]at hlt;simp at hlt
    ·rw[he]at hx ⊢;simp only[Int.toNat_natCast]at hx ⊢;rw[hy]at hx;have:=Option.some.inj hx;subst this;exact VH (w:=w) n _ (I9 JE.Fh _ _ (Q6 JE.ef h hy hyw).1).1
def G5{Inv:Am→Prop}(hI:Io Inv){w:Am}(h:Inv w):D5 (Bl w).Aa:=(hI.few _ (I9 hI _ _ h).1).1
def cP{w:Am}(k:Cmd)(h:Fit w):D5 (doW w k).1.Aa:=by
 have hf:=CV h.je.tab;unfold doW;split
 ·exact hf
 split
 ·unfold EE
  repeat' split
  all_goals exact hf
 split
 ·unfold HD;split
  ·exact hf
  split
  ·exact hf
  ·exact CV (VH (w:=w) (wcount { w with now:=w.now+k.n }) { w with now:=w.now+k.n } ⟨h.je.tab,h.je.n,h.je.uq,h.je.good⟩).tab
 split
 ·exact hf
 ·rename_i i hfi;obtain⟨x,hx⟩:=SE hfi;have hxm:=mG hx;have hi:=Aj hx;have hg:w.procs.getD i x0=x:=by simp[List.getD,hx]
  rw[hg];unfold doI;split
  ·unfold Dm;split
   ·exact hf
   rename_i a1;split
   ·rename_i a2;split
    ·rename_i a3;refine G5 RQ.Fh (UW h.je hx (h.idle x hxm (by simpa using a1)) (by simp only[GF,and_eq_true]at a2;exact a2.1.1.1.1) (fun a ha=>?_)).2;obtain⟨n,_,hn,_⟩:=CZ h.je.tab a3 ha;exact⟨n,hn⟩
    ·exact hf
   ·exact hf
  split
  ·split
   ·rename_i hw;obtain⟨s1,s2,_⟩:=Eb h.je hx hw;have hx1:(AH w i x).procs[i]?=some (Br x):=by rw[Bm];simp[hi]
    exact G5 JE.Fh (s2.next hx1)
   ·exact hf
  split
  ·unfold D3;split
   ·exact hf
   rename_i a1;split
   ·exact hf
   ·exact G5 RQ.Fh (QX h.je hx (by simpa using a1))
  split
  ·split
   ·exact hf
   ·split
    ·exact hf
    ·exact hf
  split
  ·unfold DT;split
   ·rename_i a1;exact G5 JE.Fh (Sj h.je hx (h.fits x hxm) (h.idle x hxm) (h.wait x hxm) a1).2
   ·exact hf
  split
  ·split
   ·exact hf
   ·exact G5 JE.Fh (LW h.je hx)
  ·exact G5 JE.Fh (LW h.je hx)
def cM{c:Cen}(k:Cmd):D5 (doC c k).1.Aa:=by
 unfold doC;split
 ·rename_i hv;split
  ·exact cP k (Kf hv)
  ·exact LS
 ·exact LS
def GP(c:Cen)(k:Cmd):Cen:=if (doC c k).2.2=0 then (doC c k).1 else c
def runM(c:Cen)(ks:List Cmd):Cen:=ks.foldl GP c
def Ww{c:Cen}(k:Cmd)(h:D5 c.Aa):D5 (GP c k).Aa:=by
 unfold GP;split
 ·exact cM k
 ·exact h
def Ux:∀ (ks:List Cmd) (c:Cen),D5 c.Aa→D5 (runM c ks).Aa
 |[],_,h=>h
 | k::ks,c,h=>Ux ks (GP c k) (Ww k h)
def ZH{c:Cen}{ks:List Cmd}{i:Nat}{b:Cmd}(hb:ks[i]?=some b):runM c (ks.take (i+1))=GP (runM c (ks.take i)) b:=by
 simp[runM,tA,hb,List.foldl_append]
def f67_ok(c:Cen)(ks:List Cmd)(h:D5 c.Aa)(hl:ks.length≤1000000):Ad C0 67 [.agg c.c,ae ks] [] (.agg (runM c ks).c) []:=by
 refine Ad.go f67 ?_;unfold f67;refine gO ?_;refine Ac (α:=Nat) (fun i=>⟨[(5,I i),(4,.ptr 256 0),(2,.ptr 128 0),(1,ae ks)],[(256,RV.c),(128,(runM c (ks.take i)).c)]⟩) (fun i=>i≤ks.length) (fun i=>ks.length-i) 0 (by omega) (Imp.Ar ?_ ?_) ?_
 ·exact gI
 ·simp(disch:=omega)only[go_sem,RV,take_zero,runM,foldl_nil,map_nil]
  done
 rintro i hi J hJ;simp(disch:=omega)only[go_sem,length_map];refine ⟨fun hlt=>?_,fun hge=>?_⟩
 ·obtain⟨b,hb⟩:∃ b,ks[i]?=some b:=⟨_,gE (by simp at hlt;omega)⟩;have hlt2:=Aj hb;have hfe:=Ux (ks.take i) c h;have htk:=ZH (c:=c) hb;generalize runM c (ks.take i)=c1 at hfe htk ⊢;refine Jv 11 [([],[2]),([],[1]),([],[5]),([1,2],[17,18]),([1,2,3],[19]),([0,1,2,3,4],[16,20]),([0,1,2,3,4,5],[21]),([0,1,2,3,4,5,6],[15]),([0,1,2,3,4,5,6],[15]),([0,1,2,3,4,5,6],[15]),([],[]),([0,1,2,3,4,5,6,7,10],[]),([0,1,2,3,4,5,6,7,8,10,11],[]),([0,1,2,3,4,5,6,7,8,9,10,11,12],[])] [8,9] [([],[15,6,22,5,4,2,1],let o0:OT:=.done;let o1:OT:=.pick [(13,o0)];let o2:OT:=.pick [(12,o1)];let o3:OT:=.pick [(11,o2)];let o4:OT:=.pick [(9,o1)];let o5:OT:=.pick [(9,o2),(12,o4)];let o6:OT:=.pick [(9,o3),(11,o5)];let o7:OT:=.pick [(8,o2)];let o8:OT:=.pick [(8,o3),(11,o7)];let o9:OT:=.pick [(8,o5),(9,o7)];let o10:OT:=.pick [(8,o6),(9,o8),(11,o9)];o10),([9],[15,6,22,24,5,4,2,1],let o0:OT:=.done;let o1:OT:=.pick [(13,o0)];let o2:OT:=.pick [(12,o1)];let o3:OT:=.pick [(11,o2)];let o4:OT:=.pick [(8,o2)];let o5:OT:=.pick [(8,o3),(11,o4)];o5),([8],[15,6,22,23,5,4,2,1],let o0:OT:=.done;let o1:OT:=.pick [(13,o0)];let o2:OT:=.pick [(12,o1)];let o3:OT:=.pick [(11,o2)];let o4:OT:=.pick [(9,o1)];let o5:OT:=.pick [(9,o2),(12,o4)];let o6:OT:=.pick [(9,o3),(11,o5)];o6),([8,9],[6,22,23,24,5,4,2,1],let o0:OT:=.done;let o1:OT:=.pick [(13,o0)];let o2:OT:=.pick [(12,o1)];let o3:OT:=.pick [(11,o2)];o3)] fol kR ?_;simp(disch:=omega)only[go_sem,gm,hb]
  first|(refine Ae (f30_ok c1 b hfe) ?_)|(refine Av (f30_ok c1 b hfe) ?_)
  by_cases h0:(doC c1 b).2.2=0
  ·have hst:GP c1 b=(doC c1 b).1:=by simp[GP,h0]
   rw[hst]at htk;simp(disch:=omega)only[go_sem,h0]
   repeat'(with_reducible refine And.intro ?_ ?_)
   all_goals
    refine hJ _ (i+1) (by omega) (by omega) (Imp.Ar ?_ ?_)
    ·exact gI
    ·rw[htk];simp(disch:=omega)only[go_sem,RV,map_nil]
  ·have hst:GP c1 b=c1:=by simp[GP,h0]
   have h0':((doC c1 b).2.2==0)=false:=by simpa using h0
   rw[hst]at htk;simp(disch:=omega)only[go_sem,h0']
   repeat'(with_reducible refine And.intro ?_ ?_)
   all_goals
    refine hJ _ (i+1) (by omega) (by omega) (Imp.Ar ?_ ?_)
    ·exact gI
    ·rw[htk];simp(disch:=omega)only[go_sem,RV,map_nil]
 have him:i=ks.length:=by simp at hge;omega
 subst him;rw[tL];exact AQ _
def Hk(l:List Int):Cen:=runM (NP (FT l).1).1 (FT l).2
def PL(l:List Int):(FT l).1.length=6:=Ke l 0
def Yn(l:List Res)(hl:l.length≤100):D5 (NP l).1.Aa:=by
 unfold NP;split
 ·unfold MX;split
  ·refine⟨by simpa using hl,fun q hq=>?_⟩;simp only[mem_map]at hq;obtain⟨r,_,rfl⟩:=hq;simp[Hv,BG,BK]
  ·exact LS
 ·exact LS
def Sm(l:List Int)(cat:List Res):∀ (n a:Nat),l.length-a≤n→(Jt l cat a).length≤n
 | 0,a,h=>by rw[Jt,dif_neg (by omega)];simp
 | n+1,a,h=>by
  rw[Jt];split
  ·rename_i hlt;have:=IZ l cat a hlt;have:=Sm l cat n (ES l cat a).2 (by omega);simp;omega
  ·simp
def Uy(l:List Int):(FT l).2.length≤l.length+4:=by
 have:=Sm l (Ck l 0).1 l.length (Er l (Ck l 0).2 4).2 (by omega);simp only[FT,length_append,Kw];omega
def f25_ok(l:List Int)(hl:l.length≤10000):Ad C0 25 [Q3 l] [] (.agg (Hk l).c) []:=by
 have h1:=PL l;have h2:=Uy l;have h3:=Yn (FT l).1 (by omega);refine Ad.go f25 ?_;unfold f25;refine gO ?_;refine Ae (f65_ok l (by omega)) ?_;refine gO ?_;refine Ae (f66_ok (FT l).1 (by omega)) ?_;refine gO ?_;refine Ae (f67_ok (NP (FT l).1).1 (FT l).2 h3 (by omega)) ?_;refine gO ?_;refine Cn _ ?_;simp(disch:=omega)only[go_sem,Hk]
def MV(x:Pcs):Need:={ proc:=x.proc,expr:=x.req.expr,gen:=x.gen }
def Ds(l:List Pcs):List Need:=(l.filter (·.waiting)).map MV
def VZ{l:List Pcs}{i:Nat}{b:Pcs}(hb:l[i]?=some b):Ds (l.take (i+1))=Ds (l.take i)++if b.waiting then [MV b] else []:=by
 unfold Ds;rw[tA,hb,toList_some,List.filter_append,map_append];cases h:b.waiting<;>simp[h]
def MW(l:List Pcs)(i:Nat):(Ds (l.take i)).length≤i:=by
 unfold Ds;rw[length_map];exact le_trans (List.length_filter_le _ _) (by simp;omega)
def ofM(c:Cen):WS:=if Cw c then ⟨c.Aa,Ds c.procs⟩ else ⟨[],[]⟩
def f26_ok(c:Cen)(h:D5 c.Aa):Ad C0 26 [.agg c.c] [] (.agg (ofM c).c) []:=by
 have hn:=h.n;refine Ad.go f26 ?_;unfold f26;refine gO ?_;refine Ae (f68_ok c h) ?_;cases hv:Cw c
 ·have ht:ofM c=⟨[],[]⟩:=by simp[ofM,hv]
  rw[ht];simp(disch:=omega)only[go_sem,zF];refine Cn _ ?_;simp(disch:=omega)only[go_sem,map_nil];exact .agg (Ai.AR gI)
 have hpl:c.procs.length≤8:=(Kf hv).je.n;have ht:ofM c=⟨c.Aa,Ds c.procs⟩:=by simp[ofM,hv]
 rw[ht];simp(disch:=omega)only[go_sem,zT];refine Ac (α:=Nat) (fun i=>⟨[(4,I i),(3,.ptr 192 0),(2,.ptr 128 0),(1,.ptr 64 0)],[(192,[.sl (.own 768 0) 8 (c.Aa.map Queue.c),.sl (.own 3200 0) 9 ((Ds (c.procs.take i)).map Need.c)]),(128,[.v (.slice none 0 0),.v (.slice none 0 0)]),(64,c.c)]⟩) (fun i=>i≤(c.procs).length∧True) (fun i=>(c.procs).length-i) 0 ⟨by omega,trivial⟩ ?_ ?_
 ·refine Imp.Ar ?_ ?_
  all_goals(try simp(disch:=omega)only[go_sem])
  all_goals(try(repeat'(with_reducible apply And.intro)))
  all_goals(first|exact .AO (by omega)|exact .AJ (by omega)|exact .sl (by simp[Ds])|exact .int (by simp[Ds])|exact .eq (by simp[Ds]))
 rintro i ⟨hi,hP⟩ J hJ;refine gO ?_;refine gR (l:=c.procs) hi (fun b hb hbm hlt=>?_) (fun hil=>?_)
 ·have hnl:=MW c.procs i;have htk:=VZ hb;generalize Ds (c.procs.take i)=ns at hnl htk ⊢;have hbd:ns.length+1≤4294967296:=by omega
  simp(disch:=omega)only[go_sem,gm,hb];cases hw:b.waiting
  ·rw[hw]at htk;simp only[false_eq_true,if_false,List.append_nil]at htk;simp(disch:=omega)only[go_sem,hw];refine hJ _ (i+1) ⟨by omega,trivial⟩ (by omega) (Imp.Ar ?_ ?_)
   all_goals(try simp(disch:=omega)only[go_sem])
   all_goals(try(repeat'(with_reducible apply And.intro)))
   all_goals(first|exact .AO (by omega)|exact .AJ (by omega)|exact .sl (by simp[htk])|exact .int (by simp[htk])|exact .eq (by simp[htk]))
  ·rw[hw]at htk;simp only[if_true]at htk;simp(disch:=omega)only[go_sem,hw];refine Aw 23 [([],[3]),([],[27]),([],[1]),([],[29]),([],[4]),([],[30,31]),([],[32]),([],[33]),([],[1]),([],[35]),([],[4]),([],[36,37]),([],[38]),([],[39]),([],[40]),([],[1]),([],[42]),([],[4]),([],[43,44]),([],[45]),([],[46]),([],[34,41,47]),([],[48])] fol ?_;simp(disch:=omega)only[go_sem,gm,hb];refine hJ _ (i+1) ⟨by omega,trivial⟩ (by omega) (Imp.Ar ?_ ?_)
   ·exact gI
   ·rw[htk];refine gO ?_;exact .sl (by rw[map_append];rfl)
 ·subst hil;rw[tL];refine Bd ⟨[],[],[768,3200]⟩ _ (by(try simp(disch:=omega)only[go_sem,Dp,JQ])<;>rfl) ⟨rfl,rfl⟩ (by simp[lk]) ?_ trivial;simp(disch:=omega)only[go_sem]
def U2(l:List Int):D5 (Hk l).Aa:=Ux _ _ (Yn _ (by rw[PL];omega))
def OX(c:Cen)(h:D5 c.Aa):Few (ofM c):=by
 unfold ofM;split
 ·rename_i hv;have hpl:c.procs.length≤8:=(Kf hv).je.n;have:=MW c.procs c.procs.length;rw[tL]at this;exact⟨h.n,by show (Ds c.procs).length≤100;omega,h.q⟩
 ·exact⟨by simp,by simp,by simp⟩
end Go.Rd
