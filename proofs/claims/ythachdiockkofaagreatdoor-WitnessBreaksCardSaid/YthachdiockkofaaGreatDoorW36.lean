/- part 36 of the proof -/
import Derived.Test.YthachdiockkofaaGreatDoorW33
import Derived.Test.YthachdiockkofaaGreatDoorW34
import Derived.Test.YthachdiockkofaaGreatDoorW35
set_option linter.all false
open Go Go.Abs Go.Proofs
set_option maxRecDepth 100000
namespace Go.Rd
set_option maxHeartbeats 8000000
open List (map_nil map_set mem_filterMap mem_map set_set take_length)
open Bool (and_eq_true false_eq_true)
open Tryz
def J4(w:Av)(i:Nat)(x:Pcs)(name:Bs):Av :=
 let w1:=CB w (Bi w.Aa x.proc ⟨name,⟨0,0⟩⟩).1 (Bi w.Aa x.proc ⟨name,⟨0,0⟩⟩).2.1
 AX w1 i (CF { x with led:=(HT x.led name).1 })
def E8(w:Av)(i:Nat)(x:Pcs)(name:Bs):Av × Int :=
 if x.waiting then (w,14) else if (AF x.led.entries name).mode==0&&(AF x.led.entries name).AA==0 then (w,10) else (B0 (J4 w i x name),0)
theorem f123_ok(Inv:Av→Prop)(hI:HO Inv)(w:Av)(i:Nat)(x:Pcs)(name:Bs)(hx:w.procs[i]?=some x)(hf:DZ w.Aa)
 (hc:x.waiting=false→Inv (J4 w i x name)) (hp:w.procs.length≤8) (hev:w.CL.length≤500000) :
 Ad C0 123 [.ptr 63 0,I i,.v (.string (str name))] [(63,w.c)] (I (E8 w i x name).2) [(63,(E8 w i x name).1.c)]:=by
 have hi:=At hx;refine Ad.go f123 ?_;unfold f123;simp(disch:=omega)only[go_sem,gm,hx];cases h1:x.waiting;rotate_left
 ·have ht:E8 w i x name=(w,14):=by simp[E8,h1]
  rw[ht];simp(disch:=omega)only[go_sem,h1];refine Ci ⟨[(0,0),(1,1)],[(63,63)],[]⟩ _ ?_ ?_
  ·exact gI
  ·exact gI
 have c2:=hc h1;simp(disch:=omega)only[go_sem,h1,gm,hx];refine Ac (f190_ok x.led.entries name) ?_;refine gO ?_;cases h2:((AF x.led.entries name).mode==0&&(AF x.led.entries name).AA==0);rotate_left
 ·have ht:E8 w i x name=(w,10):=by simp only[E8,h1,h2];rfl
  rw[ht];simp(disch:=omega)only[go_sem,h2];refine Ci ⟨[(0,0),(1,1)],[(63,63)],[]⟩ _ ?_ ?_
  ·exact gI
  ·exact gI
 have ht:E8 w i x name=(B0 (J4 w i x name),0):=by simp only[E8,h1,h2];rfl
 rw[ht];simp(disch:=omega)only[go_sem,h2];have k3:=Gz hf x.proc ⟨name,⟨0,0⟩⟩;refine Aq 23 [([],[0]),([],[34]),([],[35]),([],[36]),([],[37]),([],[0]),([],[39]),([],[40]),([],[41]),([],[42]),([],[1]),([],[43,44]),([],[45]),([],[46]),([],[2]),([],[48]),([],[38,47,49]),([16],[50]),([16],[33]),([16],[33]),([16],[33]),([16],[51]),([16],[52])] fol ?_;simp(disch:=omega)only[go_sem,gm,hx]
 first|(refine Ac (f192_ok w.Aa x.proc ⟨name,⟨0,0⟩⟩ hf) ?_)|(refine Ar (f192_ok w.Aa x.proc ⟨name,⟨0,0⟩⟩ hf) ?_)
 refine gO ?_;refine call2 ⟨⟨[(0,0),(1,1)],[(63,63)],[]⟩,[],[]⟩ (f184_ok w (Bi w.Aa x.proc ⟨name,⟨0,0⟩⟩).1 (Bi w.Aa x.proc ⟨name,⟨0,0⟩⟩).2.1 (by omega)) ?_;have e1:J4 w i x name=AX (CB w (Bi w.Aa x.proc ⟨name,⟨0,0⟩⟩).1 (Bi w.Aa x.proc ⟨name,⟨0,0⟩⟩).2.1) i (CF { x with led:=(HT x.led name).1 }):=rfl;have e2:(CB w (Bi w.Aa x.proc ⟨name,⟨0,0⟩⟩).1 (Bi w.Aa x.proc ⟨name,⟨0,0⟩⟩).2.1).procs=w.procs:=rfl;have e3:(CB w (Bi w.Aa x.proc ⟨name,⟨0,0⟩⟩).1 (Bi w.Aa x.proc ⟨name,⟨0,0⟩⟩).2.1).CL.length=w.CL.length+(Bi w.Aa x.proc ⟨name,⟨0,0⟩⟩).2.1.length:=by simp[CB]
 generalize CB w (Bi w.Aa x.proc ⟨name,⟨0,0⟩⟩).1 (Bi w.Aa x.proc ⟨name,⟨0,0⟩⟩).2.1=w1 at e1 e2 e3 ⊢;refine gO ?_;rw[← e2]at hx hi;refine D7 (st':=⟨[(0,.ptr 63 0),(1,I i),(2,.v (.string (str name)))],[(63,w1.c)]⟩) AR ?_;refine P8 20 [([],[0]),([0],[59]),([0,1],[60]),([0,1,2],[61]),([0,1,2,3],[62]),([],[1]),([],[0]),([6],[65]),([6,7],[66]),([6,7,8],[67]),([6,7,8,9],[68]),([],[1]),([6,7,8,9,10,11],[69,70]),([6,7,8,9,10,11,12],[71]),([6,7,8,9,10,11,12,13],[72]),([],[2]),([6,7,8,9,10,11,12,13,14,15],[73,74]),([6,7,8,9,10,11,12,13,14,15,16],[75]),([6,7,8,9,10,11,12,13,14,15,16,17],[58]),([6,7,8,9,10,11,12,13,14,15,16,17],[58]),([0,1,2,3,4,5,6,7,8,9,10,11,12,13,14,15,16,17,18],[]),([0,1,2,3,4,5,6,7,8,9,10,11,12,13,14,15,16,17,18,20],[]),([0,1,2,3,4,5,6,7,8,9,10,11,12,13,14,15,16,17,18,20,21],[])] [19] [63,64,76,58,0,1,2] fol (by kernel_rfl) ?_;simp(disch:=omega)only[go_sem,gm,hx]
 first|(refine Ac (f193_ok x.led name) ?_)|(refine Ar (f193_ok x.led name) ?_)
 simp(disch:=omega)only[go_sem,gm,hx];have hx5:(AX w1 i { x with led:=(HT x.led name).1 }).procs[i]?=some { x with led:=(HT x.led name).1 }:=by simp[AX,hi]
 refine call2 ⟨⟨[(0,0),(1,1)],[(63,63)],[]⟩,[],[]⟩ (f121_ok (AX w1 i { x with led:=(HT x.led name).1 }) i _ hx5) ?_ (hh:=?_);rotate_left
 ·simp only[AX];refine gO ?_;exact .sl (by simp only[map_set,set_set];rfl)
 have e4:AX (AX w1 i { x with led:=(HT x.led name).1 }) i (CF { x with led:=(HT x.led name).1 })=J4 w i x name:=by rw[e1];simp[AX]
 rw[e4];have e5:(J4 w i x name).CL.length≤w.CL.length+101:=by rw[e1];simp only[AX];omega
 have e6:=HM (J4 w i x name);have e7:=(hI.few _ c2).2.1;refine gO ?_;refine call2 ⟨⟨[(0,0),(1,1)],[(63,63)],[]⟩,[],[]⟩ (f122_ok Inv hI (J4 w i x name) c2 (by omega)) ?_;refine gO ?_;refine Ci ⟨[(0,0),(1,1)],[(63,63)],[]⟩ _ ?_ ?_
 ·exact gI
 ·exact gI
def HQ(w:Av)(p:Ae)(a:Atom):Av:=match Cg w.Aa a.name with
 |none=>w
 |some k=>if decide (AB (w.Aa.getD k q0).holds p=a.amt) then w else CB w (Bi w.Aa p a).1 (Bi w.Aa p a).2.1
def CG(w:Av)(p:Ae)(az:List Atom):Av:=az.foldl (fun w a=>HQ w p a) w
theorem Kk{w:Av}{p:Ae}{az:List Atom}{i:Nat}{b:Atom}(hb:az[i]?=some b):CG w p (az.take (i+1))=HQ (CG w p (az.take i)) p b:=by
 simp[CG,List.take_add_one,hb,List.foldl_append]
theorem TX(w:Av)(p:Ae)(a:Atom):(HQ w p a).procs=w.procs:=by
 unfold HQ;split
 ·rfl
 ·split<;>rfl
theorem FV(w:Av)(p:Ae):∀ az:List Atom,(CG w p az).procs=w.procs
 |[]=>rfl
 | a::az=>by
  show (CG (HQ w p a) p az).procs=w.procs;rw[FV,TX]
def SH(w:Av)(p:Ae)(az:List Atom):Prop:=∀ i b,az[i]?=some b→DZ (CG w p (az.take i)).Aa∧∃ k,Cg (CG w p (az.take i)).Aa b.name=some k
theorem Xt{w:Av}{p:Ae}{a:Atom}(h:DZ w.Aa):(HQ w p a).CL.length≤w.CL.length+101:=by
 have:=Gz h p a;unfold HQ;split
 ·omega
 ·split
  ·omega
  ·simp only[CB,List.length_append];omega
theorem HR{w:Av}{p:Ae}{az:List Atom}(h:SH w p az):∀ i,i≤az.length→(CG w p (az.take i)).CL.length≤w.CL.length+101*i
 | 0,_=>by simp[CG]
 | i+1,hi=>by
  obtain⟨b,hb⟩:∃ b,az[i]?=some b:=⟨_,gE (by omega)⟩;have h1:=HR h i (by omega);have h2:=Xt (p:=p) (a:=b) (h i b hb).1;rw[Kk hb];omega
def Ge(w:Av)(i:Nat)(x:Pcs):Av:=if x.waiting then A5 w i x else w
def Fq(x:Pcs):Pcs:=if x.waiting then BV x else x
def Gx(x:Pcs)(l:Ledger):Pcs:={ x with led:=l }
def PM(w:Av)(i:Nat)(x:Pcs)(label:Int):Av :=
 AX (CG (AX (Ge w i x) i (Gx (Fq x) (Cx x.led label).1)) (Fq x).proc (Cx x.led label).2.1) i (CF (Gx (Fq x) (Cx x.led label).1))
def Fl(w:Av)(i:Nat)(x:Pcs)(label:Int):Av × Int :=
 if (Cx x.led label).2.2=0 then (B0 (PM w i x label),0) else (w,(Cx x.led label).2.2)
theorem f125_ok(Inv:Av→Prop)(hI:HO Inv)(w:Av)(i:Nat)(x:Pcs)(label:Int)(hx:w.procs[i]?=some x)
 (hd:x.waiting=true→L3 w x (Ag x.req.expr))
 (hc:(Cx x.led label).2.2=0→SH (AX (Ge w i x) i (Gx (Fq x) (Cx x.led label).1)) (Fq x).proc (Cx x.led label).2.1∧Inv (PM w i x label))
 (hl:(Cx x.led label).2.1.length≤1000) (hp:w.procs.length≤8) (hev:w.CL.length≤500000) :
 Ad C0 125 [.ptr 63 0,I i,I label] [(63,w.c)] (I (Fl w i x label).2) [(63,(Fl w i x label).1.c)]:=by
 have hi:=At hx;refine Ad.go f125 ?_;unfold f125;simp(disch:=omega)only[go_sem,gm,hx];refine Ac (f195_ok x.led label) ?_;refine gO ?_
 by_cases h1:(Cx x.led label).2.2=0
 rotate_left
 ·have ht:Fl w i x label=(w,(Cx x.led label).2.2):=by simp[Fl,h1]
  rw[ht];have h1':((Cx x.led label).2.2 !=0)=true:=by simpa using h1
  simp(disch:=omega)only[go_sem,h1'];refine Ci ⟨[(0,0),(1,1)],[(63,63)],[]⟩ _ ?_ ?_
  ·exact gI
  ·exact gI
 obtain⟨c1,c2⟩:=hc h1;have ht:Fl w i x label=(B0 (PM w i x label),0):=by simp[Fl,h1]
 rw[ht];simp(disch:=omega)only[go_sem,h1,gm,hx];cases h2:x.waiting
 ·simp(disch:=omega)only[go_sem,h2];obtain⟨w3,hw3⟩:∃ w3,w3=Ge w i x:=⟨_,rfl⟩;obtain⟨y,hy⟩:∃ y,y=Fq x:=⟨_,rfl⟩;have hx3:w3.procs[i]?=some y:=by rw[hw3,hy];simp[Ge,Fq,h2,hx]
  have he3:w3.CL.length≤w.CL.length+1608:=by
   rw[hw3];simp only[Ge,h2];simp
  have hi3:=At hx3;unfold PM at c2 ⊢;rw[← hw3,← hy]at c1 c2 ⊢;have hww:w3=w:=by rw[hw3];simp[Ge,h2]
  rw[← hww];have hyx:y=x:=by rw[hy];simp[Fq,h2]
  clear hw3 hy hd hc ht;subst hyx;generalize (Cx y.led label).2.1=az at c1 c2 hl ⊢;generalize (Cx y.led label).1=led at c1 c2 ⊢;refine Aq 7 [([],[0]),([],[54]),([],[55]),([],[56]),([],[57]),([],[1]),([],[7])] fol ?_;simp(disch:=omega)only[go_sem,gm,hx3];obtain⟨o,rfl⟩:∃ o,o=i:=⟨i,rfl⟩;have he4:(AX w3 o (Gx y led)).CL.length=w3.CL.length:=rfl;have hx4:(AX w3 o (Gx y led)).procs[o]?=some (Gx y led):=by simp[AX,hi3]
  refine Ab (α:=Nat) (fun i=>⟨[(11,I i),(8,Bv az),(0,.ptr 63 0),(1,I o),(10,.ptr 640 0)],[(63,(CG (AX w3 o (Gx y led)) y.proc (az.take i)).c),(640,y.proc.c)]⟩) (fun i=>i≤az.length) (fun i=>az.length-i) 0 (Nat.zero_le _) ?_ ?_
  ·simp only[List.take_zero,CG,List.foldl_nil,AX];exact Imp.Am gI (by simp(disch:=omega)only[go_sem];exact .sl (by simp only[map_set,set_set];rfl))
  generalize AX w3 o (Gx y led)=w4 at c1 c2 he4 hx4 ⊢;clear hx3 hi3;intro i hi2 J hJ;refine gO ?_;refine ⟨fun hlt=>?_,fun hge=>?_⟩
  ·obtain⟨b,hb⟩:∃ b,az[i]?=some b:=⟨_,gE (by simp at hlt;omega)⟩;have hlt2:i<az.length:=At hb;obtain⟨g5,k,hk⟩:=c1 i b hb;have g1:=HR c1 i hi2;have g2:=Gz g5 y.proc b;have g4:=Kk (w:=w4) (p:=y.proc) hb;generalize CG w4 y.proc (az.take i)=w5 at g1 g2 g4 g5 hk ⊢;obtain⟨hk0,q,hq,_⟩:=Dk hk;have hgq:w5.Aa.getD k q0=q:=by simp[List.getD,hq]
   have g6:HQ w5 y.proc b=if decide (AB q.holds y.proc=b.amt) then w5 else CB w5 (Bi w5.Aa y.proc b).1 (Bi w5.Aa y.proc b).2.1:=by unfold HQ;rw[hk];simp only[hgq]
   obtain⟨q1,q2,q3⟩:=Bb (g5.q q (mG hq));have hn5:=g5.n;refine Aq 25 [([],[0]),([],[69]),([],[70]),([],[71]),([],[72]),([],[0]),([],[74]),([],[75]),([],[76]),([],[77]),([],[8]),([],[11]),([],[79,80]),([],[81]),([],[82]),([],[78,83]),([15],[73,84]),([15],[85]),([],[10]),([15],[86,87]),([],[8]),([],[11]),([],[89,90]),([],[91]),([],[92])] fol ?_;simp(disch:=omega)only[go_sem,gm,hb]
   first|(refine Ac (I2 w5.Aa b.name (by omega)) ?_)|(refine Ar (I2 w5.Aa b.name (by omega)) ?_)
   simp(disch:=omega)only[go_sem,hk,atI,gm,hq]
   first|(refine Ac (f163_ok q y.proc q1) ?_)|(refine Ar (f163_ok q y.proc q1) ?_)
   simp(disch:=omega)only[go_sem,gm,hb];cases hH:decide (AB q.holds y.proc=b.amt)
   ·rw[hH]at g6;simp only[false_eq_true,if_false]at g6;simp(disch:=omega)only[go_sem,hH,Bool.not_false];refine Aq 17 [([],[0]),([],[96]),([],[97]),([],[98]),([],[99]),([],[10]),([],[8]),([],[11]),([],[102,103]),([],[104]),([],[100,101,105]),([10],[106]),([10],[95]),([10],[95]),([10],[95]),([10],[107]),([10],[108])] fol ?_;simp(disch:=omega)only[go_sem,gm,hb]
    first|(refine Ac (f192_ok w5.Aa y.proc b g5) ?_)|(refine Ar (f192_ok w5.Aa y.proc b g5) ?_)
    refine gO ?_;refine call2 ⟨⟨[(0,0),(1,1)],[(63,63)],[]⟩,[],[]⟩ (f184_ok w5 (Bi w5.Aa y.proc b).1 (Bi w5.Aa y.proc b).2.1 (by omega)) ?_;rw[← g6,← g4];refine gO ?_;exact hJ _ (i+1) (by omega) (by omega) AR
   ·rw[hH,if_pos rfl]at g6;simp(disch:=omega)only[go_sem,hH,Bool.not_true];refine hJ _ (i+1) (by omega) (by omega) (Imp.Am gI ?_);rw[g4,g6];simp(disch:=omega)only[go_sem]
  ·have hil:i=az.length:=by simp at hge;omega
   subst hil;rw[take_length];have g1:=HR c1 _ (Nat.le_refl _);rw[take_length]at g1;have g3:(CG w4 y.proc az).procs[o]?=some (Gx y led):=by rw[FV];exact hx4
   refine call2 ⟨⟨[(0,0),(1,1)],[(63,63)],[]⟩,[],[]⟩ (f121_ok (CG w4 y.proc az) o (Gx y led) g3) ?_;have g7:(AX (CG w4 y.proc az) o (CF (Gx y led))).CL.length=(CG w4 y.proc az).CL.length:=rfl;generalize AX (CG w4 y.proc az) o (CF (Gx y led))=w6 at c2 g7 ⊢;have k2:=(hI.few _ c2).2.1;have k4:=HM w6;refine gO ?_;refine call2 ⟨⟨[(0,0),(1,1)],[(63,63)],[]⟩,[],[]⟩ (f122_ok Inv hI w6 c2 (by omega)) ?_;refine gO ?_;refine Ci ⟨[(0,0),(1,1)],[(63,63)],[]⟩ _ ?_ ?_
   ·exact gI
   ·exact gI
 ·simp(disch:=omega)only[go_sem,h2];obtain⟨w3,hw3⟩:∃ w3,w3=Ge w i x:=⟨_,rfl⟩;obtain⟨y,hy⟩:∃ y,y=Fq x:=⟨_,rfl⟩;have hx3:w3.procs[i]?=some y:=by rw[hw3,hy];simp[Ge,Fq,h2,Dh,hi]
  have he3:w3.CL.length≤w.CL.length+1608:=by
   rw[hw3];simp only[Ge,h2];have:=IN (i:=i) (hd h2);simpa using this
  have hi3:=At hx3;unfold PM at c2 ⊢;rw[← hw3,← hy]at c1 c2 ⊢;refine call2 ⟨⟨[(0,0),(1,1)],[(63,63)],[]⟩,[],[]⟩ (f120_ok w i x hx (hd h2) (by omega)) ?_;rw[show A5 w i x=w3 by rw[hw3];simp[Ge,h2]];clear hw3 hy hd hc ht;generalize (Cx x.led label).2.1=az at c1 c2 hl ⊢;generalize (Cx x.led label).1=led at c1 c2 ⊢;simp(disch:=omega)only[go_sem,gm,hx3];refine Aq 7 [([],[0]),([],[54]),([],[55]),([],[56]),([],[57]),([],[1]),([],[7])] fol ?_;simp(disch:=omega)only[go_sem,gm,hx3];obtain⟨o,rfl⟩:∃ o,o=i:=⟨i,rfl⟩;have he4:(AX w3 o (Gx y led)).CL.length=w3.CL.length:=rfl;have hx4:(AX w3 o (Gx y led)).procs[o]?=some (Gx y led):=by simp[AX,hi3]
  refine Ab (α:=Nat) (fun i=>⟨[(11,I i),(8,Bv az),(0,.ptr 63 0),(1,I o),(10,.ptr 640 0)],[(63,(CG (AX w3 o (Gx y led)) y.proc (az.take i)).c),(640,y.proc.c)]⟩) (fun i=>i≤az.length) (fun i=>az.length-i) 0 (Nat.zero_le _) ?_ ?_
  ·simp only[List.take_zero,CG,List.foldl_nil,AX];exact Imp.Am gI (by simp(disch:=omega)only[go_sem];exact .sl (by simp only[map_set,set_set];rfl))
  generalize AX w3 o (Gx y led)=w4 at c1 c2 he4 hx4 ⊢;clear hx3 hi3;intro i hi2 J hJ;refine gO ?_;refine ⟨fun hlt=>?_,fun hge=>?_⟩
  ·obtain⟨b,hb⟩:∃ b,az[i]?=some b:=⟨_,gE (by simp at hlt;omega)⟩;have hlt2:i<az.length:=At hb;obtain⟨g5,k,hk⟩:=c1 i b hb;have g1:=HR c1 i hi2;have g2:=Gz g5 y.proc b;have g4:=Kk (w:=w4) (p:=y.proc) hb;generalize CG w4 y.proc (az.take i)=w5 at g1 g2 g4 g5 hk ⊢;obtain⟨hk0,q,hq,_⟩:=Dk hk;have hgq:w5.Aa.getD k q0=q:=by simp[List.getD,hq]
   have g6:HQ w5 y.proc b=if decide (AB q.holds y.proc=b.amt) then w5 else CB w5 (Bi w5.Aa y.proc b).1 (Bi w5.Aa y.proc b).2.1:=by unfold HQ;rw[hk];simp only[hgq]
   obtain⟨q1,q2,q3⟩:=Bb (g5.q q (mG hq));have hn5:=g5.n;refine Aq 25 [([],[0]),([],[69]),([],[70]),([],[71]),([],[72]),([],[0]),([],[74]),([],[75]),([],[76]),([],[77]),([],[8]),([],[11]),([],[79,80]),([],[81]),([],[82]),([],[78,83]),([15],[73,84]),([15],[85]),([],[10]),([15],[86,87]),([],[8]),([],[11]),([],[89,90]),([],[91]),([],[92])] fol ?_;simp(disch:=omega)only[go_sem,gm,hb]
   first|(refine Ac (I2 w5.Aa b.name (by omega)) ?_)|(refine Ar (I2 w5.Aa b.name (by omega)) ?_)
   simp(disch:=omega)only[go_sem,hk,atI,gm,hq]
   first|(refine Ac (f163_ok q y.proc q1) ?_)|(refine Ar (f163_ok q y.proc q1) ?_)
   simp(disch:=omega)only[go_sem,gm,hb];cases hH:decide (AB q.holds y.proc=b.amt)
   ·rw[hH]at g6;simp only[false_eq_true,if_false]at g6;simp(disch:=omega)only[go_sem,hH,Bool.not_false];refine Aq 17 [([],[0]),([],[96]),([],[97]),([],[98]),([],[99]),([],[10]),([],[8]),([],[11]),([],[102,103]),([],[104]),([],[100,101,105]),([10],[106]),([10],[95]),([10],[95]),([10],[95]),([10],[107]),([10],[108])] fol ?_;simp(disch:=omega)only[go_sem,gm,hb]
    first|(refine Ac (f192_ok w5.Aa y.proc b g5) ?_)|(refine Ar (f192_ok w5.Aa y.proc b g5) ?_)
    refine gO ?_;refine call2 ⟨⟨[(0,0),(1,1)],[(63,63)],[]⟩,[],[]⟩ (f184_ok w5 (Bi w5.Aa y.proc b).1 (Bi w5.Aa y.proc b).2.1 (by omega)) ?_;rw[← g6,← g4];refine gO ?_;exact hJ _ (i+1) (by omega) (by omega) AR
   ·rw[hH,if_pos rfl]at g6;simp(disch:=omega)only[go_sem,hH,Bool.not_true];refine hJ _ (i+1) (by omega) (by omega) (Imp.Am gI ?_);rw[g4,g6];simp(disch:=omega)only[go_sem]
  ·have hil:i=az.length:=by simp at hge;omega
   subst hil;rw[take_length];have g1:=HR c1 _ (Nat.le_refl _);rw[take_length]at g1;have g3:(CG w4 y.proc az).procs[o]?=some (Gx y led):=by rw[FV];exact hx4
   refine call2 ⟨⟨[(0,0),(1,1)],[(63,63)],[]⟩,[],[]⟩ (f121_ok (CG w4 y.proc az) o (Gx y led) g3) ?_;have g7:(AX (CG w4 y.proc az) o (CF (Gx y led))).CL.length=(CG w4 y.proc az).CL.length:=rfl;generalize AX (CG w4 y.proc az) o (CF (Gx y led))=w6 at c2 g7 ⊢;have k2:=(hI.few _ c2).2.1;have k4:=HM w6;refine gO ?_;refine call2 ⟨⟨[(0,0),(1,1)],[(63,63)],[]⟩,[],[]⟩ (f122_ok Inv hI w6 c2 (by omega)) ?_;refine gO ?_;refine Ci ⟨[(0,0),(1,1)],[(63,63)],[]⟩ _ ?_ ?_
   ·exact gI
   ·exact gI
theorem OG{x:Pcs}{a:Nat}(hv:Bk x.led=true):∀ (az:List Atom) (w:Av),EZ w.Aa→My w.Aa x→bO w.Aa x a→(∀ b∈az,(∃ e∈x.led.entries,e.name=b.name)∧b.amt=AF (x.led.entries.take a) b.name) →
 SH w x.proc az∧FM x.proc w.Aa (CG w x.proc az).Aa
 |[],w,h,_,_,_=>⟨fun i b hb=>by simp at hb,.refl h⟩
 | b::az,w,h,hf,hr,hb=>by
  obtain⟨hb1,hb2⟩:=hb b (by simp);obtain⟨k,q,f1,f2,f3,f4⟩:=hf b.name hb1;have hg:w.Aa.getD k q0=q:=by simp[List.getD,f2]
  obtain⟨r1,r2⟩:=hr q (mG f2);have key:FM x.proc w.Aa (HQ w x.proc b).Aa∧bO (HQ w x.proc b).Aa x a:=by
   unfold HQ;simp only[f1,hg];split
   ·exact⟨.refl h,hr⟩
   ·rename_i hne;have hne:AB q.holds x.proc≠b.amt:=by simpa using hne
    have hh:AB q.holds x.proc=AF x.led.entries b.name:=by
     rcases r2 with r2|r2
     ·rw[r2,f3]
     ·rw[f3,← hb2]at r2;exact absurd r2 hne
    obtain⟨q1,e1,hs,hqr,g1,g2⟩:=KP (a:=b) h f1 f2 r1 (by rw[hh];exact Hv f4) (by rw[hh,hb2];exact XX f4 (X1 hv b.name a));simp only[CB];rw[e1];refine⟨hs,fun q' hq'=>?_⟩;rcases El (q:=q) hq' with rfl|⟨j,_,hj⟩
    ·exact⟨g1,.inr (by rw[g2,hb2,hqr,f3])⟩
    ·exact hr q' (mG hj)
  obtain⟨g1,g2⟩:=OG hv az (HQ w x.proc b) key.1.tab (hf.res key.1.res) key.2 fun c hc=>hb c (by simp[hc])
  refine⟨fun i c hc=>?_,key.1.trans g2⟩;cases i with
  | zero =>
   simp at hc;subst hc;exact⟨Da h,k,f1⟩
  | succ i=>exact g1 i c (by simpa using hc)
theorem Xw(x:Pcs):(Fq x).proc=x.proc∧(Fq x).waiting=false∧(Fq x).led=x.led:=by
 unfold Fq;cases hw:x.waiting
 ·exact⟨rfl,hw,rfl⟩
 ·exact⟨rfl,rfl,rfl⟩
theorem au{l:Ledger}{label:Int}(h:(Cx l label).2.2=0):Bk l=true∧∃ a n,(Cx l label).2.1=Q1 l a∧(Cx l label).1=Rb l a n:=by
 unfold Cx at h ⊢;split at h
 ·simp at h
 ·rename_i hv;refine⟨by simpa using hv,?_⟩;cases hb:OF l label with
  |none=>rw[hb]at h;simp at h
  |some p=>obtain⟨a,n⟩:=p;exact⟨a,n,by simp[hv],by simp[hv]⟩
theorem Rz{w:Av}{i:Nat}{x:Pcs}{label:Int}(h:JE none w)(hx:w.procs[i]?=some x)(hf:My w.Aa x)(hi:x.waiting=false→Idle w.Aa x)(hpt:x.waiting=true→∀ q∈w.Aa,(∀ a∈Ag x.req.expr,q.res.name≠a.name)→KF q x.proc (AF x.led.entries q.res.name))
 (h0:(Cx x.led label).2.2=0):SH (AX (Ge w i x) i (Gx (Fq x) (Cx x.led label).1)) (Fq x).proc (Cx x.led label).2.1∧JE none (PM w i x label):=by
 obtain⟨hv,a,n,e1,e2⟩:=au h0;obtain⟨p1,p2,p3⟩:=Xw x;have hli:=At hx;have hcalm:JE none (Ge w i x)∧(Ge w i x).procs[i]?=some (Fq x)∧(∀ q∈(Ge w i x).Aa,KF q x.proc (AF x.led.entries q.res.name))∧(Ge w i x).Aa.map (·.res)=w.Aa.map (·.res):=by
  unfold Ge Fq;cases hw:x.waiting
  ·exact⟨h,hx,hi hw,rfl⟩
  ·simp only[if_true];obtain⟨_,g1,g2⟩:=EI h hx hw;have hg:=h.good i x hx (by simp) hw;have hres:=(Kv (Ag x.req.expr) w h.tab hg.k hg.fd).2.1.res;refine⟨g1,by rw[Dh];simp[hli],fun q hq=>?_,hres⟩;rcases g2 q hq with g|⟨g,gn⟩
   ·exact g
   ·exact hpt hw q g gn
 obtain⟨c1,c2,c3,c4⟩:=hcalm;obtain⟨w1,hw1⟩:∃ w1,w1=AX (Ge w i x) i (Gx (Fq x) (Cx x.led label).1):=⟨_,rfl⟩;have d1:JE (some i) w1:=by rw[hw1];exact(c1.but i).set' c2 rfl
 have d2:w1.Aa=(Ge w i x).Aa:=by rw[hw1];rfl
 have d3:w1.procs[i]?=some (Gx (Fq x) (Cx x.led label).1):=by rw[hw1];simp[AX,At c2]
 obtain⟨g1,g2⟩:=OG (a:=a) hv (Q1 x.led a) w1 d1.tab (by rw[d2];exact hf.res c4) (fun q hq=>by
  rw[d2]at hq;exact⟨(c3 q hq).1,.inl (c3 q hq).2⟩) (fun b hb=>by
  simp only[Q1,mem_map]at hb;obtain⟨m,hm,rfl⟩:=hb;obtain⟨e,he,hn⟩:=(QE _ _).1 hm;exact⟨⟨e,List.mem_of_mem_drop he,hn⟩,rfl⟩)
 unfold PM;rw[← hw1,p1,e1];refine⟨g1,?_⟩;have d4:(Gx (Fq x) (Cx x.led label).1).proc=x.proc:=p1;exact JE.set (z:=Gx (Fq x) (Cx x.led label).1) (d1.step d3 (FV _ _ _) (d4▸g2)) (by rw[FV];exact d3) rfl (fun e=>by simp[CF,Gx,p2]at e)
theorem Qk{w:Av}{i:Nat}{x:Pcs}{name:Bs}(h:JE none w)(hx:w.procs[i]?=some x)(hw:x.waiting=false):Q4 (J4 w i x name):=by
 rcases Wa x.proc ⟨name,⟨0,0⟩⟩ h.tab with hl|hs
 ·refine .inr ⟨hl,by simpa [J4,AX,CB]using h.n,fun z hz hzw=>?_⟩;simp only[J4,AX,CB]at hz;rcases List.mem_or_eq_of_mem_set hz with hz|rfl
  ·exact h.reqs z hz hzw
  ·simp[CF,hw]at hzw
 ·refine .inl ?_;unfold J4;exact JE.set (w:=CB w (Bi w.Aa x.proc ⟨name,⟨0,0⟩⟩).1 (Bi w.Aa x.proc ⟨name,⟨0,0⟩⟩).2.1) ((h.but i).step hx rfl hs) hx rfl (fun e=>by simp[CF,hw]at e)
theorem X7{r:Res}{a:Amt}(ha:r.fits a=true)(hc:r.covers ⟨0,0⟩ a=false):ES r ⟨0,0⟩ a=a:=by
 have hs:=(Ct ha).1;have p1:r.permits ⟨0,0⟩=true:=by simp[Res.permits,hs,Amt.zero]
 have p2:r.permits a=true:=by simp[Res.permits,hs,ha]
 unfold ES;simp only[p1,p2,hc,Bool.and_self,Bool.not_true,false_eq_true,if_false,Ii ha,if_true]
theorem Wl{q:Queue}{x:Pcs}(hl:AF x.led.entries q.res.name=⟨0,0⟩∨q.res.fits (AF x.led.entries q.res.name)=true):∀ (az:List Atom),(∀ a∈az,a.name=q.res.name→q.res.fits a.amt=true)→Gi q x az=true→Kq q x.proc (AF x.led.entries q.res.name)
 |[],_,h=>by
  simp only[Gi,and_eq_true,decide_eq_true_eq,Bool.not_eq_true']at h;exact KF.k ⟨FD h.2,h.1⟩
 | a::az,hf,h=>by
  unfold Gi at h;split at h
  ·exact Wl hl az (fun b hb=>hf b (by simp[hb])) h
  rename_i hn;have hn:a.name=q.res.name:=by simpa using hn
  have hfa:=hf a (by simp) hn;split at h
  ·exact Wl hl az (fun b hb=>hf b (by simp[hb])) h
  rename_i hc;have hc:q.res.covers (AF x.led.entries q.res.name) a.amt=false:=by simpa using hc
  split at h
  ·rename_i hw;have hw:=FD (by simpa using hw);have hg:AB q.holds x.proc=ES q.res (AF x.led.entries q.res.name) a.amt:=by simpa using h
   refine⟨fun hh=>by rw[hw]at hh;simp at hh,.inr ?_⟩;rw[hg];rcases hl with hl|hl
   ·rw[hl]at hc ⊢;rw[X7 hfa hc];exact⟨Hv hfa,Ii hfa⟩
   ·obtain⟨j1,j2,_⟩:=Qq hl hfa hc;exact⟨Hv j1,j2⟩
  ·split at h
   ·cases h
   ·simp only[and_eq_true,decide_eq_true_eq]at h;exact⟨fun _=>h.1,.inl h.1⟩
theorem ZX{q:Queue}{x:Pcs}:∀ (az:List Atom),(∀ a∈az,q.res.name≠a.name)→Gi q x az=true→KF q x.proc (AF x.led.entries q.res.name)
 |[],_,h=>by
  simp only[Gi,and_eq_true,decide_eq_true_eq,Bool.not_eq_true']at h;exact⟨FD h.2,h.1⟩
 | a::az,hf,h=>by
  unfold Gi at h;rw[if_pos (by simpa using Ne.symm (hf a (by simp)))]at h;exact ZX az (fun b hb=>hf b (by simp[hb])) h
theorem LU{l:List Res}:∀ {az:List Atom},F8 l az=0→∀ a∈az,FC l a=0
 |[],_,a,ha=>by cases ha
 | b::az,h,a,ha=>by
  simp only[F8]at h;split at h
  ·rename_i hb;rcases List.mem_cons.1 ha with rfl|ha
   ·exact hb
   ·exact LU h a ha
  ·rename_i hb;exact absurd h hb
theorem Hy{t:List Queue}(ht:EZ t){e:Expr}(h:CZ (Gd t) e=0){a:Atom}(ha:a∈Ag e):∃ k q,Cg t a.name=some k∧t[k]?=some q∧q.res.name=a.name∧q.res.fits a.amt=true:=by
 unfold CZ at h;split at h
 ·have:=LU h a ha;unfold FC at this;split at this
  ·simp at this
  ·cases hr:OV (Gd t) a.name with
   |none=>rw[hr]at this;simp at this
   |some r =>
    rw[hr]at this;simp only at this;split at this
    ·rename_i hf;unfold OV at hr;have hm:=List.mem_of_find?_eq_some hr;have hn:r.name=a.name:=by simpa using List.find?_some hr
     simp only[Gd,mem_map]at hm;obtain⟨q,hq,rfl⟩:=hm;obtain⟨k,hk⟩:=List.getElem?_of_mem hq;exact⟨k,q,by rw[← hn];exact Ui ht hk,hk,hn,hf⟩
    ·simp at this
 ·simp at h
structure Fit(w:Av):Prop where
 je:JE none w
 idle:∀ x∈w.procs,x.waiting=false→Idle w.Aa x
 wait:∀ x∈w.procs,x.waiting=true→∀ q∈w.Aa,(∀ a∈Ag x.req.expr,q.res.name≠a.name)→KF q x.proc (AF x.led.entries q.res.name)
 fits:∀ x∈w.procs,My w.Aa x
 led:∀ x∈w.procs,Bk x.led=true
 now:0≤w.now∧w.now≤1073741824
 ev:w.CL=[]
theorem LB{l:List Pcs}(h:∀ i x,l[i]?=some x→(decide (i=0)||decide (Bo (l.getD (i-1) x0).proc x.proc<0))=true):∀ d i x y,l[i]?=some x→l[i+d+1]?=some y→Bo x.proc y.proc<0
 | 0,i,x,y,hx,hy=>by
  have:=h (i+1) y hy;have hd:l.getD (i+1-1) x0=x:=by simp[List.getD,hx]
  rw[hd]at this;simpa using this
 | d+1,i,x,y,hx,hy=>by
  have hlt:=At hy;obtain⟨z,hz⟩:∃ z,l[i+d+1]?=some z:=⟨_,gE (by omega)⟩;have h1:=LB h d i x z hx hz;have h2:=h (i+(d+1)+1) y hy;have hd:l.getD (i+(d+1)+1-1) x0=z:=by simp[List.getD,show i+(d+1)+1-1=i+d+1 by omega,hz]
  rw[hd]at h2;exact Dt h1 (by simpa using h2)
theorem aU{t:List Queue}{x:Pcs}(hv:Bk x.led=true)(h:(Fz x.led).all (F2 t)=true):My t x:=fun n hn=>by
 have h1:=(Sd hv hn).1;have h2:=List.all_eq_true.1 h _ h1;unfold F2 at h2;simp only at h2;cases hf:Cg t n with
 |none=>rw[hf]at h2;cases h2
 |some k =>
  rw[hf]at h2;obtain⟨_,q,hq,hnm⟩:=Dk hf;have hg:t.getD k q0=q:=by simp[List.getD,hq]
  simp only[hg]at h2;exact⟨k,q,rfl,hq,hnm,h2⟩
theorem XS{t:List Queue}(ht:EZ t){x:Pcs}(h:My t x){q:Queue}(hq:q∈t):AF x.led.entries q.res.name=⟨0,0⟩∨q.res.fits (AF x.led.entries q.res.name)=true:=by
 by_cases hn:∃ e∈x.led.entries,e.name=q.res.name
 ·obtain⟨k,q',h1,h2,_,h4⟩:=h _ hn;obtain⟨j,hj⟩:=List.getElem?_of_mem hq;have:=Ui ht hj;rw[this]at h1;have:=Option.some.inj h1;subst this;rw[hj]at h2;have:=Option.some.inj h2;subst this;exact .inr h4
 ·exact .inl (RZ hn)
theorem aY{t:List Queue}{x:Pcs}(ht:EZ t)(hv:Bk x.led=true)(h:JH t x=true):Idle t x:=fun q hq=>by
 simp only[JH,and_eq_true,decide_eq_true_eq]at h;obtain⟨⟨⟨_,_⟩,h3⟩,h4⟩:=h;have h4:EO t x.proc=[]:=by
  have:((EO t x.proc).length:Int)=0:=by simpa using h4
  exact List.eq_nil_of_length_eq_zero (by omega)
 have hw:As q x.proc=none:=by
  unfold EO at h4;rw[List.filterMap_eq_nil_iff]at h4;have:=h4 q hq;simpa using this
 refine⟨hw,?_⟩;cases hz:(AB q.holds x.proc).zero
 ·have hm:(⟨q.res.name,AB q.holds x.proc⟩:Atom)∈Hj t x.proc:=by
   unfold Hj;rw[mem_filterMap];exact⟨q,hq,by simp[hz]⟩
  rw[← h3]at hm;unfold Fz at hm;rw[mem_filterMap]at hm;obtain⟨n,_,hn⟩:=hm;split at hn
  ·cases hn
  ·simp only[Option.some.injEq,Atom.mk.injEq]at hn;rw[← hn.2,hn.1]
 ·rw[zero_eq hz]
  by_cases hn:∃ e∈x.led.entries,e.name=q.res.name
  ·exfalso;obtain⟨h5,h6⟩:=Sd hv hn;rw[h3]at h5;unfold Hj at h5;rw[mem_filterMap]at h5;obtain⟨q',hq',he⟩:=h5;split at he
   ·cases he
   ·rename_i hz';simp only[Option.some.injEq,Atom.mk.injEq]at he;obtain⟨i,hi⟩:=List.getElem?_of_mem hq;obtain⟨j,hj⟩:=List.getElem?_of_mem hq';have:=KR ht hj hi he.1;subst this;rw[hi]at hj;have:=Option.some.inj hj;subst this;exact hz' hz
  ·exact(RZ hn).symm
theorem Jx{c:Cen}(h:Gf c=true):Fit ⟨c.now,c.Aa,c.procs,[]⟩:=by
 simp only[Gf,and_eq_true,decide_eq_true_eq,EB]at h;obtain⟨⟨⟨⟨⟨h1,h2⟩,h3⟩,h4⟩,h5⟩,h6⟩:=h;have ht:=(HL _).1 h3;have hpos:∀ x∈c.procs,Gv x=true∧(Fz x.led).all (F2 c.Aa)=true∧(if x.waiting then IL c.now c.Aa x else JH c.Aa x)=true:=fun x hx=>by
  obtain⟨i,hi⟩:=List.getElem?_of_mem hx;have:=h6 i x hi;simp only[Ep,Fk,and_eq_true]at this;exact⟨this.1.1.1,this.1.1.2,this.1.2⟩
 have hord:∀ i x,c.procs[i]?=some x→(decide (i=0)||decide (Bo (c.procs.getD (i-1) x0).proc x.proc<0))=true:=fun i x hi=>by
  have:=h6 i x hi;simp only[Ep,and_eq_true]at this;exact this.2
 have hled:∀ x∈c.procs,Bk x.led=true:=fun x hx=>by
  have:=(hpos x hx).1;simp only[Gv,and_eq_true]at this;exact this.1.1.2
 have hfit:∀ x∈c.procs,My c.Aa x:=fun x hx=>aU (hled x hx) (hpos x hx).2.1
 have hwait:∀ x∈c.procs,x.waiting=true→A4 x.req.expr=true∧CZ (Gd c.Aa) x.req.expr=0∧∀ q∈c.Aa,Gi q x (Ag x.req.expr)=true:=fun x hx hw=>by
  have:=(hpos x hx).2.2;rw[hw,if_pos rfl]at this;simp only[IL,and_eq_true,List.all_eq_true,Iw]at this;refine⟨this.1.1.1.1.1.1.1.1.1.1,?_,this.2⟩;have h7:=this.1.1.1.1.1.2;simpa using h7
 refine⟨⟨ht,h4,fun i j x y hx hy e=>?_,fun j x hj _ hw=>?_⟩,fun x hx hw=>?_,fun x hx hw q hq hn=>ZX _ hn ((hwait x hx hw).2.2 q hq),hfit,hled,⟨h1,h2⟩,rfl⟩
 ·rcases Nat.lt_trichotomy i j with hlt|rfl|hlt
  ·obtain⟨d,rfl⟩:∃ d,j=i+d+1:=⟨j-i-1,by omega⟩;have:=LB hord d i x y hx hy;rw[e,DI]at this;omega
  ·rfl
  ·obtain⟨d,rfl⟩:∃ d,i=j+d+1:=⟨i-j-1,by omega⟩;have:=LB hord d j y x hy hx;rw[e,DI]at this;omega
 ·have hx:=mG hj;obtain⟨g1,g2,g3⟩:=hwait x hx hw;refine⟨g1,fun a ha=>?_,fun q hq=>?_⟩
  ·obtain⟨k,_,hk,_⟩:=Hy ht g2 ha;exact⟨k,hk⟩
  ·refine Wl (XS ht (hfit x hx) hq) _ (fun a ha hn=>?_) (g3 q hq);obtain⟨k,q',k1,k2,k3,k4⟩:=Hy ht g2 ha;obtain⟨i,hi⟩:=List.getElem?_of_mem hq;have:=KR ht k2 hi (k3.trans hn);subst this;rw[k2]at hi;have:=Option.some.inj hi;subst this;exact k4
 ·have:=(hpos x hx).2.2;have hw':x.waiting=false:=hw;rw[hw']at this;exact aY ht (hled x hx) (by simpa using this)
def Nu(x:Pcs)(n:Int):Pcs:={ x with led:=(Fe x.led n).1 }
def doI(w:Av)(k:Cmd)(i:Nat)(x:Pcs):Av × Int :=
 if k.kind=2 then Ec w i x k.req
 else if k.kind=3 then (if x.waiting then (B0 (AX (A5 w i x) i (CF (BV x))),0) else (w,14))
 else if k.kind=4 then E8 w i x k.name
 else if k.kind=5 then (if x.waiting then (w,14) else if (Fe x.led k.n).2=0 then (AX w i (CF (Nu x k.n)),0) else (w,(Fe x.led k.n).2))
 else if k.kind=6 then Fl w i x k.n
 else if k.kind=8 then (if x.waiting then (w,14) else (Io w i x,0))
 else (Io w i x,0)
def doW(w:Av)(k:Cmd):Av × Int :=
 if k.kind<1∨9<k.kind then (w,1) else if k.kind=1 then Jd w k.proc k.n else if k.kind=9 then Jm w k.n
 else match w.procs.findIdx? (fun x=>decide (x.proc=k.proc)) with
 |none=>(w,10)
 |some i=>doI w k i (w.procs.getD i x0)
theorem N4{w:Av}{i:Nat}{x:Pcs}(h:JE none w)(hx:w.procs[i]?=some x):JE none (M4 w i x):=by
 have hs:=Tq x.proc h.tab;have hm:∀ (j:Nat) (y:Pcs),(w.procs.eraseIdx i)[j]?=some y→∃ j',w.procs[j']?=some y∧j'≠i∧j'=if j<i then j else j+1:=fun j y hj=>by
  rw[List.getElem?_eraseIdx]at hj;split at hj
  ·rename_i hlt;exact⟨j,hj,by omega,by simp[hlt]⟩
  ·rename_i hlt;exact⟨j+1,hj,by omega,by simp[hlt]⟩
 refine⟨hs.tab,?_,fun a b u v ha hb e=>?_,fun j y hj _ hw=>?_⟩
 ·simp only[M4,Cb,CB,List.length_eraseIdx];have:=h.n;split<;>omega
 ·obtain⟨a',h1,_,h3⟩:=hm a u ha;obtain⟨b',k1,_,k3⟩:=hm b v hb;have:=h.uq a' b' u v h1 k1 e;rw[h3,k3]at this;split at this<;>split at this<;>omega
 ·obtain⟨j',h1,h2,_⟩:=hm j y hj;exact(h.good j' y h1 (by simp) hw).step hs fun e=>h2 (h.uq j' i y x h1 hx e)
theorem bH{t:List Queue}{p:Ae}(h:EZ t):(Ce t p).2.length≤100000:=by
 have e:(Ce t p).2=Iv t p t.length:=by simp[Ce,(HL t).2 h,Iv]
 rw[e];have:=On (p:=p) (Da h).q t.length (Nat.le_refl _);have:=h.n;omega
theorem YA(l:Ledger)(label:Int):(Cx l label).2.1.length≤1000:=by
 unfold Cx;split
 ·simp
 ·rename_i hv;have hl:l.entries.length≤72:=by
   have:Bk l=true:=by simpa using hv
   simp only[Bk,and_eq_true,decide_eq_true_eq]at this;omega
  cases OF l label with
  |none=>simp
  |some p =>
   obtain⟨a,n⟩:=p;simp only[Q1,List.length_map];have:=Lz (l.entries.drop a);simp at this;omega
theorem NY{l:List Pcs}{p:Ae}{i:Nat}(h:l.findIdx? (fun x=>decide (x.proc=p))=some i):∃ x,l[i]?=some x:=by
 obtain⟨hi,_⟩:=List.findIdx?_eq_some_iff_getElem.1 h;exact⟨_,gE hi⟩
theorem f71_ok(w:Av)(k:Cmd)(h:Fit w):Ad C0 71 [.ptr 63 0,.agg k.c] [(63,w.c)] (I (doW w k).2) [(63,(doW w k).1.c)]:=by
 have hp:=h.je.n;have hf:=Da h.je.tab;have hev:w.CL.length=0:=by rw[h.ev];rfl
 have hwc:=HM w;refine Ad.go f71 ?_;unfold f71;refine gO ?_
 by_cases h1:k.kind<1
 ·have ht:doW w k=(w,1):=by simp[doW,h1]
  rw[ht];simp(disch:=omega)only[go_sem,eq_true h1,decide_true];refine Ci ⟨[(0,0),(1,1)],[(63,63)],[]⟩ _ ?_ ?_
  ·exact gI
  ·exact gI
 by_cases h2:9<k.kind
 ·have ht:doW w k=(w,1):=by simp[doW,h2]
  rw[ht];simp(disch:=omega)only[go_sem,eq_false h1,eq_true h2,decide_true,decide_false];refine Ci ⟨[(0,0),(1,1)],[(63,63)],[]⟩ _ ?_ ?_
  ·exact gI
  ·exact gI
 simp(disch:=omega)only[go_sem,eq_false h1,eq_false h2,decide_false]
 by_cases h3:k.kind=1
 ·have ht:doW w k=Jd w k.proc k.n:=by simp[doW,h3]
  rw[ht];simp(disch:=omega)only[go_sem,h3];refine call2 ⟨⟨[(0,0),(1,1)],[(63,63)],[]⟩,[],[]⟩ (f117_ok w k.proc k.n (by omega)) ?_;refine gO ?_;refine Ci ⟨[(0,0),(1,1)],[(63,63)],[]⟩ _ ?_ ?_
  ·exact gI
  ·exact gI
 have h3':(k.kind==1)=false:=by simpa using h3
 simp(disch:=omega)only[go_sem,h3']
 by_cases h4:k.kind=9
 ·have ht:doW w k=Jm w k.n:=by simp[doW,h4]
  rw[ht];simp(disch:=omega)only[go_sem,h4];refine call2 ⟨⟨[(0,0),(1,1)],[(63,63)],[]⟩,[],[]⟩ (f118_ok (JE none) JE.bX w k.n (fun t=>⟨h.je.tab,h.je.n,h.je.uq,h.je.good⟩) h.now.1 (by omega)) ?_;refine gO ?_;refine Ci ⟨[(0,0),(1,1)],[(63,63)],[]⟩ _ ?_ ?_
  ·exact gI
  ·exact gI
 have h4':(k.kind==9)=false:=by simpa using h4
 simp(disch:=omega)only[go_sem,h4'];refine Aq 7 [([],[0]),([],[33]),([],[34]),([],[35]),([],[36]),([],[3]),([],[38])] fol ?_;refine gO ?_;refine C2 [0] (f69_ok w.procs k.proc) gI rfl trivial ?_;cases hfi:w.procs.findIdx? (fun x=>decide (x.proc=k.proc)) with
 |none =>
  have ht:doW w k=(w,10):=by simp[doW,h1,h2,h3,h4,hfi]
  have hix:E5 w.procs k.proc = -1:=by simp[E5,hfi]
  rw[ht];simp(disch:=omega)only[go_sem,hix];refine Ci ⟨[(0,0),(1,1)],[(63,63)],[]⟩ _ ?_ ?_
  ·exact gI
  ·exact gI
 |some i =>
 obtain⟨x,hx⟩:=NY hfi;have hxm:=mG hx;have hi:=At hx;have hix:E5 w.procs k.proc=i:=by simp[E5,hfi]
 have ht:doW w k=doI w k i x:=by simp[doW,h1,h2,h3,h4,hfi,List.getD,hx]
 rw[ht];simp(disch:=omega)only[go_sem,hix,eq_false (show ¬ (i:Int)<0 by omega),decide_false,gm,hx]
 by_cases k2:k.kind=2
 ·have ht2:doI w k i x=Ec w i x k.req:=by simp[doI,k2]
  rw[ht2];simp(disch:=omega)only[go_sem,k2];refine call2 ⟨⟨[(0,0),(1,1)],[(63,63)],[]⟩,[],[]⟩ (f119_ok Q4 Q4.EM w i x k.req hx hf (fun a1 a2 a3=>by
   refine TS h.je hx (h.idle x hxm a1) (by simp only[Iw,and_eq_true]at a2;exact a2.1.1.1.1) (fun a ha=>?_);obtain⟨n,_,hn,_⟩:=Hy h.je.tab a3 ha;exact⟨n,hn⟩) hp (by omega)) ?_
  refine gO ?_;refine Ci ⟨[(0,0),(1,1)],[(63,63)],[]⟩ _ ?_ ?_
  ·exact gI
  ·exact gI
 have k2':(k.kind==2)=false:=by simpa using k2
 simp(disch:=omega)only[go_sem,k2']
 by_cases k3:k.kind=3
 ·simp(disch:=omega)only[go_sem,k3];cases hw:x.waiting
  ·have ht2:doI w k i x=(w,14):=by simp[doI,k3,hw]
   rw[ht2];simp(disch:=omega)only[go_sem,hw];refine Ci ⟨[(0,0),(1,1)],[(63,63)],[]⟩ _ ?_ ?_
   ·exact gI
   ·exact gI
  have ht2:doI w k i x=(B0 (AX (A5 w i x) i (CF (BV x))),0):=by simp[doI,k3,hw]
  rw[ht2];obtain⟨s1,s2,_⟩:=EI h.je hx hw;have hx1:(A5 w i x).procs[i]?=some (BV x):=by rw[Dh];simp[hi]
  have s3:=s2.next hx1;have s4:=IN (i:=i) s1;have s5:(AX (A5 w i x) i (CF (BV x))).CL.length=(A5 w i x).CL.length:=rfl;have s6:=HM (AX (A5 w i x) i (CF (BV x)));have s7:=s3.n;simp(disch:=omega)only[go_sem,hw];refine call2 ⟨⟨[(0,0),(1,1)],[(63,63)],[]⟩,[],[]⟩ (f120_ok w i x hx s1 (by omega)) ?_;refine gO ?_;refine call2 ⟨⟨[(0,0),(1,1)],[(63,63)],[]⟩,[],[]⟩ (f121_ok (A5 w i x) i (BV x) hx1) ?_;refine gO ?_;refine call2 ⟨⟨[(0,0),(1,1)],[(63,63)],[]⟩,[],[]⟩ (f122_ok (JE none) JE.EM _ s3 (by omega)) ?_;refine gO ?_;refine Ci ⟨[(0,0),(1,1)],[(63,63)],[]⟩ _ ?_ ?_
  ·exact gI
  ·exact gI
 have k3':(k.kind==3)=false:=by simpa using k3
 simp(disch:=omega)only[go_sem,k3']
 by_cases k4:k.kind=4
 ·have ht2:doI w k i x=E8 w i x k.name:=by simp[doI,k4]
  rw[ht2];simp(disch:=omega)only[go_sem,k4];refine call2 ⟨⟨[(0,0),(1,1)],[(63,63)],[]⟩,[],[]⟩ (f123_ok Q4 Q4.EM w i x k.name hx hf (fun a1=>Qk h.je hx a1) hp (by omega)) ?_;refine gO ?_;refine Ci ⟨[(0,0),(1,1)],[(63,63)],[]⟩ _ ?_ ?_
  ·exact gI
  ·exact gI
 have k4':(k.kind==4)=false:=by simpa using k4
 simp(disch:=omega)only[go_sem,k4']
 by_cases k5:k.kind=5
 ·simp(disch:=omega)only[go_sem,k5];cases hw:x.waiting;rotate_left
  ·have ht2:doI w k i x=(w,14):=by simp[doI,k5,hw]
   rw[ht2];simp(disch:=omega)only[go_sem,hw];refine Ci ⟨[(0,0),(1,1)],[(63,63)],[]⟩ _ ?_ ?_
   ·exact gI
   ·exact gI
  simp(disch:=omega)only[go_sem,hw];refine D7 (st':=⟨[(5,I i),(3,.ptr 192 0),(0,.ptr 63 0)],[(192,k.c),(63,w.c)]⟩) (Imp.Am gI (by simp(disch:=omega)only[go_sem,k5])) ?_;refine IY 16 [([],[0]),([0],[84]),([0,1],[85]),([0,1,2],[86]),([0,1,2,3],[87]),([],[5]),([0,1,2,3,4,5],[88,89]),([0,1,2,3,4,5,6],[90]),([0,1,2,3,4,5,6,7],[91]),([],[3]),([9],[93]),([0,1,2,3,4,5,6,7,8,9,10],[92,94]),([0,1,2,3,4,5,6,7,8,9,10,11],[95]),([0,1,2,3,4,5,6,7,8,9,10,11,12],[83]),([0,1,2,3,4,5,6,7,8,9,10,11,12],[83]),([],[]),([0,1,2,3,4,5,6,7,8,9,10,11,12,13,15],[]),([0,1,2,3,4,5,6,7,8,9,10,11,12,13,14,15,16],[])] [14] [([],[83,7,96,5,3,0],let o0:OT:=.done;let o1:OT:=.pick [(17,o0)];let o2:OT:=.pick [(16,o1)];let o3:OT:=.pick [(14,o1)];let o4:OT:=.pick [(14,o2),(16,o3)];o4),([14],[7,96,97,5,3,0],let o0:OT:=.done;let o1:OT:=.pick [(17,o0)];let o2:OT:=.pick [(16,o1)];o2)] fol (by kernel_rfl) ?_;simp(disch:=omega)only[go_sem,gm,hx]
  first|(refine Ac (f124_ok x.led k.n) ?_)|(refine Ar (f124_ok x.led k.n) ?_)
  have hs2:(Fe x.led k.n).2≠0→doI w k i x=(w,(Fe x.led k.n).2):=fun hne=>by simp[doI,k5,hw,hne]
  have hs3:(Fe x.led k.n).2=0→doI w k i x=(AX w i (CF (Nu x k.n)),0):=fun he=>by simp[doI,k5,hw,he]
  have hx5:(AX w i (Nu x k.n)).procs[i]?=some (Nu x k.n):=by simp[AX,hi]
  have hs4:AX (AX w i (Nu x k.n)) i (CF (Nu x k.n))=AX w i (CF (Nu x k.n)):=by simp[AX]
  simp(disch:=omega)only[go_sem]
  repeat'(with_reducible refine And.intro ?_ ?_)
  all_goals intro hc
  all_goals first
   |(have hc':(Fe x.led k.n).2≠0:=by simpa using hc
     rw[hs2 hc'];refine Ci ⟨[(0,0),(1,1)],[(63,63)],[]⟩ _ ?_ ?_
     ·exact gI
     ·exact gI
     done)
   | skip
  all_goals
   have hc':(Fe x.led k.n).2=0:=by simpa using hc
   rw[hs3 hc'];refine D7 (st':=⟨[(5,I i),(7,.ptr 448 0),(0,.ptr 63 0)],[(448,(Fe x.led k.n).1.c),(63,w.c)]⟩) AR ?_;refine Aq 7 [([],[0]),([],[101]),([],[102]),([],[103]),([],[104]),([],[5]),([],[7])] fol ?_;simp(disch:=omega)only[go_sem,gm,hx,List.length_map];refine call2 ⟨⟨[(0,0),(1,1)],[(63,63)],[]⟩,[],[]⟩ (f121_ok (AX w i (Nu x k.n)) i _ hx5) ?_ (hh:=?_);rotate_left
   ·simp(disch:=omega)only[go_sem,AX,Nu];exact .sl (by simp only[map_set];rfl)
   rw[hs4];refine gO ?_;refine Ci ⟨[(0,0),(1,1)],[(63,63)],[]⟩ _ ?_ ?_
   ·exact gI
   ·exact gI
 have k5':(k.kind==5)=false:=by simpa using k5
 simp(disch:=omega)only[go_sem,k5']
 by_cases k6:k.kind=6
 ·have ht2:doI w k i x=Fl w i x k.n:=by simp[doI,k6]
  rw[ht2];simp(disch:=omega)only[go_sem,k6];refine call2 ⟨⟨[(0,0),(1,1)],[(63,63)],[]⟩,[],[]⟩ (f125_ok (JE none) JE.EM w i x k.n hx (fun a1=>(EI h.je hx a1).1) (fun a1=>Rz h.je hx (h.fits x hxm) (h.idle x hxm) (h.wait x hxm) a1) (YA _ _) hp (by omega)) ?_;refine gO ?_;refine Ci ⟨[(0,0),(1,1)],[(63,63)],[]⟩ _ ?_ ?_
  ·exact gI
  ·exact gI
 have k6':(k.kind==6)=false:=by simpa using k6
 simp(disch:=omega)only[go_sem,k6'];have hga:=N4 h.je hx;have hrl:=bH (p:=x.proc) h.je.tab
 by_cases k8:k.kind=8
 ·simp(disch:=omega)only[go_sem,k8];cases hw:x.waiting;rotate_left
  ·have ht2:doI w k i x=(w,14):=by simp[doI,k8,hw]
   rw[ht2];simp(disch:=omega)only[go_sem,hw];refine Ci ⟨[(0,0),(1,1)],[(63,63)],[]⟩ _ ?_ ?_
   ·exact gI
   ·exact gI
  have ht2:doI w k i x=(Io w i x,0):=by simp[doI,k8,hw]
  rw[ht2];simp(disch:=omega)only[go_sem,hw];refine call2 ⟨⟨[(0,0),(1,1)],[(63,63)],[]⟩,[],[]⟩ (f126_ok (JE none) JE.EM w i x hx hp hf hga hrl (by omega)) ?_;refine gO ?_;refine Ci ⟨[(0,0),(1,1)],[(63,63)],[]⟩ _ ?_ ?_
  ·exact gI
  ·exact gI
 have k8':(k.kind==8)=false:=by simpa using k8
 have k7:k.kind=7:=by omega
 have ht2:doI w k i x=(Io w i x,0):=by simp[doI,k7]
 rw[ht2];simp(disch:=omega)only[go_sem,k8',k7];refine call2 ⟨⟨[(0,0),(1,1)],[(63,63)],[]⟩,[],[]⟩ (f126_ok (JE none) JE.EM w i x hx hp hf hga hrl (by omega)) ?_;refine gO ?_;refine Ci ⟨[(0,0),(1,1)],[(63,63)],[]⟩ _ ?_ ?_
 ·exact gI
 ·exact gI
def Q9:Cen:=⟨0,[],[]⟩
def doC(c:Cen)(k:Cmd):Cen × List Ev × Int :=
 if Gf c then (if (doW ⟨c.now,c.Aa,c.procs,[]⟩ k).2=0 then (⟨(doW ⟨c.now,c.Aa,c.procs,[]⟩ k).1.now,(doW ⟨c.now,c.Aa,c.procs,[]⟩ k).1.Aa,(doW ⟨c.now,c.Aa,c.procs,[]⟩ k).1.procs⟩,(doW ⟨c.now,c.Aa,c.procs,[]⟩ k).1.CL,0) else (Q9,[],(doW ⟨c.now,c.Aa,c.procs,[]⟩ k).2)) else (Q9,[],2)
theorem f30_ok(c:Cen)(k:Cmd)(h:DZ c.Aa):Ad C0 30 [.agg c.c,.agg k.c] [] (.tup [.agg (doC c k).1.c,Ug (doC c k).2.1,I (doC c k).2.2]) []:=by
 have hn:=h.n;refine Ad.go f30 ?_;unfold f30;refine gO ?_;refine Ac (f68_ok c h) ?_;cases hv:Gf c
 ·have ht:doC c k=(Q9,[],2):=by simp[doC,hv]
  rw[ht];simp(disch:=omega)only[go_sem,Bool.not_false];refine B8 _ ?_;simp(disch:=omega)only[go_sem,Q9,map_nil];refine .tup (Aj.AM ?_);simp(disch:=omega)only[go_sem]
  repeat'(with_reducible apply And.intro)
  all_goals(first|exact .Az (by omega)|exact .agg (Aj.AM gI))
 have hfit:=Jx hv;have hpl:c.procs.length≤8:=hfit.je.n;obtain⟨w,hw⟩:∃ w:Av,w=⟨c.now,c.Aa,c.procs,[]⟩:=⟨_,rfl⟩;have ht:doC c k=(if (doW w k).2=0 then (⟨(doW w k).1.now,(doW w k).1.Aa,(doW w k).1.procs⟩,(doW w k).1.CL,0) else (Q9,[],(doW w k).2)):=by simp only[doC,hv,if_true,hw]
 rw[← hw]at hfit;simp(disch:=omega)only[go_sem,Bool.not_true];refine Bn ⟨⟨[],[],[]⟩,[(0,896)],[]⟩ (f70_ok c (by omega) (by omega)) gI rfl gI (.inl rfl) ?_;refine gO ?_;refine Bn ⟨⟨[(896,0)],[(1024,63)],[]⟩,[(1,1216)],[]⟩ (f71_ok w k hfit) gI rfl ?_ (.inl rfl) ?_
 ·rw[hw];simp(disch:=omega)only[go_sem,map_nil]
  done
 refine gO ?_;refine And.intro (fun hc=>?_) (fun hc=>?_)
 ·have hc':(doW w k).2≠0:=by simpa using hc
  rw[if_neg hc']at ht;rw[ht];refine B8 _ ?_;simp(disch:=omega)only[go_sem,Q9,map_nil];refine .tup (Aj.AM ?_);simp(disch:=omega)only[go_sem]
  repeat'(with_reducible apply And.intro)
  all_goals(first|exact .Az (by omega)|exact .agg (Aj.AM gI))
 ·have hc':(doW w k).2=0:=by simpa using hc
  rw[if_pos hc']at ht;rw[ht];obtain⟨w2,hw2⟩:∃ w2,w2=(doW w k).1:=⟨_,rfl⟩;rw[← hw2];refine D7 (st':=⟨[(7,.ptr 1024 0),(4,.ptr 256 0)],[(256,[I 0,.v (.slice none 0 0),.v (.slice none 0 0)]),(1024,[I w2.now,Ay w2.Aa,.sl (.own 896 0) 16 (w2.procs.map Pcs.c),.sl (.own 1216 0) 7 (w2.CL.map Ev.c)])]⟩) ?_ ?_
  ·rw[hw2];exact AR
  refine IY 8 [([],[7]),([0],[24]),([0,1],[25]),([0,1,2],[26]),([],[7]),([4],[28]),([4,5],[29]),([4,5,6],[30]),([0,1,2,3],[]),([0,1,2,3,4,5,6,7,8],[]),([0,1,2,3,4,5,6,7,8,9],[])] [4,5,6,7] [([],[27,7,4],let o0:OT:=.done;let o1:OT:=.pick [(10,o0)];let o2:OT:=.pick [(9,o1)];let o3:OT:=.pick [(8,o2)];let o4:OT:=.pick [(7,o2)];let o5:OT:=.pick [(7,o3),(8,o4)];let o6:OT:=.pick [(6,o4)];let o7:OT:=.pick [(6,o5),(8,o6)];let o8:OT:=.pick [(5,o6)];let o9:OT:=.pick [(5,o7),(8,o8)];let o10:OT:=.pick [(4,o8)];let o11:OT:=.pick [(4,o9),(8,o10)];o11),([4],[28,27,7,4],let o0:OT:=.done;let o1:OT:=.pick [(10,o0)];let o2:OT:=.pick [(9,o1)];let o3:OT:=.pick [(8,o2)];let o4:OT:=.pick [(7,o2)];let o5:OT:=.pick [(7,o3),(8,o4)];let o6:OT:=.pick [(6,o4)];let o7:OT:=.pick [(6,o5),(8,o6)];let o8:OT:=.pick [(5,o6)];let o9:OT:=.pick [(5,o7),(8,o8)];o9),([4,5],[29,27,7,4],let o0:OT:=.done;let o1:OT:=.pick [(10,o0)];let o2:OT:=.pick [(9,o1)];let o3:OT:=.pick [(8,o2)];let o4:OT:=.pick [(7,o2)];let o5:OT:=.pick [(7,o3),(8,o4)];let o6:OT:=.pick [(6,o4)];let o7:OT:=.pick [(6,o5),(8,o6)];o7),([4,5,6],[30,27,7,4],let o0:OT:=.done;let o1:OT:=.pick [(10,o0)];let o2:OT:=.pick [(9,o1)];let o3:OT:=.pick [(8,o2)];let o4:OT:=.pick [(7,o2)];let o5:OT:=.pick [(7,o3),(8,o4)];o5),([4,5,6,7],[27,31,7,4],let o0:OT:=.done;let o1:OT:=.pick [(10,o0)];let o2:OT:=.pick [(9,o1)];let o3:OT:=.pick [(8,o2)];o3)] fol (by kernel_rfl) ?_;simp(disch:=omega)only[go_sem]
  repeat'(with_reducible refine And.intro ?_ ?_)
  all_goals
   refine Bc ⟨[],[],[896,1216]⟩ _ (by(try simp(disch:=omega)only[go_sem,C6,IJ])<;>rfl) ⟨rfl,rfl⟩ (by simp[lk]) ?_ trivial;simp(disch:=omega)only[go_sem]
attribute [go_sem] DA
theorem Ti(x n:Int)(h:1≤n):0≤Ia x n∧Ia x n<n:=by
 have e:Ia x n=x%n:=by simp only[Ia];rw[if_neg (by simp;omega)]
 rw[e];exact⟨Int.emod_nonneg x (by omega),Int.emod_lt_of_pos x (by omega)⟩
theorem Ew(l:List Int)(a:Nat)(n:Int)(h:1≤n):0≤(Ak l a n).1∧(Ak l a n).1<n:=by
 unfold Ak;split
 ·exact⟨Int.le_refl _,by show (0:Int)<n;omega⟩
 ·exact Ti _ _ h
theorem E7(l:List Int)(a:Nat)(n:Int):a≤(Ak l a n).2∧(a<l.length→(Ak l a n).2=a+1):=by
 unfold Ak;cases hb:l[a]? with
 |none=>exact⟨Nat.le_refl _,fun h=>by rw[gE h]at hb;cases hb⟩
 |some x=>exact⟨Nat.le_succ _,fun _=>rfl⟩
def Jt(r:Res)(n:Int):Amt:=if r.kind=1 then ⟨Wf.getD (n%8).toNat 0,0⟩ else ⟨0,1+Ia n r.AA⟩
theorem f234_ok(r:Res)(n:Int)(hu:r.AA≤1000000):Ad C0 234 [.agg r.c,I n] [] (.agg (Jt r n).c) []:=by
 refine Ad.go f234 ?_;unfold f234;refine gO ?_
 by_cases h1:r.kind=1
 ·have e:Jt r n=⟨Wf.getD (n%8).toNat 0,0⟩:=by simp[Jt,h1]
  rw[e];simp(disch:=omega)only[go_sem,h1];refine Ac (f275_ok n) ?_;refine gO ?_;exact AE _
 ·have e:Jt r n=⟨0,1+Ia n r.AA⟩:=by simp[Jt,h1]
  have h1':(r.kind==1)=false:=by simpa using h1
  rw[e];simp(disch:=omega)only[go_sem,h1'];refine Ac (f51_ok n r.AA (by omega)) ?_;have hw:IntKind.i64.wrap (1+Ia n r.AA)=1+Ia n r.AA:=by
   by_cases hz:1≤r.AA
   ·have:=Ti n r.AA hz;exact wrap64 _ (by omega) (by omega)
   ·have:Ia n r.AA=0:=by simp only[Ia];rw[if_pos (by simp;omega)]
    rw[this];exact wrap64 _ (by omega) (by omega)
  simp(disch:=omega)only[go_sem,hw];exact AE _
def UB(l:List Int)(az:List Atom)(a:Nat):Expr × Nat:=(.mk 0 (az.getD (Ak l a az.length).1.toNat a0) [],(Ak l a az.length).2)
def Gg(f:Nat→Expr × Nat):Nat→Nat→List Expr × Nat
 | 0,a=>([],a)
 | n+1,a=>((Gg f n a).1++[(f (Gg f n a).2).1],(f (Gg f n a).2).2)
def CV(l:List Int)(az:List Atom):Nat→Nat→Expr × Nat
 | 0,a=>UB l az a
 | d+1,a=>if (Ak l a 4).1=0 then UB l az (Ak l a 4).2 else
  (.mk (1+(Ak l (Ak l (Ak l a 4).2 3).2 (1+(Ak l (Ak l a 4).2 3).1)).1) a0 (Gg (CV l az d) (1+(Ak l (Ak l a 4).2 3).1).toNat (Ak l (Ak l (Ak l a 4).2 3).2 (1+(Ak l (Ak l a 4).2 3).1)).2).1,
   (Gg (CV l az d) (1+(Ak l (Ak l a 4).2 3).1).toNat (Ak l (Ak l (Ak l a 4).2 3).2 (1+(Ak l (Ak l a 4).2 3).1)).2).2)
theorem R2(f:Nat→Expr × Nat):∀ n a,(Gg f n a).1.length=n
 | 0,_=>rfl
 | n+1,a=>by simp[Gg,R2 f n a]
theorem UD{l:List Int}{az:List Atom}{a:Nat}(hz:1≤az.length):∃ (i:Nat) (x:Atom),(Ak l a az.length).1=(i:Int)∧az[i]?=some x∧UB l az a=(.mk 0 x [],(Ak l a az.length).2):=by
 obtain⟨h1,h2⟩:=Ew l a az.length (by omega);obtain⟨i,hi⟩:∃ i:Nat,(Ak l a az.length).1=(i:Int):=⟨_,(Int.toNat_of_nonneg h1).symm⟩;have hlt:i<az.length:=by omega
 refine⟨i,az[i],hi,gE hlt,?_⟩;simp[UB,hi,List.getD,hlt]
theorem f235_ok(l:List Int)(az:List Atom)(hl:l.length≤1000000)(hz:1≤az.length∧az.length≤100):∀ (d a:Nat),d≤10→Ad C0 235 [.ptr 63 0,Bv az,I d] [(63,DA l a)] (.agg (CV l az d a).1.c) [(63,DA l (CV l az d a).2)]:=by
 intro d
 induction d with
 | zero =>
  intro a _;obtain⟨i,x,h1,h2,h3⟩:=UD (l:=l) (a:=a) hz.1;have e:CV l az 0 a=(.mk 0 x [],(Ak l a az.length).2):=by rw[CV,h3]
  refine Ad.go f235 ?_;unfold f235;refine gO ?_;refine call2 ⟨⟨[],[(63,63)],[]⟩,[],[]⟩ (f37_ok l a az.length hl (by omega)) ?_;rw[e];simp(disch:=omega)only[go_sem,h1,gm,h2];refine Ci ⟨[],[(63,63)],[]⟩ _ ?_ ?_
  ·simp(disch:=omega)only[go_sem,Expr.By,Expr.k,Expr.atom,Expr.kids,map_nil];exact .agg (Aj.AM gI)
  ·exact gI
 | succ d ih =>
  intro a hd;refine Ad.go f235 ?_;unfold f235;have e0:((d:Int)+1==0)=false:=by simp;omega
  have e1:(((d+1:Nat):Int)==0)=false:=by simp;omega
  simp(disch:=omega)only[go_sem,e0,e1];refine call2 ⟨⟨[],[(63,63)],[]⟩,[],[]⟩ (f37_ok l a 4 hl (by omega)) ?_;refine gO ?_
  by_cases h4:(Ak l a 4).1=0
  ·obtain⟨i,x,h1,h2,h3⟩:=UD (l:=l) (a:=(Ak l a 4).2) hz.1;have e:CV l az (d+1) a=(.mk 0 x [],(Ak l (Ak l a 4).2 az.length).2):=by rw[CV,if_pos h4,h3]
   simp(disch:=omega)only[go_sem,h4];refine call2 ⟨⟨[],[(63,63)],[]⟩,[],[]⟩ (f37_ok l (Ak l a 4).2 az.length hl (by omega)) ?_;rw[e];simp(disch:=omega)only[go_sem,h1,gm,h2];refine Ci ⟨[],[(63,63)],[]⟩ _ ?_ ?_
   ·simp(disch:=omega)only[go_sem,Expr.By,Expr.k,Expr.atom,Expr.kids,map_nil];exact .agg (Aj.AM gI)
   ·exact gI
  have h4':((Ak l a 4).1==0)=false:=by simpa using h4
  obtain⟨a1,ha1⟩:∃ a1,a1=(Ak l a 4).2:=⟨_,rfl⟩;rw[← ha1];simp(disch:=omega)only[go_sem,h4'];refine call2 ⟨⟨[],[(63,63)],[]⟩,[],[]⟩ (f37_ok l a1 3 hl (by omega)) ?_;obtain⟨b1,b2⟩:=Ew l a1 3 (by omega);obtain⟨m,hm⟩:∃ m:Nat,1+(Ak l a1 3).1=(m:Int):=⟨(1+(Ak l a1 3).1).toNat,by omega⟩;obtain⟨a2,ha2⟩:∃ a2,a2=(Ak l a1 3).2:=⟨_,rfl⟩;rw[← ha2];have hw:IntKind.i64.wrap (1+(Ak l a1 3).1)=m:=by rw[wrap64 _ (by omega) (by omega),hm]
  simp(disch:=omega)only[go_sem,hw,hm];refine call2 ⟨⟨[],[(63,63)],[]⟩,[],[]⟩ (f37_ok l a2 m hl (by omega)) ?_;obtain⟨c1,c2⟩:=Ew l a2 m (by omega);obtain⟨a3,ha3⟩:∃ a3,a3=(Ak l a2 m).2:=⟨_,rfl⟩;rw[← ha3];have hw2:IntKind.i64.wrap (1+(Ak l a2 m).1)=1+(Ak l a2 m).1:=wrap64 _ (by omega) (by omega);have e:CV l az (d+1) a=(.mk (1+(Ak l a2 m).1) a0 (Gg (CV l az d) m a3).1,(Gg (CV l az d) m a3).2):=by
   rw[CV,if_neg h4,← ha1,hm,← ha2,← ha3];rfl
  rw[e];simp(disch:=omega)only[go_sem,hw2];refine Ab (α:=Nat) (fun i=>⟨[(9,I i),(8,.ptr 512 0),(7,I m),(6,.ptr 384 0),(0,.ptr 63 0),(1,Bv az),(2,I (d+1:Nat))],[(512,[I (1+(Ak l a2 m).1),.v (.string (str [])),I 0,I 0,.sl (.own 2944 0) 5 ((Gg (CV l az d) i a3).1.map Expr.c)]),(384,[I 0,.v (.string (str [])),I 0,I 0,.v (.slice none 0 0)]),(63,DA l (Gg (CV l az d) i a3).2)]⟩) (fun i=>i≤m) (fun i=>m-i) 0 (by omega) (Imp.Am ?_ ?_) ?_
  ·exact gI
  ·simp(disch:=omega)only[go_sem,Gg,map_nil]
   done
  rintro i hi J hJ;refine gO ?_;refine ⟨fun hlt=>?_,fun hge=>?_⟩
  ·have hlt2:i<m:=by simp at hlt;omega
   have hkl:=R2 (CV l az d) i a3;have hkn:Gg (CV l az d) (i+1) a3=((Gg (CV l az d) i a3).1++[(CV l az d (Gg (CV l az d) i a3).2).1],(CV l az d (Gg (CV l az d) i a3).2).2):=rfl;generalize Gg (CV l az d) i a3=ks at hkl hkn ⊢;obtain⟨kl,ka⟩:=ks;have hd1:IntKind.i64.wrap (((d+1:Nat):Int)-1)=d:=by rw[wrap64 _ (by omega) (by omega)];omega
   simp only at hkl hkn ⊢;refine IY 6 [([],[8]),([0],[38]),([],[0]),([],[1]),([],[2]),([4],[42]),([2,3,4,5],[]),([2,3,4,5,6],[]),([0,1,2,3,4,5,6,7],[]),([0,1,2,3,4,5,6,7,8],[]),([0,1,2,3,4,5,6,7,8,9],[])] [0,1] [([],[40,41,43,9,8,7,6,0,1,2],let o0:OT:=.done;let o1:OT:=.pick [(10,o0)];let o2:OT:=.pick [(9,o1)];let o3:OT:=.pick [(8,o2)];let o4:OT:=.pick [(7,o3)];let o5:OT:=.pick [(6,o4)];let o6:OT:=.pick [(1,o3)];let o7:OT:=.pick [(1,o4),(7,o6)];let o8:OT:=.pick [(1,o5),(6,o7)];let o9:OT:=.pick [(0,o6)];let o10:OT:=.pick [(0,o7),(7,o9)];let o11:OT:=.pick [(0,o8),(6,o10)];o11),([0],[38,40,41,43,9,8,7,6,0,1,2],let o0:OT:=.done;let o1:OT:=.pick [(10,o0)];let o2:OT:=.pick [(9,o1)];let o3:OT:=.pick [(8,o2)];let o4:OT:=.pick [(7,o3)];let o5:OT:=.pick [(6,o4)];let o6:OT:=.pick [(1,o3)];let o7:OT:=.pick [(1,o4),(7,o6)];let o8:OT:=.pick [(1,o5),(6,o7)];o8),([0,1],[40,41,43,39,9,8,7,6,0,1,2],let o0:OT:=.done;let o1:OT:=.pick [(10,o0)];let o2:OT:=.pick [(9,o1)];let o3:OT:=.pick [(8,o2)];let o4:OT:=.pick [(7,o3)];let o5:OT:=.pick [(6,o4)];o5)] fol (by kernel_rfl) ?_;have hd2:((d:Int)+1-1)=d:=by omega
   have hbd:kl.length+1≤4294967296:=by omega
   simp(disch:=omega)only[go_sem,hd2]
   repeat'(with_reducible refine And.intro ?_ ?_)
   all_goals
    refine call2 ⟨⟨[],[(63,63)],[]⟩,[],[]⟩ (ih ka (by omega)) ?_;simp(disch:=omega)only[go_sem]
    repeat'(with_reducible refine And.intro ?_ ?_)
    all_goals
     refine hJ _ (i+1) (by omega) (by omega) (Imp.Am ?_ ?_)
     ·exact gI
     ·rw[hkn];refine gO ?_;exact .sl (by rw[List.map_append,List.map_cons,map_nil,Expr.By])
  have him:i=m:=by simp at hge;omega
  subst him;refine Ci ⟨[],[(63,63)],[2944]⟩ _ ?_ ?_
  ·simp(disch:=omega)only[go_sem,Expr.By,Expr.k,Expr.atom,Expr.kids,a0]
  ·exact gI
end Go.Rd
