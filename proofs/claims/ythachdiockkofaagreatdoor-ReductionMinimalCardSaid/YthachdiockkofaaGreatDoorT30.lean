/- part 30 of the proof -/
import Derived.Test.YthachdiockkofaaGreatDoorT27
import Derived.Test.YthachdiockkofaaGreatDoorT28
import Derived.Test.YthachdiockkofaaGreatDoorT29
set_option linter.all false
open Go Go.Abs Go.Proofs
set_option maxRecDepth 100000
namespace Go.Rd
set_option maxHeartbeats 8000000
open List (map_nil map_set mem_filterMap mem_map set_set take_length)
open Bool (and_eq_true false_eq_true)
open Tryz
def Jg(w:Work)(i:Nat)(x:Pcs)(name:Bs):Work :=
 let w1:=Cc w (AT w.queues x.proc ⟨name,⟨0,0⟩⟩).1 (AT w.queues x.proc ⟨name,⟨0,0⟩⟩).2.1
 AH w1 i (Ch { x with led:=(G7 x.led name).1 })
def Ey(w:Work)(i:Nat)(x:Pcs)(name:Bs):Work × Int :=
 if x.waiting then (w,14) else if (Ar x.led.entries name).mode==0&&(Ar x.led.entries name).units==0 then (w,10) else (BC (Jg w i x name),0)
theorem f123_ok(Inv:Work→Prop)(hI:G1 Inv)(w:Work)(i:Nat)(x:Pcs)(name:Bs)(hx:w.procs[i]?=some x)(hf:Di w.queues)
 (hc:x.waiting=false→Inv (Jg w i x name)) (hp:w.procs.length≤8) (hev:w.evs.length≤500000) :
 Ac C0 123 [.ptr 63 0,I i,.v (.string (str name))] [(63,w.c)] (I (Ey w i x name).2) [(63,(Ey w i x name).1.c)]:=by
 have hi:=Al hx
 refine Ac.go f123 ?_
 unfold f123
 simp(disch:=omega)only[go_sem,gm,hx]
 cases h1:x.waiting
 rotate_left
 ·have ht:Ey w i x name=(w,14):=by simp[Ey,h1]
  rw[ht]
  simp(disch:=omega)only[go_sem,h1]
  refine BU ⟨[(0,0),(1,1)],[(63,63)],[]⟩ _ ?_ ?_
  ·exact gI
  ·exact gI
 have c2:=hc h1
 simp(disch:=omega)only[go_sem,h1,gm,hx]
 refine Aa (f190_ok x.led.entries name) ?_
 refine gO ?_
 cases h2:((Ar x.led.entries name).mode==0&&(Ar x.led.entries name).units==0)
 rotate_left
 ·have ht:Ey w i x name=(w,10):=by simp only[Ey,h1,h2];rfl
  rw[ht]
  simp(disch:=omega)only[go_sem,h2]
  refine BU ⟨[(0,0),(1,1)],[(63,63)],[]⟩ _ ?_ ?_
  ·exact gI
  ·exact gI
 have ht:Ey w i x name=(BC (Jg w i x name),0):=by simp only[Ey,h1,h2];rfl
 rw[ht]
 simp(disch:=omega)only[go_sem,h2]
 have k3:=FT hf x.proc ⟨name,⟨0,0⟩⟩
 refine Aj 23 [([],[0]),([],[34]),([],[35]),([],[36]),([],[37]),([],[0]),([],[39]),([],[40]),([],[41]),([],[42]),([],[1]),([],[43,44]),([],[45]),([],[46]),([],[2]),([],[48]),([],[38,47,49]),([16],[50]),([16],[33]),([16],[33]),([16],[33]),([16],[51]),([16],[52])] fol ?_
 simp(disch:=omega)only[go_sem,gm,hx]
 first|(refine Aa (f192_ok w.queues x.proc ⟨name,⟨0,0⟩⟩ hf) ?_)|(refine Ai (f192_ok w.queues x.proc ⟨name,⟨0,0⟩⟩ hf) ?_)
 refine gO ?_
 refine call2 ⟨⟨[(0,0),(1,1)],[(63,63)],[]⟩,[],[]⟩ (f184_ok w (AT w.queues x.proc ⟨name,⟨0,0⟩⟩).1 (AT w.queues x.proc ⟨name,⟨0,0⟩⟩).2.1 (by omega)) ?_
 have e1:Jg w i x name=AH (Cc w (AT w.queues x.proc ⟨name,⟨0,0⟩⟩).1 (AT w.queues x.proc ⟨name,⟨0,0⟩⟩).2.1) i (Ch { x with led:=(G7 x.led name).1 }):=rfl
 have e2:(Cc w (AT w.queues x.proc ⟨name,⟨0,0⟩⟩).1 (AT w.queues x.proc ⟨name,⟨0,0⟩⟩).2.1).procs=w.procs:=rfl
 have e3:(Cc w (AT w.queues x.proc ⟨name,⟨0,0⟩⟩).1 (AT w.queues x.proc ⟨name,⟨0,0⟩⟩).2.1).evs.length=w.evs.length+(AT w.queues x.proc ⟨name,⟨0,0⟩⟩).2.1.length:=by simp[Cc]
 generalize Cc w (AT w.queues x.proc ⟨name,⟨0,0⟩⟩).1 (AT w.queues x.proc ⟨name,⟨0,0⟩⟩).2.1=w1 at e1 e2 e3 ⊢
 refine gO ?_
 rw[← e2]at hx hi
 refine CP (st':=⟨[(0,.ptr 63 0),(1,I i),(2,.v (.string (str name)))],[(63,w1.c)]⟩) AE ?_
 refine OH 20 [([],[0]),([0],[59]),([0,1],[60]),([0,1,2],[61]),([0,1,2,3],[62]),([],[1]),([],[0]),([6],[65]),([6,7],[66]),([6,7,8],[67]),([6,7,8,9],[68]),([],[1]),([6,7,8,9,10,11],[69,70]),([6,7,8,9,10,11,12],[71]),([6,7,8,9,10,11,12,13],[72]),([],[2]),([6,7,8,9,10,11,12,13,14,15],[73,74]),([6,7,8,9,10,11,12,13,14,15,16],[75]),([6,7,8,9,10,11,12,13,14,15,16,17],[58]),([6,7,8,9,10,11,12,13,14,15,16,17],[58]),([0,1,2,3,4,5,6,7,8,9,10,11,12,13,14,15,16,17,18],[]),([0,1,2,3,4,5,6,7,8,9,10,11,12,13,14,15,16,17,18,20],[]),([0,1,2,3,4,5,6,7,8,9,10,11,12,13,14,15,16,17,18,20,21],[])] [19] [63,64,76,58,0,1,2] fol (by kernel_rfl) ?_
 simp(disch:=omega)only[go_sem,gm,hx]
 first|(refine Aa (f193_ok x.led name) ?_)|(refine Ai (f193_ok x.led name) ?_)
 simp(disch:=omega)only[go_sem,gm,hx]
 have hx5:(AH w1 i { x with led:=(G7 x.led name).1 }).procs[i]?=some { x with led:=(G7 x.led name).1 }:=by simp[AH,hi]
 refine call2 ⟨⟨[(0,0),(1,1)],[(63,63)],[]⟩,[],[]⟩ (f121_ok (AH w1 i { x with led:=(G7 x.led name).1 }) i _ hx5) ?_ (hh:=?_)
 rotate_left
 ·simp only[AH]
  refine gO ?_
  exact .sl (by simp only[map_set,set_set];rfl)
 have e4:AH (AH w1 i { x with led:=(G7 x.led name).1 }) i (Ch { x with led:=(G7 x.led name).1 })=Jg w i x name:=by rw[e1];simp[AH]
 rw[e4]
 have e5:(Jg w i x name).evs.length≤w.evs.length+101:=by rw[e1];simp only[AH];omega
 have e6:=GZ (Jg w i x name)
 have e7:=(hI.few _ c2).2.1
 refine gO ?_
 refine call2 ⟨⟨[(0,0),(1,1)],[(63,63)],[]⟩,[],[]⟩ (f122_ok Inv hI (Jg w i x name) c2 (by omega)) ?_
 refine gO ?_
 refine BU ⟨[(0,0),(1,1)],[(63,63)],[]⟩ _ ?_ ?_
 ·exact gI
 ·exact gI
def G3(w:Work)(p:Proc)(a:Atom):Work:=match BR w.queues a.name with
 |none=>w
 |some k=>if decide (Ap (w.queues.getD k q0).holds p=a.amt) then w else Cc w (AT w.queues p a).1 (AT w.queues p a).2.1
def Cj(w:Work)(p:Proc)(az:List Atom):Work:=az.foldl (fun w a=>G3 w p a) w
theorem Jt{w:Work}{p:Proc}{az:List Atom}{i:Nat}{b:Atom}(hb:az[i]?=some b):Cj w p (az.take (i+1))=G3 (Cj w p (az.take i)) p b:=by
 simp[Cj,List.take_add_one,hb,List.foldl_append]
theorem Sm(w:Work)(p:Proc)(a:Atom):(G3 w p a).procs=w.procs:=by
 unfold G3
 split
 ·rfl
 ·split<;>rfl
theorem Fh(w:Work)(p:Proc):∀ az:List Atom,(Cj w p az).procs=w.procs
 |[]=>rfl
 | a::az=>by
  show (Cj (G3 w p a) p az).procs=w.procs
  rw[Fh,Sm]
def Rg(w:Work)(p:Proc)(az:List Atom):Prop:=∀ i b,az[i]?=some b→Di (Cj w p (az.take i)).queues∧∃ k,BR (Cj w p (az.take i)).queues b.name=some k
theorem Vs{w:Work}{p:Proc}{a:Atom}(h:Di w.queues):(G3 w p a).evs.length≤w.evs.length+101:=by
 have:=FT h p a
 unfold G3
 split
 ·omega
 ·split
  ·omega
  ·simp only[Cc,List.length_append];omega
theorem G4{w:Work}{p:Proc}{az:List Atom}(h:Rg w p az):∀ i,i≤az.length→(Cj w p (az.take i)).evs.length≤w.evs.length+101*i
 | 0,_=>by simp[Cj]
 | i+1,hi=>by
  obtain⟨b,hb⟩:∃ b,az[i]?=some b:=⟨_,gE (by omega)⟩
  have h1:=G4 h i (by omega)
  have h2:=Vs (p:=p) (a:=b) (h i b hb).1
  rw[Jt hb]
  omega
def FB(w:Work)(i:Nat)(x:Pcs):Work:=if x.waiting then AL w i x else w
def EO(x:Pcs):Pcs:=if x.waiting then Bx x else x
def FQ(x:Pcs)(l:Ledger):Pcs:={ x with led:=l }
def Ol(w:Work)(i:Nat)(x:Pcs)(label:Int):Work :=
 AH (Cj (AH (FB w i x) i (FQ (EO x) (B9 x.led label).1)) (EO x).proc (B9 x.led label).2.1) i (Ch (FQ (EO x) (B9 x.led label).1))
def EL(w:Work)(i:Nat)(x:Pcs)(label:Int):Work × Int :=
 if (B9 x.led label).2.2=0 then (BC (Ol w i x label),0) else (w,(B9 x.led label).2.2)
theorem f125_ok(Inv:Work→Prop)(hI:G1 Inv)(w:Work)(i:Nat)(x:Pcs)(label:Int)(hx:w.procs[i]?=some x)
 (hd:x.waiting=true→KW w x (Ag x.req.expr))
 (hc:(B9 x.led label).2.2=0→Rg (AH (FB w i x) i (FQ (EO x) (B9 x.led label).1)) (EO x).proc (B9 x.led label).2.1∧Inv (Ol w i x label))
 (hl:(B9 x.led label).2.1.length≤1000) (hp:w.procs.length≤8) (hev:w.evs.length≤500000) :
 Ac C0 125 [.ptr 63 0,I i,I label] [(63,w.c)] (I (EL w i x label).2) [(63,(EL w i x label).1.c)]:=by
 have hi:=Al hx
 refine Ac.go f125 ?_
 unfold f125
 simp(disch:=omega)only[go_sem,gm,hx]
 refine Aa (f195_ok x.led label) ?_
 refine gO ?_
 by_cases h1:(B9 x.led label).2.2=0
 rotate_left
 ·have ht:EL w i x label=(w,(B9 x.led label).2.2):=by simp[EL,h1]
  rw[ht]
  have h1':((B9 x.led label).2.2 !=0)=true:=by simpa using h1
  simp(disch:=omega)only[go_sem,h1']
  refine BU ⟨[(0,0),(1,1)],[(63,63)],[]⟩ _ ?_ ?_
  ·exact gI
  ·exact gI
 obtain⟨c1,c2⟩:=hc h1
 have ht:EL w i x label=(BC (Ol w i x label),0):=by simp[EL,h1]
 rw[ht]
 simp(disch:=omega)only[go_sem,h1,gm,hx]
 cases h2:x.waiting
 ·simp(disch:=omega)only[go_sem,h2]
  obtain⟨w3,hw3⟩:∃ w3,w3=FB w i x:=⟨_,rfl⟩
  obtain⟨y,hy⟩:∃ y,y=EO x:=⟨_,rfl⟩
  have hx3:w3.procs[i]?=some y:=by rw[hw3,hy];simp[FB,EO,h2,hx]
  have he3:w3.evs.length≤w.evs.length+1608:=by
   rw[hw3]
   simp only[FB,h2]
   simp
  have hi3:=Al hx3
  unfold Ol at c2 ⊢
  rw[← hw3,← hy]at c1 c2 ⊢
  have hww:w3=w:=by rw[hw3];simp[FB,h2]
  rw[← hww]
  have hyx:y=x:=by rw[hy];simp[EO,h2]
  clear hw3 hy hd hc ht
  subst hyx
  generalize (B9 y.led label).2.1=az at c1 c2 hl ⊢
  generalize (B9 y.led label).1=led at c1 c2 ⊢
  refine Aj 7 [([],[0]),([],[54]),([],[55]),([],[56]),([],[57]),([],[1]),([],[7])] fol ?_
  simp(disch:=omega)only[go_sem,gm,hx3]
  obtain⟨o,rfl⟩:∃ o,o=i:=⟨i,rfl⟩
  have he4:(AH w3 o (FQ y led)).evs.length=w3.evs.length:=rfl
  have hx4:(AH w3 o (FQ y led)).procs[o]?=some (FQ y led):=by simp[AH,hi3]
  refine Ab (α:=Nat) (fun i=>⟨[(11,I i),(8,Be az),(0,.ptr 63 0),(1,I o),(10,.ptr 640 0)],[(63,(Cj (AH w3 o (FQ y led)) y.proc (az.take i)).c),(640,y.proc.c)]⟩) (fun i=>i≤az.length) (fun i=>az.length-i) 0 (Nat.zero_le _) ?_ ?_
  ·simp only[List.take_zero,Cj,List.foldl_nil,AH]
   exact Imp.weak (by simp(disch:=omega)only[go_sem]) (by simp(disch:=omega)only[go_sem];exact .sl (by simp only[map_set,set_set];rfl))
  generalize AH w3 o (FQ y led)=w4 at c1 c2 he4 hx4 ⊢
  clear hx3 hi3
  intro i hi2 J hJ
  refine gO ?_
  refine ⟨fun hlt=>?_,fun hge=>?_⟩
  ·obtain⟨b,hb⟩:∃ b,az[i]?=some b:=⟨_,gE (by simp at hlt;omega)⟩
   have hlt2:i<az.length:=Al hb
   obtain⟨g5,k,hk⟩:=c1 i b hb
   have g1:=G4 c1 i hi2
   have g2:=FT g5 y.proc b
   have g4:=Jt (w:=w4) (p:=y.proc) hb
   generalize Cj w4 y.proc (az.take i)=w5 at g1 g2 g4 g5 hk ⊢
   obtain⟨hk0,q,hq,_⟩:=CK hk
   have hgq:w5.queues.getD k q0=q:=by simp[List.getD,hq]
   have g6:G3 w5 y.proc b=if decide (Ap q.holds y.proc=b.amt) then w5 else Cc w5 (AT w5.queues y.proc b).1 (AT w5.queues y.proc b).2.1:=by unfold G3;rw[hk];simp only[hgq]
   obtain⟨q1,q2,q3⟩:=A5 (g5.q q (mG hq))
   have hn5:=g5.n
   refine Aj 25 [([],[0]),([],[69]),([],[70]),([],[71]),([],[72]),([],[0]),([],[74]),([],[75]),([],[76]),([],[77]),([],[8]),([],[11]),([],[79,80]),([],[81]),([],[82]),([],[78,83]),([15],[73,84]),([15],[85]),([],[10]),([15],[86,87]),([],[8]),([],[11]),([],[89,90]),([],[91]),([],[92])] fol ?_
   simp(disch:=omega)only[go_sem,gm,hb]
   first|(refine Aa (Ia w5.queues b.name (by omega)) ?_)|(refine Ai (Ia w5.queues b.name (by omega)) ?_)
   simp(disch:=omega)only[go_sem,hk,atI,gm,hq]
   first|(refine Aa (f163_ok q y.proc q1) ?_)|(refine Ai (f163_ok q y.proc q1) ?_)
   simp(disch:=omega)only[go_sem,gm,hb]
   cases hH:decide (Ap q.holds y.proc=b.amt)
   ·rw[hH]at g6
    simp only[false_eq_true,if_false]at g6
    simp(disch:=omega)only[go_sem,hH,Bool.not_false]
    refine Aj 17 [([],[0]),([],[96]),([],[97]),([],[98]),([],[99]),([],[10]),([],[8]),([],[11]),([],[102,103]),([],[104]),([],[100,101,105]),([10],[106]),([10],[95]),([10],[95]),([10],[95]),([10],[107]),([10],[108])] fol ?_
    simp(disch:=omega)only[go_sem,gm,hb]
    first|(refine Aa (f192_ok w5.queues y.proc b g5) ?_)|(refine Ai (f192_ok w5.queues y.proc b g5) ?_)
    refine gO ?_
    refine call2 ⟨⟨[(0,0),(1,1)],[(63,63)],[]⟩,[],[]⟩ (f184_ok w5 (AT w5.queues y.proc b).1 (AT w5.queues y.proc b).2.1 (by omega)) ?_
    rw[← g6,← g4]
    refine gO ?_
    exact hJ _ (i+1) (by omega) (by omega) AE
   ·rw[hH,if_pos rfl]at g6
    simp(disch:=omega)only[go_sem,hH,Bool.not_true]
    refine hJ _ (i+1) (by omega) (by omega) (Imp.weak (by simp(disch:=omega)only[go_sem]) ?_)
    rw[g4,g6]
    simp(disch:=omega)only[go_sem]
  ·have hil:i=az.length:=by simp at hge;omega
   subst hil
   rw[take_length]
   have g1:=G4 c1 _ (Nat.le_refl _)
   rw[take_length]at g1
   have g3:(Cj w4 y.proc az).procs[o]?=some (FQ y led):=by rw[Fh];exact hx4
   refine call2 ⟨⟨[(0,0),(1,1)],[(63,63)],[]⟩,[],[]⟩ (f121_ok (Cj w4 y.proc az) o (FQ y led) g3) ?_
   have g7:(AH (Cj w4 y.proc az) o (Ch (FQ y led))).evs.length=(Cj w4 y.proc az).evs.length:=rfl
   generalize AH (Cj w4 y.proc az) o (Ch (FQ y led))=w6 at c2 g7 ⊢
   have k2:=(hI.few _ c2).2.1
   have k4:=GZ w6
   refine gO ?_
   refine call2 ⟨⟨[(0,0),(1,1)],[(63,63)],[]⟩,[],[]⟩ (f122_ok Inv hI w6 c2 (by omega)) ?_
   refine gO ?_
   refine BU ⟨[(0,0),(1,1)],[(63,63)],[]⟩ _ ?_ ?_
   ·exact gI
   ·exact gI
 ·simp(disch:=omega)only[go_sem,h2]
  obtain⟨w3,hw3⟩:∃ w3,w3=FB w i x:=⟨_,rfl⟩
  obtain⟨y,hy⟩:∃ y,y=EO x:=⟨_,rfl⟩
  have hx3:w3.procs[i]?=some y:=by rw[hw3,hy];simp[FB,EO,h2,CJ,hi]
  have he3:w3.evs.length≤w.evs.length+1608:=by
   rw[hw3]
   simp only[FB,h2]
   have:=HX (i:=i) (hd h2)
   simpa using this
  have hi3:=Al hx3
  unfold Ol at c2 ⊢
  rw[← hw3,← hy]at c1 c2 ⊢
  refine call2 ⟨⟨[(0,0),(1,1)],[(63,63)],[]⟩,[],[]⟩ (f120_ok w i x hx (hd h2) (by omega)) ?_
  rw[show AL w i x=w3 by rw[hw3];simp[FB,h2]]
  clear hw3 hy hd hc ht
  generalize (B9 x.led label).2.1=az at c1 c2 hl ⊢
  generalize (B9 x.led label).1=led at c1 c2 ⊢
  simp(disch:=omega)only[go_sem,gm,hx3]
  refine Aj 7 [([],[0]),([],[54]),([],[55]),([],[56]),([],[57]),([],[1]),([],[7])] fol ?_
  simp(disch:=omega)only[go_sem,gm,hx3]
  obtain⟨o,rfl⟩:∃ o,o=i:=⟨i,rfl⟩
  have he4:(AH w3 o (FQ y led)).evs.length=w3.evs.length:=rfl
  have hx4:(AH w3 o (FQ y led)).procs[o]?=some (FQ y led):=by simp[AH,hi3]
  refine Ab (α:=Nat) (fun i=>⟨[(11,I i),(8,Be az),(0,.ptr 63 0),(1,I o),(10,.ptr 640 0)],[(63,(Cj (AH w3 o (FQ y led)) y.proc (az.take i)).c),(640,y.proc.c)]⟩) (fun i=>i≤az.length) (fun i=>az.length-i) 0 (Nat.zero_le _) ?_ ?_
  ·simp only[List.take_zero,Cj,List.foldl_nil,AH]
   exact Imp.weak (by simp(disch:=omega)only[go_sem]) (by simp(disch:=omega)only[go_sem];exact .sl (by simp only[map_set,set_set];rfl))
  generalize AH w3 o (FQ y led)=w4 at c1 c2 he4 hx4 ⊢
  clear hx3 hi3
  intro i hi2 J hJ
  refine gO ?_
  refine ⟨fun hlt=>?_,fun hge=>?_⟩
  ·obtain⟨b,hb⟩:∃ b,az[i]?=some b:=⟨_,gE (by simp at hlt;omega)⟩
   have hlt2:i<az.length:=Al hb
   obtain⟨g5,k,hk⟩:=c1 i b hb
   have g1:=G4 c1 i hi2
   have g2:=FT g5 y.proc b
   have g4:=Jt (w:=w4) (p:=y.proc) hb
   generalize Cj w4 y.proc (az.take i)=w5 at g1 g2 g4 g5 hk ⊢
   obtain⟨hk0,q,hq,_⟩:=CK hk
   have hgq:w5.queues.getD k q0=q:=by simp[List.getD,hq]
   have g6:G3 w5 y.proc b=if decide (Ap q.holds y.proc=b.amt) then w5 else Cc w5 (AT w5.queues y.proc b).1 (AT w5.queues y.proc b).2.1:=by unfold G3;rw[hk];simp only[hgq]
   obtain⟨q1,q2,q3⟩:=A5 (g5.q q (mG hq))
   have hn5:=g5.n
   refine Aj 25 [([],[0]),([],[69]),([],[70]),([],[71]),([],[72]),([],[0]),([],[74]),([],[75]),([],[76]),([],[77]),([],[8]),([],[11]),([],[79,80]),([],[81]),([],[82]),([],[78,83]),([15],[73,84]),([15],[85]),([],[10]),([15],[86,87]),([],[8]),([],[11]),([],[89,90]),([],[91]),([],[92])] fol ?_
   simp(disch:=omega)only[go_sem,gm,hb]
   first|(refine Aa (Ia w5.queues b.name (by omega)) ?_)|(refine Ai (Ia w5.queues b.name (by omega)) ?_)
   simp(disch:=omega)only[go_sem,hk,atI,gm,hq]
   first|(refine Aa (f163_ok q y.proc q1) ?_)|(refine Ai (f163_ok q y.proc q1) ?_)
   simp(disch:=omega)only[go_sem,gm,hb]
   cases hH:decide (Ap q.holds y.proc=b.amt)
   ·rw[hH]at g6
    simp only[false_eq_true,if_false]at g6
    simp(disch:=omega)only[go_sem,hH,Bool.not_false]
    refine Aj 17 [([],[0]),([],[96]),([],[97]),([],[98]),([],[99]),([],[10]),([],[8]),([],[11]),([],[102,103]),([],[104]),([],[100,101,105]),([10],[106]),([10],[95]),([10],[95]),([10],[95]),([10],[107]),([10],[108])] fol ?_
    simp(disch:=omega)only[go_sem,gm,hb]
    first|(refine Aa (f192_ok w5.queues y.proc b g5) ?_)|(refine Ai (f192_ok w5.queues y.proc b g5) ?_)
    refine gO ?_
    refine call2 ⟨⟨[(0,0),(1,1)],[(63,63)],[]⟩,[],[]⟩ (f184_ok w5 (AT w5.queues y.proc b).1 (AT w5.queues y.proc b).2.1 (by omega)) ?_
    rw[← g6,← g4]
    refine gO ?_
    exact hJ _ (i+1) (by omega) (by omega) AE
   ·rw[hH,if_pos rfl]at g6
    simp(disch:=omega)only[go_sem,hH,Bool.not_true]
    refine hJ _ (i+1) (by omega) (by omega) (Imp.weak (by simp(disch:=omega)only[go_sem]) ?_)
    rw[g4,g6]
    simp(disch:=omega)only[go_sem]
  ·have hil:i=az.length:=by simp at hge;omega
   subst hil
   rw[take_length]
   have g1:=G4 c1 _ (Nat.le_refl _)
   rw[take_length]at g1
   have g3:(Cj w4 y.proc az).procs[o]?=some (FQ y led):=by rw[Fh];exact hx4
   refine call2 ⟨⟨[(0,0),(1,1)],[(63,63)],[]⟩,[],[]⟩ (f121_ok (Cj w4 y.proc az) o (FQ y led) g3) ?_
   have g7:(AH (Cj w4 y.proc az) o (Ch (FQ y led))).evs.length=(Cj w4 y.proc az).evs.length:=rfl
   generalize AH (Cj w4 y.proc az) o (Ch (FQ y led))=w6 at c2 g7 ⊢
   have k2:=(hI.few _ c2).2.1
   have k4:=GZ w6
   refine gO ?_
   refine call2 ⟨⟨[(0,0),(1,1)],[(63,63)],[]⟩,[],[]⟩ (f122_ok Inv hI w6 c2 (by omega)) ?_
   refine gO ?_
   refine BU ⟨[(0,0),(1,1)],[(63,63)],[]⟩ _ ?_ ?_
   ·exact gI
   ·exact gI
theorem Nj{x:Pcs}{a:Nat}(hv:AX x.led=true):∀ (az:List Atom) (w:Work),Ej w.queues→Ls w.queues x→Y3 w.queues x a→(∀ b∈az,(∃ e∈x.led.entries,e.name=b.name)∧b.amt=Ar (x.led.entries.take a) b.name) →
 Rg w x.proc az∧Fa x.proc w.queues (Cj w x.proc az).queues
 |[],w,h,_,_,_=>⟨fun i b hb=>by simp at hb,.refl h⟩
 | b::az,w,h,hf,hr,hb=>by
  obtain⟨hb1,hb2⟩:=hb b (by simp)
  obtain⟨k,q,f1,f2,f3,f4⟩:=hf b.name hb1
  have hg:w.queues.getD k q0=q:=by simp[List.getD,f2]
  obtain⟨r1,r2⟩:=hr q (mG f2)
  have key:Fa x.proc w.queues (G3 w x.proc b).queues∧Y3 (G3 w x.proc b).queues x a:=by
   unfold G3
   simp only[f1,hg]
   split
   ·exact⟨.refl h,hr⟩
   ·rename_i hne
    have hne:Ap q.holds x.proc≠b.amt:=by simpa using hne
    have hh:Ap q.holds x.proc=Ar x.led.entries b.name:=by
     rcases r2 with r2|r2
     ·rw[r2,f3]
     ·rw[f3,← hb2]at r2;exact absurd r2 hne
    obtain⟨q1,e1,hs,hqr,g1,g2⟩:=JT (a:=b) h f1 f2 r1 (by rw[hh];exact GL f4) (by rw[hh,hb2];exact VX f4 (V1 hv b.name a))
    simp only[Cc]
    rw[e1]
    refine⟨hs,fun q' hq'=>?_⟩
    rcases DE (q:=q) hq' with rfl|⟨j,_,hj⟩
    ·exact⟨g1,.inr (by rw[g2,hb2,hqr,f3])⟩
    ·exact hr q' (mG hj)
  obtain⟨g1,g2⟩:=Nj hv az (G3 w x.proc b) key.1.tab (hf.res key.1.res) key.2 fun c hc=>hb c (by simp[hc])
  refine⟨fun i c hc=>?_,key.1.trans g2⟩
  cases i with
  | zero =>
   simp at hc
   subst hc
   exact⟨CG h,k,f1⟩
  | succ i=>exact g1 i c (by simpa using hc)
theorem Vv(x:Pcs):(EO x).proc=x.proc∧(EO x).waiting=false∧(EO x).led=x.led:=by
 unfold EO
 cases hw:x.waiting
 ·exact⟨rfl,hw,rfl⟩
 ·exact⟨rfl,rfl,rfl⟩
theorem X0{l:Ledger}{label:Int}(h:(B9 l label).2.2=0):AX l=true∧∃ a n,(B9 l label).2.1=PA l a∧(B9 l label).1=PK l a n:=by
 unfold B9 at h ⊢
 split at h
 ·simp at h
 ·rename_i hv
  refine⟨by simpa using hv,?_⟩
  cases hb:Ni l label with
  |none=>rw[hb]at h;simp at h
  |some p=>obtain⟨a,n⟩:=p;exact⟨a,n,by simp[hv],by simp[hv]⟩
theorem P9{w:Work}{i:Nat}{x:Pcs}{label:Int}(h:JE none w)(hx:w.procs[i]?=some x)(hf:Ls w.queues x)(hi:x.waiting=false→Idle w.queues x)(hpt:x.waiting=true→∀ q∈w.queues,(∀ a∈Ag x.req.expr,q.res.name≠a.name)→KF q x.proc (Ar x.led.entries q.res.name))
 (h0:(B9 x.led label).2.2=0):Rg (AH (FB w i x) i (FQ (EO x) (B9 x.led label).1)) (EO x).proc (B9 x.led label).2.1∧JE none (Ol w i x label):=by
 obtain⟨hv,a,n,e1,e2⟩:=X0 h0
 obtain⟨p1,p2,p3⟩:=Vv x
 have hli:=Al hx
 have hcalm:JE none (FB w i x)∧(FB w i x).procs[i]?=some (EO x)∧(∀ q∈(FB w i x).queues,KF q x.proc (Ar x.led.entries q.res.name))∧(FB w i x).queues.map (·.res)=w.queues.map (·.res):=by
  unfold FB EO
  cases hw:x.waiting
  ·exact⟨h,hx,hi hw,rfl⟩
  ·simp only[if_true]
   obtain⟨_,g1,g2⟩:=D1 h hx hw
   have hg:=h.good i x hx (by simp) hw
   have hres:=(JC (Ag x.req.expr) w h.tab hg.k hg.fd).2.1.res
   refine⟨g1,by rw[CJ];simp[hli],fun q hq=>?_,hres⟩
   rcases g2 q hq with g|⟨g,gn⟩
   ·exact g
   ·exact hpt hw q g gn
 obtain⟨c1,c2,c3,c4⟩:=hcalm
 obtain⟨w1,hw1⟩:∃ w1,w1=AH (FB w i x) i (FQ (EO x) (B9 x.led label).1):=⟨_,rfl⟩
 have d1:JE (some i) w1:=by rw[hw1];exact(c1.but i).set' c2 rfl
 have d2:w1.queues=(FB w i x).queues:=by rw[hw1];rfl
 have d3:w1.procs[i]?=some (FQ (EO x) (B9 x.led label).1):=by rw[hw1];simp[AH,Al c2]
 obtain⟨g1,g2⟩:=Nj (a:=a) hv (PA x.led a) w1 d1.tab (by rw[d2];exact hf.res c4) (fun q hq=>by
  rw[d2]at hq
  exact⟨(c3 q hq).1,.inl (c3 q hq).2⟩) (fun b hb=>by
  simp only[PA,mem_map]at hb
  obtain⟨m,hm,rfl⟩:=hb
  obtain⟨e,he,hn⟩:=(Pe _ _).1 hm
  exact⟨⟨e,List.mem_of_mem_drop he,hn⟩,rfl⟩)
 unfold Ol
 rw[← hw1,p1,e1]
 refine⟨g1,?_⟩
 have d4:(FQ (EO x) (B9 x.led label).1).proc=x.proc:=p1
 exact JE.set (z:=FQ (EO x) (B9 x.led label).1) (d1.step d3 (Fh _ _ _) (d4▸g2)) (by rw[Fh];exact d3) rfl (fun e=>by simp[Ch,FQ,p2]at e)
theorem OS{w:Work}{i:Nat}{x:Pcs}{name:Bs}(h:JE none w)(hx:w.procs[i]?=some x)(hw:x.waiting=false):PD (Jg w i x name):=by
 rcases Um x.proc ⟨name,⟨0,0⟩⟩ h.tab with hl|hs
 ·refine .inr ⟨hl,by simpa [Jg,AH,Cc]using h.n,fun z hz hzw=>?_⟩
  simp only[Jg,AH,Cc]at hz
  rcases List.mem_or_eq_of_mem_set hz with hz|rfl
  ·exact h.reqs z hz hzw
  ·simp[Ch,hw]at hzw
 ·refine .inl ?_
  unfold Jg
  exact JE.set (w:=Cc w (AT w.queues x.proc ⟨name,⟨0,0⟩⟩).1 (AT w.queues x.proc ⟨name,⟨0,0⟩⟩).2.1) ((h.but i).step hx rfl hs) hx rfl (fun e=>by simp[Ch,hw]at e)
theorem V5{r:Res}{a:Amt}(ha:r.fits a=true)(hc:r.covers ⟨0,0⟩ a=false):Ea r ⟨0,0⟩ a=a:=by
 have hs:=(B6 ha).1
 have p1:r.permits ⟨0,0⟩=true:=by simp[Res.permits,hs,Amt.zero]
 have p2:r.permits a=true:=by simp[Res.permits,hs,ha]
 unfold Ea
 simp only[p1,p2,hc,Bool.and_self,Bool.not_true,false_eq_true,if_false,Hu ha,if_true]
theorem Uv{q:Queue}{x:Pcs}(hl:Ar x.led.entries q.res.name=⟨0,0⟩∨q.res.fits (Ar x.led.entries q.res.name)=true):∀ (az:List Atom),(∀ a∈az,a.name=q.res.name→q.res.fits a.amt=true)→FD q x az=true→Kq q x.proc (Ar x.led.entries q.res.name)
 |[],_,h=>by
  simp only[FD,and_eq_true,decide_eq_true_eq,Bool.not_eq_true']at h
  exact KF.k ⟨E2 h.2,h.1⟩
 | a::az,hf,h=>by
  unfold FD at h
  split at h
  ·exact Uv hl az (fun b hb=>hf b (by simp[hb])) h
  rename_i hn
  have hn:a.name=q.res.name:=by simpa using hn
  have hfa:=hf a (by simp) hn
  split at h
  ·exact Uv hl az (fun b hb=>hf b (by simp[hb])) h
  rename_i hc
  have hc:q.res.covers (Ar x.led.entries q.res.name) a.amt=false:=by simpa using hc
  split at h
  ·rename_i hw
   have hw:=E2 (by simpa using hw)
   have hg:Ap q.holds x.proc=Ea q.res (Ar x.led.entries q.res.name) a.amt:=by simpa using h
   refine⟨fun hh=>by rw[hw]at hh;simp at hh,.inr ?_⟩
   rw[hg]
   rcases hl with hl|hl
   ·rw[hl]at hc ⊢
    rw[V5 hfa hc]
    exact⟨GL hfa,Hu hfa⟩
   ·obtain⟨j1,j2,_⟩:=OZ hl hfa hc
    exact⟨GL j1,j2⟩
  ·split at h
   ·cases h
   ·simp only[and_eq_true,decide_eq_true_eq]at h
    exact⟨fun _=>h.1,.inl h.1⟩
theorem XF{q:Queue}{x:Pcs}:∀ (az:List Atom),(∀ a∈az,q.res.name≠a.name)→FD q x az=true→KF q x.proc (Ar x.led.entries q.res.name)
 |[],_,h=>by
  simp only[FD,and_eq_true,decide_eq_true_eq,Bool.not_eq_true']at h
  exact⟨E2 h.2,h.1⟩
 | a::az,hf,h=>by
  unfold FD at h
  rw[if_pos (by simpa using Ne.symm (hf a (by simp)))]at h
  exact XF az (fun b hb=>hf b (by simp[hb])) h
theorem KN{l:List Res}:∀ {az:List Atom},Fu l az=0→∀ a∈az,E1 l a=0
 |[],_,a,ha=>by cases ha
 | b::az,h,a,ha=>by
  simp only[Fu]at h
  split at h
  ·rename_i hb
   rcases List.mem_cons.1 ha with rfl|ha
   ·exact hb
   ·exact KN h a ha
  ·rename_i hb;exact absurd h hb
theorem GO{t:List Queue}(ht:Ej t){e:Expr}(h:Cu (FA t) e=0){a:Atom}(ha:a∈Ag e):∃ k q,BR t a.name=some k∧t[k]?=some q∧q.res.name=a.name∧q.res.fits a.amt=true:=by
 unfold Cu at h
 split at h
 ·have:=KN h a ha
  unfold E1 at this
  split at this
  ·simp at this
  ·cases hr:Nx (FA t) a.name with
   |none=>rw[hr]at this;simp at this
   |some r =>
    rw[hr]at this
    simp only at this
    split at this
    ·rename_i hf
     unfold Nx at hr
     have hm:=List.mem_of_find?_eq_some hr
     have hn:r.name=a.name:=by simpa using List.find?_some hr
     simp only[FA,mem_map]at hm
     obtain⟨q,hq,rfl⟩:=hm
     obtain⟨k,hk⟩:=List.getElem?_of_mem hq
     exact⟨k,q,by rw[← hn];exact SI ht hk,hk,hn,hf⟩
    ·simp at this
 ·simp at h
structure Fit(w:Work):Prop where
 je:JE none w
 idle:∀ x∈w.procs,x.waiting=false→Idle w.queues x
 wait:∀ x∈w.procs,x.waiting=true→∀ q∈w.queues,(∀ a∈Ag x.req.expr,q.res.name≠a.name)→KF q x.proc (Ar x.led.entries q.res.name)
 fits:∀ x∈w.procs,Ls w.queues x
 led:∀ x∈w.procs,AX x.led=true
 now:0≤w.now∧w.now≤1073741824
 ev:w.evs=[]
theorem Kw{l:List Pcs}(h:∀ i x,l[i]?=some x→(decide (i=0)||decide (A2 (l.getD (i-1) x0).proc x.proc<0))=true):∀ d i x y,l[i]?=some x→l[i+d+1]?=some y→A2 x.proc y.proc<0
 | 0,i,x,y,hx,hy=>by
  have:=h (i+1) y hy
  have hd:l.getD (i+1-1) x0=x:=by simp[List.getD,hx]
  rw[hd]at this
  simpa using this
 | d+1,i,x,y,hx,hy=>by
  have hlt:=Al hy
  obtain⟨z,hz⟩:∃ z,l[i+d+1]?=some z:=⟨_,gE (by omega)⟩
  have h1:=Kw h d i x z hx hz
  have h2:=h (i+(d+1)+1) y hy
  have hd:l.getD (i+(d+1)+1-1) x0=z:=by simp[List.getD,show i+(d+1)+1-1=i+d+1 by omega,hz]
  rw[hd]at h2
  exact CR h1 (by simpa using h2)
theorem Ys{t:List Queue}{x:Pcs}(hv:AX x.led=true)(h:(EZ x.led).all (Fo t)=true):Ls t x:=fun n hn=>by
 have h1:=(QL hv hn).1
 have h2:=List.all_eq_true.1 h _ h1
 unfold Fo at h2
 simp only at h2
 cases hf:BR t n with
 |none=>rw[hf]at h2;cases h2
 |some k =>
  rw[hf]at h2
  obtain⟨_,q,hq,hnm⟩:=CK hf
  have hg:t.getD k q0=q:=by simp[List.getD,hq]
  simp only[hg]at h2
  exact⟨k,q,rfl,hq,hnm,h2⟩
theorem VS{t:List Queue}(ht:Ej t){x:Pcs}(h:Ls t x){q:Queue}(hq:q∈t):Ar x.led.entries q.res.name=⟨0,0⟩∨q.res.fits (Ar x.led.entries q.res.name)=true:=by
 by_cases hn:∃ e∈x.led.entries,e.name=q.res.name
 ·obtain⟨k,q',h1,h2,_,h4⟩:=h _ hn
  obtain⟨j,hj⟩:=List.getElem?_of_mem hq
  have:=SI ht hj
  rw[this]at h1
  have:=Option.some.inj h1
  subst this
  rw[hj]at h2
  have:=Option.some.inj h2
  subst this
  exact .inr h4
 ·exact .inl (Qx hn)
theorem Yw{t:List Queue}{x:Pcs}(ht:Ej t)(hv:AX x.led=true)(h:IQ t x=true):Idle t x:=fun q hq=>by
 simp only[IQ,and_eq_true,decide_eq_true_eq]at h
 obtain⟨⟨⟨_,_⟩,h3⟩,h4⟩:=h
 have h4:D7 t x.proc=[]:=by
  have:((D7 t x.proc).length:Int)=0:=by simpa using h4
  exact List.eq_nil_of_length_eq_zero (by omega)
 have hw:Ao q x.proc=none:=by
  unfold D7 at h4
  rw[List.filterMap_eq_nil_iff]at h4
  have:=h4 q hq
  simpa using this
 refine⟨hw,?_⟩
 cases hz:(Ap q.holds x.proc).zero
 ·have hm:(⟨q.res.name,Ap q.holds x.proc⟩:Atom)∈GA t x.proc:=by
   unfold GA
   rw[mem_filterMap]
   exact⟨q,hq,by simp[hz]⟩
  rw[← h3]at hm
  unfold EZ at hm
  rw[mem_filterMap]at hm
  obtain⟨n,_,hn⟩:=hm
  split at hn
  ·cases hn
  ·simp only[Option.some.injEq,Atom.mk.injEq]at hn
   rw[← hn.2,hn.1]
 ·rw[zero_eq hz]
  by_cases hn:∃ e∈x.led.entries,e.name=q.res.name
  ·exfalso
   obtain⟨h5,h6⟩:=QL hv hn
   rw[h3]at h5
   unfold GA at h5
   rw[mem_filterMap]at h5
   obtain⟨q',hq',he⟩:=h5
   split at he
   ·cases he
   ·rename_i hz'
    simp only[Option.some.injEq,Atom.mk.injEq]at he
    obtain⟨i,hi⟩:=List.getElem?_of_mem hq
    obtain⟨j,hj⟩:=List.getElem?_of_mem hq'
    have:=JU ht hj hi he.1
    subst this
    rw[hi]at hj
    have:=Option.some.inj hj
    subst this
    exact hz' hz
  ·exact(Qx hn).symm
theorem Kf{c:Cen}(h:Gy c=true):Fit ⟨c.now,c.queues,c.procs,[]⟩:=by
 simp only[Gy,and_eq_true,decide_eq_true_eq,DU]at h
 obtain⟨⟨⟨⟨⟨h1,h2⟩,h3⟩,h4⟩,h5⟩,h6⟩:=h
 have ht:=(GY _).1 h3
 have hpos:∀ x∈c.procs,FO x=true∧(EZ x.led).all (Fo c.queues)=true∧(if x.waiting then HV c.now c.queues x else IQ c.queues x)=true:=fun x hx=>by
  obtain⟨i,hi⟩:=List.getElem?_of_mem hx
  have:=h6 i x hi
  simp only[DK,EK,and_eq_true]at this
  exact⟨this.1.1.1,this.1.1.2,this.1.2⟩
 have hord:∀ i x,c.procs[i]?=some x→(decide (i=0)||decide (A2 (c.procs.getD (i-1) x0).proc x.proc<0))=true:=fun i x hi=>by
  have:=h6 i x hi
  simp only[DK,and_eq_true]at this
  exact this.2
 have hled:∀ x∈c.procs,AX x.led=true:=fun x hx=>by
  have:=(hpos x hx).1
  simp only[FO,and_eq_true]at this
  exact this.1.1.2
 have hfit:∀ x∈c.procs,Ls c.queues x:=fun x hx=>Ys (hled x hx) (hpos x hx).2.1
 have hwait:∀ x∈c.procs,x.waiting=true→AQ x.req.expr=true∧Cu (FA c.queues) x.req.expr=0∧∀ q∈c.queues,FD q x (Ag x.req.expr)=true:=fun x hx hw=>by
  have:=(hpos x hx).2.2
  rw[hw,if_pos rfl]at this
  simp only[HV,and_eq_true,List.all_eq_true,HH]at this
  refine⟨this.1.1.1.1.1.1.1.1.1.1,?_,this.2⟩
  have h7:=this.1.1.1.1.1.2
  simpa using h7
 refine⟨⟨ht,h4,fun i j x y hx hy e=>?_,fun j x hj _ hw=>?_⟩,fun x hx hw=>?_,fun x hx hw q hq hn=>XF _ hn ((hwait x hx hw).2.2 q hq),hfit,hled,⟨h1,h2⟩,rfl⟩
 ·rcases Nat.lt_trichotomy i j with hlt|rfl|hlt
  ·obtain⟨d,rfl⟩:∃ d,j=i+d+1:=⟨j-i-1,by omega⟩
   have:=Kw hord d i x y hx hy
   rw[e,C6]at this
   omega
  ·rfl
  ·obtain⟨d,rfl⟩:∃ d,i=j+d+1:=⟨i-j-1,by omega⟩
   have:=Kw hord d j y x hy hx
   rw[e,C6]at this
   omega
 ·have hx:=mG hj
  obtain⟨g1,g2,g3⟩:=hwait x hx hw
  refine⟨g1,fun a ha=>?_,fun q hq=>?_⟩
  ·obtain⟨k,_,hk,_⟩:=GO ht g2 ha
   exact⟨k,hk⟩
  ·refine Uv (VS ht (hfit x hx) hq) _ (fun a ha hn=>?_) (g3 q hq)
   obtain⟨k,q',k1,k2,k3,k4⟩:=GO ht g2 ha
   obtain⟨i,hi⟩:=List.getElem?_of_mem hq
   have:=JU ht k2 hi (k3.trans hn)
   subst this
   rw[k2]at hi
   have:=Option.some.inj hi
   subst this
   exact k4
 ·have:=(hpos x hx).2.2
  have hw':x.waiting=false:=hw
  rw[hw']at this
  exact Yw ht (hled x hx) (by simpa using this)
def Me(x:Pcs)(n:Int):Pcs:={ x with led:=(EE x.led n).1 }
def doI(w:Work)(k:Cmd)(i:Nat)(x:Pcs):Work × Int :=
 if k.kind=2 then Dx w i x k.req
 else if k.kind=3 then (if x.waiting then (BC (AH (AL w i x) i (Ch (Bx x))),0) else (w,14))
 else if k.kind=4 then Ey w i x k.name
 else if k.kind=5 then (if x.waiting then (w,14) else if (EE x.led k.n).2=0 then (AH w i (Ch (Me x k.n)),0) else (w,(EE x.led k.n).2))
 else if k.kind=6 then EL w i x k.n
 else if k.kind=8 then (if x.waiting then (w,14) else (Qu w i x,0))
 else (Qu w i x,0)
def doW(w:Work)(k:Cmd):Work × Int :=
 if k.kind<1∨9<k.kind then (w,1) else if k.kind=1 then Io w k.proc k.n else if k.kind=9 then Iy w k.n
 else match w.procs.findIdx? (fun x=>decide (x.proc=k.proc)) with
 |none=>(w,10)
 |some i=>doI w k i (w.procs.getD i x0)
theorem MJ{w:Work}{i:Nat}{x:Pcs}(h:JE none w)(hx:w.procs[i]?=some x):JE none (NC w i x):=by
 have hs:=RS x.proc h.tab
 have hm:∀ (j:Nat) (y:Pcs),(w.procs.eraseIdx i)[j]?=some y→∃ j',w.procs[j']?=some y∧j'≠i∧j'=if j<i then j else j+1:=fun j y hj=>by
  rw[List.getElem?_eraseIdx]at hj
  split at hj
  ·rename_i hlt
   exact⟨j,hj,by omega,by simp[hlt]⟩
  ·rename_i hlt
   exact⟨j+1,hj,by omega,by simp[hlt]⟩
 refine⟨hs.tab,?_,fun a b u v ha hb e=>?_,fun j y hj _ hw=>?_⟩
 ·simp only[NC,BM,Cc,List.length_eraseIdx]
  have:=h.n
  split<;>omega
 ·obtain⟨a',h1,_,h3⟩:=hm a u ha
  obtain⟨b',k1,_,k3⟩:=hm b v hb
  have:=h.uq a' b' u v h1 k1 e
  rw[h3,k3]at this
  split at this<;>split at this<;>omega
 ·obtain⟨j',h1,h2,_⟩:=hm j y hj
  exact(h.good j' y h1 (by simp) hw).step hs fun e=>h2 (h.uq j' i y x h1 hx e)
theorem YV{t:List Queue}{p:Proc}(h:Ej t):(BO t p).2.length≤100000:=by
 have e:(BO t p).2=HG t p t.length:=by simp[BO,(GY t).2 h,HG]
 rw[e]
 have:=M3 (p:=p) (CG h).q t.length (Nat.le_refl _)
 have:=h.n
 omega
theorem Wv(l:Ledger)(label:Int):(B9 l label).2.1.length≤1000:=by
 unfold B9
 split
 ·simp
 ·rename_i hv
  have hl:l.entries.length≤72:=by
   have:AX l=true:=by simpa using hv
   simp only[AX,and_eq_true,decide_eq_true_eq]at this
   omega
  cases Ni l label with
  |none=>simp
  |some p =>
   obtain⟨a,n⟩:=p
   simp only[PA,List.length_map]
   have:=Ku (l.entries.drop a)
   simp at this
   omega
theorem Qp{l:List Pcs}{p:Proc}{i:Nat}(h:l.findIdx? (fun x=>decide (x.proc=p))=some i):∃ x,l[i]?=some x:=by
 obtain⟨hi,_⟩:=List.findIdx?_eq_some_iff_getElem.1 h
 exact⟨_,gE hi⟩
theorem f71_ok(w:Work)(k:Cmd)(h:Fit w):Ac C0 71 [.ptr 63 0,.agg k.c] [(63,w.c)] (I (doW w k).2) [(63,(doW w k).1.c)]:=by
 have hp:=h.je.n
 have hf:=CG h.je.tab
 have hev:w.evs.length=0:=by rw[h.ev];rfl
 have hwc:=GZ w
 refine Ac.go f71 ?_
 unfold f71
 refine gO ?_
 by_cases h1:k.kind<1
 ·have ht:doW w k=(w,1):=by simp[doW,h1]
  rw[ht]
  simp(disch:=omega)only[go_sem,eq_true h1,decide_true]
  refine BU ⟨[(0,0),(1,1)],[(63,63)],[]⟩ _ ?_ ?_
  ·exact gI
  ·exact gI
 by_cases h2:9<k.kind
 ·have ht:doW w k=(w,1):=by simp[doW,h2]
  rw[ht]
  simp(disch:=omega)only[go_sem,eq_false h1,eq_true h2,decide_true,decide_false]
  refine BU ⟨[(0,0),(1,1)],[(63,63)],[]⟩ _ ?_ ?_
  ·exact gI
  ·exact gI
 simp(disch:=omega)only[go_sem,eq_false h1,eq_false h2,decide_false]
 by_cases h3:k.kind=1
 ·have ht:doW w k=Io w k.proc k.n:=by simp[doW,h3]
  rw[ht]
  simp(disch:=omega)only[go_sem,h3]
  refine call2 ⟨⟨[(0,0),(1,1)],[(63,63)],[]⟩,[],[]⟩ (f117_ok w k.proc k.n (by omega)) ?_
  refine gO ?_
  refine BU ⟨[(0,0),(1,1)],[(63,63)],[]⟩ _ ?_ ?_
  ·exact gI
  ·exact gI
 have h3':(k.kind==1)=false:=by simpa using h3
 simp(disch:=omega)only[go_sem,h3']
 by_cases h4:k.kind=9
 ·have ht:doW w k=Iy w k.n:=by simp[doW,h4]
  rw[ht]
  simp(disch:=omega)only[go_sem,h4]
  refine call2 ⟨⟨[(0,0),(1,1)],[(63,63)],[]⟩,[],[]⟩ (f118_ok (JE none) JE.Zb w k.n (fun t=>⟨h.je.tab,h.je.n,h.je.uq,h.je.good⟩) h.now.1 (by omega)) ?_
  refine gO ?_
  refine BU ⟨[(0,0),(1,1)],[(63,63)],[]⟩ _ ?_ ?_
  ·exact gI
  ·exact gI
 have h4':(k.kind==9)=false:=by simpa using h4
 simp(disch:=omega)only[go_sem,h4']
 refine Aj 7 [([],[0]),([],[33]),([],[34]),([],[35]),([],[36]),([],[3]),([],[38])] fol ?_
 refine gO ?_
 refine Dr [0] (f69_ok w.procs k.proc) (by simp(disch:=omega)only[go_sem]) rfl trivial ?_
 cases hfi:w.procs.findIdx? (fun x=>decide (x.proc=k.proc)) with
 |none =>
  have ht:doW w k=(w,10):=by simp[doW,h1,h2,h3,h4,hfi]
  have hix:Es w.procs k.proc = -1:=by simp[Es,hfi]
  rw[ht]
  simp(disch:=omega)only[go_sem,hix]
  refine BU ⟨[(0,0),(1,1)],[(63,63)],[]⟩ _ ?_ ?_
  ·exact gI
  ·exact gI
 |some i =>
 obtain⟨x,hx⟩:=Qp hfi
 have hxm:=mG hx
 have hi:=Al hx
 have hix:Es w.procs k.proc=i:=by simp[Es,hfi]
 have ht:doW w k=doI w k i x:=by simp[doW,h1,h2,h3,h4,hfi,List.getD,hx]
 rw[ht]
 simp(disch:=omega)only[go_sem,hix,eq_false (show ¬ (i:Int)<0 by omega),decide_false,gm,hx]
 by_cases k2:k.kind=2
 ·have ht2:doI w k i x=Dx w i x k.req:=by simp[doI,k2]
  rw[ht2]
  simp(disch:=omega)only[go_sem,k2]
  refine call2 ⟨⟨[(0,0),(1,1)],[(63,63)],[]⟩,[],[]⟩ (f119_ok PD PD.D4 w i x k.req hx hf (fun a1 a2 a3=>by
   refine Si h.je hx (h.idle x hxm a1) (by simp only[HH,and_eq_true]at a2;exact a2.1.1.1.1) (fun a ha=>?_)
   obtain⟨n,_,hn,_⟩:=GO h.je.tab a3 ha
   exact⟨n,hn⟩) hp (by omega)) ?_
  refine gO ?_
  refine BU ⟨[(0,0),(1,1)],[(63,63)],[]⟩ _ ?_ ?_
  ·exact gI
  ·exact gI
 have k2':(k.kind==2)=false:=by simpa using k2
 simp(disch:=omega)only[go_sem,k2']
 by_cases k3:k.kind=3
 ·simp(disch:=omega)only[go_sem,k3]
  cases hw:x.waiting
  ·have ht2:doI w k i x=(w,14):=by simp[doI,k3,hw]
   rw[ht2]
   simp(disch:=omega)only[go_sem,hw]
   refine BU ⟨[(0,0),(1,1)],[(63,63)],[]⟩ _ ?_ ?_
   ·exact gI
   ·exact gI
  have ht2:doI w k i x=(BC (AH (AL w i x) i (Ch (Bx x))),0):=by simp[doI,k3,hw]
  rw[ht2]
  obtain⟨s1,s2,_⟩:=D1 h.je hx hw
  have hx1:(AL w i x).procs[i]?=some (Bx x):=by rw[CJ];simp[hi]
  have s3:=s2.next hx1
  have s4:=HX (i:=i) s1
  have s5:(AH (AL w i x) i (Ch (Bx x))).evs.length=(AL w i x).evs.length:=rfl
  have s6:=GZ (AH (AL w i x) i (Ch (Bx x)))
  have s7:=s3.n
  simp(disch:=omega)only[go_sem,hw]
  refine call2 ⟨⟨[(0,0),(1,1)],[(63,63)],[]⟩,[],[]⟩ (f120_ok w i x hx s1 (by omega)) ?_
  refine gO ?_
  refine call2 ⟨⟨[(0,0),(1,1)],[(63,63)],[]⟩,[],[]⟩ (f121_ok (AL w i x) i (Bx x) hx1) ?_
  refine gO ?_
  refine call2 ⟨⟨[(0,0),(1,1)],[(63,63)],[]⟩,[],[]⟩ (f122_ok (JE none) JE.D4 _ s3 (by omega)) ?_
  refine gO ?_
  refine BU ⟨[(0,0),(1,1)],[(63,63)],[]⟩ _ ?_ ?_
  ·exact gI
  ·exact gI
 have k3':(k.kind==3)=false:=by simpa using k3
 simp(disch:=omega)only[go_sem,k3']
 by_cases k4:k.kind=4
 ·have ht2:doI w k i x=Ey w i x k.name:=by simp[doI,k4]
  rw[ht2]
  simp(disch:=omega)only[go_sem,k4]
  refine call2 ⟨⟨[(0,0),(1,1)],[(63,63)],[]⟩,[],[]⟩ (f123_ok PD PD.D4 w i x k.name hx hf (fun a1=>OS h.je hx a1) hp (by omega)) ?_
  refine gO ?_
  refine BU ⟨[(0,0),(1,1)],[(63,63)],[]⟩ _ ?_ ?_
  ·exact gI
  ·exact gI
 have k4':(k.kind==4)=false:=by simpa using k4
 simp(disch:=omega)only[go_sem,k4']
 by_cases k5:k.kind=5
 ·simp(disch:=omega)only[go_sem,k5]
  cases hw:x.waiting
  rotate_left
  ·have ht2:doI w k i x=(w,14):=by simp[doI,k5,hw]
   rw[ht2]
   simp(disch:=omega)only[go_sem,hw]
   refine BU ⟨[(0,0),(1,1)],[(63,63)],[]⟩ _ ?_ ?_
   ·exact gI
   ·exact gI
  simp(disch:=omega)only[go_sem,hw]
  refine CP (st':=⟨[(5,I i),(3,.ptr 192 0),(0,.ptr 63 0)],[(192,k.c),(63,w.c)]⟩) (Imp.weak (by simp(disch:=omega)only[go_sem]) (by simp(disch:=omega)only[go_sem,k5])) ?_
  refine H6 16 [([],[0]),([0],[84]),([0,1],[85]),([0,1,2],[86]),([0,1,2,3],[87]),([],[5]),([0,1,2,3,4,5],[88,89]),([0,1,2,3,4,5,6],[90]),([0,1,2,3,4,5,6,7],[91]),([],[3]),([9],[93]),([0,1,2,3,4,5,6,7,8,9,10],[92,94]),([0,1,2,3,4,5,6,7,8,9,10,11],[95]),([0,1,2,3,4,5,6,7,8,9,10,11,12],[83]),([0,1,2,3,4,5,6,7,8,9,10,11,12],[83]),([],[]),([0,1,2,3,4,5,6,7,8,9,10,11,12,13,15],[]),([0,1,2,3,4,5,6,7,8,9,10,11,12,13,14,15,16],[])] [14] [([],[83,7,96,5,3,0],let o0:OT:=.done;let o1:OT:=.pick [(17,o0)];let o2:OT:=.pick [(16,o1)];let o3:OT:=.pick [(14,o1)];let o4:OT:=.pick [(14,o2),(16,o3)];o4),([14],[7,96,97,5,3,0],let o0:OT:=.done;let o1:OT:=.pick [(17,o0)];let o2:OT:=.pick [(16,o1)];o2)] fol (by kernel_rfl) ?_
  simp(disch:=omega)only[go_sem,gm,hx]
  first|(refine Aa (f124_ok x.led k.n) ?_)|(refine Ai (f124_ok x.led k.n) ?_)
  have hs2:(EE x.led k.n).2≠0→doI w k i x=(w,(EE x.led k.n).2):=fun hne=>by simp[doI,k5,hw,hne]
  have hs3:(EE x.led k.n).2=0→doI w k i x=(AH w i (Ch (Me x k.n)),0):=fun he=>by simp[doI,k5,hw,he]
  have hx5:(AH w i (Me x k.n)).procs[i]?=some (Me x k.n):=by simp[AH,hi]
  have hs4:AH (AH w i (Me x k.n)) i (Ch (Me x k.n))=AH w i (Ch (Me x k.n)):=by simp[AH]
  simp(disch:=omega)only[go_sem]
  repeat'(with_reducible refine And.intro ?_ ?_)
  all_goals intro hc
  all_goals first
   |(have hc':(EE x.led k.n).2≠0:=by simpa using hc
     rw[hs2 hc']
     refine BU ⟨[(0,0),(1,1)],[(63,63)],[]⟩ _ ?_ ?_
     ·exact gI
     ·exact gI
     done)
   | skip
  all_goals
   have hc':(EE x.led k.n).2=0:=by simpa using hc
   rw[hs3 hc']
   refine CP (st':=⟨[(5,I i),(7,.ptr 448 0),(0,.ptr 63 0)],[(448,(EE x.led k.n).1.c),(63,w.c)]⟩) AE ?_
   refine Aj 7 [([],[0]),([],[101]),([],[102]),([],[103]),([],[104]),([],[5]),([],[7])] fol ?_
   simp(disch:=omega)only[go_sem,gm,hx,List.length_map]
   refine call2 ⟨⟨[(0,0),(1,1)],[(63,63)],[]⟩,[],[]⟩ (f121_ok (AH w i (Me x k.n)) i _ hx5) ?_ (hh:=?_)
   rotate_left
   ·simp(disch:=omega)only[go_sem,AH,Me]
    exact .sl (by simp only[map_set];rfl)
   rw[hs4]
   refine gO ?_
   refine BU ⟨[(0,0),(1,1)],[(63,63)],[]⟩ _ ?_ ?_
   ·exact gI
   ·exact gI
 have k5':(k.kind==5)=false:=by simpa using k5
 simp(disch:=omega)only[go_sem,k5']
 by_cases k6:k.kind=6
 ·have ht2:doI w k i x=EL w i x k.n:=by simp[doI,k6]
  rw[ht2]
  simp(disch:=omega)only[go_sem,k6]
  refine call2 ⟨⟨[(0,0),(1,1)],[(63,63)],[]⟩,[],[]⟩ (f125_ok (JE none) JE.D4 w i x k.n hx (fun a1=>(D1 h.je hx a1).1) (fun a1=>P9 h.je hx (h.fits x hxm) (h.idle x hxm) (h.wait x hxm) a1) (Wv _ _) hp (by omega)) ?_
  refine gO ?_
  refine BU ⟨[(0,0),(1,1)],[(63,63)],[]⟩ _ ?_ ?_
  ·exact gI
  ·exact gI
 have k6':(k.kind==6)=false:=by simpa using k6
 simp(disch:=omega)only[go_sem,k6']
 have hga:=MJ h.je hx
 have hrl:=YV (p:=x.proc) h.je.tab
 by_cases k8:k.kind=8
 ·simp(disch:=omega)only[go_sem,k8]
  cases hw:x.waiting
  rotate_left
  ·have ht2:doI w k i x=(w,14):=by simp[doI,k8,hw]
   rw[ht2]
   simp(disch:=omega)only[go_sem,hw]
   refine BU ⟨[(0,0),(1,1)],[(63,63)],[]⟩ _ ?_ ?_
   ·exact gI
   ·exact gI
  have ht2:doI w k i x=(Qu w i x,0):=by simp[doI,k8,hw]
  rw[ht2]
  simp(disch:=omega)only[go_sem,hw]
  refine call2 ⟨⟨[(0,0),(1,1)],[(63,63)],[]⟩,[],[]⟩ (f126_ok (JE none) JE.D4 w i x hx hp hf hga hrl (by omega)) ?_
  refine gO ?_
  refine BU ⟨[(0,0),(1,1)],[(63,63)],[]⟩ _ ?_ ?_
  ·exact gI
  ·exact gI
 have k8':(k.kind==8)=false:=by simpa using k8
 have k7:k.kind=7:=by omega
 have ht2:doI w k i x=(Qu w i x,0):=by simp[doI,k7]
 rw[ht2]
 simp(disch:=omega)only[go_sem,k8',k7]
 refine call2 ⟨⟨[(0,0),(1,1)],[(63,63)],[]⟩,[],[]⟩ (f126_ok (JE none) JE.D4 w i x hx hp hf hga hrl (by omega)) ?_
 refine gO ?_
 refine BU ⟨[(0,0),(1,1)],[(63,63)],[]⟩ _ ?_ ?_
 ·exact gI
 ·exact gI
def PI:Cen:=⟨0,[],[]⟩
def doC(c:Cen)(k:Cmd):Cen × List Ev × Int :=
 if Gy c then (if (doW ⟨c.now,c.queues,c.procs,[]⟩ k).2=0 then (⟨(doW ⟨c.now,c.queues,c.procs,[]⟩ k).1.now,(doW ⟨c.now,c.queues,c.procs,[]⟩ k).1.queues,(doW ⟨c.now,c.queues,c.procs,[]⟩ k).1.procs⟩,(doW ⟨c.now,c.queues,c.procs,[]⟩ k).1.evs,0) else (PI,[],(doW ⟨c.now,c.queues,c.procs,[]⟩ k).2)) else (PI,[],2)
theorem f30_ok(c:Cen)(k:Cmd)(h:Di c.queues):Ac C0 30 [.agg c.c,.agg k.c] [] (.tup [.agg (doC c k).1.c,SF (doC c k).2.1,I (doC c k).2.2]) []:=by
 have hn:=h.n
 refine Ac.go f30 ?_
 unfold f30
 refine gO ?_
 refine Aa (f68_ok c h) ?_
 cases hv:Gy c
 ·have ht:doC c k=(PI,[],2):=by simp[doC,hv]
  rw[ht]
  simp(disch:=omega)only[go_sem,Bool.not_false]
  refine BP _ ?_
  simp(disch:=omega)only[go_sem,PI,map_nil]
  refine .tup (Af.AD ?_)
  simp(disch:=omega)only[go_sem]
  repeat'(with_reducible apply And.intro)
  all_goals(first|exact .Au (by omega)|exact .agg (Af.AD (by simp(disch:=omega)only[go_sem])))
 have hfit:=Kf hv
 have hpl:c.procs.length≤8:=hfit.je.n
 obtain⟨w,hw⟩:∃ w:Work,w=⟨c.now,c.queues,c.procs,[]⟩:=⟨_,rfl⟩
 have ht:doC c k=(if (doW w k).2=0 then (⟨(doW w k).1.now,(doW w k).1.queues,(doW w k).1.procs⟩,(doW w k).1.evs,0) else (PI,[],(doW w k).2)):=by simp only[doC,hv,if_true,hw]
 rw[← hw]at hfit
 simp(disch:=omega)only[go_sem,Bool.not_true]
 refine A7 ⟨⟨[],[],[]⟩,[(0,896)],[]⟩ (f70_ok c (by omega) (by omega)) (by simp(disch:=omega)only[go_sem]) rfl (by simp(disch:=omega)only[go_sem]) (.inl rfl) ?_
 refine gO ?_
 refine A7 ⟨⟨[(896,0)],[(1024,63)],[]⟩,[(1,1216)],[]⟩ (f71_ok w k hfit) (by simp(disch:=omega)only[go_sem]) rfl ?_ (.inl rfl) ?_
 ·rw[hw]
  simp(disch:=omega)only[go_sem,map_nil]
  done
 refine gO ?_
 refine And.intro (fun hc=>?_) (fun hc=>?_)
 ·have hc':(doW w k).2≠0:=by simpa using hc
  rw[if_neg hc']at ht
  rw[ht]
  refine BP _ ?_
  simp(disch:=omega)only[go_sem,PI,map_nil]
  refine .tup (Af.AD ?_)
  simp(disch:=omega)only[go_sem]
  repeat'(with_reducible apply And.intro)
  all_goals(first|exact .Au (by omega)|exact .agg (Af.AD (by simp(disch:=omega)only[go_sem])))
 ·have hc':(doW w k).2=0:=by simpa using hc
  rw[if_pos hc']at ht
  rw[ht]
  obtain⟨w2,hw2⟩:∃ w2,w2=(doW w k).1:=⟨_,rfl⟩
  rw[← hw2]
  refine CP (st':=⟨[(7,.ptr 1024 0),(4,.ptr 256 0)],[(256,[I 0,.v (.slice none 0 0),.v (.slice none 0 0)]),(1024,[I w2.now,At w2.queues,.sl (.own 896 0) 16 (w2.procs.map Pcs.c),.sl (.own 1216 0) 7 (w2.evs.map Ev.c)])]⟩) ?_ ?_
  ·rw[hw2]
   exact AE
  refine H6 8 [([],[7]),([0],[24]),([0,1],[25]),([0,1,2],[26]),([],[7]),([4],[28]),([4,5],[29]),([4,5,6],[30]),([0,1,2,3],[]),([0,1,2,3,4,5,6,7,8],[]),([0,1,2,3,4,5,6,7,8,9],[])] [4,5,6,7] [([],[27,7,4],let o0:OT:=.done;let o1:OT:=.pick [(10,o0)];let o2:OT:=.pick [(9,o1)];let o3:OT:=.pick [(8,o2)];let o4:OT:=.pick [(7,o2)];let o5:OT:=.pick [(7,o3),(8,o4)];let o6:OT:=.pick [(6,o4)];let o7:OT:=.pick [(6,o5),(8,o6)];let o8:OT:=.pick [(5,o6)];let o9:OT:=.pick [(5,o7),(8,o8)];let o10:OT:=.pick [(4,o8)];let o11:OT:=.pick [(4,o9),(8,o10)];o11),([4],[28,27,7,4],let o0:OT:=.done;let o1:OT:=.pick [(10,o0)];let o2:OT:=.pick [(9,o1)];let o3:OT:=.pick [(8,o2)];let o4:OT:=.pick [(7,o2)];let o5:OT:=.pick [(7,o3),(8,o4)];let o6:OT:=.pick [(6,o4)];let o7:OT:=.pick [(6,o5),(8,o6)];let o8:OT:=.pick [(5,o6)];let o9:OT:=.pick [(5,o7),(8,o8)];o9),([4,5],[29,27,7,4],let o0:OT:=.done;let o1:OT:=.pick [(10,o0)];let o2:OT:=.pick [(9,o1)];let o3:OT:=.pick [(8,o2)];let o4:OT:=.pick [(7,o2)];let o5:OT:=.pick [(7,o3),(8,o4)];let o6:OT:=.pick [(6,o4)];let o7:OT:=.pick [(6,o5),(8,o6)];o7),([4,5,6],[30,27,7,4],let o0:OT:=.done;let o1:OT:=.pick [(10,o0)];let o2:OT:=.pick [(9,o1)];let o3:OT:=.pick [(8,o2)];let o4:OT:=.pick [(7,o2)];let o5:OT:=.pick [(7,o3),(8,o4)];o5),([4,5,6,7],[27,31,7,4],let o0:OT:=.done;let o1:OT:=.pick [(10,o0)];let o2:OT:=.pick [(9,o1)];let o3:OT:=.pick [(8,o2)];o3)] fol (by kernel_rfl) ?_
  simp(disch:=omega)only[go_sem]
  repeat'(with_reducible refine And.intro ?_ ?_)
  all_goals
   refine AU ⟨[],[],[896,1216]⟩ _ (by(try simp(disch:=omega)only[go_sem,CX,Jm])<;>rfl) ⟨rfl,rfl⟩ (by simp[lk]) ?_ trivial
   simp(disch:=omega)only[go_sem]
attribute [go_sem] CE
theorem U5(x n:Int)(h:1≤n):0≤HT x n∧HT x n<n:=by
 have e:HT x n=x%n:=by simp only[HT];rw[if_neg (by simp;omega)]
 rw[e]
 exact⟨Int.emod_nonneg x (by omega),Int.emod_lt_of_pos x (by omega)⟩
theorem Du(l:List Int)(a:Nat)(n:Int)(h:1≤n):0≤(Ad l a n).1∧(Ad l a n).1<n:=by
 unfold Ad
 split
 ·exact⟨Int.le_refl _,by show (0:Int)<n;omega⟩
 ·exact U5 _ _ h
theorem Ew(l:List Int)(a:Nat)(n:Int):a≤(Ad l a n).2∧(a<l.length→(Ad l a n).2=a+1):=by
 unfold Ad
 cases hb:l[a]? with
 |none=>exact⟨Nat.le_refl _,fun h=>by rw[gE h]at hb;cases hb⟩
 |some x=>exact⟨Nat.le_succ _,fun _=>rfl⟩
def IF(r:Res)(n:Int):Amt:=if r.kind=1 then ⟨Uq.getD (n%8).toNat 0,0⟩ else ⟨0,1+HT n r.units⟩
theorem f234_ok(r:Res)(n:Int)(hu:r.units≤1000000):Ac C0 234 [.agg r.c,I n] [] (.agg (IF r n).c) []:=by
 refine Ac.go f234 ?_
 unfold f234
 refine gO ?_
 by_cases h1:r.kind=1
 ·have e:IF r n=⟨Uq.getD (n%8).toNat 0,0⟩:=by simp[IF,h1]
  rw[e]
  simp(disch:=omega)only[go_sem,h1]
  refine Aa (f275_ok n) ?_
  refine gO ?_
  exact Av _
 ·have e:IF r n=⟨0,1+HT n r.units⟩:=by simp[IF,h1]
  have h1':(r.kind==1)=false:=by simpa using h1
  rw[e]
  simp(disch:=omega)only[go_sem,h1']
  refine Aa (f51_ok n r.units (by omega)) ?_
  have hw:IntKind.i64.wrap (1+HT n r.units)=1+HT n r.units:=by
   by_cases hz:1≤r.units
   ·have:=U5 n r.units hz
    exact wrap64 _ (by omega) (by omega)
   ·have:HT n r.units=0:=by simp only[HT];rw[if_pos (by simp;omega)]
    rw[this]
    exact wrap64 _ (by omega) (by omega)
  simp(disch:=omega)only[go_sem,hw]
  exact Av _
def S1(l:List Int)(az:List Atom)(a:Nat):Expr × Nat:=(.mk 0 (az.getD (Ad l a az.length).1.toNat a0) [],(Ad l a az.length).2)
def FC(f:Nat→Expr × Nat):Nat→Nat→List Expr × Nat
 | 0,a=>([],a)
 | n+1,a=>((FC f n a).1++[(f (FC f n a).2).1],(f (FC f n a).2).2)
def Cs(l:List Int)(az:List Atom):Nat→Nat→Expr × Nat
 | 0,a=>S1 l az a
 | d+1,a=>if (Ad l a 4).1=0 then S1 l az (Ad l a 4).2 else
  (.mk (1+(Ad l (Ad l (Ad l a 4).2 3).2 (1+(Ad l (Ad l a 4).2 3).1)).1) a0 (FC (Cs l az d) (1+(Ad l (Ad l a 4).2 3).1).toNat (Ad l (Ad l (Ad l a 4).2 3).2 (1+(Ad l (Ad l a 4).2 3).1)).2).1,
   (FC (Cs l az d) (1+(Ad l (Ad l a 4).2 3).1).toNat (Ad l (Ad l (Ad l a 4).2 3).2 (1+(Ad l (Ad l a 4).2 3).1)).2).2)
theorem QA(f:Nat→Expr × Nat):∀ n a,(FC f n a).1.length=n
 | 0,_=>rfl
 | n+1,a=>by simp[FC,QA f n a]
theorem S3{l:List Int}{az:List Atom}{a:Nat}(hz:1≤az.length):∃ (i:Nat) (x:Atom),(Ad l a az.length).1=(i:Int)∧az[i]?=some x∧S1 l az a=(.mk 0 x [],(Ad l a az.length).2):=by
 obtain⟨h1,h2⟩:=Du l a az.length (by omega)
 obtain⟨i,hi⟩:∃ i:Nat,(Ad l a az.length).1=(i:Int):=⟨_,(Int.toNat_of_nonneg h1).symm⟩
 have hlt:i<az.length:=by omega
 refine⟨i,az[i],hi,gE hlt,?_⟩
 simp[S1,hi,List.getD,hlt]
theorem f235_ok(l:List Int)(az:List Atom)(hl:l.length≤1000000)(hz:1≤az.length∧az.length≤100):∀ (d a:Nat),d≤10→Ac C0 235 [.ptr 63 0,Be az,I d] [(63,CE l a)] (.agg (Cs l az d a).1.c) [(63,CE l (Cs l az d a).2)]:=by
 intro d
 induction d with
 | zero =>
  intro a _
  obtain⟨i,x,h1,h2,h3⟩:=S3 (l:=l) (a:=a) hz.1
  have e:Cs l az 0 a=(.mk 0 x [],(Ad l a az.length).2):=by rw[Cs,h3]
  refine Ac.go f235 ?_
  unfold f235
  refine gO ?_
  refine call2 ⟨⟨[],[(63,63)],[]⟩,[],[]⟩ (f37_ok l a az.length hl (by omega)) ?_
  rw[e]
  simp(disch:=omega)only[go_sem,h1,gm,h2]
  refine BU ⟨[],[(63,63)],[]⟩ _ ?_ ?_
  ·simp(disch:=omega)only[go_sem,Expr.Cb,Expr.k,Expr.atom,Expr.kids,map_nil]
   exact .agg (Af.AD (by simp(disch:=omega)only[go_sem]))
  ·exact gI
 | succ d ih =>
  intro a hd
  refine Ac.go f235 ?_
  unfold f235
  have e0:((d:Int)+1==0)=false:=by simp;omega
  have e1:(((d+1:Nat):Int)==0)=false:=by simp;omega
  simp(disch:=omega)only[go_sem,e0,e1]
  refine call2 ⟨⟨[],[(63,63)],[]⟩,[],[]⟩ (f37_ok l a 4 hl (by omega)) ?_
  refine gO ?_
  by_cases h4:(Ad l a 4).1=0
  ·obtain⟨i,x,h1,h2,h3⟩:=S3 (l:=l) (a:=(Ad l a 4).2) hz.1
   have e:Cs l az (d+1) a=(.mk 0 x [],(Ad l (Ad l a 4).2 az.length).2):=by rw[Cs,if_pos h4,h3]
   simp(disch:=omega)only[go_sem,h4]
   refine call2 ⟨⟨[],[(63,63)],[]⟩,[],[]⟩ (f37_ok l (Ad l a 4).2 az.length hl (by omega)) ?_
   rw[e]
   simp(disch:=omega)only[go_sem,h1,gm,h2]
   refine BU ⟨[],[(63,63)],[]⟩ _ ?_ ?_
   ·simp(disch:=omega)only[go_sem,Expr.Cb,Expr.k,Expr.atom,Expr.kids,map_nil]
    exact .agg (Af.AD (by simp(disch:=omega)only[go_sem]))
   ·exact gI
  have h4':((Ad l a 4).1==0)=false:=by simpa using h4
  obtain⟨a1,ha1⟩:∃ a1,a1=(Ad l a 4).2:=⟨_,rfl⟩
  rw[← ha1]
  simp(disch:=omega)only[go_sem,h4']
  refine call2 ⟨⟨[],[(63,63)],[]⟩,[],[]⟩ (f37_ok l a1 3 hl (by omega)) ?_
  obtain⟨b1,b2⟩:=Du l a1 3 (by omega)
  obtain⟨m,hm⟩:∃ m:Nat,1+(Ad l a1 3).1=(m:Int):=⟨(1+(Ad l a1 3).1).toNat,by omega⟩
  obtain⟨a2,ha2⟩:∃ a2,a2=(Ad l a1 3).2:=⟨_,rfl⟩
  rw[← ha2]
  have hw:IntKind.i64.wrap (1+(Ad l a1 3).1)=m:=by rw[wrap64 _ (by omega) (by omega),hm]
  simp(disch:=omega)only[go_sem,hw,hm]
  refine call2 ⟨⟨[],[(63,63)],[]⟩,[],[]⟩ (f37_ok l a2 m hl (by omega)) ?_
  obtain⟨c1,c2⟩:=Du l a2 m (by omega)
  obtain⟨a3,ha3⟩:∃ a3,a3=(Ad l a2 m).2:=⟨_,rfl⟩
  rw[← ha3]
  have hw2:IntKind.i64.wrap (1+(Ad l a2 m).1)=1+(Ad l a2 m).1:=wrap64 _ (by omega) (by omega)
  have e:Cs l az (d+1) a=(.mk (1+(Ad l a2 m).1) a0 (FC (Cs l az d) m a3).1,(FC (Cs l az d) m a3).2):=by
   rw[Cs,if_neg h4,← ha1,hm,← ha2,← ha3]
   rfl
  rw[e]
  simp(disch:=omega)only[go_sem,hw2]
  refine Ab (α:=Nat) (fun i=>⟨[(9,I i),(8,.ptr 512 0),(7,I m),(6,.ptr 384 0),(0,.ptr 63 0),(1,Be az),(2,I (d+1:Nat))],[(512,[I (1+(Ad l a2 m).1),.v (.string (str [])),I 0,I 0,.sl (.own 2944 0) 5 ((FC (Cs l az d) i a3).1.map Expr.c)]),(384,[I 0,.v (.string (str [])),I 0,I 0,.v (.slice none 0 0)]),(63,CE l (FC (Cs l az d) i a3).2)]⟩) (fun i=>i≤m) (fun i=>m-i) 0 (by omega) (Imp.weak ?_ ?_) ?_
  ·exact gI
  ·simp(disch:=omega)only[go_sem,FC,map_nil]
   done
  rintro i hi J hJ
  refine gO ?_
  refine ⟨fun hlt=>?_,fun hge=>?_⟩
  ·have hlt2:i<m:=by simp at hlt;omega
   have hkl:=QA (Cs l az d) i a3
   have hkn:FC (Cs l az d) (i+1) a3=((FC (Cs l az d) i a3).1++[(Cs l az d (FC (Cs l az d) i a3).2).1],(Cs l az d (FC (Cs l az d) i a3).2).2):=rfl
   generalize FC (Cs l az d) i a3=ks at hkl hkn ⊢
   obtain⟨kl,ka⟩:=ks
   have hd1:IntKind.i64.wrap (((d+1:Nat):Int)-1)=d:=by rw[wrap64 _ (by omega) (by omega)];omega
   simp only at hkl hkn ⊢
   refine H6 6 [([],[8]),([0],[38]),([],[0]),([],[1]),([],[2]),([4],[42]),([2,3,4,5],[]),([2,3,4,5,6],[]),([0,1,2,3,4,5,6,7],[]),([0,1,2,3,4,5,6,7,8],[]),([0,1,2,3,4,5,6,7,8,9],[])] [0,1] [([],[40,41,43,9,8,7,6,0,1,2],let o0:OT:=.done;let o1:OT:=.pick [(10,o0)];let o2:OT:=.pick [(9,o1)];let o3:OT:=.pick [(8,o2)];let o4:OT:=.pick [(7,o3)];let o5:OT:=.pick [(6,o4)];let o6:OT:=.pick [(1,o3)];let o7:OT:=.pick [(1,o4),(7,o6)];let o8:OT:=.pick [(1,o5),(6,o7)];let o9:OT:=.pick [(0,o6)];let o10:OT:=.pick [(0,o7),(7,o9)];let o11:OT:=.pick [(0,o8),(6,o10)];o11),([0],[38,40,41,43,9,8,7,6,0,1,2],let o0:OT:=.done;let o1:OT:=.pick [(10,o0)];let o2:OT:=.pick [(9,o1)];let o3:OT:=.pick [(8,o2)];let o4:OT:=.pick [(7,o3)];let o5:OT:=.pick [(6,o4)];let o6:OT:=.pick [(1,o3)];let o7:OT:=.pick [(1,o4),(7,o6)];let o8:OT:=.pick [(1,o5),(6,o7)];o8),([0,1],[40,41,43,39,9,8,7,6,0,1,2],let o0:OT:=.done;let o1:OT:=.pick [(10,o0)];let o2:OT:=.pick [(9,o1)];let o3:OT:=.pick [(8,o2)];let o4:OT:=.pick [(7,o3)];let o5:OT:=.pick [(6,o4)];o5)] fol (by kernel_rfl) ?_
   have hd2:((d:Int)+1-1)=d:=by omega
   have hbd:kl.length+1≤4294967296:=by omega
   simp(disch:=omega)only[go_sem,hd2]
   repeat'(with_reducible refine And.intro ?_ ?_)
   all_goals
    refine call2 ⟨⟨[],[(63,63)],[]⟩,[],[]⟩ (ih ka (by omega)) ?_
    simp(disch:=omega)only[go_sem]
    repeat'(with_reducible refine And.intro ?_ ?_)
    all_goals
     refine hJ _ (i+1) (by omega) (by omega) (Imp.weak ?_ ?_)
     ·exact gI
     ·rw[hkn]
      refine gO ?_
      exact .sl (by rw[List.map_append,List.map_cons,map_nil,Expr.Cb])
  have him:i=m:=by simp at hge;omega
  subst him
  refine BU ⟨[],[(63,63)],[2944]⟩ _ ?_ ?_
  ·simp(disch:=omega)only[go_sem,Expr.Cb,Expr.k,Expr.atom,Expr.kids,a0]
  ·exact gI
end Go.Rd
