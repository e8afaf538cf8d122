/- part 31 of the proof -/
import Derived.Test.YteliegkcmjimoaaGreatDoorV29
import Derived.Test.YteliegkcmjimoaaGreatDoorV30
set_option linter.all false
open Go Go.Abs Go.Proofs
set_option maxRecDepth 100000
namespace Go.Rd
set_option maxHeartbeats 8000000
open List (length_map map_nil map_set set_set take_length)
open Option (getD_some)
open Nat (le_refl)
open Tryz
def sL{q q':Queue}(hv:valid q=true)(L8:valid q'=true)(h:er q'=er q)(p:Ad):er (Cm q' p)=er (Cm q p):=by
 rw[F2 hv,F2 L8,<- Ow _ _ (le_refl _),<- Ow _ _ (le_refl _),jJ,jJ,h]
def RQ(w:Aw)(i:Nat)(x:Cd):Aw :=
 Cw { CU w (Cy w.Aa x.proc).1 (Cy w.Aa x.proc).2 with procs:=w.procs.eraseIdx i } 5 x.proc
def VW(w:Aw)(i:Nat)(x:Cd):Aw:=Co (RQ w i x)
def erase_eq{α:Type}{l:List α}{i:Nat}:l.take i++l.drop (i+1)=l.eraseIdx i:=by
 rw[List.eraseIdx_eq_take_drop_succ]
def cZ(w:Aw):wcount w<=w.procs.length:=List.countP_le_length
def dM(Inv:Aw->Prop)(hI:I6 Inv)(w:Aw)(i:Nat)(x:Cd)(hx:w.procs[i]?=some x)(hp:w.procs.length<=8)(hf:Ei w.Aa)(hw:Inv (RQ w i x))(ye:(Cy w.Aa x.proc).2.length<=100000)(V1:w.Dk.length<=500000):Ac C0 228 [.ptr 63 0,I i] [(63,w.c)] (.Bl []) [(63,(VW w i x).c)]:=by
 have hi:=Ay hx;refine Ac.mk' [33] (fn:=f228) (c:=f228.body.getD .skip) (by kernel_rfl) (by kernel_rfl) (by kernel_rfl) (by kernel_rfl) (by simp[f228]) (by simp[names]) ?_;unfold f228;simp(disch:=omega)only[go_sem,gm,hx];refine Av 10 [([],[0]),([],[0]),([],[15]),([],[16]),([],[17]),([],[18]),([],[4]),([],[19,20]),([7],[21]),([7],[21])] B7 ?_;refine gO ?_
 first|(refine Ab (eb w.Aa x.proc hf) ?_)|(refine Aq (eb w.Aa x.proc hf) ?_)
 refine gO ?_;refine call2 ⟨⟨[(0,0),(1,1)],[(63,63)],[]⟩,[],[]⟩ (Lm w (Cy w.Aa x.proc).1 (Cy w.Aa x.proc).2 (by omega)) ?_;have e0:RQ w i x=Cw { CU w (Cy w.Aa x.proc).1 (Cy w.Aa x.proc).2 with procs:=w.procs.eraseIdx i } 5 x.proc:=rfl;have e1:(CU w (Cy w.Aa x.proc).1 (Cy w.Aa x.proc).2).Dk.length=w.Dk.length+(Cy w.Aa x.proc).2.length:=by simp[CU]
 have e2:(CU w (Cy w.Aa x.proc).1 (Cy w.Aa x.proc).2).procs=w.procs:=rfl;rw[<- e2]at e0 hx hi hp;generalize CU w (Cy w.Aa x.proc).1 (Cy w.Aa x.proc).2=w1 at e0 e1 e2 hx hi hp ⊢;refine gO ?_;have ht:(w1.procs.drop (i+1)).take (w1.procs.length-(i+1))=w1.procs.drop (i+1):=List.take_of_length_le (by simp);refine IW 17 [([],[0]),([],[0]),([1],[26]),([1,2],[27]),([1,2,3],[28]),([1,2,3,4],[29]),([],[1]),([],[1]),([1,2,3,4,5,6,7],[30,31,32]),([],[0]),([9],[34]),([9,10],[35]),([9,10,11],[36]),([9,10,11,12],[37]),([],[1]),([14],[39]),([9,10,11,12,13,14,15],[38,40]),([1,2,3,4,5,6,7,8,9,10,11,12,13,14,15,16],[]),([0,1,2,3,4,5,6,7,8,9,10,11,12,13,14,15,16,17],[]),([0,1,2,3,4,5,6,7,8,9,10,11,12,13,14,15,16,17,18],[]),([0,1,2,3,4,5,6,7,8,9,10,11,12,13,14,15,16,17,18,19],[]),([0,1,2,3,4,5,6,7,8,9,10,11,12,13,14,15,16,17,18,19,20],[])] [0] [([],[33,41,0,1,4],let o0:OT:=.done;let o1:OT:=.pick [(21,o0)];let o2:OT:=.pick [(20,o1)];let o3:OT:=.pick [(19,o2)];let o4:OT:=.pick [(18,o3)];let o5:OT:=.pick [(17,o4)];let o6:OT:=.pick [(0,o4)];let o7:OT:=.pick [(0,o5),(17,o6)];o7),([0],[33,41,25,0,1,4],let o0:OT:=.done;let o1:OT:=.pick [(21,o0)];let o2:OT:=.pick [(20,o1)];let o3:OT:=.pick [(19,o2)];let o4:OT:=.pick [(18,o3)];let o5:OT:=.pick [(17,o4)];o5)] B7 (by kernel_rfl) ?_;simp(disch:=omega)only[go_sem,ht];have e4:({ w1 with procs:=w1.procs.eraseIdx i }:Aw).Dk.length+1<=4294967296:=by show w1.Dk.length+1<=_;omega
 obtain⟨k1,k2,k3⟩:=hI.bK _ hw;have k4:=cZ (RQ w i x);have k5:(RQ w i x).Dk.length=w1.Dk.length+1:=by rw[e0];simp[Cw]
 repeat'(with_reducible refine And.intro ?_ ?_)
 all_goals
  refine call2 ⟨⟨[(2688,0),(1,1)],[(63,63)],[]⟩,[],[]⟩ (XC { w1 with procs:=w1.procs.eraseIdx i } 5 x.proc e4) ?_ (hh:=?_);rotate_left
  ·simp(disch:=omega)only[go_sem];exact .sl (by rw[<- List.map_append,erase_eq])
  rw[<- e0];refine gO ?_;refine call2 ⟨⟨[(2688,0),(1,1)],[(63,63)],[]⟩,[],[]⟩ (Ll Inv hI (RQ w i x) hw (by omega)) ?_;refine gO ?_;refine CE ⟨[(2688,0),(1,1)],[(63,63)],[]⟩ _ ?_ ?_
  ·exact gI
  ·simp(disch:=omega)only[go_sem,VW]
def Of(l:List Cd)(p:Ad):Nat->Nat
 | 0=>0
 | k+1=>if 0<Bw (l.getD k x0).proc p then Of l p k else k+1
def lF(p:Ad)(cost:Int):Cd:=⟨p,cost,Df,false,Eg,0,0⟩
def pU(l:List Cd)(x:Cd):List Cd:=Sk l (Of l x.proc l.length) x
def KQ(w:Aw)(p:Ad)(cost:Int):Aw × Int :=
 if !p.ok||(decide (cost<1)||decide (1000<cost)) then (w,1) else if 0<=GC w.procs p then (w,11) else if w.procs.length=8 then (w,4) else ({ w with procs:=pU w.procs (lF p cost) },0)
theorem ot(w:Aw)(p:Ad)(cost:Int)(hp:w.procs.length<=1000000):Ac C0 219 [.ptr 63 0,.agg p.c,I cost] [(63,w.c)] (I (KQ w p cost).2) [(63,(KQ w p cost).1.c)]:=by
 refine Ac.go f219 ?_;unfold f219;refine gO ?_;refine Ab (Lo p) ?_;cases h1:(!p.ok||(decide (cost<1)||decide (1000<cost)));rotate_left
 ·have ht:KQ w p cost=(w,1):=by simp only[KQ,h1];rfl
  rw[ht];cases a1:p.ok
  ·simp(disch:=omega)only[go_sem,Bool.not_false];refine CE ⟨[(0,0),(1,1)],[(63,63)],[]⟩ _ ?_ ?_
   ·exact gI
   ·exact gI
  cases a2:decide (cost<1)
  ·rw[a1,a2]at h1;simp only[Bool.not_true,Bool.false_or]at h1;simp(disch:=omega)only[go_sem,Bool.not_true,a2,h1];refine CE ⟨[(0,0),(1,1)],[(63,63)],[]⟩ _ ?_ ?_
   ·exact gI
   ·exact gI
  ·simp(disch:=omega)only[go_sem,Bool.not_true,a2];refine CE ⟨[(0,0),(1,1)],[(63,63)],[]⟩ _ ?_ ?_
   ·exact gI
   ·exact gI
 obtain⟨a1,a2,a3⟩:p.ok=true/\decide (cost<1)=false/\decide (1000<cost)=false:=by simpa using h1
 simp(disch:=omega)only[go_sem,a1,a2,a3,Bool.not_true];refine Av 6 [([],[0]),([],[21]),([],[22]),([],[23]),([],[24]),([],[4])] B7 ?_;refine gO ?_;refine Cb [0] (SE w.procs p) gI rfl trivial ?_;refine gO ?_
 by_cases h2:0<=GC w.procs p
 ·have ht:KQ w p cost=(w,11):=by simp only[KQ,h1,h2];rfl
  rw[ht];simp(disch:=omega)only[go_sem,eq_true h2,decide_true];refine CE ⟨[(0,0),(1,1)],[(63,63)],[]⟩ _ ?_ ?_
  ·exact gI
  ·exact gI
 simp(disch:=omega)only[go_sem,eq_false h2,decide_false,length_map]
 by_cases h3:w.procs.length=8
 ·have ht:KQ w p cost=(w,4):=by simp only[KQ,h1,h2,h3];rfl
  rw[ht];have UP:decide ((w.procs.length:Int)=8)=true:=by simp;omega
  have tH:((w.procs.length:Int)==8)=true:=by simp;omega
  simp(disch:=omega)only[go_sem,UP,tH];refine CE ⟨[(0,0),(1,1)],[(63,63)],[]⟩ _ ?_ ?_
  ·exact gI
  ·exact gI
 have ht:KQ w p cost=({ w with procs:=pU w.procs (lF p cost) },0):=by
  simp only[KQ,h1,h2,h3];rfl
 rw[ht];have UP:decide ((w.procs.length:Int)=8)=false:=by simp;omega
 have tH:((w.procs.length:Int)==8)=false:=by simp;omega
 simp(disch:=omega)only[go_sem,UP,tH];refine Av 9 [([],[0]),([],[36]),([],[37]),([],[38]),([],[39]),([],[4]),([],[2]),([],[41,42]),([],[43])] B7 ?_;refine gO ?_;obtain⟨x,hx⟩:∃ x,x=lF p cost:=⟨_,rfl⟩;have eT:x.proc=p:=by rw[hx];rfl
 refine Ao (α:=Nat) (λk=>⟨[(8,I k),(7,.sl (.own 2880 0) 16 ((Sk w.procs k x).map Cd.c)),(0,.ptr 63 0)],[(63,[I w.now,AW w.Aa,.undef,.sl (.own 1 0) 7 (w.Dk.map Ev.c)])]⟩) (λk=>k<=w.procs.length/\Of w.procs p w.procs.length=Of w.procs p k) (λk=>k) w.procs.length ⟨le_refl _,rfl⟩ (AQ.An ?_ ?_) ?_
 ·simp(disch:=omega)only[go_sem]
  all_goals(try(repeat'(with_reducible apply And.intro)))
  all_goals(first|exact .int (by omega)|skip)
  have em:Sk w.procs w.procs.length x=w.procs++[x]:=by simp[Sk]
  rw[em,List.map_append];refine .qj (Hy.append _ ?_);simp only[hx,lF,Df,Eg,e0,a0,Expr.k,Expr.atom,Expr.kids,List.map_cons,map_nil,Cd.c,Hy,K9,bc];simp
 ·exact gI
 rintro k ⟨hk,hs⟩ J hJ;have fin:Of w.procs p k=k->Sk w.procs k x=pU w.procs (lF p cost):=λHH=>by
  rw[<- hx];unfold pU;rw[eT,hs,HH]
 refine Av 14 [([],[8]),([],[49]),([],[50]),([],[7,51]),([],[8,51]),([],[53,51]),([],[52,54,51]),([],[55,51]),([],[56,51]),([],[7,51]),([],[8,51]),([],[58,59,51]),([],[60,51]),([],[61,51])] B7 ?_;cases k with
 | zero =>
  have e0:(0<((0:Nat):Int))=False:=by simp
  simp(disch:=omega)only[go_sem,e0,decide_false];rw[fin rfl];refine CE ⟨[(2880,0),(1,1)],[(63,63)],[]⟩ _ ?_ ?_
  ·exact gI
  ·exact gI
 | succ k =>
  have e0:(0<(((k+1:Nat)):Int))=True:=eq_true (by omega);have e1:(0<(k:Int)+1)=True:=eq_true (by omega);have e2:((k:Int)+1-1)=(k:Int):=by omega
  obtain⟨y,hy⟩:∃ y,w.procs[k]?=some y:=⟨_,gE (by omega)⟩;have g1:=eZ w.procs (k+1) x hk;have g2:=ZY w.procs k x hk;rw[hy]at g2;have XR:=X7 w.procs (k+1) x hk;have z1:k<(Sk w.procs (k+1) x).length:=by omega
  have z2:k+1<(Sk w.procs (k+1) x).length:=by omega
  simp(disch:=omega)only[go_sem,e0,e1,e2,gm,g1,g2,length_map,XR];refine Ab (J8 y.proc x.proc) ?_;rw[eT];have e4:(k=k+1)=False:=eq_false (by omega);have e5:(k+1=k)=False:=eq_false (by omega);cases hc:decide (0<Bw y.proc p)
  ·have HH:Of w.procs p (k+1)=k+1:=by
    simp only[Of,List.getD,hy,getD_some];rw[if_neg (by simpa using hc)]
   simp(disch:=omega)only[go_sem,hc];rw[fin HH];refine CE ⟨[(2880,0),(1,1)],[(63,63)],[]⟩ _ ?_ ?_
   ·exact gI
   ·exact gI
  ·have HH:Of w.procs p (k+1)=Of w.procs p k:=by
    simp only[Of,List.getD,hy,getD_some];rw[if_pos (by simpa using hc)]
   simp(disch:=omega)only[go_sem,hc,e2,gm,g1,g2,length_map,XR,List.length_set,List.getElem?_set,e4,e5];refine hJ _ k ⟨by omega,by rw[hs,HH]⟩ (by omega) (AQ.An ?_ gI);refine gO ?_;refine .sl ?_;rw[<- ZZ hy,map_set,map_set];rfl
def LR(w:Aw)(i:Nat)(x:Cd)(name:Bs):Aw :=
 let w1:=CU w (BB w.Aa x.proc ⟨name,⟨0,0⟩⟩).1 (BB w.Aa x.proc ⟨name,⟨0,0⟩⟩).2.1
 Bd w1 i (C1 { x with By:=(Jc x.By name).1 })
def FM(w:Aw)(i:Nat)(x:Cd)(name:Bs):Aw × Int :=
 if x.waiting then (w,14) else if (AE x.By.entries name).mode==0&&(AE x.By.entries name).Ax==0 then (w,10) else (Co (LR w i x name),0)
def oy(Inv:Aw->Prop)(hI:I6 Inv)(w:Aw)(i:Nat)(x:Cd)(name:Bs)(hx:w.procs[i]?=some x)(hf:Ei w.Aa)
 (hc:x.waiting=false->Inv (LR w i x name)) (hp:w.procs.length<=8) (V1:w.Dk.length<=500000) :
 Ac C0 225 [.ptr 63 0,I i,.v (.string (str name))] [(63,w.c)] (I (FM w i x name).2) [(63,(FM w i x name).1.c)]:=by
 have hi:=Ay hx;refine Ac.go f225 ?_;unfold f225;simp(disch:=omega)only[go_sem,gm,hx];cases h1:x.waiting;rotate_left
 ·have ht:FM w i x name=(w,14):=by simp[FM,h1]
  rw[ht];simp(disch:=omega)only[go_sem,h1];refine CE ⟨[(0,0),(1,1)],[(63,63)],[]⟩ _ ?_ ?_
  ·exact gI
  ·exact gI
 have c2:=hc h1;simp(disch:=omega)only[go_sem,h1,gm,hx];refine Ab (HS x.By.entries name) ?_;refine gO ?_;cases h2:((AE x.By.entries name).mode==0&&(AE x.By.entries name).Ax==0);rotate_left
 ·have ht:FM w i x name=(w,10):=by simp only[FM,h1,h2];rfl
  rw[ht];simp(disch:=omega)only[go_sem,h2];refine CE ⟨[(0,0),(1,1)],[(63,63)],[]⟩ _ ?_ ?_
  ·exact gI
  ·exact gI
 have ht:FM w i x name=(Co (LR w i x name),0):=by simp only[FM,h1,h2];rfl
 rw[ht];simp(disch:=omega)only[go_sem,h2];have k3:=HL hf x.proc ⟨name,⟨0,0⟩⟩;refine Av 23 [([],[0]),([],[34]),([],[35]),([],[36]),([],[37]),([],[0]),([],[39]),([],[40]),([],[41]),([],[42]),([],[1]),([],[43,44]),([],[45]),([],[46]),([],[2]),([],[48]),([],[38,47,49]),([16],[50]),([16],[33]),([16],[33]),([16],[33]),([16],[51]),([16],[52])] B7 ?_;simp(disch:=omega)only[go_sem,gm,hx]
 first|(refine Ab (JK w.Aa x.proc ⟨name,⟨0,0⟩⟩ hf) ?_)|(refine Aq (JK w.Aa x.proc ⟨name,⟨0,0⟩⟩ hf) ?_)
 refine gO ?_;refine call2 ⟨⟨[(0,0),(1,1)],[(63,63)],[]⟩,[],[]⟩ (Lm w (BB w.Aa x.proc ⟨name,⟨0,0⟩⟩).1 (BB w.Aa x.proc ⟨name,⟨0,0⟩⟩).2.1 (by omega)) ?_;have e1:LR w i x name=Bd (CU w (BB w.Aa x.proc ⟨name,⟨0,0⟩⟩).1 (BB w.Aa x.proc ⟨name,⟨0,0⟩⟩).2.1) i (C1 { x with By:=(Jc x.By name).1 }):=rfl;have e2:(CU w (BB w.Aa x.proc ⟨name,⟨0,0⟩⟩).1 (BB w.Aa x.proc ⟨name,⟨0,0⟩⟩).2.1).procs=w.procs:=rfl;have e3:(CU w (BB w.Aa x.proc ⟨name,⟨0,0⟩⟩).1 (BB w.Aa x.proc ⟨name,⟨0,0⟩⟩).2.1).Dk.length=w.Dk.length+(BB w.Aa x.proc ⟨name,⟨0,0⟩⟩).2.1.length:=by simp[CU]
 generalize CU w (BB w.Aa x.proc ⟨name,⟨0,0⟩⟩).1 (BB w.Aa x.proc ⟨name,⟨0,0⟩⟩).2.1=w1 at e1 e2 e3 ⊢;refine gO ?_;rw[<- e2]at hx hi;refine D4 (st':=⟨[(0,.ptr 63 0),(1,I i),(2,.v (.string (str name)))],[(63,w1.c)]⟩) AS ?_;refine Tw 20 [([],[0]),([0],[59]),([0,1],[60]),([0,1,2],[61]),([0,1,2,3],[62]),([],[1]),([],[0]),([6],[65]),([6,7],[66]),([6,7,8],[67]),([6,7,8,9],[68]),([],[1]),([6,7,8,9,10,11],[69,70]),([6,7,8,9,10,11,12],[71]),([6,7,8,9,10,11,12,13],[72]),([],[2]),([6,7,8,9,10,11,12,13,14,15],[73,74]),([6,7,8,9,10,11,12,13,14,15,16],[75]),([6,7,8,9,10,11,12,13,14,15,16,17],[58]),([6,7,8,9,10,11,12,13,14,15,16,17],[58]),([0,1,2,3,4,5,6,7,8,9,10,11,12,13,14,15,16,17,18],[]),([0,1,2,3,4,5,6,7,8,9,10,11,12,13,14,15,16,17,18,20],[]),([0,1,2,3,4,5,6,7,8,9,10,11,12,13,14,15,16,17,18,20,21],[])] [19] [63,64,76,58,0,1,2] B7 (by kernel_rfl) ?_;simp(disch:=omega)only[go_sem,gm,hx]
 first|(refine Ab (ea x.By name) ?_)|(refine Aq (ea x.By name) ?_)
 simp(disch:=omega)only[go_sem,gm,hx];have hx5:(Bd w1 i { x with By:=(Jc x.By name).1 }).procs[i]?=some { x with By:=(Jc x.By name).1 }:=by simp[Bd,hi]
 refine call2 ⟨⟨[(0,0),(1,1)],[(63,63)],[]⟩,[],[]⟩ (JJ (Bd w1 i { x with By:=(Jc x.By name).1 }) i _ hx5) ?_ (hh:=?_);rotate_left
 ·simp only[Bd];refine gO ?_;exact .sl (by simp only[map_set,set_set];rfl)
 have e4:Bd (Bd w1 i { x with By:=(Jc x.By name).1 }) i (C1 { x with By:=(Jc x.By name).1 })=LR w i x name:=by rw[e1];simp[Bd]
 rw[e4];have e5:(LR w i x name).Dk.length<=w.Dk.length+101:=by rw[e1];simp only[Bd];omega
 have e6:=I4 (LR w i x name);have e7:=(hI.bK _ c2).2.1;refine gO ?_;refine call2 ⟨⟨[(0,0),(1,1)],[(63,63)],[]⟩,[],[]⟩ (Ll Inv hI (LR w i x name) c2 (by omega)) ?_;refine gO ?_;refine CE ⟨[(0,0),(1,1)],[(63,63)],[]⟩ _ ?_ ?_
 ·exact gI
 ·exact gI
def I9(w:Aw)(p:Ad)(a:Atom):Aw:=match CA w.Aa a.name with
 |none=>w
 |some k=>if decide (Ap (w.Aa.getD k q0).holds p=a.AN) then w else CU w (BB w.Aa p a).1 (BB w.Aa p a).2.1
def C4(w:Aw)(p:Ad)(az:List Atom):Aw:=az.foldl (λw a=>I9 w p a) w
def Mi{w:Aw}{p:Ad}{az:List Atom}{i:Nat}{b:Atom}(hb:az[i]?=some b):C4 w p (az.take (i+1))=I9 (C4 w p (az.take i)) p b:=by
 simp[C4,List.take_add_one,hb,List.foldl_append]
theorem YU(w:Aw)(p:Ad)(a:Atom):(I9 w p a).procs=w.procs:=by
 unfold I9;split
 ·rfl
 ·split<;>rfl
def G1(w:Aw)(p:Ad):∀ az:List Atom,(C4 w p az).procs=w.procs
 |[]=>rfl
 | a::az=>by
  show (C4 (I9 w p a) p az).procs=w.procs;rw[G1,YU]
def W2(w:Aw)(p:Ad)(az:List Atom):Prop:=∀ i b,az[i]?=some b->Ei (C4 w p (az.take i)).Aa/\∃ k,CA (C4 w p (az.take i)).Aa b.name=some k
def fG{w:Aw}{p:Ad}{a:Atom}(h:Ei w.Aa):(I9 w p a).Dk.length<=w.Dk.length+101:=by
 have:=HL h p a;unfold I9;split
 ·omega
 ·split
  ·omega
  ·simp only[CU,List.length_append];omega
def Ja{w:Aw}{p:Ad}{az:List Atom}(h:W2 w p az):∀ i,i<=az.length->(C4 w p (az.take i)).Dk.length<=w.Dk.length+101*i
 | 0,_=>by simp[C4]
 | i+1,hi=>by
  obtain⟨b,hb⟩:∃ b,az[i]?=some b:=⟨_,gE (by omega)⟩;have h1:=Ja h i (by omega);have h2:=fG (p:=p) (a:=b) (h i b hb).1;rw[Mi hb];omega
def Ht(w:Aw)(i:Nat)(x:Cd):Aw:=if x.waiting then Bm w i x else w
def F6(x:Cd):Cd:=if x.waiting then Cj x else x
def HI(x:Cd)(l:Ledger):Cd:={ x with By:=l }
def Tc(w:Aw)(i:Nat)(x:Cd)(label:Int):Aw :=
 Bd (C4 (Bd (Ht w i x) i (HI (F6 x) (CT x.By label).1)) (F6 x).proc (CT x.By label).2.1) i (C1 (HI (F6 x) (CT x.By label).1))
def F3(w:Aw)(i:Nat)(x:Cd)(label:Int):Aw × Int :=
 if (CT x.By label).2.2=0 then (Co (Tc w i x label),0) else (w,(CT x.By label).2.2)
def oz(Inv:Aw->Prop)(hI:I6 Inv)(w:Aw)(i:Nat)(x:Cd)(label:Int)(hx:w.procs[i]?=some x)
 (hd:x.waiting=true->Oj w x (Al x.BQ.expr))
 (hc:(CT x.By label).2.2=0->W2 (Bd (Ht w i x) i (HI (F6 x) (CT x.By label).1)) (F6 x).proc (CT x.By label).2.1/\Inv (Tc w i x label))
 (hl:(CT x.By label).2.1.length<=1000) (hp:w.procs.length<=8) (V1:w.Dk.length<=500000) :
 Ac C0 227 [.ptr 63 0,I i,I label] [(63,w.c)] (I (F3 w i x label).2) [(63,(F3 w i x label).1.c)]:=by
 have hi:=Ay hx;refine Ac.go f227 ?_;unfold f227;simp(disch:=omega)only[go_sem,gm,hx];refine Ab (nL x.By label) ?_;refine gO ?_
 by_cases h1:(CT x.By label).2.2=0
 rotate_left
 ·have ht:F3 w i x label=(w,(CT x.By label).2.2):=by simp[F3,h1]
  rw[ht];have ku:((CT x.By label).2.2 !=0)=true:=by simpa using h1
  simp(disch:=omega)only[go_sem,ku];refine CE ⟨[(0,0),(1,1)],[(63,63)],[]⟩ _ ?_ ?_
  ·exact gI
  ·exact gI
 obtain⟨c1,c2⟩:=hc h1;have ht:F3 w i x label=(Co (Tc w i x label),0):=by simp[F3,h1]
 rw[ht];simp(disch:=omega)only[go_sem,h1,gm,hx];cases h2:x.waiting
 ·simp(disch:=omega)only[go_sem,h2];obtain⟨w3,kP⟩:∃ w3,w3=Ht w i x:=⟨_,rfl⟩;obtain⟨y,hy⟩:∃ y,y=F6 x:=⟨_,rfl⟩;have kQ:w3.procs[i]?=some y:=by rw[kP,hy];simp[Ht,F6,h2,hx]
  have he3:w3.Dk.length<=w.Dk.length+1608:=by
   rw[kP];simp only[Ht,h2];simp
  have xT:=Ay kQ;unfold Tc at c2 ⊢;rw[<- kP,<- hy]at c1 c2 ⊢;have zM:w3=w:=by rw[kP];simp[Ht,h2]
  rw[<- zM];have iV:y=x:=by rw[hy];simp[F6,h2]
  clear kP hy hd hc ht;subst iV;generalize (CT y.By label).2.1=az at c1 c2 hl ⊢;generalize (CT y.By label).1=By at c1 c2 ⊢;refine Av 7 [([],[0]),([],[54]),([],[55]),([],[56]),([],[57]),([],[1]),([],[7])] B7 ?_;simp(disch:=omega)only[go_sem,gm,kQ];obtain⟨o,rfl⟩:∃ o,o=i:=⟨i,rfl⟩;have he4:(Bd w3 o (HI y By)).Dk.length=w3.Dk.length:=rfl;have pN:(Bd w3 o (HI y By)).procs[o]?=some (HI y By):=by simp[Bd,xT]
  refine Ao (α:=Nat) (λi=>⟨[(11,I i),(8,BN az),(0,.ptr 63 0),(1,I o),(10,.ptr 640 0)],[(63,(C4 (Bd w3 o (HI y By)) y.proc (az.take i)).c),(640,y.proc.c)]⟩) (λi=>i<=az.length) (λi=>az.length-i) 0 (Nat.zero_le _) ?_ ?_
  ·simp only[List.take_zero,C4,List.foldl_nil,Bd];exact AQ.An gI (by simp(disch:=omega)only[go_sem];exact .sl (by simp only[map_set,set_set];rfl))
  generalize Bd w3 o (HI y By)=w4 at c1 c2 he4 pN ⊢;clear kQ xT;intro i Lu J hJ;refine gO ?_;refine ⟨λAu=>?_,λG9=>?_⟩
  ·obtain⟨b,hb⟩:∃ b,az[i]?=some b:=⟨_,gE (by simp at Au;omega)⟩;have AR:i<az.length:=Ay hb;obtain⟨g5,k,hk⟩:=c1 i b hb;have g1:=Ja c1 i Lu;have g2:=HL g5 y.proc b;have g4:=Mi (w:=w4) (p:=y.proc) hb;generalize C4 w4 y.proc (az.take i)=w5 at g1 g2 g4 g5 hk ⊢;obtain⟨kB,q,hq,_⟩:=DB hk;have xR:w5.Aa.getD k q0=q:=by simp[List.getD,hq]
   have g6:I9 w5 y.proc b=if decide (Ap q.holds y.proc=b.AN) then w5 else CU w5 (BB w5.Aa y.proc b).1 (BB w5.Aa y.proc b).2.1:=by unfold I9;rw[hk];simp only[xR]
   obtain⟨q1,q2,q3⟩:=Bv (g5.q q (mG hq));have hn5:=g5.n;refine Av 25 [([],[0]),([],[69]),([],[70]),([],[71]),([],[72]),([],[0]),([],[74]),([],[75]),([],[76]),([],[77]),([],[8]),([],[11]),([],[79,80]),([],[81]),([],[82]),([],[78,83]),([15],[73,84]),([15],[85]),([],[10]),([15],[86,87]),([],[8]),([],[11]),([],[89,90]),([],[91]),([],[92])] B7 ?_;simp(disch:=omega)only[go_sem,gm,hb]
   first|(refine Ab (HE w5.Aa b.name (by omega)) ?_)|(refine Aq (HE w5.Aa b.name (by omega)) ?_)
   simp(disch:=omega)only[go_sem,hk,UY,gm,hq]
   first|(refine Ab (EP q y.proc q1) ?_)|(refine Aq (EP q y.proc q1) ?_)
   simp(disch:=omega)only[go_sem,gm,hb];cases hH:decide (Ap q.holds y.proc=b.AN)
   ·rw[hH]at g6;simp only[Bool.false_eq_true,if_false]at g6;simp(disch:=omega)only[go_sem,hH,Bool.not_false];refine Av 17 [([],[0]),([],[96]),([],[97]),([],[98]),([],[99]),([],[10]),([],[8]),([],[11]),([],[102,103]),([],[104]),([],[100,101,105]),([10],[106]),([10],[95]),([10],[95]),([10],[95]),([10],[107]),([10],[108])] B7 ?_;simp(disch:=omega)only[go_sem,gm,hb]
    first|(refine Ab (JK w5.Aa y.proc b g5) ?_)|(refine Aq (JK w5.Aa y.proc b g5) ?_)
    refine gO ?_;refine call2 ⟨⟨[(0,0),(1,1)],[(63,63)],[]⟩,[],[]⟩ (Lm w5 (BB w5.Aa y.proc b).1 (BB w5.Aa y.proc b).2.1 (by omega)) ?_;rw[<- g6,<- g4];refine gO ?_;exact hJ _ (i+1) (by omega) (by omega) AS
   ·rw[hH,if_pos rfl]at g6;simp(disch:=omega)only[go_sem,hH,Bool.not_true];refine hJ _ (i+1) (by omega) (by omega) (AQ.An gI ?_);rw[g4,g6];simp(disch:=omega)only[go_sem]
  ·have Bf:i=az.length:=by simp at G9;omega
   subst Bf;rw[take_length];have g1:=Ja c1 _ (le_refl _);rw[take_length]at g1;have g3:(C4 w4 y.proc az).procs[o]?=some (HI y By):=by rw[G1];exact pN
   refine call2 ⟨⟨[(0,0),(1,1)],[(63,63)],[]⟩,[],[]⟩ (JJ (C4 w4 y.proc az) o (HI y By) g3) ?_;have g7:(Bd (C4 w4 y.proc az) o (C1 (HI y By))).Dk.length=(C4 w4 y.proc az).Dk.length:=rfl;generalize Bd (C4 w4 y.proc az) o (C1 (HI y By))=w6 at c2 g7 ⊢;have k2:=(hI.bK _ c2).2.1;have k4:=I4 w6;refine gO ?_;refine call2 ⟨⟨[(0,0),(1,1)],[(63,63)],[]⟩,[],[]⟩ (Ll Inv hI w6 c2 (by omega)) ?_;refine gO ?_;refine CE ⟨[(0,0),(1,1)],[(63,63)],[]⟩ _ ?_ ?_
   ·exact gI
   ·exact gI
 ·simp(disch:=omega)only[go_sem,h2];obtain⟨w3,kP⟩:∃ w3,w3=Ht w i x:=⟨_,rfl⟩;obtain⟨y,hy⟩:∃ y,y=F6 x:=⟨_,rfl⟩;have kQ:w3.procs[i]?=some y:=by rw[kP,hy];simp[Ht,F6,h2,Dz,hi]
  have he3:w3.Dk.length<=w.Dk.length+1608:=by
   rw[kP];simp only[Ht,h2];have:=Ki (i:=i) (hd h2);simpa using this
  have xT:=Ay kQ;unfold Tc at c2 ⊢;rw[<- kP,<- hy]at c1 c2 ⊢;refine call2 ⟨⟨[(0,0),(1,1)],[(63,63)],[]⟩,[],[]⟩ (Xx w i x hx (hd h2) (by omega)) ?_;rw[show Bm w i x=w3 by rw[kP];simp[Ht,h2]];clear kP hy hd hc ht;generalize (CT x.By label).2.1=az at c1 c2 hl ⊢;generalize (CT x.By label).1=By at c1 c2 ⊢;simp(disch:=omega)only[go_sem,gm,kQ];refine Av 7 [([],[0]),([],[54]),([],[55]),([],[56]),([],[57]),([],[1]),([],[7])] B7 ?_;simp(disch:=omega)only[go_sem,gm,kQ];obtain⟨o,rfl⟩:∃ o,o=i:=⟨i,rfl⟩;have he4:(Bd w3 o (HI y By)).Dk.length=w3.Dk.length:=rfl;have pN:(Bd w3 o (HI y By)).procs[o]?=some (HI y By):=by simp[Bd,xT]
  refine Ao (α:=Nat) (λi=>⟨[(11,I i),(8,BN az),(0,.ptr 63 0),(1,I o),(10,.ptr 640 0)],[(63,(C4 (Bd w3 o (HI y By)) y.proc (az.take i)).c),(640,y.proc.c)]⟩) (λi=>i<=az.length) (λi=>az.length-i) 0 (Nat.zero_le _) ?_ ?_
  ·simp only[List.take_zero,C4,List.foldl_nil,Bd];exact AQ.An gI (by simp(disch:=omega)only[go_sem];exact .sl (by simp only[map_set,set_set];rfl))
  generalize Bd w3 o (HI y By)=w4 at c1 c2 he4 pN ⊢;clear kQ xT;intro i Lu J hJ;refine gO ?_;refine ⟨λAu=>?_,λG9=>?_⟩
  ·obtain⟨b,hb⟩:∃ b,az[i]?=some b:=⟨_,gE (by simp at Au;omega)⟩;have AR:i<az.length:=Ay hb;obtain⟨g5,k,hk⟩:=c1 i b hb;have g1:=Ja c1 i Lu;have g2:=HL g5 y.proc b;have g4:=Mi (w:=w4) (p:=y.proc) hb;generalize C4 w4 y.proc (az.take i)=w5 at g1 g2 g4 g5 hk ⊢;obtain⟨kB,q,hq,_⟩:=DB hk;have xR:w5.Aa.getD k q0=q:=by simp[List.getD,hq]
   have g6:I9 w5 y.proc b=if decide (Ap q.holds y.proc=b.AN) then w5 else CU w5 (BB w5.Aa y.proc b).1 (BB w5.Aa y.proc b).2.1:=by unfold I9;rw[hk];simp only[xR]
   obtain⟨q1,q2,q3⟩:=Bv (g5.q q (mG hq));have hn5:=g5.n;refine Av 25 [([],[0]),([],[69]),([],[70]),([],[71]),([],[72]),([],[0]),([],[74]),([],[75]),([],[76]),([],[77]),([],[8]),([],[11]),([],[79,80]),([],[81]),([],[82]),([],[78,83]),([15],[73,84]),([15],[85]),([],[10]),([15],[86,87]),([],[8]),([],[11]),([],[89,90]),([],[91]),([],[92])] B7 ?_;simp(disch:=omega)only[go_sem,gm,hb]
   first|(refine Ab (HE w5.Aa b.name (by omega)) ?_)|(refine Aq (HE w5.Aa b.name (by omega)) ?_)
   simp(disch:=omega)only[go_sem,hk,UY,gm,hq]
   first|(refine Ab (EP q y.proc q1) ?_)|(refine Aq (EP q y.proc q1) ?_)
   simp(disch:=omega)only[go_sem,gm,hb];cases hH:decide (Ap q.holds y.proc=b.AN)
   ·rw[hH]at g6;simp only[Bool.false_eq_true,if_false]at g6;simp(disch:=omega)only[go_sem,hH,Bool.not_false];refine Av 17 [([],[0]),([],[96]),([],[97]),([],[98]),([],[99]),([],[10]),([],[8]),([],[11]),([],[102,103]),([],[104]),([],[100,101,105]),([10],[106]),([10],[95]),([10],[95]),([10],[95]),([10],[107]),([10],[108])] B7 ?_;simp(disch:=omega)only[go_sem,gm,hb]
    first|(refine Ab (JK w5.Aa y.proc b g5) ?_)|(refine Aq (JK w5.Aa y.proc b g5) ?_)
    refine gO ?_;refine call2 ⟨⟨[(0,0),(1,1)],[(63,63)],[]⟩,[],[]⟩ (Lm w5 (BB w5.Aa y.proc b).1 (BB w5.Aa y.proc b).2.1 (by omega)) ?_;rw[<- g6,<- g4];refine gO ?_;exact hJ _ (i+1) (by omega) (by omega) AS
   ·rw[hH,if_pos rfl]at g6;simp(disch:=omega)only[go_sem,hH,Bool.not_true];refine hJ _ (i+1) (by omega) (by omega) (AQ.An gI ?_);rw[g4,g6];simp(disch:=omega)only[go_sem]
  ·have Bf:i=az.length:=by simp at G9;omega
   subst Bf;rw[take_length];have g1:=Ja c1 _ (le_refl _);rw[take_length]at g1;have g3:(C4 w4 y.proc az).procs[o]?=some (HI y By):=by rw[G1];exact pN
   refine call2 ⟨⟨[(0,0),(1,1)],[(63,63)],[]⟩,[],[]⟩ (JJ (C4 w4 y.proc az) o (HI y By) g3) ?_;have g7:(Bd (C4 w4 y.proc az) o (C1 (HI y By))).Dk.length=(C4 w4 y.proc az).Dk.length:=rfl;generalize Bd (C4 w4 y.proc az) o (C1 (HI y By))=w6 at c2 g7 ⊢;have k2:=(hI.bK _ c2).2.1;have k4:=I4 w6;refine gO ?_;refine call2 ⟨⟨[(0,0),(1,1)],[(63,63)],[]⟩,[],[]⟩ (Ll Inv hI w6 c2 (by omega)) ?_;refine gO ?_;refine CE ⟨[(0,0),(1,1)],[(63,63)],[]⟩ _ ?_ ?_
   ·exact gI
   ·exact gI
def Rv{x:Cd}{a:Nat}(hv:BF x.By=true):∀ (az:List Atom) (w:Aw),FA w.Aa->O0 w.Aa x->qO w.Aa x a->(∀ b∈az,(∃ e∈x.By.entries,e.name=b.name)/\b.AN=AE (x.By.entries.take a) b.name) ->
 W2 w x.proc az/\GL x.proc w.Aa (C4 w x.proc az).Aa
 |[],w,h,_,_,_=>⟨λi b hb=>by simp at hb,.refl h⟩
 | b::az,w,h,hf,hr,hb=>by
  obtain⟨U7,QT⟩:=hb b (by simp);obtain⟨k,q,f1,f2,f3,f4⟩:=hf b.name U7;have hg:w.Aa.getD k q0=q:=by simp[List.getD,f2]
  obtain⟨r1,r2⟩:=hr q (mG f2);have key:GL x.proc w.Aa (I9 w x.proc b).Aa/\qO (I9 w x.proc b).Aa x a:=by
   unfold I9;simp only[f1,hg];split
   ·exact⟨.refl h,hr⟩
   ·rename_i Ca;have Ca:Ap q.holds x.proc≠b.AN:=by simpa using Ca
    have hh:Ap q.holds x.proc=AE x.By.entries b.name:=by
     rcases r2 with r2|r2
     ·rw[r2,f3]
     ·rw[f3,<- QT]at r2;exact absurd r2 Ca
    obtain⟨q1,e1,hs,hqr,g1,g2⟩:=ML (a:=b) h f1 f2 r1 (by rw[hh];exact IN f4) (by rw[hh,QT];exact gr f4 (gC hv b.name a));simp only[CU];rw[e1];refine⟨hs,λq' L7=>?_⟩;rcases EL (q:=q) L7 with rfl|⟨j,_,hj⟩
    ·exact⟨g1,.inr (by rw[g2,QT,hqr,f3])⟩
    ·exact hr q' (mG hj)
  obtain⟨g1,g2⟩:=Rv hv az (I9 w x.proc b) key.1.tab (hf.res key.1.res) key.2 λc hc=>hb c (by simp[hc])
  refine⟨λi c hc=>?_,key.1.trans g2⟩;cases i with
  | zero =>
   simp at hc;subst hc;exact⟨Dx h,k,f1⟩
  | succ i=>exact g1 i c (by simpa using hc)
def fL(x:Cd):(F6 x).proc=x.proc/\(F6 x).waiting=false/\(F6 x).By=x.By:=by
 unfold F6;cases hw:x.waiting
 ·exact⟨rfl,hw,rfl⟩
 ·exact⟨rfl,rfl,rfl⟩
def mz{l:Ledger}{label:Int}(h:(CT l label).2.2=0):BF l=true/\∃ a n,(CT l label).2.1=UM l a/\(CT l label).1=U1 l a n:=by
 unfold CT at h ⊢;split at h
 ·simp at h
 ·rename_i hv;refine⟨by simpa using hv,?_⟩;cases hb:Ru l label with
  |none=>rw[hb]at h;simp at h
  |some p=>obtain⟨a,n⟩:=p;exact⟨a,n,by simp[hv],by simp[hv]⟩
def Vw{w:Aw}{i:Nat}{x:Cd}{label:Int}(h:JE none w)(hx:w.procs[i]?=some x)(hf:O0 w.Aa x)(hi:x.waiting=false->Idle w.Aa x)(hpt:x.waiting=true->∀ q∈w.Aa,(∀ a∈Al x.BQ.expr,q.res.name≠a.name)->KF q x.proc (AE x.By.entries q.res.name))
 (h0:(CT x.By label).2.2=0):W2 (Bd (Ht w i x) i (HI (F6 x) (CT x.By label).1)) (F6 x).proc (CT x.By label).2.1/\JE none (Tc w i x label):=by
 obtain⟨hv,a,n,e1,e2⟩:=mz h0;obtain⟨p1,p2,p3⟩:=fL x;have vV:=Ay hx;have xG:JE none (Ht w i x)/\(Ht w i x).procs[i]?=some (F6 x)/\(∀ q∈(Ht w i x).Aa,KF q x.proc (AE x.By.entries q.res.name))/\(Ht w i x).Aa.map (·.res)=w.Aa.map (·.res):=by
  unfold Ht F6;cases hw:x.waiting
  ·exact⟨h,hx,hi hw,rfl⟩
  ·simp only[if_true];obtain⟨_,g1,g2⟩:=Fc h hx hw;have hg:=h.Fv i x hx (by simp) hw;have PL:=(Mq (Al x.BQ.expr) w h.tab hg.k hg.fd).2.1.res;refine⟨g1,by rw[Dz];simp[vV],λq hq=>?_,PL⟩;rcases g2 q hq with g|⟨g,gn⟩
   ·exact g
   ·exact hpt hw q g gn
 obtain⟨c1,c2,c3,c4⟩:=xG;obtain⟨w1,mQ⟩:∃ w1,w1=Bd (Ht w i x) i (HI (F6 x) (CT x.By label).1):=⟨_,rfl⟩;have d1:JE (some i) w1:=by rw[mQ];exact(c1.sw i).set' c2 rfl
 have d2:w1.Aa=(Ht w i x).Aa:=by rw[mQ];rfl
 have d3:w1.procs[i]?=some (HI (F6 x) (CT x.By label).1):=by rw[mQ];simp[Bd,Ay c2]
 obtain⟨g1,g2⟩:=Rv (a:=a) hv (UM x.By a) w1 d1.tab (by rw[d2];exact hf.res c4) (λq hq=>by
  rw[d2]at hq;exact⟨(c3 q hq).1,.inl (c3 q hq).2⟩) (λb hb=>by
  simp only[UM,List.mem_map]at hb;obtain⟨m,hm,rfl⟩:=hb;obtain⟨e,he,hn⟩:=(Un _ _).1 hm;exact⟨⟨e,List.mem_of_mem_drop he,hn⟩,rfl⟩)
 unfold Tc;rw[<- mQ,p1,e1];refine⟨g1,?_⟩;have d4:(HI (F6 x) (CT x.By label).1).proc=x.proc:=p1;exact JE.set (z:=HI (F6 x) (CT x.By label).1) (d1.step d3 (G1 _ _ _) (d4▸g2)) (by rw[G1];exact d3) rfl (λe=>by simp[C1,HI,p2]at e)
def TQ{w:Aw}{i:Nat}{x:Cd}{name:Bs}(h:JE none w)(hx:w.procs[i]?=some x)(hw:x.waiting=false):US (LR w i x name):=by
 rcases cq x.proc ⟨name,⟨0,0⟩⟩ h.tab with hl|hs
 ·refine .inr ⟨hl,by simpa [LR,Bd,CU]using h.n,λz hz hzw=>?_⟩;simp only[LR,Bd,CU]at hz;rcases List.mem_or_eq_of_mem_set hz with hz|rfl
  ·exact h.reqs z hz hzw
  ·simp[C1,hw]at hzw
 ·refine .inl ?_;unfold LR;exact JE.set (w:=CU w (BB w.Aa x.proc ⟨name,⟨0,0⟩⟩).1 (BB w.Aa x.proc ⟨name,⟨0,0⟩⟩).2.1) ((h.sw i).step hx rfl hs) hx rfl (λe=>by simp[C1,hw]at e)
def Qd(x:Cd)(n:Int):Cd:={ x with By:=(FR x.By n).1 }
def Sd(w:Aw)(k:NT)(i:Nat)(x:Cd):Aw × Int :=
 if k.kind=2 then EB w i x k.BQ
 else if k.kind=3 then (if x.waiting then (Co (Bd (Bm w i x) i (C1 (Cj x))),0) else (w,14))
 else if k.kind=4 then FM w i x k.name
 else if k.kind=5 then (if x.waiting then (w,14) else if (FR x.By k.n).2=0 then (Bd w i (C1 (Qd x k.n)),0) else (w,(FR x.By k.n).2))
 else if k.kind=6 then F3 w i x k.n
 else if k.kind=8 then (if x.waiting then (w,14) else (VW w i x,0))
 else (VW w i x,0)
def Ou(w:Aw)(k:NT):Aw × Int :=
 if k.kind<1\/9<k.kind then (w,1) else if k.kind=1 then KQ w k.proc k.n else if k.kind=9 then K5 w k.n
 else match w.procs.findIdx? (λx=>decide (x.proc=k.proc)) with
 |none=>(w,10)
 |some i=>Sd w k i (w.procs.getD i x0)
def QP{w:Aw}{i:Nat}{x:Cd}(h:JE none w)(hx:w.procs[i]?=some x):JE none (RQ w i x):=by
 have hs:=Yd x.proc h.tab;have hm:∀ (j:Nat) (y:Cd),(w.procs.eraseIdx i)[j]?=some y->∃ j',w.procs[j']?=some y/\j'≠i/\j'=if j<i then j else j+1:=λj y hj=>by
  rw[List.getElem?_eraseIdx]at hj;split at hj
  ·rename_i Au;exact⟨j,hj,by omega,by simp[Au]⟩
  ·rename_i Au;exact⟨j+1,hj,by omega,by simp[Au]⟩
 refine⟨hs.tab,?_,λa b u v ha hb e=>?_,λj y hj _ hw=>?_⟩
 ·simp only[RQ,Cw,CU,List.length_eraseIdx];have:=h.n;split<;>omega
 ·obtain⟨a',h1,_,h3⟩:=hm a u ha;obtain⟨b',k1,_,k3⟩:=hm b v hb;have:=h.uq a' b' u v h1 k1 e;rw[h3,k3]at this;split at this<;>split at this<;>omega
 ·obtain⟨j',h1,h2,_⟩:=hm j y hj;exact(h.Fv j' y h1 (by simp) hw).step hs λe=>h2 (h.uq j' i y x h1 hx e)
def qB{t:List Queue}{p:Ad}(h:FA t):(Cy t p).2.length<=100000:=by
 have e:(Cy t p).2=JR t p t.length:=by simp[Cy,(I2 t).2 h,JR]
 rw[e];have:=Rg (p:=p) (Dx h).q t.length (le_refl _);have:=h.n;omega
def iH(l:Ledger)(label:Int):(CT l label).2.1.length<=1000:=by
 unfold CT;split
 ·simp
 ·rename_i hv;have hl:l.entries.length<=72:=by
   have:BF l=true:=by simpa using hv
   simp only[BF,Bool.and_eq_true,decide_eq_true_eq]at this;omega
  cases Ru l label with
  |none=>simp
  |some p =>
   obtain⟨a,n⟩:=p;simp only[UM,length_map];have:=NF (l.entries.drop a);simp at this;omega
def VP{l:List Cd}{p:Ad}{i:Nat}(h:l.findIdx? (λx=>decide (x.proc=p))=some i):∃ x,l[i]?=some x:=by
 obtain⟨hi,_⟩:=List.findIdx?_eq_some_iff_getElem.1 h;exact⟨_,gE hi⟩
def nY(w:Aw)(k:NT)(h:Fit w):Ac C0 173 [.ptr 63 0,.agg k.c] [(63,w.c)] (I (Ou w k).2) [(63,(Ou w k).1.c)]:=by
 have hp:=h.je.n;have hf:=Dx h.je.tab;have V1:w.Dk.length=0:=by rw[h.ev];rfl
 have hwc:=I4 w;refine Ac.go f173 ?_;unfold f173;refine gO ?_
 by_cases h1:k.kind<1
 ·have ht:Ou w k=(w,1):=by simp[Ou,h1]
  rw[ht];simp(disch:=omega)only[go_sem,eq_true h1,decide_true];refine CE ⟨[(0,0),(1,1)],[(63,63)],[]⟩ _ ?_ ?_
  ·exact gI
  ·exact gI
 by_cases h2:9<k.kind
 ·have ht:Ou w k=(w,1):=by simp[Ou,h2]
  rw[ht];simp(disch:=omega)only[go_sem,eq_false h1,eq_true h2,decide_true,decide_false];refine CE ⟨[(0,0),(1,1)],[(63,63)],[]⟩ _ ?_ ?_
  ·exact gI
  ·exact gI
 simp(disch:=omega)only[go_sem,eq_false h1,eq_false h2,decide_false]
 by_cases h3:k.kind=1
 ·have ht:Ou w k=KQ w k.proc k.n:=by simp[Ou,h3]
  rw[ht];simp(disch:=omega)only[go_sem,h3];refine call2 ⟨⟨[(0,0),(1,1)],[(63,63)],[]⟩,[],[]⟩ (ot w k.proc k.n (by omega)) ?_;refine gO ?_;refine CE ⟨[(0,0),(1,1)],[(63,63)],[]⟩ _ ?_ ?_
  ·exact gI
  ·exact gI
 have UP:(k.kind==1)=false:=by simpa using h3
 simp(disch:=omega)only[go_sem,UP]
 by_cases h4:k.kind=9
 ·have ht:Ou w k=K5 w k.n:=by simp[Ou,h4]
  rw[ht];simp(disch:=omega)only[go_sem,h4];refine call2 ⟨⟨[(0,0),(1,1)],[(63,63)],[]⟩,[],[]⟩ (ow (JE none) JE.q6 w k.n (λt=>⟨h.je.tab,h.je.n,h.je.uq,h.je.Fv⟩) h.now.1 (by omega)) ?_;refine gO ?_;refine CE ⟨[(0,0),(1,1)],[(63,63)],[]⟩ _ ?_ ?_
  ·exact gI
  ·exact gI
 have rj:(k.kind==9)=false:=by simpa using h4
 simp(disch:=omega)only[go_sem,rj];refine Av 7 [([],[0]),([],[33]),([],[34]),([],[35]),([],[36]),([],[3]),([],[38])] B7 ?_;refine gO ?_;refine Cb [0] (SE w.procs k.proc) gI rfl trivial ?_;cases eL:w.procs.findIdx? (λx=>decide (x.proc=k.proc)) with
 |none =>
  have ht:Ou w k=(w,10):=by simp[Ou,h1,h2,h3,h4,eL]
  have hix:GC w.procs k.proc = -1:=by simp[GC,eL]
  rw[ht];simp(disch:=omega)only[go_sem,hix];refine CE ⟨[(0,0),(1,1)],[(63,63)],[]⟩ _ ?_ ?_
  ·exact gI
  ·exact gI
 |some i =>
 obtain⟨x,hx⟩:=VP eL;have gN:=mG hx;have hi:=Ay hx;have hix:GC w.procs k.proc=i:=by simp[GC,eL]
 have ht:Ou w k=Sd w k i x:=by simp[Ou,h1,h2,h3,h4,eL,List.getD,hx]
 rw[ht];simp(disch:=omega)only[go_sem,hix,eq_false (show ¬ (i:Int)<0 by omega),decide_false,gm,hx]
 by_cases k2:k.kind=2
 ·have GP:Sd w k i x=EB w i x k.BQ:=by simp[Sd,k2]
  rw[GP];simp(disch:=omega)only[go_sem,k2];refine call2 ⟨⟨[(0,0),(1,1)],[(63,63)],[]⟩,[],[]⟩ (ox US US.Fh w i x k.BQ hx hf (λa1 a2 a3=>by
   refine YP h.je hx (h.idle x gN a1) (by simp only[JS,Bool.and_eq_true]at a2;exact a2.1.1.1.1) (λa ha=>?_);obtain⟨n,_,hn,_⟩:=IS h.je.tab a3 ha;exact⟨n,hn⟩) hp (by omega)) ?_
  refine gO ?_;refine CE ⟨[(0,0),(1,1)],[(63,63)],[]⟩ _ ?_ ?_
  ·exact gI
  ·exact gI
 have k2':(k.kind==2)=false:=by simpa using k2
 simp(disch:=omega)only[go_sem,k2']
 by_cases k3:k.kind=3
 ·simp(disch:=omega)only[go_sem,k3];cases hw:x.waiting
  ·have GP:Sd w k i x=(w,14):=by simp[Sd,k3,hw]
   rw[GP];simp(disch:=omega)only[go_sem,hw];refine CE ⟨[(0,0),(1,1)],[(63,63)],[]⟩ _ ?_ ?_
   ·exact gI
   ·exact gI
  have GP:Sd w k i x=(Co (Bd (Bm w i x) i (C1 (Cj x))),0):=by simp[Sd,k3,hw]
  rw[GP];obtain⟨s1,s2,_⟩:=Fc h.je hx hw;have UQ:(Bm w i x).procs[i]?=some (Cj x):=by rw[Dz];simp[hi]
  have s3:=s2.next UQ;have s4:=Ki (i:=i) s1;have s5:(Bd (Bm w i x) i (C1 (Cj x))).Dk.length=(Bm w i x).Dk.length:=rfl;have s6:=I4 (Bd (Bm w i x) i (C1 (Cj x)));have s7:=s3.n;simp(disch:=omega)only[go_sem,hw];refine call2 ⟨⟨[(0,0),(1,1)],[(63,63)],[]⟩,[],[]⟩ (Xx w i x hx s1 (by omega)) ?_;refine gO ?_;refine call2 ⟨⟨[(0,0),(1,1)],[(63,63)],[]⟩,[],[]⟩ (JJ (Bm w i x) i (Cj x) UQ) ?_;refine gO ?_;refine call2 ⟨⟨[(0,0),(1,1)],[(63,63)],[]⟩,[],[]⟩ (Ll (JE none) JE.Fh _ s3 (by omega)) ?_;refine gO ?_;refine CE ⟨[(0,0),(1,1)],[(63,63)],[]⟩ _ ?_ ?_
  ·exact gI
  ·exact gI
 have k3':(k.kind==3)=false:=by simpa using k3
 simp(disch:=omega)only[go_sem,k3']
 by_cases k4:k.kind=4
 ·have GP:Sd w k i x=FM w i x k.name:=by simp[Sd,k4]
  rw[GP];simp(disch:=omega)only[go_sem,k4];refine call2 ⟨⟨[(0,0),(1,1)],[(63,63)],[]⟩,[],[]⟩ (oy US US.Fh w i x k.name hx hf (λa1=>TQ h.je hx a1) hp (by omega)) ?_;refine gO ?_;refine CE ⟨[(0,0),(1,1)],[(63,63)],[]⟩ _ ?_ ?_
  ·exact gI
  ·exact gI
 have k4':(k.kind==4)=false:=by simpa using k4
 simp(disch:=omega)only[go_sem,k4']
 by_cases k5:k.kind=5
 ·simp(disch:=omega)only[go_sem,k5];cases hw:x.waiting;rotate_left
  ·have GP:Sd w k i x=(w,14):=by simp[Sd,k5,hw]
   rw[GP];simp(disch:=omega)only[go_sem,hw];refine CE ⟨[(0,0),(1,1)],[(63,63)],[]⟩ _ ?_ ?_
   ·exact gI
   ·exact gI
  simp(disch:=omega)only[go_sem,hw];refine D4 (st':=⟨[(5,I i),(3,.ptr 192 0),(0,.ptr 63 0)],[(192,k.c),(63,w.c)]⟩) (AQ.An gI (by simp(disch:=omega)only[go_sem,k5])) ?_;refine IW 16 [([],[0]),([0],[84]),([0,1],[85]),([0,1,2],[86]),([0,1,2,3],[87]),([],[5]),([0,1,2,3,4,5],[88,89]),([0,1,2,3,4,5,6],[90]),([0,1,2,3,4,5,6,7],[91]),([],[3]),([9],[93]),([0,1,2,3,4,5,6,7,8,9,10],[92,94]),([0,1,2,3,4,5,6,7,8,9,10,11],[95]),([0,1,2,3,4,5,6,7,8,9,10,11,12],[83]),([0,1,2,3,4,5,6,7,8,9,10,11,12],[83]),([],[]),([0,1,2,3,4,5,6,7,8,9,10,11,12,13,15],[]),([0,1,2,3,4,5,6,7,8,9,10,11,12,13,14,15,16],[])] [14] [([],[83,7,96,5,3,0],let o0:OT:=.done;let o1:OT:=.pick [(17,o0)];let o2:OT:=.pick [(16,o1)];let o3:OT:=.pick [(14,o1)];let o4:OT:=.pick [(14,o2),(16,o3)];o4),([14],[7,96,97,5,3,0],let o0:OT:=.done;let o1:OT:=.pick [(17,o0)];let o2:OT:=.pick [(16,o1)];o2)] B7 (by kernel_rfl) ?_;simp(disch:=omega)only[go_sem,gm,hx]
  first|(refine Ab (dL x.By k.n) ?_)|(refine Aq (dL x.By k.n) ?_)
  have NZ:(FR x.By k.n).2≠0->Sd w k i x=(w,(FR x.By k.n).2):=λCa=>by simp[Sd,k5,hw,Ca]
  have hs3:(FR x.By k.n).2=0->Sd w k i x=(Bd w i (C1 (Qd x k.n)),0):=λhe=>by simp[Sd,k5,hw,he]
  have hx5:(Bd w i (Qd x k.n)).procs[i]?=some (Qd x k.n):=by simp[Bd,hi]
  have hs4:Bd (Bd w i (Qd x k.n)) i (C1 (Qd x k.n))=Bd w i (C1 (Qd x k.n)):=by simp[Bd]
  simp(disch:=omega)only[go_sem]
  repeat'(with_reducible refine And.intro ?_ ?_)
  all_goals intro hc
  all_goals first
   |(have XM:(FR x.By k.n).2≠0:=by simpa using hc
     rw[NZ XM];refine CE ⟨[(0,0),(1,1)],[(63,63)],[]⟩ _ ?_ ?_
     ·exact gI
     ·exact gI
     done)
   | skip
  all_goals
   have XM:(FR x.By k.n).2=0:=by simpa using hc
   rw[hs3 XM];refine D4 (st':=⟨[(5,I i),(7,.ptr 448 0),(0,.ptr 63 0)],[(448,(FR x.By k.n).1.c),(63,w.c)]⟩) AS ?_;refine Av 7 [([],[0]),([],[101]),([],[102]),([],[103]),([],[104]),([],[5]),([],[7])] B7 ?_;simp(disch:=omega)only[go_sem,gm,hx,length_map];refine call2 ⟨⟨[(0,0),(1,1)],[(63,63)],[]⟩,[],[]⟩ (JJ (Bd w i (Qd x k.n)) i _ hx5) ?_ (hh:=?_);rotate_left
   ·simp(disch:=omega)only[go_sem,Bd,Qd];exact .sl (by simp only[map_set];rfl)
   rw[hs4];refine gO ?_;refine CE ⟨[(0,0),(1,1)],[(63,63)],[]⟩ _ ?_ ?_
   ·exact gI
   ·exact gI
 have k5':(k.kind==5)=false:=by simpa using k5
 simp(disch:=omega)only[go_sem,k5']
 by_cases k6:k.kind=6
 ·have GP:Sd w k i x=F3 w i x k.n:=by simp[Sd,k6]
  rw[GP];simp(disch:=omega)only[go_sem,k6];refine call2 ⟨⟨[(0,0),(1,1)],[(63,63)],[]⟩,[],[]⟩ (oz (JE none) JE.Fh w i x k.n hx (λa1=>(Fc h.je hx a1).1) (λa1=>Vw h.je hx (h.fits x gN) (h.idle x gN) (h.wait x gN) a1) (iH _ _) hp (by omega)) ?_;refine gO ?_;refine CE ⟨[(0,0),(1,1)],[(63,63)],[]⟩ _ ?_ ?_
  ·exact gI
  ·exact gI
 have k6':(k.kind==6)=false:=by simpa using k6
 simp(disch:=omega)only[go_sem,k6'];have hga:=QP h.je hx;have ye:=qB (p:=x.proc) h.je.tab
 by_cases k8:k.kind=8
 ·simp(disch:=omega)only[go_sem,k8];cases hw:x.waiting;rotate_left
  ·have GP:Sd w k i x=(w,14):=by simp[Sd,k8,hw]
   rw[GP];simp(disch:=omega)only[go_sem,hw];refine CE ⟨[(0,0),(1,1)],[(63,63)],[]⟩ _ ?_ ?_
   ·exact gI
   ·exact gI
  have GP:Sd w k i x=(VW w i x,0):=by simp[Sd,k8,hw]
  rw[GP];simp(disch:=omega)only[go_sem,hw];refine call2 ⟨⟨[(0,0),(1,1)],[(63,63)],[]⟩,[],[]⟩ (dM (JE none) JE.Fh w i x hx hp hf hga ye (by omega)) ?_;refine gO ?_;refine CE ⟨[(0,0),(1,1)],[(63,63)],[]⟩ _ ?_ ?_
  ·exact gI
  ·exact gI
 have k8':(k.kind==8)=false:=by simpa using k8
 have k7:k.kind=7:=by omega
 have GP:Sd w k i x=(VW w i x,0):=by simp[Sd,k7]
 rw[GP];simp(disch:=omega)only[go_sem,k8',k7];refine call2 ⟨⟨[(0,0),(1,1)],[(63,63)],[]⟩,[],[]⟩ (dM (JE none) JE.Fh w i x hx hp hf hga ye (by omega)) ?_;refine gO ?_;refine CE ⟨[(0,0),(1,1)],[(63,63)],[]⟩ _ ?_ ?_
 ·exact gI
 ·exact gI
def UZ:Qt:=⟨0,[],[]⟩
def db(c:Qt)(k:NT):Qt × List Ev × Int :=
 if Ks c then (if (Ou ⟨c.now,c.Aa,c.procs,[]⟩ k).2=0 then (⟨(Ou ⟨c.now,c.Aa,c.procs,[]⟩ k).1.now,(Ou ⟨c.now,c.Aa,c.procs,[]⟩ k).1.Aa,(Ou ⟨c.now,c.Aa,c.procs,[]⟩ k).1.procs⟩,(Ou ⟨c.now,c.Aa,c.procs,[]⟩ k).1.Dk,0) else (UZ,[],(Ou ⟨c.now,c.Aa,c.procs,[]⟩ k).2)) else (UZ,[],2)
def di(c:Qt)(k:NT)(h:Ei c.Aa):Ac C0 119 [.agg c.c,.agg k.c] [] (.Bl [.agg (db c k).1.c,Zf (db c k).2.1,I (db c k).2.2]) []:=by
 have hn:=h.n;refine Ac.go f119 ?_;unfold f119;refine gO ?_;refine Ab (jZ c h) ?_;cases hv:Ks c
 ·have ht:db c k=(UZ,[],2):=by simp[db,hv]
  rw[ht];simp(disch:=omega)only[go_sem,Bool.not_false];refine CD _ ?_;simp(disch:=omega)only[go_sem,UZ,map_nil];refine .Bl (Af.AI ?_);simp(disch:=omega)only[go_sem]
  repeat'(with_reducible apply And.intro)
  all_goals(first|exact .AD (by omega)|exact .agg (Af.AI gI))
 have Kb:=Sv hv;have NP:c.procs.length<=8:=Kb.je.n;obtain⟨w,hw⟩:∃ w:Aw,w=⟨c.now,c.Aa,c.procs,[]⟩:=⟨_,rfl⟩;have ht:db c k=(if (Ou w k).2=0 then (⟨(Ou w k).1.now,(Ou w k).1.Aa,(Ou w k).1.procs⟩,(Ou w k).1.Dk,0) else (UZ,[],(Ou w k).2)):=by simp only[db,hv,if_true,hw]
 rw[<- hw]at Kb;simp(disch:=omega)only[go_sem,Bool.not_true];refine Bh ⟨⟨[],[],[]⟩,[(0,896)],[]⟩ (nX c (by omega) (by omega)) gI rfl gI (.inl rfl) ?_;refine gO ?_;refine Bh ⟨⟨[(896,0)],[(1024,63)],[]⟩,[(1,1216)],[]⟩ (nY w k Kb) gI rfl ?_ (.inl rfl) ?_
 ·rw[hw];simp(disch:=omega)only[go_sem,map_nil]
  done
 refine gO ?_;refine And.intro (λhc=>?_) (λhc=>?_)
 ·have XM:(Ou w k).2≠0:=by simpa using hc
  rw[if_neg XM]at ht;rw[ht];refine CD _ ?_;simp(disch:=omega)only[go_sem,UZ,map_nil];refine .Bl (Af.AI ?_);simp(disch:=omega)only[go_sem]
  repeat'(with_reducible apply And.intro)
  all_goals(first|exact .AD (by omega)|exact .agg (Af.AI gI))
 ·have XM:(Ou w k).2=0:=by simpa using hc
  rw[if_pos XM]at ht;rw[ht];obtain⟨w2,mR⟩:∃ w2,w2=(Ou w k).1:=⟨_,rfl⟩;rw[<- mR];refine D4 (st':=⟨[(7,.ptr 1024 0),(4,.ptr 256 0)],[(256,[I 0,.v (.slice none 0 0),.v (.slice none 0 0)]),(1024,[I w2.now,AW w2.Aa,.sl (.own 896 0) 16 (w2.procs.map Cd.c),.sl (.own 1216 0) 7 (w2.Dk.map Ev.c)])]⟩) ?_ ?_
  ·rw[mR];exact AS
  refine IW 8 [([],[7]),([0],[24]),([0,1],[25]),([0,1,2],[26]),([],[7]),([4],[28]),([4,5],[29]),([4,5,6],[30]),([0,1,2,3],[]),([0,1,2,3,4,5,6,7,8],[]),([0,1,2,3,4,5,6,7,8,9],[])] [4,5,6,7] [([],[27,7,4],let o0:OT:=.done;let o1:OT:=.pick [(10,o0)];let o2:OT:=.pick [(9,o1)];let o3:OT:=.pick [(8,o2)];let o4:OT:=.pick [(7,o2)];let o5:OT:=.pick [(7,o3),(8,o4)];let o6:OT:=.pick [(6,o4)];let o7:OT:=.pick [(6,o5),(8,o6)];let o8:OT:=.pick [(5,o6)];let o9:OT:=.pick [(5,o7),(8,o8)];let bb:OT:=.pick [(4,o8)];let ia:OT:=.pick [(4,o9),(8,bb)];ia),([4],[28,27,7,4],let o0:OT:=.done;let o1:OT:=.pick [(10,o0)];let o2:OT:=.pick [(9,o1)];let o3:OT:=.pick [(8,o2)];let o4:OT:=.pick [(7,o2)];let o5:OT:=.pick [(7,o3),(8,o4)];let o6:OT:=.pick [(6,o4)];let o7:OT:=.pick [(6,o5),(8,o6)];let o8:OT:=.pick [(5,o6)];let o9:OT:=.pick [(5,o7),(8,o8)];o9),([4,5],[29,27,7,4],let o0:OT:=.done;let o1:OT:=.pick [(10,o0)];let o2:OT:=.pick [(9,o1)];let o3:OT:=.pick [(8,o2)];let o4:OT:=.pick [(7,o2)];let o5:OT:=.pick [(7,o3),(8,o4)];let o6:OT:=.pick [(6,o4)];let o7:OT:=.pick [(6,o5),(8,o6)];o7),([4,5,6],[30,27,7,4],let o0:OT:=.done;let o1:OT:=.pick [(10,o0)];let o2:OT:=.pick [(9,o1)];let o3:OT:=.pick [(8,o2)];let o4:OT:=.pick [(7,o2)];let o5:OT:=.pick [(7,o3),(8,o4)];o5),([4,5,6,7],[27,31,7,4],let o0:OT:=.done;let o1:OT:=.pick [(10,o0)];let o2:OT:=.pick [(9,o1)];let o3:OT:=.pick [(8,o2)];o3)] B7 (by kernel_rfl) ?_;simp(disch:=omega)only[go_sem]
  repeat'(with_reducible refine And.intro ?_ ?_)
  all_goals
   refine AZ ⟨[],[],[896,1216]⟩ _ (by(try simp(disch:=omega)only[go_sem,Cr,GH])<;>rfl) ⟨rfl,rfl⟩ (by simp[lk]) ?_ trivial;simp(disch:=omega)only[go_sem]
@[reducible] def JN(l:List Int):AV:=.sl .no 1 (l.map λx=>[I x])
def Eb(l:List Int)(a:Nat):List AV:=[JN l,I a]
def xk(l:List Int):Ac C0 9 [JN l] [] (B (decide ((l.length:Int)<=300))) []:=by
 refine Ac.lens f9 λhlen=>?_
 simp only[E0,lens,length_map,and_true,true_and]at hlen;refine Ac.go f9 ?_;unfold f9;simp(disch:=omega)only[go_sem,length_map];exact AM _
def nB(l:List Int)(a:Nat)(hl:l.length<=1000000):Ac C0 116 [.ptr 63 0] [(63,Eb l a)] (B (decide ((a:Int)<l.length))) [(63,Eb l a)]:=by
 refine Ac.go f116 ?_;unfold f116;refine gO ?_;refine Av 9 [([],[0]),([],[3]),([],[4]),([],[5]),([],[0]),([],[7]),([],[8]),([],[9]),([],[10])] B7 ?_;simp(disch:=omega)only[go_sem,Eb,length_map];refine CE ⟨[],[(63,63)],[]⟩ _ ?_ ?_
 ·exact gI
 ·simp(disch:=omega)only[go_sem,Eb]
def Ke(x n:Int):Int:=if decide (n<1) then 0 else x%n
def TF(x n:Int)(hn:n<=2000000):Ac C0 70 [I x,I n] [] (I (Ke x n)) []:=by
 refine Ac.go f70 ?_;unfold f70;refine gO ?_;cases h1:decide (n<1);rotate_left
 ·have e:Ke x n=0:=by simp[Ke,h1]
  rw[e];simp(disch:=omega)only[go_sem,h1];exact AM _
 have gH:1<=n:=by simpa using h1
 have e:Ke x n=x%n:=by simp only[Ke,h1];rfl
 rw[e];have he:=Int.emod_nonneg x (show n≠0 by omega);have gy:=Int.emod_lt_of_pos x (show 0<n by omega);have hr:x.tmod n=x%n\/x.tmod n=x%n-n:=by
  rw[Int.tmod_eq_emod];split
  ·left;omega
  ·right;omega
 have hn0:=eq_false (show ¬ n=0 by omega);have hw:=wrap64 (x.tmod n+n) (by omega) (by omega);generalize x.tmod n=r at hr hw;generalize x%n=m at he gy hr ⊢;simp(disch:=omega)only[go_sem,h1,hn0];rcases hr with hr|hr
 ·have hd:decide (r<0)=false:=by simp;omega
  simp(disch:=omega)only[go_sem,hd];refine CD _ ?_;simp(disch:=omega)only[go_sem,hr]
 ·by_cases hz:m-n<0
  ·have hd:decide (r<0)=true:=by simp;omega
   simp(disch:=omega)only[go_sem,hd,hw];refine CD _ ?_;simp(disch:=omega)only[go_sem,hr];exact .int (by omega)
  ·omega
def Ai(l:List Int)(a:Nat)(n:Int):Int × Nat:=match l[a]? with
 |none=>(0,a)
 |some x=>(Ke x n,a+1)
def CW(l:List Int)(a:Nat)(n:Int)(hl:l.length<=1000000)(hn:n<=2000000):Ac C0 115 [.ptr 63 0,I n] [(63,Eb l a)] (I (Ai l a n).1) [(63,Eb l (Ai l a n).2)]:=by
 refine Ac.go f115 ?_;unfold f115;refine gO ?_;refine Av 9 [([],[0]),([],[5]),([],[6]),([],[7]),([],[0]),([],[9]),([],[10]),([],[11]),([],[12])] B7 ?_;simp(disch:=omega)only[go_sem,Eb,length_map];cases hb:l[a]? with
 |none =>
  have hla:l.length<=a:=by
   rcases Nat.lt_or_ge a l.length with h|h
   ·rw[gE h]at hb;cases hb
   ·exact h
  have e:Ai l a n=(0,a):=by simp[Ai,hb]
  rw[e];simp(disch:=omega)only[go_sem,eq_true (show (l.length:Int)<=a by omega),decide_true];refine CE ⟨[],[(63,63)],[]⟩ _ ?_ ?_
  ·exact gI
  ·simp(disch:=omega)only[go_sem,Eb]
 |some x =>
  have hla:=Ay hb;have e:Ai l a n=(Ke x n,a+1):=by simp[Ai,hb]
  rw[e];have aZ:((a:Int)+1-1)=(a:Int):=by omega
  simp(disch:=omega)only[go_sem,eq_false (show ¬ (l.length:Int)<=a by omega),decide_false];refine Av 12 [([],[0]),([],[22]),([],[23]),([],[24]),([],[0]),([],[26]),([],[27]),([],[28]),([],[29]),([],[25,30]),([],[31]),([],[1])] B7 ?_;simp(disch:=omega)only[go_sem,aZ,gm,hb]
  first|(refine Ab (TF x n hn) ?_)|(refine Aq (TF x n hn) ?_)
  refine gO ?_;refine CE ⟨[],[(63,63)],[]⟩ _ ?_ ?_
  ·exact gI
  ·simp(disch:=omega)only[go_sem,Eb]
def KS(n:Int):Ad:=⟨(n%8)%4,1,1+(n%8) / 4⟩
def jT(n:Int):Ac C0 31 [I n] [] (.agg (KS n).c) []:=by
 refine Ac.go f31 ?_;unfold f31;refine gO ?_;refine Ab (TF n 8 (by omega)) ?_;have e:Ke n 8=n%8:=by simp[Ke]
 rw[e];have h0:=Int.emod_nonneg n (show (8:Int)≠0 by omega);have h1:=Int.emod_lt_of_pos n (show (0:Int)<8 by omega);unfold KS;generalize n%8=m at h0 h1 ⊢;have e1:m.tmod 4=m%4:=Int.tmod_eq_emod_of_nonneg h0;have e2:m.tdiv 4=m / 4:=Int.tdiv_eq_ediv_of_nonneg h0;have e3:=wrap64 (m / 4) (by omega) (by omega);have e4:=wrap64 (1+m / 4) (by omega) (by omega);simp(disch:=omega)only[go_sem,e1,e2,e3,e4];refine Aj _ ?_;refine .eq ?_;simp[E2,AV.BS,Ad.c,e2]
def cA:List Int:=[5,5,3,4,2,1,3,5]
theorem oU(n:Int):Ac C0 292 [I n] [] (I (cA.getD (n%8).toNat 0)) []:=by
 refine Ac.go f292 ?_;unfold f292;refine gO ?_;refine Ab (TF n 8 (by omega)) ?_;have e:Ke n 8=n%8:=by simp[Ke]
 rw[e];have h0:=Int.emod_nonneg n (show (8:Int)≠0 by omega);have h1:=Int.emod_lt_of_pos n (show (0:Int)<8 by omega);generalize n%8=m at h0 h1 ⊢;obtain rfl|rfl|rfl|rfl|rfl|rfl|rfl|rfl:m=0\/m=1\/m=2\/m=3\/m=4\/m=5\/m=6\/m=7:=by omega
 all_goals
  refine gO ?_;refine CD _ ?_;exact .eq rfl
end Go.Rd
