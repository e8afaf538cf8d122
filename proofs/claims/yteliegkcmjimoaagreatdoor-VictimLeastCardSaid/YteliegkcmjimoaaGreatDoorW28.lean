/- part 28 of the proof -/
import Derived.Test.YteliegkcmjimoaaGreatDoorW26
import Derived.Test.YteliegkcmjimoaaGreatDoorW27
set_option linter.all false
open Go Go.Abs Go.Proofs
set_option maxRecDepth 100000
namespace Go.Rd
set_option maxHeartbeats 8000000
open List (foldl_append map_set set_set take_add_one take_length)
open Nat (le_refl)
open Tryz
def VH(w:Ap)(x:Bu)(name:Bs):Prop:=∃ k,CG w.Aa name=some k/\Fa w.Aa/\k<(EH w x name k).Aa.length/\Fa (EH w x name k).Aa
def qS(w:Ap)(x:Bu)(name:Bs)(h:VH w x name)(Y1:w.D1.length<=1000000):Ad C0 270 [.ptr 63 0,.agg x.c,.v (.string (str name))] [(63,w.c)] (.BC []) [(63,(Ed w x name).c)]:=by
 obtain⟨k,h1,h2,h3,h4⟩:=h;exact wy w x name k h1 h2 Y1 h3 h4
def YB{w:Ap}{x:Bu}{name:Bs}(h:VH w x name):(Ed w x name).D1.length<=w.D1.length+201:=by
 obtain⟨k,h1,h2,h3,h4⟩:=h;have c1:=TP h2 x.proc name;have c2:=IZ h4 x.proc ⟨name,An x.AB.entries name⟩;have c3:(EH w x name k).D1.length<=w.D1.length+100:=by
  unfold EH;split
  ·simp[Da];omega
  ·omega
 simp only[Ed,h1];unfold LZ;split
 ·omega
 ·simp only[Da,List.length_append];omega
theorem GB(w:Ap)(x:Bu)(name:Bs):(Ed w x name).procs=w.procs:=by
 unfold Ed;split
 ·rfl
 ·unfold LZ EH;split<;>split<;>rfl
def EZ(w:Ap)(x:Bu)(az:List Atom):Ap:=az.foldl (λw a=>Ed w x a.name) w
def T2{w:Ap}{x:Bu}{az:List Atom}{i:Nat}{b:Atom}(hb:az[i]?=some b):EZ w x (az.take (i+1))=Ed (EZ w x (az.take i)) x b.name:=by simp[EZ,take_add_one,hb,foldl_append]
theorem Ia(w:Ap)(x:Bu):∀ az:List Atom,(EZ w x az).procs=w.procs
 |[]=>rfl
 | a::az=>by
  show (EZ (Ed w x a.name) x az).procs=w.procs;rw[Ia,GB]
def Qm(w:Ap)(x:Bu)(az:List Atom):Prop:=∀ i b,az[i]?=some b->VH (EZ w x (az.take i)) x b.name
def Qw{w:Ap}{x:Bu}{az:List Atom}(h:Qm w x az):∀ i,i<=az.length->(EZ w x (az.take i)).D1.length<=w.D1.length+201*i
 | 0,_=>by simp[EZ]
 | i+1,hi=>by
  obtain⟨b,hb⟩:∃ b,az[i]?=some b:=⟨_,gE (by omega)⟩;have h1:=Qw h i (by omega);have h2:=YB (h i b hb);rw[T2 hb];omega
def Bb(w:Ap)(i:Nat)(x:Bu):Ap:=AW (EZ w x (Ah x.Bk.expr)) i (CH x)
def aO(w:Ap)(i:Nat)(x:Bu)(hx:w.procs[i]?=some x)(hs:Qm w x (Ah x.Bk.expr))(Y1:w.D1.length<=900000):Ad C0 222 [.ptr 63 0,I i] [(63,w.c)] (.BC []) [(63,(Bb w i x).c)]:=by
 have QG:=Dt x.Bk.expr;refine Ad.go f222 ?_;unfold f222;simp(disch:=omega)only[go_sem,gm,hx];refine Ab (M7 x.Bk.expr) ?_;obtain⟨o,rfl⟩:∃ o,o=i:=⟨i,rfl⟩;refine gO ?_;unfold Bb;generalize Ah x.Bk.expr=az at hs QG ⊢;refine AF (az) (λi=>⟨[(6,I i),(5,BG az),(0,.ptr 63 0),(1,I o),(4,.ptr 256 0)],[(63,(EZ w x (az.take i)).c),(256,x.c)]⟩) (λi=>True) trivial ?_ ?_
 ·refine AT.Aq ?_ ?_
  all_goals(try simp(disch:=omega)only[go_sem])
  all_goals(try(repeat'(with_reducible apply And.intro)))
  all_goals(first|exact .Cr (by omega)|exact .A8 (by omega)|exact .sl (by simp[EZ])|exact .int (by simp[EZ])|exact .eq (by simp[EZ]))
 rintro i ⟨hi,hP⟩ J hJ;refine gO ?_;refine Bo hi (λAP b hb Cg AX=>?_) λBa=>?_
 ·have h1:=Qw hs i hi;refine Ay 7 [([],[0]),([],[4]),([],[5]),([],[6]),([],[27,28]),([],[29]),([],[30])] B6 ?_;simp(disch:=omega)only[go_sem,gm,hb];refine call2 ⟨⟨[(0,0),(1,1)],[(63,63)],[]⟩,[],[]⟩ (qS (EZ w x (az.take i)) x b.name (hs i b hb) (by omega)) ?_;rw[<- T2 hb];refine gO ?_;refine hJ _ (i+1) ⟨by omega,trivial⟩ (by omega) AK
 ·subst Ba;rw[take_length];have Xj:(EZ w x az).procs[o]?=some x:=by rw[Ia];exact hx
  refine call2 ⟨⟨[(0,0),(1,1)],[(63,63)],[]⟩,[],[]⟩ (kZ (EZ w x az) o x Xj) ?_;refine gO ?_;refine C8 ⟨[(0,0),(1,1)],[(63,63)],[]⟩ _ ?_ ?_
  ·exact gI
  ·exact gI
def Lf(w:Ap)(x:Bu):Bool:=x.waiting&&Gc x.Bk.expr (BY w.Aa x.proc x.Bk.expr)
def Ho(w:Ap):Option Nat:=w.procs.findIdx? (Lf w)
def Z6(w:Ap):Prop:=∀ x∈w.procs,x.waiting=true->BM x.Bk.expr=true
def k9(w:Ap)(h:Fa w.Aa)(hp:w.procs.length<=1000000)(hr:Z6 w):Ad C0 272 [.ptr 63 0] [(63,w.c)] (I (XZ (Ho w))) [(63,w.c)]:=by
 refine Ad.go f272 ?_;unfold f272;refine gO ?_;refine AF (w.procs) (λi=>⟨[(3,I i),(0,.ptr 63 0)],[(63,w.c)]⟩) (λi=>(w.procs.take i).find? (Lf w)=none) rfl ?_ ?_
 ·exact Ce
 rintro i ⟨hi,hP⟩ J hJ;refine gO ?_;refine Bo hi (λAP b hb Cg AX=>?_) λBa=>?_
 ·simp(disch:=omega)only[go_sem,gm,hb];cases hw:b.waiting
  ·have hs:Lf w b=false:=by simp[Lf,hw]
   refine Ay 17 [([],[4]),([],[23]),([],[24]),([],[4,25]),([],[26,25]),([],[27,25]),([],[0,25]),([],[29,25]),([],[30,25]),([],[31,25]),([],[32,25]),([],[4,25]),([],[34,25]),([],[4,25]),([],[36,25]),([],[37,25]),([],[33,35,38,25])] B6 ?_;simp(disch:=omega)only[go_sem,hw];refine hJ _ (i+1) ⟨by omega,(by rw[Cp hP hb];simp[hs])⟩ (by omega) AK
  ·have he:=hr b Cg hw;refine Ay 17 [([],[4]),([],[23]),([],[24]),([],[4,25]),([],[26,25]),([],[27,25]),([],[0,25]),([],[29,25]),([],[30,25]),([],[31,25]),([],[32,25]),([],[4,25]),([],[34,25]),([],[4,25]),([],[36,25]),([],[37,25]),([],[33,35,38,25])] B6 ?_;simp(disch:=omega)only[go_sem,hw]
   first|(refine Ab (Pz w.Aa b.proc b.Bk.expr h) ?_)|(refine Ax (Pz w.Aa b.proc b.Bk.expr h) ?_)
   refine gO ?_
   first|(refine Ab (Py b.Bk.expr (BY w.Aa b.proc b.Bk.expr) he) ?_)|(refine Ax (Py b.Bk.expr (BY w.Aa b.proc b.Bk.expr) he) ?_)
   cases hh:Gc b.Bk.expr (BY w.Aa b.proc b.Bk.expr)
   ·have hs:Lf w b=false:=by simp[Lf,hw,hh]
    refine gO ?_;refine hJ _ (i+1) ⟨by omega,(by rw[Cp hP hb];simp[hs])⟩ (by omega) AK
   ·have hs:Lf w b=true:=by simp[Lf,hw,hh]
    have e:Ho w=some i:=Hj hP b hb hs;simp(disch:=omega)only[go_sem,e,XZ];refine C8 ⟨[(0,0),(1,1)],[(63,63)],[]⟩ _ ?_ ?_
    ·exact gI
    ·exact gI
 ·subst Ba;rw[take_length]at hP;have e:Ho w=none:=by
   unfold Ho;rw[List.findIdx?_eq_none_iff];rw[List.find?_eq_none]at hP;intro x hx;simpa using hP x hx
  simp(disch:=omega)only[go_sem,e,XZ];refine C8 ⟨[(0,0),(1,1)],[(63,63)],[]⟩ _ ?_ ?_
  ·exact gI
  ·exact gI
def GK(w:Ap)(i:Nat)(x:Bu)(FD:Bool)(name:Bs):Ap:=if !FD then Ed w x name else match CG w.Aa name with
 |none=>w
 |some k=>if decide (Am (w.Aa.getD k q0).holds x.proc=An (w.procs.getD i x0).AB.entries name) then w
  else AW w i { w.procs.getD i x0 with AB:=(G2 (w.procs.getD i x0).AB ⟨name,An (w.procs.getD i x0).AB.entries name,Am (w.Aa.getD k q0).holds x.proc⟩).1 }
def Eb(w:Ap)(i:Nat)(x:Bu)(kl:List (Bool × Atom)):Ap:=kl.foldl (λw p=>GK w i x p.1 p.2.name) w
def C9(w:Ap)(i:Nat)(x:Bu):Ap :=
 let w1:=Eb (CL w 2 x.proc) i x ((Df x.Bk.expr (BY w.Aa x.proc x.Bk.expr)).zip (Ah x.Bk.expr))
 let w2:=AW w1 i (CH (w1.procs.getD i x0))
 AW w2 i (CA (w2.procs.getD i x0))
def Ei:Nat->Ap->Ap
 | 0,w=>w
 | n+1,w=>match Ho w with
  |none=>w
  |some i=>Ei n (C9 w i (w.procs.getD i x0))
def yv(w:Ap)(x:Bu)(kp:Bool)(name:Bs):Prop:=(kp=false->VH w x name)/\(kp=true->Fa w.Aa/\∃ k,CG w.Aa name=some k)
theorem tC(w:Ap)(i:Nat)(x:Bu):(AW w i x).procs.length=w.procs.length:=by simp[AW]
def dQ(w:Ap)(i:Nat)(x:Bu)(kp:Bool)(name:Bs):(GK w i x kp name).procs.length=w.procs.length:=by grind[GK,GB,tC]
def Uk{w:Ap}{i:Nat}{x:Bu}{kl:List (Bool × Atom)}{j:Nat}{p:Bool × Atom}(hp:kl[j]?=some p):Eb w i x (kl.take (j+1))=GK (Eb w i x (kl.take j)) i x p.1 p.2.name:=by simp[Eb,take_add_one,hp,foldl_append]
def Nj(w:Ap)(i:Nat)(x:Bu):∀ kl:List (Bool × Atom),(Eb w i x kl).procs.length=w.procs.length
 |[]=>rfl
 | p::kl=>by
  show (Eb (GK w i x p.1 p.2.name) i x kl).procs.length=w.procs.length;rw[Nj,dQ]
def Z8(w:Ap)(i:Nat)(x:Bu)(kl:List (Bool × Atom)):Prop:=∀ j p,kl[j]?=some p->yv (Eb w i x (kl.take j)) x p.1 p.2.name
def oj{w:Ap}{i:Nat}{x:Bu}{kp:Bool}{name:Bs}(h:yv w x kp name):(GK w i x kp name).D1.length<=w.D1.length+201:=by
 unfold GK;cases kp
 ·have:=YB (h.1 rfl);simpa using this
 ·simp only[Bool.not_true,Bool.false_eq_true,if_false];grind[AW]
def Ni{w:Ap}{i:Nat}{x:Bu}{kl:List (Bool × Atom)}(h:Z8 w i x kl):∀ j,j<=kl.length->(Eb w i x (kl.take j)).D1.length<=w.D1.length+201*j
 | 0,_=>by simp[Eb]
 | j+1,hj=>by
  obtain⟨p,hp⟩:∃ p,kl[j]?=some p:=⟨_,gE (by omega)⟩;have h1:=Ni h j (by omega);have h2:=oj (i:=i) (h j p hp);rw[Uk hp];omega
def wcount(w:Ap):Nat:=w.procs.countP (·.waiting)
def B3(w:Ap):Ap:=Ei (wcount w) w
structure Ku(Inv:Ap->Prop):Prop where
 lz:∀ w,Inv w->Fa w.Aa/\w.procs.length<=8/\Z6 w
 safe:∀ w i x,Inv w->Ho w=some i->w.procs[i]?=some x->Z8 (CL w 2 x.proc) i x ((Df x.Bk.expr (BY w.Aa x.proc x.Bk.expr)).zip (Ah x.Bk.expr))
 next:∀ w i x,Inv w->Ho w=some i->w.procs[i]?=some x->Inv (C9 w i x)
def HT{w:Ap}{i:Nat}(h:Ho w=some i):∃ x,w.procs[i]?=some x/\Lf w x=true:=by grind[Ho,List.findIdx?_eq_some_iff_getElem]
def My{α:Type}:∀ {l:List α} {i:Nat} {z:α},l[i]?=some z->l.set i z=l
 |[],_,_,h=>by grind
 | a::l,0,z,h=>by grind
 | a::l,i+1,z,h=>by
  simp only[List.set_cons_succ];rw[My (by simpa using h)]
def countP_set{α:Type}{p:α->Bool}{y:α}(hy:p y=false):∀ {l:List α} {i:Nat} {z:α},l[i]?=some z->p z=true->(l.set i y).countP p+1=l.countP p
 |[],_,_,h,_=>by grind
 | a::l,0,z,h,hz=>by grind
 | a::l,i+1,z,h,hz=>by grind
def Te{w:Ap}{i:Nat}{x z:Bu}(hz:w.procs[i]?=some z):∀ (kl:List (Bool × Atom)) (w':Ap),(∃ l',w'.procs=w.procs.set i { z with AB:=l' })->∃ l',(Eb w' i x kl).procs=w.procs.set i { z with AB:=l' }
 |[],_,h=>h
 | p::kl,w',h=>by
  refine Te hz kl (GK w' i x p.1 p.2.name) ?_;obtain⟨l',hl⟩:=h;have hi:=Au hz;have hg:w'.procs[i]?=some { z with AB:=l' }:=by rw[hl];simp[hi]
  unfold GK;split
  ·exact⟨l',by rw[GB,hl]⟩
  ·split
   ·exact⟨l',hl⟩
   ·split
    ·exact⟨l',hl⟩
    ·have rH:w'.procs.getD i x0 = { z with AB:=l' }:=by simp[List.getD,hg]
     rw[rH];exact⟨_,by simp only[AW,hl,set_set];rfl⟩
theorem Je{w:Ap}{i:Nat}{x:Bu}(hx:w.procs[i]?=some x):∃ y,(C9 w i x).procs=w.procs.set i y/\y.waiting=false/\y.proc=x.proc:=by
 obtain⟨l',hl⟩:=Te (w:=w) (i:=i) (x:=x) (z:=x) hx ((Df x.Bk.expr (BY w.Aa x.proc x.Bk.expr)).zip (Ah x.Bk.expr)) (CL w 2 x.proc) ⟨x.AB,(My hx).symm⟩;have hi:=Au hx;refine⟨CA (CH { x with AB:=l' }),?_,rfl,rfl⟩;grind[C9,AW,set_set]
def Lv{w:Ap}{i:Nat}{x:Bu}(hs:Ho w=some i)(hx:w.procs[i]?=some x)(RQ:Lf w x=true):B3 w=B3 (C9 w i x)/\wcount (C9 w i x)+1=wcount w:=by
 obtain⟨y,h1,h2,_⟩:=Je hx;have XT:x.waiting=true:=by simp_all[Lf]
 have hc:wcount (C9 w i x)+1=wcount w:=by simp_all[wcount,countP_set]
 refine⟨?_,hc⟩;grind[B3,Ei]
def bW(w:Ap)(o:Nat)(x:Bu)(z:Bu)(kp:Bool)(name:Bs)(hz:w.procs[o]?=some z):GK w o x true name=(match CG w.Aa name with
 |none=>w
 |some k=>if decide (Am (w.Aa.getD k q0).holds x.proc=An z.AB.entries name) then w else AW w o { z with AB:=(G2 z.AB ⟨name,An z.AB.entries name,Am (w.Aa.getD k q0).holds x.proc⟩).1 }):=by
 grind[GK]
def Na(Inv:Ap->Prop)(hI:Ku Inv)(w:Ap)(hw:Inv w)(Y1:w.D1.length+1700*wcount w<=900000):Ad C0 224 [.ptr 63 0] [(63,w.c)] (.BC []) [(63,(B3 w).c)]:=by
 obtain⟨hf,hp,hr⟩:=hI.lz w hw;refine Ad.go f224 ?_;unfold f224;refine gO ?_;refine call2 ⟨⟨[(0,0),(1,1)],[(63,63)],[]⟩,[],[]⟩ (k9 w hf (by omega) hr) (gO ?_);refine Ao (α:=Ap) (λw'=>⟨[(2,I (XZ (Ho w'))),(0,.ptr 63 0)],[(63,w'.c)]⟩) (λw'=>Inv w'/\B3 w'=B3 w/\w'.D1.length+1700*wcount w'<=900000) (λw'=>wcount w') w ⟨hw,rfl,Y1⟩ AK ?_;clear hf hp hr hw Y1;rintro w1 ⟨hw,zb,Y1⟩ J hJ;obtain⟨hf,hp,hr⟩:=hI.lz w1 hw;cases hs:Ho w1 with
 |none =>
  simp only[go_sem,XZ];have e:B3 w1=w1:=by
   unfold B3;cases wcount w1<;>grind[Ei]
  rw[<- zb,e];refine C8 ⟨[(0,0),(1,1)],[(63,63)],[]⟩ _ ?_ ?_
  ·exact gI
  ·exact gI
 |some o =>
  obtain⟨x,hx,RQ⟩:=HT hs;have nZ:=hI.safe w1 o x hw hs hx;simp only[go_sem,XZ,hx];have hnw:=aT w1 2 x.proc (by omega);have bt:C9 w1 o x=(let w1':=Eb (CL w1 2 x.proc) o x ((Df x.Bk.expr (BY w1.Aa x.proc x.Bk.expr)).zip (Ah x.Bk.expr));let w2:=AW w1' o (CH (w1'.procs.getD o x0));AW w2 o (CA (w2.procs.getD o x0))):=rfl;have rZ:=Lv hs hx RQ;have y0:=hI.next w1 o x hw hs hx;have y9:(CL w1 2 x.proc).Aa=w1.Aa:=rfl;have og:(CL w1 2 x.proc).procs=w1.procs:=rfl;have pC:(CL w1 2 x.proc).D1.length=w1.D1.length+1:=by simp[CL]
  generalize CL w1 2 x.proc=w2 at hnw nZ bt y9 og pC;rw[<- y9]at hf nZ bt;have iK:=wz x.Bk.expr (BY w2.Aa x.proc x.Bk.expr);have X7:=Xq x.Bk.expr (BY w2.Aa x.proc x.Bk.expr);have hat:=M7 x.Bk.expr;have QG:=Dt x.Bk.expr;generalize Df x.Bk.expr (BY w2.Aa x.proc x.Bk.expr)=FD at iK X7 nZ bt;generalize Ah x.Bk.expr=az at hat X7 nZ QG bt;refine call2 ⟨⟨[(0,0),(1,1)],[(63,63)],[]⟩,[],[]⟩ hnw (gO ?_);refine Ay 14 [([],[3]),([],[28]),([],[29]),([],[0]),([],[31]),([],[32]),([],[33]),([],[34]),([],[3]),([],[36]),([],[3]),([],[38]),([],[39]),([],[35,37,40])] B6 (gO ?_)
  first|(refine Ab (Pz w2.Aa x.proc x.Bk.expr hf) ?_)|(refine Ax (Pz w2.Aa x.proc x.Bk.expr hf) ?_)
  refine gO ?_
  first|(refine Ab iK ?_)|(refine Ax iK ?_)
  refine gO ?_;refine Ab hat (gO ?_);have Yx:(FD.zip az).length=az.length:=by grind
  have Qc:=hJ;clear hJ;refine AF (az) (λi=>⟨[(6,I i),(5,BG az),(4,KA FD),(2,I o),(0,.ptr 63 0),(3,.ptr 192 0)],[(63,(Eb w2 o x ((FD.zip az).take i)).c),(192,x.c)]⟩) (λi=>True) trivial ?_ ?_
  ·have Q4:=@Eb.eq_1;exact Gd
  rintro i ⟨hi,hP⟩ J hJ;refine gO ?_;refine Bo hi (λAP b hb Cg AX=>?_) λBa=>?_
  ·obtain⟨kp,xe⟩:∃ kp,FD[i]?=some kp:=⟨_,gE (by omega)⟩;have hzi:(FD.zip az)[i]?=some (kp,b):=by grind
   have hsk:=nZ i (kp,b) hzi;have hln:=Ni nZ i (by omega);have S8:=Uk (w:=w2) (i:=o) (x:=x) hzi;have Sv:=Nj w2 o x ((FD.zip az).take i);simp only at hsk S8;obtain⟨z,hz⟩:∃ z,(Eb w2 o x ((FD.zip az).take i)).procs[o]?=some z:=⟨_,gE (by grind)⟩;generalize Eb w2 o x ((FD.zip az).take i)=w3 at hsk hln S8 hz ⊢;simp only[go_sem,hb,xe];cases kp
   ·refine gO ?_;have xn:Eb w2 o x ((FD.zip az).take (i+1))=Ed w3 x b.name:=by rw[S8];rfl
    refine call2 ⟨⟨[(0,0),(1,1)],[(63,63)],[]⟩,[],[]⟩ (qS w3 x b.name (hsk.1 rfl) (by omega)) ?_;rw[<- xn];refine gO ?_;refine hJ _ (i+1) ⟨by omega,trivial⟩ (by omega) AK
   ·obtain⟨hf3,k,UM⟩:=hsk.2 rfl;rw[bW w3 o x z true b.name hz,UM]at S8;obtain⟨hk,q,hq,_⟩:=D2 UM;have hgq:w3.Aa.getD k q0=q:=by grind
    simp only[hgq]at S8;obtain⟨q1,q2,q3⟩:=Bt (hf3.q q (mG hq));have hn3:=hf3.n;refine gO ?_;refine Ay 18 [([],[0]),([],[67]),([],[68]),([],[69]),([],[70]),([],[0]),([],[72]),([],[73]),([],[74]),([],[75]),([],[7]),([],[76,77]),([11],[71,78]),([11],[79]),([],[3]),([],[81]),([11],[80,82]),([],[])] B6 (gO ?_)
    first|(refine Ab (IT w3.Aa b.name (by omega)) ?_)|(refine Ax (IT w3.Aa b.name (by omega)) ?_)
    simp only[go_sem,UM,XZ,hq]
    first|(refine Ab (E0 q x.proc q1) ?_)|(refine Ax (E0 q x.proc q1) ?_)
    simp only[go_sem,hz];refine Ab (Ib z.AB.entries b.name) (gO ?_);cases hH:decide (Am q.holds x.proc=An z.AB.entries b.name);rotate_left
    ·rw[hH,if_pos rfl]at S8;simp(disch:=omega)only[go_sem,hH,Bool.not_true];rw[<- S8];refine hJ _ (i+1) ⟨by omega,trivial⟩ (by omega) AK
    rw[hH]at S8;simp at S8;simp(disch:=omega)only[go_sem,hH,Bool.not_false];refine Ep (st':=⟨[(9,.ptr 576 0),(8,.ptr 512 0),(7,.v (.string (str b.name))),(6,I i),(5,BG az),(4,KA FD),(2,I o),(0,.ptr 63 0),(3,.ptr 192 0)],[(512,(Am q.holds x.proc).c),(576,(An z.AB.entries b.name).c),(63,w3.c),(192,x.c)]⟩) AK ?_;refine Wd 23 [([],[0]),([0],[100]),([0,1],[101]),([0,1,2],[102]),([0,1,2,3],[103]),([],[2]),([],[0]),([6],[106]),([6,7],[107]),([6,7,8],[108]),([6,7,8,9],[109]),([],[2]),([6,7,8,9,10,11],[110,111]),([6,7,8,9,10,11,12],[112]),([6,7,8,9,10,11,12,13],[113]),([],[7]),([],[9]),([],[8]),([15,16,17],[115,116,117]),([6,7,8,9,10,11,12,13,14,15,16,17,18],[114,118]),([6,7,8,9,10,11,12,13,14,15,16,17,18,19],[119]),([6,7,8,9,10,11,12,13,14,15,16,17,18,19,20],[99]),([6,7,8,9,10,11,12,13,14,15,16,17,18,19,20],[99]),([0,1,2,3,4,5,6,7,8,9,10,11,12,13,14,15,16,17,18,19,20,21],[]),([0,1,2,3,4,5,6,7,8,9,10,11,12,13,14,15,16,17,18,19,20,21,23],[]),([0,1,2,3,4,5,6,7,8,9,10,11,12,13,14,15,16,17,18,19,20,21,23,24],[])] [22] [104,105,120,99,6,5,4,2,0,3] B6 (by kernel_rfl) ?_;simp (maxSteps:=1000000) (disch:=omega)only[go_sem,gm,hz]
    first|(refine Ab (lb z.AB ⟨b.name,An z.AB.entries b.name,Am q.holds x.proc⟩) ?_)|(refine Ax (lb z.AB ⟨b.name,An z.AB.entries b.name,Am q.holds x.proc⟩) ?_)
    simp (maxSteps:=1000000) (disch:=omega)only[go_sem,gm,hz];refine hJ _ (i+1) ⟨by omega,trivial⟩ (by omega) (AT.Aq ?_ ?_)
    ·exact gI
    ·rw[S8];simp only[go_sem,AW];exact .sl (by rw[map_set];rfl)
  ·subst Ba;have hta:(FD.zip az).take az.length=FD.zip az:=List.take_of_length_le (by omega);rw[hta];have Sv:=Nj w2 o x (FD.zip az);have hln:=Ni nZ az.length (by omega);rw[hta]at hln;obtain⟨z,hz⟩:∃ z,(Eb w2 o x (FD.zip az)).procs[o]?=some z:=⟨_,gE (by grind)⟩;generalize Eb w2 o x (FD.zip az)=w3 at Sv hln hz bt ⊢;have hzi:=Au hz;have xr:(AW w3 o (CH z)).procs[o]?=some (CH z):=by grind[AW]
   have dF:C9 w1 o x=AW (AW w3 o (CH z)) o (CA (CH z)):=by grind
   have Alj:(C9 w1 o x).D1.length<=w1.D1.length+1609:=by grind[AW]
   refine call2 ⟨⟨[(0,0),(1,1)],[(63,63)],[]⟩,[],[]⟩ (kZ w3 o z hz) (gO ?_);refine call2 ⟨⟨[(0,0),(1,1)],[(63,63)],[]⟩,[],[]⟩ (Ll (AW w3 o (CH z)) o (CH z) xr) ?_;rw[<- dF];refine gO ?_;obtain⟨hf4,hp4,hr4⟩:=hI.lz _ y0;refine call2 ⟨⟨[(0,0),(1,1)],[(63,63)],[]⟩,[],[]⟩ (k9 (C9 w1 o x) hf4 (by omega) hr4) (gO ?_);exact Qc _ (C9 w1 o x) ⟨y0,rZ.1.symm.trans zb,by omega⟩ (by omega) AK
def Lb(x:Bu):Int:=IntKind.i64.wrap (x.since+x.Bk.CP)
def NY(now:Int)(b:Int × Int)(x:Bu):Bool:=x.waiting&&(!decide (x.Bk.CP=0)&&(decide (Lb x<=now)&&(decide (b.1<0)||decide (Lb x<b.2))))
def Pr(now:Int)(s:Nat × Int × Int)(x:Bu):Nat × Int × Int:=(s.1+1,if NY now s.2 x then ((s.1:Int),Lb x) else s.2)
def L3(now:Int)(l:List Bu):Nat × Int × Int:=l.foldl (Pr now) (0,-1,0)
def Rr(w:Ap):Int:=(L3 w.now w.procs).2.1
def Aai(now:Int)(l:List Bu):(L3 now l).1=l.length:=by
 have:∀ (l:List Bu) (s:Nat × Int × Int),(l.foldl (Pr now) s).1=s.1+l.length:=by
  intro l
  induction l with
  | nil=>intro s;rfl
  | cons a l ih=>intro s;rw[List.foldl_cons,ih];simp[Pr];omega
 rw[L3,this];simp
theorem SN(now:Int){l:List Bu}{i:Nat}{b:Bu}(hb:l[i]?=some b):(L3 now (l.take (i+1))).2=if NY now (L3 now (l.take i)).2 b then ((i:Int),Lb b) else (L3 now (l.take i)).2:=by
 have hi:=Au hb;have h1:=Aai now (l.take i);rw[take_add_one,hb];rw[List.length_take,Nat.min_eq_left (Nat.le_of_lt hi)]at h1;simp only[L3,foldl_append,Option.toList_some,List.foldl_cons,List.foldl_nil]at h1 ⊢;show (if NY now (List.foldl (Pr now) (0,-1,0) (List.take i l)).2 b then (((List.foldl (Pr now) (0,-1,0) (List.take i l)).1:Int),Lb b) else (List.foldl (Pr now) (0,-1,0) (List.take i l)).2)=_;rw[h1];rfl
theorem qI(now:Int):L3 now []=(0,-1,0):=rfl
def kX(w:Ap)(hp:w.procs.length<=1000000):Ad C0 266 [.ptr 63 0] [(63,w.c)] (I (Rr w)) [(63,w.c)]:=by
 refine Ad.go f266 ?_;unfold f266;refine gO ?_;refine AF (w.procs) (λi=>⟨[(5,I i),(4,I (L3 w.now (w.procs.take i)).2.2),(3,I (L3 w.now (w.procs.take i)).2.1),(0,.ptr 63 0)],[(63,w.c)]⟩) (λi=>True) trivial ?_ ?_
 ·refine AT.Aq ?_ ?_
  all_goals(try simp(disch:=omega)only[go_sem])
  all_goals(try(repeat'(with_reducible apply And.intro)))
  all_goals(first|exact .Cr (by omega)|exact .A8 (by omega)|exact .sl (by simp[qI])|exact .int (by simp[qI])|exact .eq (by simp[qI]))
 rintro i ⟨hi,hP⟩ J hJ;refine gO ?_;refine Bo hi (λAP b hb Cg AX=>?_) λBa=>?_
 ·simp(disch:=omega)only[go_sem,gm,hb];have uG:=SN w.now hb;generalize L3 w.now (w.procs.take i)=s at uG;obtain⟨n,best,when⟩:=s;simp only at uG;cases hw:b.waiting
  ·have dF:(L3 w.now (List.take (i+1) w.procs)).2=(best,when):=by rw[uG,show NY w.now (best,when) b=false from by simp only[NY,hw]<;>rfl]<;>rfl
   refine Ay 33 [([],[6]),([],[25]),([],[26]),([],[6,27]),([],[28,27]),([],[29,27]),([],[30,27]),([],[27,31]),([],[32]),([],[6,33]),([],[34,33]),([],[6,33]),([],[36,33]),([],[37,33]),([],[35,38,33]),([],[0,33]),([],[40,33]),([],[41,33]),([],[42,33]),([],[43,33]),([],[39,44,33]),([],[33,45]),([],[46]),([],[3,47]),([],[48,47]),([],[49,47]),([],[6,50]),([],[51,50]),([],[6,50]),([],[53,50]),([],[54,50]),([],[52,55,50]),([],[4,50])] B6 ?_;simp(disch:=omega)only[go_sem,hw];refine hJ _ (i+1) ⟨by omega,trivial⟩ (by omega) (AT.Aq ?_ ?_)
   all_goals(try simp(disch:=omega)only[go_sem])
   all_goals(try(repeat'(with_reducible apply And.intro)))
   all_goals(first|exact .Cr (by omega)|exact .A8 (by omega)|exact .sl (by simp[dF,Lb])|exact .int (by simp[dF,Lb])|exact .eq (by simp[dF,Lb]))
  ·by_cases hl:b.Bk.CP=0
   ·have hl3:decide (b.Bk.CP=0)=true:=by simpa using hl
    have dF:(L3 w.now (List.take (i+1) w.procs)).2=(best,when):=by rw[uG,show NY w.now (best,when) b=false from by simp only[NY,hw,hl3]<;>rfl]<;>rfl
    refine Ay 33 [([],[6]),([],[25]),([],[26]),([],[6,27]),([],[28,27]),([],[29,27]),([],[30,27]),([],[27,31]),([],[32]),([],[6,33]),([],[34,33]),([],[6,33]),([],[36,33]),([],[37,33]),([],[35,38,33]),([],[0,33]),([],[40,33]),([],[41,33]),([],[42,33]),([],[43,33]),([],[39,44,33]),([],[33,45]),([],[46]),([],[3,47]),([],[48,47]),([],[49,47]),([],[6,50]),([],[51,50]),([],[6,50]),([],[53,50]),([],[54,50]),([],[52,55,50]),([],[4,50])] B6 ?_;simp(disch:=omega)only[go_sem,hw,hl];refine hJ _ (i+1) ⟨by omega,trivial⟩ (by omega) (AT.Aq ?_ ?_)
    all_goals(try simp(disch:=omega)only[go_sem])
    all_goals(try(repeat'(with_reducible apply And.intro)))
    all_goals(first|exact .Cr (by omega)|exact .A8 (by omega)|exact .sl (by simp[dF,Lb])|exact .int (by simp[dF,Lb])|exact .eq (by simp[dF,Lb]))
   ·have bj:(b.Bk.CP !=0)=true:=by simpa using hl
    have lK:decide (b.Bk.CP=0)=false:=by simpa using hl
    cases hd:decide (IntKind.i64.wrap (b.since+b.Bk.CP)<=w.now)
    ·have cj:decide (Lb b<=w.now)=false:=hd;have dF:(L3 w.now (List.take (i+1) w.procs)).2=(best,when):=by rw[uG,show NY w.now (best,when) b=false from by simp only[NY,hw,cj,lK]<;>rfl]<;>rfl
     refine Ay 33 [([],[6]),([],[25]),([],[26]),([],[6,27]),([],[28,27]),([],[29,27]),([],[30,27]),([],[27,31]),([],[32]),([],[6,33]),([],[34,33]),([],[6,33]),([],[36,33]),([],[37,33]),([],[35,38,33]),([],[0,33]),([],[40,33]),([],[41,33]),([],[42,33]),([],[43,33]),([],[39,44,33]),([],[33,45]),([],[46]),([],[3,47]),([],[48,47]),([],[49,47]),([],[6,50]),([],[51,50]),([],[6,50]),([],[53,50]),([],[54,50]),([],[52,55,50]),([],[4,50])] B6 ?_;simp(disch:=omega)only[go_sem,hw,hl,bj,hd];refine hJ _ (i+1) ⟨by omega,trivial⟩ (by omega) (AT.Aq ?_ ?_)
     all_goals(try simp(disch:=omega)only[go_sem])
     all_goals(try(repeat'(with_reducible apply And.intro)))
     all_goals(first|exact .Cr (by omega)|exact .A8 (by omega)|exact .sl (by simp[dF,Lb])|exact .int (by simp[dF,Lb])|exact .eq (by simp[dF,Lb]))
    ·cases hn:decide (best<0)
     ·cases hq:decide (IntKind.i64.wrap (b.since+b.Bk.CP)<when)
      ·have cj:decide (Lb b<=w.now)=true:=hd;have y9:decide (Lb b<when)=false:=hq;have dF:(L3 w.now (List.take (i+1) w.procs)).2=(best,when):=by rw[uG,show NY w.now (best,when) b=false from by simp only[NY,hw,cj,hn,y9,lK]<;>rfl]<;>rfl
       refine Ay 33 [([],[6]),([],[25]),([],[26]),([],[6,27]),([],[28,27]),([],[29,27]),([],[30,27]),([],[27,31]),([],[32]),([],[6,33]),([],[34,33]),([],[6,33]),([],[36,33]),([],[37,33]),([],[35,38,33]),([],[0,33]),([],[40,33]),([],[41,33]),([],[42,33]),([],[43,33]),([],[39,44,33]),([],[33,45]),([],[46]),([],[3,47]),([],[48,47]),([],[49,47]),([],[6,50]),([],[51,50]),([],[6,50]),([],[53,50]),([],[54,50]),([],[52,55,50]),([],[4,50])] B6 ?_;simp(disch:=omega)only[go_sem,hw,hl,bj,hd,hn,hq];refine hJ _ (i+1) ⟨by omega,trivial⟩ (by omega) (AT.Aq ?_ ?_)
       all_goals(try simp(disch:=omega)only[go_sem])
       all_goals(try(repeat'(with_reducible apply And.intro)))
       all_goals(first|exact .Cr (by omega)|exact .A8 (by omega)|exact .sl (by simp[dF,Lb])|exact .int (by simp[dF,Lb])|exact .eq (by simp[dF,Lb]))
      ·have cj:decide (Lb b<=w.now)=true:=hd;have y9:decide (Lb b<when)=true:=hq;have dF:(L3 w.now (List.take (i+1) w.procs)).2=((i:Int),Lb b):=by rw[uG,show NY w.now (best,when) b=true from by simp only[NY,hw,cj,hn,y9,lK]<;>rfl]<;>rfl
       refine Ay 33 [([],[6]),([],[25]),([],[26]),([],[6,27]),([],[28,27]),([],[29,27]),([],[30,27]),([],[27,31]),([],[32]),([],[6,33]),([],[34,33]),([],[6,33]),([],[36,33]),([],[37,33]),([],[35,38,33]),([],[0,33]),([],[40,33]),([],[41,33]),([],[42,33]),([],[43,33]),([],[39,44,33]),([],[33,45]),([],[46]),([],[3,47]),([],[48,47]),([],[49,47]),([],[6,50]),([],[51,50]),([],[6,50]),([],[53,50]),([],[54,50]),([],[52,55,50]),([],[4,50])] B6 ?_;simp(disch:=omega)only[go_sem,hw,hl,bj,hd,hn,hq];refine Ay 8 [([],[5]),([],[6]),([],[62]),([],[6]),([],[64]),([],[65]),([],[63,66]),([],[61])] B6 ?_;simp(disch:=omega)only[go_sem,hw,hl,bj,hd,hn,hq];refine hJ _ (i+1) ⟨by omega,trivial⟩ (by omega) (AT.Aq ?_ ?_)
       all_goals(try simp(disch:=omega)only[go_sem])
       all_goals(try(repeat'(with_reducible apply And.intro)))
       all_goals(first|exact .Cr (by omega)|exact .A8 (by omega)|exact .sl (by simp[dF,Lb])|exact .int (by simp[dF,Lb])|exact .eq (by simp[dF,Lb]))
     ·have cj:decide (Lb b<=w.now)=true:=hd;have dF:(L3 w.now (List.take (i+1) w.procs)).2=((i:Int),Lb b):=by rw[uG,show NY w.now (best,when) b=true from by simp only[NY,hw,cj,hn,lK]<;>rfl]<;>rfl
      refine Ay 33 [([],[6]),([],[25]),([],[26]),([],[6,27]),([],[28,27]),([],[29,27]),([],[30,27]),([],[27,31]),([],[32]),([],[6,33]),([],[34,33]),([],[6,33]),([],[36,33]),([],[37,33]),([],[35,38,33]),([],[0,33]),([],[40,33]),([],[41,33]),([],[42,33]),([],[43,33]),([],[39,44,33]),([],[33,45]),([],[46]),([],[3,47]),([],[48,47]),([],[49,47]),([],[6,50]),([],[51,50]),([],[6,50]),([],[53,50]),([],[54,50]),([],[52,55,50]),([],[4,50])] B6 ?_;simp(disch:=omega)only[go_sem,hw,hl,bj,hd,hn];refine Ay 8 [([],[5]),([],[6]),([],[62]),([],[6]),([],[64]),([],[65]),([],[63,66]),([],[61])] B6 ?_;simp(disch:=omega)only[go_sem,hw,hl,bj,hd,hn];refine hJ _ (i+1) ⟨by omega,trivial⟩ (by omega) (AT.Aq ?_ ?_)
      all_goals(try simp(disch:=omega)only[go_sem])
      all_goals(try(repeat'(with_reducible apply And.intro)))
      all_goals(first|exact .Cr (by omega)|exact .A8 (by omega)|exact .sl (by simp[dF,Lb])|exact .int (by simp[dF,Lb])|exact .eq (by simp[dF,Lb]))
 ·subst Ba;rw[take_length];refine C8 ⟨[(0,0),(1,1)],[(63,63)],[]⟩ _ ?_ ?_
  ·simp(disch:=omega)only[go_sem,Rr]
  ·exact gI
structure pP(Inv:Ap->Prop):Prop extends Ku Inv where
 ev:∀ w k p,Inv w->Inv (CL w k p)
 wd:∀ w i x,Inv w->w.procs[i]?=some x->x.waiting=true->Qm w x (Ah x.Bk.expr)/\Inv (Bb w i x)
 nx:∀ w i x,Inv w->w.procs[i]?=some x->Inv (AW w i (CA x))
def ny{now:Int}{b:Int × Int}{x:Bu}(h:NY now b x=true):x.waiting=true:=by simp_all[NY]
def YH(now:Int)(l:List Bu):∀ i,i<=l.length->(L3 now (l.take i)).2.1 = -1\/∃ k x,(L3 now (l.take i)).2.1=(k:Nat)/\l[k]?=some x/\x.waiting=true
 | 0,_=>.inl rfl
 | i+1,hi=>by
  obtain⟨b,hb⟩:∃ b,l[i]?=some b:=⟨_,gE (by omega)⟩;rw[SN now hb];split
  ·rename_i hc;exact .inr ⟨i,b,rfl,hb,ny hc⟩
  ·exact YH now l i (by omega)
theorem Ki(w:Ap):Rr w = -1\/∃ k x,Rr w=(k:Nat)/\w.procs[k]?=some x/\x.waiting=true:=by
 have:=YH w.now w.procs w.procs.length (le_refl _)
 rwa [take_length]at this
def EU(w:Ap)(i:Nat)(x:Bu):Ap :=
 let w1:=Bb (CL w 4 x.proc) i x
 AW w1 i (CA (w1.procs.getD i x0))
def J1:Nat->Ap->Ap
 | 0,w=>w
 | n+1,w=>match w.procs[(Rr w).toNat]? with
  |none=>w
  |some x=>if Rr w<0 then w else J1 n (B3 (EU w (Rr w).toNat x))
def Qe:∀ (n:Nat) (w:Ap),(Ei n w).procs.length=w.procs.length/\wcount (Ei n w)<=wcount w
 | 0,w=>⟨rfl,le_refl _⟩
 | n+1,w=>by
  simp only[Ei];cases hs:Ho w with
  |none=>grind
  |some i =>
   obtain⟨x,hx,RQ⟩:=HT hs;have hg:w.procs.getD i x0=x:=by grind
   simp only[hg];obtain⟨h1,h2⟩:=Qe n (C9 w i x);obtain⟨y,h3,_⟩:=Je hx;have h4:=(Lv hs hx RQ).2;exact⟨by grind,by omega⟩
def fu{Inv:Ap->Prop}(hI:Ku Inv){w:Ap}{i:Nat}{x:Bu}(hw:Inv w)(hs:Ho w=some i)(hx:w.procs[i]?=some x):(C9 w i x).D1.length<=w.D1.length+1609:=by
 have nZ:=hI.safe w i x hw hs hx;have QG:=Dt x.Bk.expr;have hz:=Ni nZ ((Df x.Bk.expr (BY w.Aa x.proc x.Bk.expr)).zip (Ah x.Bk.expr)).length (le_refl _);rw[take_length]at hz;have Yx:((Df x.Bk.expr (BY w.Aa x.proc x.Bk.expr)).zip (Ah x.Bk.expr)).length<=8:=by grind
 have pC:(CL w 2 x.proc).D1.length=w.D1.length+1:=by simp[CL]
 simp only[C9,AW];omega
def Lu{Inv:Ap->Prop}(hI:Ku Inv):∀ (n:Nat) (w:Ap),Inv w->Inv (Ei n w)/\(Ei n w).D1.length+1700*wcount (Ei n w)<=w.D1.length+1700*wcount w
 | 0,w,h=>⟨h,le_refl _⟩
 | n+1,w,h=>by
  simp only[Ei];cases hs:Ho w with
  |none=>grind
  |some i =>
   obtain⟨x,hx,RQ⟩:=HT hs;have hg:w.procs.getD i x0=x:=by grind
   simp only[hg];obtain⟨h1,h2⟩:=Lu hI n (C9 w i x) (hI.next w i x h hs hx);have h4:=(Lv hs hx RQ).2;have h5:=fu hI h hs hx;exact⟨h1,by omega⟩
theorem Ch(w:Ap)(i:Nat)(x:Bu):(Bb w i x).procs=w.procs.set i (CH x):=by simp[Bb,AW,Ia]
theorem LO{w:Ap}{i:Nat}{x:Bu}(h:Qm w x (Ah x.Bk.expr)):(Bb w i x).D1.length<=w.D1.length+1608:=by
 have QG:=Dt x.Bk.expr;have:=Qw h _ (le_refl _);rw[take_length]at this;simp only[Bb,AW];omega
def WT{Inv:Ap->Prop}(hI:pP Inv){w:Ap}{i:Nat}{x:Bu}(hw:Inv w)(hx:w.procs[i]?=some x)(XT:x.waiting=true) :
 Inv (EU w i x)/\EU w i x=AW (Bb (CL w 4 x.proc) i x) i (CA (CH x))/\wcount (EU w i x)+1=wcount w/\(EU w i x).D1.length<=w.D1.length+1609:=by
 have hi:=Au hx;have hn:=hI.ev w 4 x.proc hw;obtain⟨h1,h2⟩:=hI.wd (CL w 4 x.proc) i x hn hx XT;have hp:(Bb (CL w 4 x.proc) i x).procs=w.procs.set i (CH x):=Ch _ _ _;have hg:(Bb (CL w 4 x.proc) i x).procs[i]?=some (CH x):=by grind
 have hl:EU w i x=AW (Bb (CL w 4 x.proc) i x) i (CA (CH x)):=by grind[EU]
 have Y1:=LO (i:=i) h1;have pC:(CL w 4 x.proc).D1.length=w.D1.length+1:=by simp[CL]
 refine⟨by rw[hl];exact hI.nx _ _ _ h2 hg,hl,?_,by grind[AW]⟩;simp_all[AW,CA,CH,wcount,countP_set]
theorem Jj(w:Ap):wcount (B3 w)<=wcount w:=(Qe _ w).2
theorem Ph{w:Ap}(h:wcount w=0):Rr w = -1:=by grind[Ki,wcount]
theorem HD{w:Ap}(h:Rr w = -1):∀ n,J1 n w=w
 | 0=>rfl
 | n+1=>by grind[J1]
theorem KO{n:Nat}{w:Ap}{k:Nat}{x:Bu}(h:Rr w=(k:Nat))(hx:w.procs[k]?=some x):J1 (n+1) w=J1 n (B3 (EU w k x)):=by simp_all[J1,if_neg]
theorem Nl(w:Ap){i:Nat}{x:Bu}(hx:w.procs[i]?=some x)(XT:x.waiting=true):wcount (EU w i x)+1=wcount w:=by
 have hi:=Au hx;have hp:(Bb (CL w 4 x.proc) i x).procs=w.procs.set i (CH x):=Ch _ _ _;have hg:(Bb (CL w 4 x.proc) i x).procs[i]?=some (CH x):=by grind
 have:(EU w i x).procs=w.procs.set i (CA (CH x)):=by simp_all[EU,AW]
 unfold wcount;rw[this];exact countP_set (p:=(·.waiting)) (y:=CA (CH x)) rfl hx XT
theorem RY:∀ (n m:Nat) (w:Ap),wcount w<=n->wcount w<=m->J1 n w=J1 m w
 | 0,m,w,h,_=>by grind[HD,Ph]
 | n+1,0,w,_,h=>by grind[HD,Ph]
 | n+1,m+1,w,h1,h2=>by
  rcases Ki w with h|⟨k,x,h,hx,XT⟩
  ·rw[HD h,HD h]
  ·rw[KO h hx,KO h hx];have h3:=Nl w hx XT;have h4:=Jj (EU w k x);exact RY n m _ (by omega) (by omega)
def Um(w:Ap):Ap:=J1 (wcount w) w
def iU{w:Ap}{k:Nat}{x:Bu}(h:Rr w=(k:Nat))(hx:w.procs[k]?=some x)(XT:x.waiting=true):Um w=Um (B3 (EU w k x)):=by grind[Nl,Jj,Um,KO,RY]
def JH(w:Ap)(n:Int):Ap × Int :=
 if decide (n<0)||decide (1000<n) then (w,1) else if decide (1073741824-n<w.now) then (w,16) else (Um { w with now:=w.now+n },0)
def v7(Inv:Ap->Prop)(hI:pP Inv)(w:Ap)(n:Int)(hw:∀ t,Inv { w with now:=t })(rM:0<=w.now)(Y1:w.D1.length+3500*wcount w<=900000):Ad C0 220 [.ptr 63 0,I n] [(63,w.c)] (I (JH w n).2) [(63,(JH w n).1.c)]:=by
 refine Ad.go f220 ?_;unfold f220;refine gO ?_;cases h1:decide (n<0);rotate_left
 ·have hn:n<0:=by grind
  have ht:JH w n=(w,1):=by simp[JH,hn]
  rw[ht];refine gO ?_;refine C8 ⟨[(0,0),(1,1)],[(63,63)],[]⟩ _ ?_ ?_
  ·exact gI
  ·exact gI
 cases h2:decide (1000<n);rotate_left
 ·have hn:1000<n:=by grind
  have ht:JH w n=(w,1):=by simp[JH,hn]
  rw[ht];refine gO ?_;refine C8 ⟨[(0,0),(1,1)],[(63,63)],[]⟩ _ ?_ ?_
  ·exact gI
  ·exact gI
 have dD:0<=n:=by grind
 have Y4:n<=1000:=by grind
 cases h3:decide (1073741824-n<w.now);rotate_left
 ·have ht:JH w n=(w,16):=by grind[JH]
  rw[ht];refine gS ?_;refine C8 ⟨[(0,0),(1,1)],[(63,63)],[]⟩ _ ?_ ?_
  ·exact gI
  ·exact gI
 have hn3:w.now<=1073741824-n:=by grind
 have ht:JH w n=(Um { w with now:=w.now+n },0):=by grind[JH]
 rw[ht];have Ui:=hw (w.now+n);refine gS ?_;have Aba:({ w with now:=w.now+n }:Ap).D1.length+3500*wcount { w with now:=w.now+n }<=900000:=Y1;have uF:=(hI.lz _ Ui).2.1;refine call2 ⟨⟨[(0,0),(1,1)],[(63,63)],[]⟩,[],[]⟩ (kX { w with now:=w.now+n } (Nat.le_trans uF (by decide))) ?_;generalize ({ w with now:=w.now+n }:Ap)=w0 at Ui Aba ⊢;clear uF;refine gO ?_;refine Ao (α:=Ap) (λw'=>⟨[(5,I (Rr w')),(0,.ptr 63 0)],[(63,w'.c)]⟩) (λw'=>Inv w'/\Um w'=Um w0/\w'.D1.length+3500*wcount w'<=900000) (λw'=>wcount w') w0 ⟨Ui,rfl,Aba⟩ AK ?_;clear Ui Aba hw Y1 rM ht h1 h2 h3 dD Y4 hn3;rintro w1 ⟨hw,zb,Y1⟩ J hJ;rcases Ki w1 with hs|⟨o,x,hs,hx,XT⟩
 ·refine gS ?_;rw[<- zb,show Um w1=w1 from HD hs _];refine C8 ⟨[(0,0),(1,1)],[(63,63)],[]⟩ _ ?_ ?_
  ·exact gI
  ·exact gI
 ·obtain⟨i1,i2,i3,i4⟩:=WT hI hw hx XT;have rZ:=iU hs hx XT;obtain⟨j1,j2⟩:Inv (B3 (EU w1 o x))/\(B3 (EU w1 o x)).D1.length+1700*wcount (B3 (EU w1 o x))<=(EU w1 o x).D1.length+1700*wcount (EU w1 o x):=Lu hI.toKu (wcount (EU w1 o x)) (EU w1 o x) i1;have j3:=Jj (EU w1 o x);have hn:=hI.ev w1 4 x.proc hw;obtain⟨k1,k2⟩:=hI.wd (CL w1 4 x.proc) o x hn hx XT;have hi:=Au hx;have hg:(Bb (CL w1 4 x.proc) o x).procs[o]?=some (CH x):=by grind[Ch,CL]
  have pC:(CL w1 4 x.proc).D1.length=w1.D1.length+1:=by simp[CL]
  simp only[go_sem,hs,hx];refine call2 ⟨⟨[(0,0),(1,1)],[(63,63)],[]⟩,[],[]⟩ (aT w1 4 x.proc (by omega)) (gO ?_);refine call2 ⟨⟨[(0,0),(1,1)],[(63,63)],[]⟩,[],[]⟩ (aO (CL w1 4 x.proc) o x hx k1 (by omega)) (gO ?_);refine call2 ⟨⟨[(0,0),(1,1)],[(63,63)],[]⟩,[],[]⟩ (Ll (Bb (CL w1 4 x.proc) o x) o (CH x) hg) ?_;rw[<- i2];refine gO ?_;refine call2 ⟨⟨[(0,0),(1,1)],[(63,63)],[]⟩,[],[]⟩ (Na Inv hI.toKu (EU w1 o x) i1 (by omega)) (gO ?_);have hp4:=(hI.lz _ j1).2.1;refine call2 ⟨⟨[(0,0),(1,1)],[(63,63)],[]⟩,[],[]⟩ (kX (B3 (EU w1 o x)) (Nat.le_trans hp4 (by decide))) (gO ?_);exact hJ _ (B3 (EU w1 o x)) ⟨j1,rZ.symm.trans zb,by omega⟩ (by omega) AK
def Gb(w:Ap)(p:Ac)(a:Atom)(prio:Int):Ap:=Da w (EK w.Aa p a prio).1 (EK w.Aa p a prio).2.1
def DK(w:Ap)(p:Ac)(prio:Int)(az:List Atom):Ap:=az.foldl (λw a=>Gb w p a prio) w
def Rk{w:Ap}{p:Ac}{prio:Int}{az:List Atom}{i:Nat}{b:Atom}(hb:az[i]?=some b):DK w p prio (az.take (i+1))=Gb (DK w p prio (az.take i)) p b prio:=by simp[DK,take_add_one,hb,foldl_append]
def ct(w:Ap)(p:Ac)(prio:Int)(az:List Atom):Prop:=∀ i,i<az.length->Fa (DK w p prio (az.take i)).Aa
def On{w:Ap}{p:Ac}{prio:Int}{az:List Atom}(h:ct w p prio az):∀ i,i<=az.length->(DK w p prio (az.take i)).D1.length<=w.D1.length+101*i
 | 0,_=>by simp[DK]
 | i+1,hi=>by
  obtain⟨b,hb⟩:∃ b,az[i]?=some b:=⟨_,gE (by omega)⟩;have h1:=On h i (by omega);have h2:=VZ (h i (by omega)) p b prio;rw[Rk hb];simp only[Gb,Da,List.length_append];omega
theorem I9(w:Ap)(p:Ac)(prio:Int):∀ az:List Atom,(DK w p prio az).procs=w.procs
 |[]=>rfl
 | a::az=>I9 (Gb w p a prio) p prio az
def Ks(w:Ap):wcount w<=w.procs.length:=List.countP_le_length
def HZ(now:Int)(x:Bu)(r:ca):Bu:=CA { x with waiting:=true,Bk:=r,since:=now }
def MY(w:Ap)(i:Nat)(x:Bu)(r:ca):Ap:=DK (AW w i (HZ w.now x r)) x.proc r.prio (Ah r.expr)
def Ez(w:Ap)(i:Nat)(x:Bu)(r:ca):Ap × Int :=
 if x.waiting then (w,14) else if Hm r then (if C6 (FB w.Aa) r.expr=0 then (B3 (MY w i x r),0) else (w,C6 (FB w.Aa) r.expr)) else (w,1)
def v8(Inv:Ap->Prop)(hI:Ku Inv)(w:Ap)(i:Nat)(x:Bu)(r:ca)(hx:w.procs[i]?=some x)(hf:Fa w.Aa)
 (hc:x.waiting=false->Hm r=true->C6 (FB w.Aa) r.expr=0->ct (AW w i (HZ w.now x r)) x.proc r.prio (Ah r.expr)/\Inv (MY w i x r))
 (hp:w.procs.length<=8) (Y1:w.D1.length<=500000) :
 Ad C0 221 [.ptr 63 0,I i,.agg r.c] [(63,w.c)] (I (Ez w i x r).2) [(63,(Ez w i x r).1.c)]:=by
 have hi:=Au hx;have QG:=Dt r.expr;have hn:=hf.n;refine Ad.go f221 ?_;unfold f221;refine gS ?_;cases h1:x.waiting;rotate_left
 ·have ht:Ez w i x r=(w,14):=by simp[Ez,h1]
  rw[ht];refine gO ?_;refine C8 ⟨[(0,0),(1,1)],[(63,63)],[]⟩ _ ?_ ?_
  ·exact gI
  ·exact gI
 refine gO ?_;refine Ab (Vf r) ?_;cases h2:Hm r
 ·have ht:Ez w i x r=(w,1):=by grind[Ez]
  rw[ht];refine gO ?_;refine C8 ⟨[(0,0),(1,1)],[(63,63)],[]⟩ _ ?_ ?_
  ·exact gI
  ·exact gI
 refine gO ?_;refine Ay 8 [([],[0]),([],[25]),([],[26]),([],[27]),([],[28]),([],[29]),([],[5]),([],[31])] B6 (gO ?_)
 first|(refine Ab (Vh w.Aa (by omega)) ?_)|(refine Ax (Vh w.Aa (by omega)) ?_)
 refine gO ?_
 first|(refine Ab (Vg (FB w.Aa) r.expr) ?_)|(refine Ax (Vg (FB w.Aa) r.expr) ?_)
 refine gO ?_
 by_cases h3:C6 (FB w.Aa) r.expr=0
 rotate_left
 ·have ht:Ez w i x r=(w,C6 (FB w.Aa) r.expr):=by grind[Ez]
  rw[ht];have lH:(C6 (FB w.Aa) r.expr !=0)=true:=by grind
  refine gS ?_;refine C8 ⟨[(0,0),(1,1)],[(63,63)],[]⟩ _ ?_ ?_
  ·exact gI
  ·exact gI
 obtain⟨c1,c2⟩:=hc h1 h2 h3;have ht:Ez w i x r=(B3 (MY w i x r),0):=by grind[Ez]
 rw[ht];refine gS ?_;refine Ep (st':=⟨[(5,.ptr 320 0),(0,.ptr 63 0),(1,I i)],[(320,r.c),(63,(AW w i { x with waiting:=true }).c)]⟩) (AT.Aq gI (by simp only[go_sem,AW];exact .sl (by rw[map_set];rfl))) ?_;refine Ay 7 [([],[0]),([],[45]),([],[46]),([],[47]),([],[48]),([],[1]),([],[5])] B6 ?_;simp(disch:=omega)only[go_sem,AW,List.getElem?_set];refine Ep (st':=⟨[(5,.ptr 320 0),(0,.ptr 63 0),(1,I i)],[(320,r.c),(63,(AW w i { x with waiting:=true,Bk:=r }).c)]⟩) (AT.Aq gI (by simp only[go_sem,AW];exact .sl (by simp;rfl))) ?_;refine Ay 11 [([],[0]),([],[54]),([],[55]),([],[56]),([],[57]),([],[1]),([],[0]),([],[60]),([],[61]),([],[62]),([],[63])] B6 ?_;simp(disch:=omega)only[go_sem,AW,List.getElem?_set];have xq:(AW w i { x with waiting:=true,Bk:=r,since:=w.now }).procs[i]?=some { x with waiting:=true,Bk:=r,since:=w.now }:=by simp[AW,hi]
 refine call2 ⟨⟨[(0,0),(1,1)],[(63,63)],[]⟩,[],[]⟩ (Ll (AW w i { x with waiting:=true,Bk:=r,since:=w.now }) i _ xq) ?_ (hh:=?_);rotate_left
 ·simp only[AW];refine gO ?_;exact .sl (by simp;rfl)
 have e3:AW (AW w i { x with waiting:=true,Bk:=r,since:=w.now }) i (CA { x with waiting:=true,Bk:=r,since:=w.now })=AW w i (HZ w.now x r):=by simp[AW,HZ]
 rw[e3];have Abb:(AW w i (HZ w.now x r)).D1.length=w.D1.length:=rfl;have mF:(AW w i (HZ w.now x r)).procs[i]?=some (HZ w.now x r):=by simp[AW,hi]
 unfold MY at c2 ⊢;obtain⟨y,hy,hyp⟩:∃ y,y=HZ w.now x r/\y.proc=x.proc:=⟨_,rfl,rfl⟩;rw[<- hy]at mF c1 c2 Abb ⊢;rw[<- hyp]at c1 c2 ⊢;generalize AW w i y=w4 at c1 c2 Abb mF ⊢;clear xq e3 ht hc h3 h2 h1;refine gO ?_;refine Ab (M7 r.expr) ?_;obtain⟨o,rfl⟩:∃ o,o=i:=⟨i,rfl⟩;generalize Ah r.expr=az at c1 c2 QG ⊢;refine gO ?_;refine AF (az) (λi=>⟨[(9,I i),(8,BG az),(0,.ptr 63 0),(1,I o),(5,.ptr 320 0)],[(63,(DK w4 y.proc r.prio (az.take i)).c),(320,r.c)]⟩) (λi=>True) trivial ?_ ?_
 ·have Q4:=@DK.eq_1;exact Gd
 rintro i ⟨hi,hP⟩ J hJ;refine gO ?_;refine Bo hi (λAP b hb Cg AX=>?_) λBa=>?_
 ·have g1:=On c1 i hi;have g2:=VZ (c1 i AX) y.proc b r.prio;have g3:(DK w4 y.proc r.prio (az.take i)).procs[o]?=some y:=by grind[I9]
  have g4:=Rk (w:=w4) (p:=y.proc) (prio:=r.prio) hb;have g5:=c1 i AX;generalize DK w4 y.proc r.prio (az.take i)=w5 at g1 g2 g3 g4 g5 ⊢;refine Ay 27 [([],[0]),([],[80]),([],[81]),([],[82]),([],[83]),([],[0]),([],[85]),([],[86]),([],[87]),([],[88]),([],[1]),([],[89,90]),([],[91]),([],[92]),([],[8]),([],[9]),([],[94,95]),([],[96]),([],[5]),([],[98]),([],[84,93,97,99]),([20],[100]),([20],[79]),([20],[79]),([20],[79]),([20],[101]),([20],[102])] B6 ?_;simp only[go_sem,hb,g3]
  first|(refine Ab (kY w5.Aa y.proc b r.prio g5) ?_)|(refine Ax (kY w5.Aa y.proc b r.prio g5) ?_)
  refine gO ?_;refine call2 ⟨⟨[(0,0),(1,1)],[(63,63)],[]⟩,[],[]⟩ (Nb w5 (EK w5.Aa y.proc b r.prio).1 (EK w5.Aa y.proc b r.prio).2.1 (by omega)) (gO ?_);refine hJ _ (i+1) ⟨by omega,trivial⟩ (by omega) (AT.Aq ?_ ?_)
  ·exact gI
  ·rw[g4];unfold Gb;exact gI
 ·subst Ba;rw[take_length];have g1:=On c1 _ (le_refl _);rw[take_length]at g1;obtain⟨k1,k2,k3⟩:=hI.lz _ c2;have k4:=Ks (DK w4 y.proc r.prio az);refine call2 ⟨⟨[(0,0),(1,1)],[(63,63)],[]⟩,[],[]⟩ (Na Inv hI (DK w4 y.proc r.prio az) c2 (by omega)) (gO ?_);refine C8 ⟨[(0,0),(1,1)],[(63,63)],[]⟩ _ ?_ ?_
  ·exact gI
  ·exact gI
end Go.Rd
