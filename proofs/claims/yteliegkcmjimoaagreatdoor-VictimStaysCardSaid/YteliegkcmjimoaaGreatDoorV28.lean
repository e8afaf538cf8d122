/- part 28 of the proof -/
import Derived.Test.YteliegkcmjimoaaGreatDoorV26
import Derived.Test.YteliegkcmjimoaaGreatDoorV27
set_option linter.all false
open Go Go.Abs Go.Proofs
set_option maxRecDepth 100000
namespace Go.Rd
set_option maxHeartbeats 8000000
open List (foldl_append map_set set_set take_add_one take_length)
open Nat (le_refl)
open Tryz
def S5(w:Aw)(x:Cd)(name:Bs):Prop:=∃ k,CA w.Aa name=some k/\Ei w.Aa/\k<(Fl w x name k).Aa.length/\Ei (Fl w x name k).Aa
def jS(w:Aw)(x:Cd)(name:Bs)(h:S5 w x name)(V1:w.Dk.length<=1000000):Ac C0 270 [.ptr 63 0,.agg x.c,.v (.string (str name))] [(63,w.c)] (.Bl []) [(63,(Gf w x name).c)]:=by
 obtain⟨k,h1,h2,h3,h4⟩:=h;exact oM w x name k h1 h2 V1 h3 h4
def VG{w:Aw}{x:Cd}{name:Bs}(h:S5 w x name):(Gf w x name).Dk.length<=w.Dk.length+201:=by
 obtain⟨k,h1,h2,h3,h4⟩:=h;have c1:=Ry h2 x.proc name;have c2:=HL h4 x.proc ⟨name,AE x.By.entries name⟩;have c3:(Fl w x name k).Dk.length<=w.Dk.length+100:=by
  unfold Fl;split
  ·simp[CU];omega
  ·omega
 simp only[Gf,h1];unfold Pn;split
 ·omega
 ·simp only[CU,List.length_append];omega
theorem JH(w:Aw)(x:Cd)(name:Bs):(Gf w x name).procs=w.procs:=by
 unfold Gf;split
 ·rfl
 ·unfold Pn Fl;split<;>split<;>rfl
def EO(w:Aw)(x:Cd)(az:List Atom):Aw:=az.foldl (λw a=>Gf w x a.name) w
def RH{w:Aw}{x:Cd}{az:List Atom}{i:Nat}{b:Atom}(hb:az[i]?=some b):EO w x (az.take (i+1))=Gf (EO w x (az.take i)) x b.name:=by
 simp[EO,take_add_one,hb,foldl_append]
def II(w:Aw)(x:Cd):∀ az:List Atom,(EO w x az).procs=w.procs
 |[]=>rfl
 | a::az=>by
  show (EO (Gf w x a.name) x az).procs=w.procs;rw[II,JH]
def Oj(w:Aw)(x:Cd)(az:List Atom):Prop:=∀ i b,az[i]?=some b->S5 (EO w x (az.take i)) x b.name
def Ov{w:Aw}{x:Cd}{az:List Atom}(h:Oj w x az):∀ i,i<=az.length->(EO w x (az.take i)).Dk.length<=w.Dk.length+201*i
 | 0,_=>by simp[EO]
 | i+1,hi=>by
  obtain⟨b,hb⟩:∃ b,az[i]?=some b:=⟨_,gE (by omega)⟩;have h1:=Ov h i (by omega);have h2:=VG (h i b hb);rw[RH hb];omega
def Bm(w:Aw)(i:Nat)(x:Cd):Aw:=Bd (EO w x (Al x.BQ.expr)) i (Cj x)
def Xx(w:Aw)(i:Nat)(x:Cd)(hx:w.procs[i]?=some x)(hs:Oj w x (Al x.BQ.expr))(V1:w.Dk.length<=900000):Ac C0 222 [.ptr 63 0,I i] [(63,w.c)] (.Bl []) [(63,(Bm w i x).c)]:=by
 have SQ:=C3 x.BQ.expr;refine Ac.go f222 ?_;unfold f222;simp(disch:=omega)only[go_sem,gm,hx];refine Ab (Nt x.BQ.expr) ?_;obtain⟨o,rfl⟩:∃ o,o=i:=⟨i,rfl⟩;refine gO ?_;unfold Bm;generalize Al x.BQ.expr=az at hs SQ ⊢;refine AH (az) (λi=>⟨[(6,I i),(5,BN az),(0,.ptr 63 0),(1,I o),(4,.ptr 256 0)],[(63,(EO w x (az.take i)).c),(256,x.c)]⟩) (λi=>True) trivial ?_ ?_
 ·refine AQ.An ?_ ?_
  all_goals(try simp(disch:=omega)only[go_sem])
  all_goals(try(repeat'(with_reducible apply And.intro)))
  all_goals(first|exact .AU (by omega)|exact .AD (by omega)|exact .sl (by simp[EO])|exact .int (by simp[EO])|exact .eq (by simp[EO]))
 rintro i ⟨hi,hP⟩ J hJ;refine gO ?_;refine Bp hi (λAu b hb Cc AR=>?_) λBf=>?_
 ·have h1:=Ov hs i hi;refine Av 7 [([],[0]),([],[4]),([],[5]),([],[6]),([],[27,28]),([],[29]),([],[30])] B7 ?_;simp(disch:=omega)only[go_sem,gm,hb];refine call2 ⟨⟨[(0,0),(1,1)],[(63,63)],[]⟩,[],[]⟩ (jS (EO w x (az.take i)) x b.name (hs i b hb) (by omega)) ?_;rw[<- RH hb];refine gO ?_;refine hJ _ (i+1) ⟨by omega,trivial⟩ (by omega) AS
 ·subst Bf;rw[take_length];have yq:(EO w x az).procs[o]?=some x:=by rw[II];exact hx
  refine call2 ⟨⟨[(0,0),(1,1)],[(63,63)],[]⟩,[],[]⟩ (dX (EO w x az) o x yq) ?_;refine gO ?_;refine CE ⟨[(0,0),(1,1)],[(63,63)],[]⟩ _ ?_ ?_
  ·exact gI
  ·exact gI
def Qc(w:Aw)(x:Cd):Bool:=x.waiting&&Ff x.BQ.expr (BY w.Aa x.proc x.BQ.expr)
def M3(w:Aw):Option Nat:=w.procs.findIdx? (Qc w)
def W1(w:Aw):Prop:=∀ x∈w.procs,x.waiting=true->BA x.BQ.expr=true
def dY(w:Aw)(h:Ei w.Aa)(hp:w.procs.length<=1000000)(hr:W1 w):Ac C0 272 [.ptr 63 0] [(63,w.c)] (I (UY (M3 w))) [(63,w.c)]:=by
 refine Ac.go f272 ?_;unfold f272;refine gO ?_;refine AH (w.procs) (λi=>⟨[(3,I i),(0,.ptr 63 0)],[(63,w.c)]⟩) (λi=>(w.procs.take i).find? (Qc w)=none) rfl ?_ ?_
 ·exact B9
 rintro i ⟨hi,hP⟩ J hJ;refine gO ?_;refine Bp hi (λAu b hb Cc AR=>?_) λBf=>?_
 ·simp(disch:=omega)only[go_sem,gm,hb];cases hw:b.waiting
  ·have hs:Qc w b=false:=by simp[Qc,hw]
   refine Av 17 [([],[4]),([],[23]),([],[24]),([],[4,25]),([],[26,25]),([],[27,25]),([],[0,25]),([],[29,25]),([],[30,25]),([],[31,25]),([],[32,25]),([],[4,25]),([],[34,25]),([],[4,25]),([],[36,25]),([],[37,25]),([],[33,35,38,25])] B7 ?_;simp(disch:=omega)only[go_sem,hw];refine hJ _ (i+1) ⟨by omega,(by rw[B4 hP hb];simp[hs])⟩ (by omega) AS
  ·have he:=hr b Cc hw;refine Av 17 [([],[4]),([],[23]),([],[24]),([],[4,25]),([],[26,25]),([],[27,25]),([],[0,25]),([],[29,25]),([],[30,25]),([],[31,25]),([],[32,25]),([],[4,25]),([],[34,25]),([],[4,25]),([],[36,25]),([],[37,25]),([],[33,35,38,25])] B7 ?_;simp(disch:=omega)only[go_sem,hw]
   first|(refine Ab (Ns w.Aa b.proc b.BQ.expr h) ?_)|(refine Aq (Ns w.Aa b.proc b.BQ.expr h) ?_)
   refine gO ?_
   first|(refine Ab (Nr b.BQ.expr (BY w.Aa b.proc b.BQ.expr) he) ?_)|(refine Aq (Nr b.BQ.expr (BY w.Aa b.proc b.BQ.expr) he) ?_)
   cases hh:Ff b.BQ.expr (BY w.Aa b.proc b.BQ.expr)
   ·have hs:Qc w b=false:=by simp[Qc,hw,hh]
    refine gO ?_;refine hJ _ (i+1) ⟨by omega,(by rw[B4 hP hb];simp[hs])⟩ (by omega) AS
   ·have hs:Qc w b=true:=by simp[Qc,hw,hh]
    have e:M3 w=some i:=Gk hP b hb hs;simp(disch:=omega)only[go_sem,e,UY];refine CE ⟨[(0,0),(1,1)],[(63,63)],[]⟩ _ ?_ ?_
    ·exact gI
    ·exact gI
 ·subst Bf;rw[take_length]at hP;have e:M3 w=none:=by
   unfold M3;rw[List.findIdx?_eq_none_iff];rw[List.find?_eq_none]at hP;intro x hx;simpa using hP x hx
  simp(disch:=omega)only[go_sem,e,UY];refine CE ⟨[(0,0),(1,1)],[(63,63)],[]⟩ _ ?_ ?_
  ·exact gI
  ·exact gI
def Ia(w:Aw)(i:Nat)(x:Cd)(EE:Bool)(name:Bs):Aw:=if !EE then Gf w x name else match CA w.Aa name with
 |none=>w
 |some k=>if decide (Ap (w.Aa.getD k q0).holds x.proc=AE (w.procs.getD i x0).By.entries name) then w
  else Bd w i { w.procs.getD i x0 with By:=(HU (w.procs.getD i x0).By ⟨name,AE (w.procs.getD i x0).By.entries name,Ap (w.Aa.getD k q0).holds x.proc⟩).1 }
def DV(w:Aw)(i:Nat)(x:Cd)(kl:List (Bool × Atom)):Aw:=kl.foldl (λw p=>Ia w i x p.1 p.2.name) w
def D0(w:Aw)(i:Nat)(x:Cd):Aw :=
 let w1:=DV (Cw w 2 x.proc) i x ((Ef x.BQ.expr (BY w.Aa x.proc x.BQ.expr)).zip (Al x.BQ.expr))
 let w2:=Bd w1 i (Cj (w1.procs.getD i x0))
 Bd w2 i (C1 (w2.procs.getD i x0))
def Hl:Nat->Aw->Aw
 | 0,w=>w
 | n+1,w=>match M3 w with
  |none=>w
  |some i=>Hl n (D0 w i (w.procs.getD i x0))
def qQ(w:Aw)(x:Cd)(kp:Bool)(name:Bs):Prop:=(kp=false->S5 w x name)/\(kp=true->Ei w.Aa/\∃ k,CA w.Aa name=some k)
def mf(w:Aw)(i:Nat)(x:Cd):(Bd w i x).procs.length=w.procs.length:=by simp[Bd]
def ZF(w:Aw)(i:Nat)(x:Cd)(kp:Bool)(name:Bs):(Ia w i x kp name).procs.length=w.procs.length:=by
 unfold Ia;split
 ·rw[JH]
 ·split
  ·rfl
  ·split
   ·rfl
   ·exact mf _ _ _
def RX{w:Aw}{i:Nat}{x:Cd}{kl:List (Bool × Atom)}{j:Nat}{p:Bool × Atom}(hp:kl[j]?=some p):DV w i x (kl.take (j+1))=Ia (DV w i x (kl.take j)) i x p.1 p.2.name:=by
 simp[DV,take_add_one,hp,foldl_append]
def Lx(w:Aw)(i:Nat)(x:Cd):∀ kl:List (Bool × Atom),(DV w i x kl).procs.length=w.procs.length
 |[]=>rfl
 | p::kl=>by
  show (DV (Ia w i x p.1 p.2.name) i x kl).procs.length=w.procs.length;rw[Lx,ZF]
def W3(w:Aw)(i:Nat)(x:Cd)(kl:List (Bool × Atom)):Prop:=∀ j p,kl[j]?=some p->qQ (DV w i x (kl.take j)) x p.1 p.2.name
def gR{w:Aw}{i:Nat}{x:Cd}{kp:Bool}{name:Bs}(h:qQ w x kp name):(Ia w i x kp name).Dk.length<=w.Dk.length+201:=by
 unfold Ia;cases kp
 ·have:=VG (h.1 rfl);simpa using this
 ·simp only[Bool.not_true,Bool.false_eq_true,if_false];split
  ·omega
  ·split
   ·omega
   ·simp[Bd]
def Lw{w:Aw}{i:Nat}{x:Cd}{kl:List (Bool × Atom)}(h:W3 w i x kl):∀ j,j<=kl.length->(DV w i x (kl.take j)).Dk.length<=w.Dk.length+201*j
 | 0,_=>by simp[DV]
 | j+1,hj=>by
  obtain⟨p,hp⟩:∃ p,kl[j]?=some p:=⟨_,gE (by omega)⟩;have h1:=Lw h j (by omega);have h2:=gR (i:=i) (h j p hp);rw[RX hp];omega
def wcount(w:Aw):Nat:=w.procs.countP (·.waiting)
def Co(w:Aw):Aw:=Hl (wcount w) w
structure I6(Inv:Aw->Prop):Prop where
 bK:∀ w,Inv w->Ei w.Aa/\w.procs.length<=8/\W1 w
 safe:∀ w i x,Inv w->M3 w=some i->w.procs[i]?=some x->W3 (Cw w 2 x.proc) i x ((Ef x.BQ.expr (BY w.Aa x.proc x.BQ.expr)).zip (Al x.BQ.expr))
 next:∀ w i x,Inv w->M3 w=some i->w.procs[i]?=some x->Inv (D0 w i x)
def KV{w:Aw}{i:Nat}(h:M3 w=some i):∃ x,w.procs[i]?=some x/\Qc w x=true:=by
 unfold M3 at h;rw[List.findIdx?_eq_some_iff_getElem]at h;obtain⟨h1,h2,_⟩:=h;exact⟨_,gE h1,h2⟩
def Qh{α:Type}:∀ {l:List α} {i:Nat} {z:α},l[i]?=some z->l.set i z=l
 |[],_,_,h=>by simp at h
 | a::l,0,z,h=>by simp at h;simp[h]
 | a::l,i+1,z,h=>by
  simp only[List.set_cons_succ];rw[Qh (by simpa using h)]
def countP_set{α:Type}{p:α->Bool}{y:α}(hy:p y=false):∀ {l:List α} {i:Nat} {z:α},l[i]?=some z->p z=true->(l.set i y).countP p+1=l.countP p
 |[],_,_,h,_=>by simp at h
 | a::l,0,z,h,hz=>by
  simp at h;subst h;simp[List.countP_cons,hy,hz]
 | a::l,i+1,z,h,hz=>by
  have:=countP_set hy (l:=l) (i:=i) (z:=z) (by simpa using h) hz;simp only[List.set_cons_succ,List.countP_cons];omega
def Q1{w:Aw}{i:Nat}{x z:Cd}(hz:w.procs[i]?=some z):∀ (kl:List (Bool × Atom)) (w':Aw),(∃ l',w'.procs=w.procs.set i { z with By:=l' })->∃ l',(DV w' i x kl).procs=w.procs.set i { z with By:=l' }
 |[],_,h=>h
 | p::kl,w',h=>by
  refine Q1 hz kl (Ia w' i x p.1 p.2.name) ?_;obtain⟨l',hl⟩:=h;have hi:=Ay hz;have hg:w'.procs[i]?=some { z with By:=l' }:=by rw[hl];simp[hi]
  unfold Ia;split
  ·exact⟨l',by rw[JH,hl]⟩
  ·split
   ·exact⟨l',hl⟩
   ·split
    ·exact⟨l',hl⟩
    ·have kA:w'.procs.getD i x0 = { z with By:=l' }:=by simp[List.getD,hg]
     rw[kA];exact⟨_,by simp only[Bd,hl,set_set];rfl⟩
def Oa{w:Aw}{i:Nat}{x:Cd}(hx:w.procs[i]?=some x):∃ y,(D0 w i x).procs=w.procs.set i y/\y.waiting=false/\y.proc=x.proc:=by
 obtain⟨l',hl⟩:=Q1 (w:=w) (i:=i) (x:=x) (z:=x) hx ((Ef x.BQ.expr (BY w.Aa x.proc x.BQ.expr)).zip (Al x.BQ.expr)) (Cw w 2 x.proc) ⟨x.By,(Qh hx).symm⟩;have hi:=Ay hx;refine⟨C1 (Cj { x with By:=l' }),?_,rfl,rfl⟩;simp only[D0,Bd,hl,set_set];have h1:(w.procs.set i { x with By:=l' }).getD i x0 = { x with By:=l' }:=by simp[List.getD,hi]
 rw[h1];have h2:(w.procs.set i (Cj { x with By:=l' })).getD i x0=Cj { x with By:=l' }:=by simp[List.getD,hi]
 rw[h2]
def M4{w:Aw}{i:Nat}{x:Cd}(hs:M3 w=some i)(hx:w.procs[i]?=some x)(PM:Qc w x=true):Co w=Co (D0 w i x)/\wcount (D0 w i x)+1=wcount w:=by
 obtain⟨y,h1,h2,_⟩:=Oa hx;have ba:x.waiting=true:=by simp only[Qc,Bool.and_eq_true]at PM;exact PM.1
 have hc:wcount (D0 w i x)+1=wcount w:=by
  unfold wcount;rw[h1];exact countP_set (p:=(·.waiting)) h2 hx ba
 refine⟨?_,hc⟩;have hg:w.procs.getD i x0=x:=by simp[List.getD,hx]
 unfold Co;rw[<- hc];simp only[Hl,hs,hg]
theorem Yk(w:Aw)(o:Nat)(x:Cd)(z:Cd)(kp:Bool)(name:Bs)(hz:w.procs[o]?=some z):Ia w o x true name=(match CA w.Aa name with
 |none=>w
 |some k=>if decide (Ap (w.Aa.getD k q0).holds x.proc=AE z.By.entries name) then w else Bd w o { z with By:=(HU z.By ⟨name,AE z.By.entries name,Ap (w.Aa.getD k q0).holds x.proc⟩).1 }):=by
 have hg:w.procs.getD o x0=z:=by simp[List.getD,hz]
 unfold Ia;rw[hg];rfl
def Ll(Inv:Aw->Prop)(hI:I6 Inv)(w:Aw)(hw:Inv w)(V1:w.Dk.length+1700*wcount w<=900000):Ac C0 224 [.ptr 63 0] [(63,w.c)] (.Bl []) [(63,(Co w).c)]:=by
 obtain⟨hf,hp,hr⟩:=hI.bK w hw;refine Ac.go f224 ?_;unfold f224;refine gO ?_;refine call2 ⟨⟨[(0,0),(1,1)],[(63,63)],[]⟩,[],[]⟩ (dY w hf (by omega) hr) ?_;refine gO ?_;refine Ao (α:=Aw) (λw'=>⟨[(2,I (UY (M3 w'))),(0,.ptr 63 0)],[(63,w'.c)]⟩) (λw'=>Inv w'/\Co w'=Co w/\w'.Dk.length+1700*wcount w'<=900000) (λw'=>wcount w') w ⟨hw,rfl,V1⟩ AS ?_;clear hf hp hr hw V1;rintro w1 ⟨hw,rM,V1⟩ J hJ;obtain⟨hf,hp,hr⟩:=hI.bK w1 hw;cases hs:M3 w1 with
 |none =>
  simp(disch:=omega)only[go_sem,hs,UY];have e:Co w1=w1:=by
   unfold Co;cases wcount w1 with
   | zero=>rfl
   | succ n=>simp only[Hl,hs]
  rw[<- rM,e];refine CE ⟨[(0,0),(1,1)],[(63,63)],[]⟩ _ ?_ ?_
  ·exact gI
  ·exact gI
 |some o =>
  obtain⟨x,hx,PM⟩:=KV hs;have eN:=hI.safe w1 o x hw hs hx;simp(disch:=omega)only[go_sem,hs,UY,eq_true (show (0:Int)<=(o:Int) by omega),decide_true,gm,hx];have hnw:=XC w1 2 x.proc (by omega);have gM:D0 w1 o x=(let w1':=DV (Cw w1 2 x.proc) o x ((Ef x.BQ.expr (BY w1.Aa x.proc x.BQ.expr)).zip (Al x.BQ.expr));let w2:=Bd w1' o (Cj (w1'.procs.getD o x0));Bd w2 o (C1 (w2.procs.getD o x0))):=rfl;have kM:=M4 hs hx PM;have rF:=hI.next w1 o x hw hs hx;have rJ:(Cw w1 2 x.proc).Aa=w1.Aa:=rfl;have V6:(Cw w1 2 x.proc).procs=w1.procs:=rfl;have gy:(Cw w1 2 x.proc).Dk.length=w1.Dk.length+1:=by simp[Cw]
  generalize Cw w1 2 x.proc=w2 at hnw eN gM rJ V6 gy;rw[<- rJ]at hf eN gM;have bZ:=oN x.BQ.expr (BY w2.Aa x.proc x.BQ.expr);have bV:=cI x.BQ.expr (BY w2.Aa x.proc x.BQ.expr);have hat:=Nt x.BQ.expr;have SQ:=C3 x.BQ.expr;generalize Ef x.BQ.expr (BY w2.Aa x.proc x.BQ.expr)=EE at bZ bV eN gM;generalize Al x.BQ.expr=az at hat bV eN SQ gM;refine call2 ⟨⟨[(0,0),(1,1)],[(63,63)],[]⟩,[],[]⟩ hnw ?_;refine gO ?_;refine Av 14 [([],[3]),([],[28]),([],[29]),([],[0]),([],[31]),([],[32]),([],[33]),([],[34]),([],[3]),([],[36]),([],[3]),([],[38]),([],[39]),([],[35,37,40])] B7 ?_;refine gO ?_
  first|(refine Ab (Ns w2.Aa x.proc x.BQ.expr hf) ?_)|(refine Aq (Ns w2.Aa x.proc x.BQ.expr hf) ?_)
  refine gO ?_
  first|(refine Ab bZ ?_)|(refine Aq bZ ?_)
  refine gO ?_;refine Ab hat ?_;refine gO ?_;have b9:(EE.zip az).length=az.length:=by simp[bV]
  have tJ:=hJ;clear hJ;refine AH (az) (λi=>⟨[(6,I i),(5,BN az),(4,Jb EE),(2,I o),(0,.ptr 63 0),(3,.ptr 192 0)],[(63,(DV w2 o x ((EE.zip az).take i)).c),(192,x.c)]⟩) (λi=>True) trivial ?_ ?_
  ·refine AQ.An ?_ ?_
   all_goals(try simp(disch:=omega)only[go_sem])
   all_goals(try(repeat'(with_reducible apply And.intro)))
   all_goals(first|exact .AU (by omega)|exact .AD (by omega)|exact .sl (by simp[DV])|exact .int (by simp[DV])|exact .eq (by simp[DV]))
  rintro i ⟨hi,hP⟩ J hJ;refine gO ?_;refine Bp hi (λAu b hb Cc AR=>?_) λBf=>?_
  ·obtain⟨kp,rD⟩:∃ kp,EE[i]?=some kp:=⟨_,gE (by omega)⟩;have zN:(EE.zip az)[i]?=some (kp,b):=by rw[List.getElem?_zip_eq_some];exact⟨rD,hb⟩
   have zK:=eN i (kp,b) zN;have zH:=Lw eN i (by omega);have RU:=RX (w:=w2) (i:=o) (x:=x) zN;have NP:=Lx w2 o x ((EE.zip az).take i);simp only at zK RU;obtain⟨z,hz⟩:∃ z,(DV w2 o x ((EE.zip az).take i)).procs[o]?=some z:=⟨_,gE (by rw[NP,V6];exact Ay hx)⟩;generalize DV w2 o x ((EE.zip az).take i)=w3 at zK zH RU hz ⊢;simp(disch:=omega)only[go_sem,gm,hb,rD];cases kp
   ·simp(disch:=omega)only[go_sem,Bool.not_false];have Aby:DV w2 o x ((EE.zip az).take (i+1))=Gf w3 x b.name:=by rw[RU];rfl
    refine call2 ⟨⟨[(0,0),(1,1)],[(63,63)],[]⟩,[],[]⟩ (jS w3 x b.name (zK.1 rfl) (by omega)) ?_;rw[<- Aby];refine gO ?_;refine hJ _ (i+1) ⟨by omega,trivial⟩ (by omega) AS
   ·obtain⟨zD,k,U9⟩:=zK.2 rfl;rw[Yk w3 o x z true b.name hz,U9]at RU;obtain⟨hk,q,hq,_⟩:=DB U9;have xR:w3.Aa.getD k q0=q:=by simp[List.getD,hq]
    simp only[xR]at RU;obtain⟨q1,q2,q3⟩:=Bv (zD.q q (mG hq));have hn3:=zD.n;simp(disch:=omega)only[go_sem,Bool.not_true];refine Av 18 [([],[0]),([],[67]),([],[68]),([],[69]),([],[70]),([],[0]),([],[72]),([],[73]),([],[74]),([],[75]),([],[7]),([],[76,77]),([11],[71,78]),([11],[79]),([],[3]),([],[81]),([11],[80,82]),([],[])] B7 ?_;refine gO ?_
    first|(refine Ab (HE w3.Aa b.name (by omega)) ?_)|(refine Aq (HE w3.Aa b.name (by omega)) ?_)
    simp(disch:=omega)only[go_sem,U9,UY,gm,hq]
    first|(refine Ab (EP q x.proc q1) ?_)|(refine Aq (EP q x.proc q1) ?_)
    simp(disch:=omega)only[go_sem,gm,hz];refine Ab (HS z.By.entries b.name) ?_;refine gO ?_;cases hH:decide (Ap q.holds x.proc=AE z.By.entries b.name);rotate_left
    ·rw[hH,if_pos rfl]at RU;simp(disch:=omega)only[go_sem,hH,Bool.not_true];rw[<- RU];refine hJ _ (i+1) ⟨by omega,trivial⟩ (by omega) AS
    rw[hH]at RU;simp only[Bool.false_eq_true,if_false]at RU;simp(disch:=omega)only[go_sem,hH,Bool.not_false];refine D4 (st':=⟨[(9,.ptr 576 0),(8,.ptr 512 0),(7,.v (.string (str b.name))),(6,I i),(5,BN az),(4,Jb EE),(2,I o),(0,.ptr 63 0),(3,.ptr 192 0)],[(512,(Ap q.holds x.proc).c),(576,(AE z.By.entries b.name).c),(63,w3.c),(192,x.c)]⟩) AS ?_;refine Tw 23 [([],[0]),([0],[100]),([0,1],[101]),([0,1,2],[102]),([0,1,2,3],[103]),([],[2]),([],[0]),([6],[106]),([6,7],[107]),([6,7,8],[108]),([6,7,8,9],[109]),([],[2]),([6,7,8,9,10,11],[110,111]),([6,7,8,9,10,11,12],[112]),([6,7,8,9,10,11,12,13],[113]),([],[7]),([],[9]),([],[8]),([15,16,17],[115,116,117]),([6,7,8,9,10,11,12,13,14,15,16,17,18],[114,118]),([6,7,8,9,10,11,12,13,14,15,16,17,18,19],[119]),([6,7,8,9,10,11,12,13,14,15,16,17,18,19,20],[99]),([6,7,8,9,10,11,12,13,14,15,16,17,18,19,20],[99]),([0,1,2,3,4,5,6,7,8,9,10,11,12,13,14,15,16,17,18,19,20,21],[]),([0,1,2,3,4,5,6,7,8,9,10,11,12,13,14,15,16,17,18,19,20,21,23],[]),([0,1,2,3,4,5,6,7,8,9,10,11,12,13,14,15,16,17,18,19,20,21,23,24],[])] [22] [104,105,120,99,6,5,4,2,0,3] B7 (by kernel_rfl) ?_;simp (maxSteps:=1000000) (disch:=omega)only[go_sem,gm,hz]
    first|(refine Ab (dZ z.By ⟨b.name,AE z.By.entries b.name,Ap q.holds x.proc⟩) ?_)|(refine Aq (dZ z.By ⟨b.name,AE z.By.entries b.name,Ap q.holds x.proc⟩) ?_)
    simp (maxSteps:=1000000) (disch:=omega)only[go_sem,gm,hz];refine hJ _ (i+1) ⟨by omega,trivial⟩ (by omega) (AQ.An ?_ ?_)
    ·exact gI
    ·rw[RU];simp(disch:=omega)only[go_sem,Bd];exact .sl (by rw[map_set];rfl)
  ·subst Bf;have hta:(EE.zip az).take az.length=EE.zip az:=List.take_of_length_le (by omega);rw[hta];have NP:=Lx w2 o x (EE.zip az);have zH:=Lw eN az.length (by omega);rw[hta]at zH;obtain⟨z,hz⟩:∃ z,(DV w2 o x (EE.zip az)).procs[o]?=some z:=⟨_,gE (by rw[NP,V6];exact Ay hx)⟩;generalize DV w2 o x (EE.zip az)=w3 at NP zH hz gM ⊢;have zN:=Ay hz;have kS:(Bd w3 o (Cj z)).procs[o]?=some (Cj z):=by simp[Bd,zN]
   have NZ:D0 w1 o x=Bd (Bd w3 o (Cj z)) o (C1 (Cj z)):=by
    rw[gM];simp only;rw[show w3.procs.getD o x0=z by simp[List.getD,hz],show (Bd w3 o (Cj z)).procs.getD o x0=Cj z by simp[List.getD,kS]]
   have Aei:(D0 w1 o x).Dk.length<=w1.Dk.length+1609:=by
    rw[NZ];simp only[Bd];omega
   refine call2 ⟨⟨[(0,0),(1,1)],[(63,63)],[]⟩,[],[]⟩ (dX w3 o z hz) ?_;refine gO ?_;refine call2 ⟨⟨[(0,0),(1,1)],[(63,63)],[]⟩,[],[]⟩ (JJ (Bd w3 o (Cj z)) o (Cj z) kS) ?_;rw[<- NZ];refine gO ?_;obtain⟨hf4,hp4,hr4⟩:=hI.bK _ rF;refine call2 ⟨⟨[(0,0),(1,1)],[(63,63)],[]⟩,[],[]⟩ (dY (D0 w1 o x) hf4 (by omega) hr4) ?_;refine gO ?_;exact tJ _ (D0 w1 o x) ⟨rF,kM.1.symm.trans rM,by omega⟩ (by omega) AS
def GA(x:Cd):Int:=IntKind.i64.wrap (x.since+x.BQ.DK)
def Ms(now:Int)(b:Int × Int)(x:Cd):Bool:=x.waiting&&(!decide (x.BQ.DK=0)&&(decide (GA x<=now)&&(decide (b.1<0)||decide (GA x<b.2))))
def Nj(now:Int)(s:Nat × Int × Int)(x:Cd):Nat × Int × Int:=(s.1+1,if Ms now s.2 x then ((s.1:Int),GA x) else s.2)
def Li(now:Int)(l:List Cd):Nat × Int × Int:=l.foldl (Nj now) (0,-1,0)
def Sf(w:Aw):Int:=(Li w.now w.procs).2.1
def sO(now:Int)(l:List Cd):(Li now l).1=l.length:=by
 have:∀ (l:List Cd) (s:Nat × Int × Int),(l.foldl (Nj now) s).1=s.1+l.length:=by
  intro l
  induction l with
  | nil=>intro s;rfl
  | cons a l ih=>intro s;rw[List.foldl_cons,ih];simp[Nj];omega
 rw[Li,this];simp
theorem VI(now:Int){l:List Cd}{i:Nat}{b:Cd}(hb:l[i]?=some b):(Li now (l.take (i+1))).2=if Ms now (Li now (l.take i)).2 b then ((i:Int),GA b) else (Li now (l.take i)).2:=by
 have hi:=Ay hb;have h1:=sO now (l.take i);rw[take_add_one,hb];rw[List.length_take,Nat.min_eq_left (Nat.le_of_lt hi)]at h1;simp only[Li,foldl_append,Option.toList_some,List.foldl_cons,List.foldl_nil]at h1 ⊢;show (if Ms now (List.foldl (Nj now) (0,-1,0) (List.take i l)).2 b then (((List.foldl (Nj now) (0,-1,0) (List.take i l)).1:Int),GA b) else (List.foldl (Nj now) (0,-1,0) (List.take i l)).2)=_;rw[h1];rfl
theorem TC(now:Int):Li now []=(0,-1,0):=rfl
def dV(w:Aw)(hp:w.procs.length<=1000000):Ac C0 266 [.ptr 63 0] [(63,w.c)] (I (Sf w)) [(63,w.c)]:=by
 refine Ac.go f266 ?_;unfold f266;refine gO ?_;refine AH (w.procs) (λi=>⟨[(5,I i),(4,I (Li w.now (w.procs.take i)).2.2),(3,I (Li w.now (w.procs.take i)).2.1),(0,.ptr 63 0)],[(63,w.c)]⟩) (λi=>True) trivial ?_ ?_
 ·refine AQ.An ?_ ?_
  all_goals(try simp(disch:=omega)only[go_sem])
  all_goals(try(repeat'(with_reducible apply And.intro)))
  all_goals(first|exact .AU (by omega)|exact .AD (by omega)|exact .sl (by simp[TC])|exact .int (by simp[TC])|exact .eq (by simp[TC]))
 rintro i ⟨hi,hP⟩ J hJ;refine gO ?_;refine Bp hi (λAu b hb Cc AR=>?_) λBf=>?_
 ·simp(disch:=omega)only[go_sem,gm,hb];have rL:=VI w.now hb;generalize Li w.now (w.procs.take i)=s at rL;obtain⟨n,best,when⟩:=s;simp only at rL;cases hw:b.waiting
  ·have NZ:(Li w.now (List.take (i+1) w.procs)).2=(best,when):=by rw[rL,show Ms w.now (best,when) b=false from by simp only[Ms,hw]<;>rfl]<;>rfl
   refine Av 33 [([],[6]),([],[25]),([],[26]),([],[6,27]),([],[28,27]),([],[29,27]),([],[30,27]),([],[27,31]),([],[32]),([],[6,33]),([],[34,33]),([],[6,33]),([],[36,33]),([],[37,33]),([],[35,38,33]),([],[0,33]),([],[40,33]),([],[41,33]),([],[42,33]),([],[43,33]),([],[39,44,33]),([],[33,45]),([],[46]),([],[3,47]),([],[48,47]),([],[49,47]),([],[6,50]),([],[51,50]),([],[6,50]),([],[53,50]),([],[54,50]),([],[52,55,50]),([],[4,50])] B7 ?_;simp(disch:=omega)only[go_sem,hw];refine hJ _ (i+1) ⟨by omega,trivial⟩ (by omega) (AQ.An ?_ ?_)
   all_goals(try simp(disch:=omega)only[go_sem])
   all_goals(try(repeat'(with_reducible apply And.intro)))
   all_goals(first|exact .AU (by omega)|exact .AD (by omega)|exact .sl (by simp[NZ,GA])|exact .int (by simp[NZ,GA])|exact .eq (by simp[NZ,GA]))
  ·by_cases hl:b.BQ.DK=0
   ·have hl3:decide (b.BQ.DK=0)=true:=by simpa using hl
    have NZ:(Li w.now (List.take (i+1) w.procs)).2=(best,when):=by rw[rL,show Ms w.now (best,when) b=false from by simp only[Ms,hw,hl3]<;>rfl]<;>rfl
    refine Av 33 [([],[6]),([],[25]),([],[26]),([],[6,27]),([],[28,27]),([],[29,27]),([],[30,27]),([],[27,31]),([],[32]),([],[6,33]),([],[34,33]),([],[6,33]),([],[36,33]),([],[37,33]),([],[35,38,33]),([],[0,33]),([],[40,33]),([],[41,33]),([],[42,33]),([],[43,33]),([],[39,44,33]),([],[33,45]),([],[46]),([],[3,47]),([],[48,47]),([],[49,47]),([],[6,50]),([],[51,50]),([],[6,50]),([],[53,50]),([],[54,50]),([],[52,55,50]),([],[4,50])] B7 ?_;simp(disch:=omega)only[go_sem,hw,hl];refine hJ _ (i+1) ⟨by omega,trivial⟩ (by omega) (AQ.An ?_ ?_)
    all_goals(try simp(disch:=omega)only[go_sem])
    all_goals(try(repeat'(with_reducible apply And.intro)))
    all_goals(first|exact .AU (by omega)|exact .AD (by omega)|exact .sl (by simp[NZ,GA])|exact .int (by simp[NZ,GA])|exact .eq (by simp[NZ,GA]))
   ·have Vc:(b.BQ.DK !=0)=true:=by simpa using hl
    have mP:decide (b.BQ.DK=0)=false:=by simpa using hl
    cases hd:decide (IntKind.i64.wrap (b.since+b.BQ.DK)<=w.now)
    ·have bS:decide (GA b<=w.now)=false:=hd;have NZ:(Li w.now (List.take (i+1) w.procs)).2=(best,when):=by rw[rL,show Ms w.now (best,when) b=false from by simp only[Ms,hw,bS,mP]<;>rfl]<;>rfl
     refine Av 33 [([],[6]),([],[25]),([],[26]),([],[6,27]),([],[28,27]),([],[29,27]),([],[30,27]),([],[27,31]),([],[32]),([],[6,33]),([],[34,33]),([],[6,33]),([],[36,33]),([],[37,33]),([],[35,38,33]),([],[0,33]),([],[40,33]),([],[41,33]),([],[42,33]),([],[43,33]),([],[39,44,33]),([],[33,45]),([],[46]),([],[3,47]),([],[48,47]),([],[49,47]),([],[6,50]),([],[51,50]),([],[6,50]),([],[53,50]),([],[54,50]),([],[52,55,50]),([],[4,50])] B7 ?_;simp(disch:=omega)only[go_sem,hw,hl,Vc,hd];refine hJ _ (i+1) ⟨by omega,trivial⟩ (by omega) (AQ.An ?_ ?_)
     all_goals(try simp(disch:=omega)only[go_sem])
     all_goals(try(repeat'(with_reducible apply And.intro)))
     all_goals(first|exact .AU (by omega)|exact .AD (by omega)|exact .sl (by simp[NZ,GA])|exact .int (by simp[NZ,GA])|exact .eq (by simp[NZ,GA]))
    ·cases hn:decide (best<0)
     ·cases hq:decide (IntKind.i64.wrap (b.since+b.BQ.DK)<when)
      ·have bS:decide (GA b<=w.now)=true:=hd;have rJ:decide (GA b<when)=false:=hq;have NZ:(Li w.now (List.take (i+1) w.procs)).2=(best,when):=by rw[rL,show Ms w.now (best,when) b=false from by simp only[Ms,hw,bS,hn,rJ,mP]<;>rfl]<;>rfl
       refine Av 33 [([],[6]),([],[25]),([],[26]),([],[6,27]),([],[28,27]),([],[29,27]),([],[30,27]),([],[27,31]),([],[32]),([],[6,33]),([],[34,33]),([],[6,33]),([],[36,33]),([],[37,33]),([],[35,38,33]),([],[0,33]),([],[40,33]),([],[41,33]),([],[42,33]),([],[43,33]),([],[39,44,33]),([],[33,45]),([],[46]),([],[3,47]),([],[48,47]),([],[49,47]),([],[6,50]),([],[51,50]),([],[6,50]),([],[53,50]),([],[54,50]),([],[52,55,50]),([],[4,50])] B7 ?_;simp(disch:=omega)only[go_sem,hw,hl,Vc,hd,hn,hq];refine hJ _ (i+1) ⟨by omega,trivial⟩ (by omega) (AQ.An ?_ ?_)
       all_goals(try simp(disch:=omega)only[go_sem])
       all_goals(try(repeat'(with_reducible apply And.intro)))
       all_goals(first|exact .AU (by omega)|exact .AD (by omega)|exact .sl (by simp[NZ,GA])|exact .int (by simp[NZ,GA])|exact .eq (by simp[NZ,GA]))
      ·have bS:decide (GA b<=w.now)=true:=hd;have rJ:decide (GA b<when)=true:=hq;have NZ:(Li w.now (List.take (i+1) w.procs)).2=((i:Int),GA b):=by rw[rL,show Ms w.now (best,when) b=true from by simp only[Ms,hw,bS,hn,rJ,mP]<;>rfl]<;>rfl
       refine Av 33 [([],[6]),([],[25]),([],[26]),([],[6,27]),([],[28,27]),([],[29,27]),([],[30,27]),([],[27,31]),([],[32]),([],[6,33]),([],[34,33]),([],[6,33]),([],[36,33]),([],[37,33]),([],[35,38,33]),([],[0,33]),([],[40,33]),([],[41,33]),([],[42,33]),([],[43,33]),([],[39,44,33]),([],[33,45]),([],[46]),([],[3,47]),([],[48,47]),([],[49,47]),([],[6,50]),([],[51,50]),([],[6,50]),([],[53,50]),([],[54,50]),([],[52,55,50]),([],[4,50])] B7 ?_;simp(disch:=omega)only[go_sem,hw,hl,Vc,hd,hn,hq];refine Av 8 [([],[5]),([],[6]),([],[62]),([],[6]),([],[64]),([],[65]),([],[63,66]),([],[61])] B7 ?_;simp(disch:=omega)only[go_sem,hw,hl,Vc,hd,hn,hq];refine hJ _ (i+1) ⟨by omega,trivial⟩ (by omega) (AQ.An ?_ ?_)
       all_goals(try simp(disch:=omega)only[go_sem])
       all_goals(try(repeat'(with_reducible apply And.intro)))
       all_goals(first|exact .AU (by omega)|exact .AD (by omega)|exact .sl (by simp[NZ,GA])|exact .int (by simp[NZ,GA])|exact .eq (by simp[NZ,GA]))
     ·have bS:decide (GA b<=w.now)=true:=hd;have NZ:(Li w.now (List.take (i+1) w.procs)).2=((i:Int),GA b):=by rw[rL,show Ms w.now (best,when) b=true from by simp only[Ms,hw,bS,hn,mP]<;>rfl]<;>rfl
      refine Av 33 [([],[6]),([],[25]),([],[26]),([],[6,27]),([],[28,27]),([],[29,27]),([],[30,27]),([],[27,31]),([],[32]),([],[6,33]),([],[34,33]),([],[6,33]),([],[36,33]),([],[37,33]),([],[35,38,33]),([],[0,33]),([],[40,33]),([],[41,33]),([],[42,33]),([],[43,33]),([],[39,44,33]),([],[33,45]),([],[46]),([],[3,47]),([],[48,47]),([],[49,47]),([],[6,50]),([],[51,50]),([],[6,50]),([],[53,50]),([],[54,50]),([],[52,55,50]),([],[4,50])] B7 ?_;simp(disch:=omega)only[go_sem,hw,hl,Vc,hd,hn];refine Av 8 [([],[5]),([],[6]),([],[62]),([],[6]),([],[64]),([],[65]),([],[63,66]),([],[61])] B7 ?_;simp(disch:=omega)only[go_sem,hw,hl,Vc,hd,hn];refine hJ _ (i+1) ⟨by omega,trivial⟩ (by omega) (AQ.An ?_ ?_)
      all_goals(try simp(disch:=omega)only[go_sem])
      all_goals(try(repeat'(with_reducible apply And.intro)))
      all_goals(first|exact .AU (by omega)|exact .AD (by omega)|exact .sl (by simp[NZ,GA])|exact .int (by simp[NZ,GA])|exact .eq (by simp[NZ,GA]))
 ·subst Bf;rw[take_length];refine CE ⟨[(0,0),(1,1)],[(63,63)],[]⟩ _ ?_ ?_
  ·simp(disch:=omega)only[go_sem,Sf]
  ·exact gI
structure iZ(Inv:Aw->Prop):Prop extends I6 Inv where
 ev:∀ w k p,Inv w->Inv (Cw w k p)
 wd:∀ w i x,Inv w->w.procs[i]?=some x->x.waiting=true->Oj w x (Al x.BQ.expr)/\Inv (Bm w i x)
 nx:∀ w i x,Inv w->w.procs[i]?=some x->Inv (Bd w i (C1 x))
def fY{now:Int}{b:Int × Int}{x:Cd}(h:Ms now b x=true):x.waiting=true:=by
 unfold Ms at h;simp only[Bool.and_eq_true]at h;exact h.1
def VJ(now:Int)(l:List Cd):∀ i,i<=l.length->(Li now (l.take i)).2.1 = -1\/∃ k x,(Li now (l.take i)).2.1=(k:Nat)/\l[k]?=some x/\x.waiting=true
 | 0,_=>.inl rfl
 | i+1,hi=>by
  obtain⟨b,hb⟩:∃ b,l[i]?=some b:=⟨_,gE (by omega)⟩;rw[VI now hb];split
  ·rename_i hc;exact .inr ⟨i,b,rfl,hb,fY hc⟩
  ·exact VJ now l i (by omega)
def Ni(w:Aw):Sf w = -1\/∃ k x,Sf w=(k:Nat)/\w.procs[k]?=some x/\x.waiting=true:=by
 have:=VJ w.now w.procs w.procs.length (le_refl _)
 rwa [take_length]at this
def EZ(w:Aw)(i:Nat)(x:Cd):Aw :=
 let w1:=Bm (Cw w 4 x.proc) i x
 Bd w1 i (C1 (w1.procs.getD i x0))
def MI:Nat->Aw->Aw
 | 0,w=>w
 | n+1,w=>match w.procs[(Sf w).toNat]? with
  |none=>w
  |some x=>if Sf w<0 then w else MI n (Co (EZ w (Sf w).toNat x))
def Ob:∀ (n:Nat) (w:Aw),(Hl n w).procs.length=w.procs.length/\wcount (Hl n w)<=wcount w
 | 0,w=>⟨rfl,le_refl _⟩
 | n+1,w=>by
  simp only[Hl];cases hs:M3 w with
  |none=>exact⟨rfl,le_refl _⟩
  |some i =>
   obtain⟨x,hx,PM⟩:=KV hs;have hg:w.procs.getD i x0=x:=by simp[List.getD,hx]
   simp only[hg];obtain⟨h1,h2⟩:=Ob n (D0 w i x);obtain⟨y,h3,_⟩:=Oa hx;have h4:=(M4 hs hx PM).2;exact⟨by rw[h1,h3];simp,by omega⟩
def aC{Inv:Aw->Prop}(hI:I6 Inv){w:Aw}{i:Nat}{x:Cd}(hw:Inv w)(hs:M3 w=some i)(hx:w.procs[i]?=some x):(D0 w i x).Dk.length<=w.Dk.length+1609:=by
 have eN:=hI.safe w i x hw hs hx;have SQ:=C3 x.BQ.expr;have hz:=Lw eN ((Ef x.BQ.expr (BY w.Aa x.proc x.BQ.expr)).zip (Al x.BQ.expr)).length (le_refl _);rw[take_length]at hz;have b9:((Ef x.BQ.expr (BY w.Aa x.proc x.BQ.expr)).zip (Al x.BQ.expr)).length<=8:=by rw[List.length_zip];omega
 have gy:(Cw w 2 x.proc).Dk.length=w.Dk.length+1:=by simp[Cw]
 simp only[D0,Bd];omega
def JU{Inv:Aw->Prop}(hI:I6 Inv):∀ (n:Nat) (w:Aw),Inv w->Inv (Hl n w)/\(Hl n w).Dk.length+1700*wcount (Hl n w)<=w.Dk.length+1700*wcount w
 | 0,w,h=>⟨h,le_refl _⟩
 | n+1,w,h=>by
  simp only[Hl];cases hs:M3 w with
  |none=>exact⟨h,le_refl _⟩
  |some i =>
   obtain⟨x,hx,PM⟩:=KV hs;have hg:w.procs.getD i x0=x:=by simp[List.getD,hx]
   simp only[hg];obtain⟨h1,h2⟩:=JU hI n (D0 w i x) (hI.next w i x h hs hx);have h4:=(M4 hs hx PM).2;have h5:=aC hI h hs hx;exact⟨h1,by omega⟩
def Dz(w:Aw)(i:Nat)(x:Cd):(Bm w i x).procs=w.procs.set i (Cj x):=by simp[Bm,Bd,II]
def Ki{w:Aw}{i:Nat}{x:Cd}(h:Oj w x (Al x.BQ.expr)):(Bm w i x).Dk.length<=w.Dk.length+1608:=by
 have SQ:=C3 x.BQ.expr;have:=Ov h _ (le_refl _);rw[take_length]at this;simp only[Bm,Bd];omega
def T8{Inv:Aw->Prop}(hI:iZ Inv){w:Aw}{i:Nat}{x:Cd}(hw:Inv w)(hx:w.procs[i]?=some x)(ba:x.waiting=true) :
 Inv (EZ w i x)/\EZ w i x=Bd (Bm (Cw w 4 x.proc) i x) i (C1 (Cj x))/\wcount (EZ w i x)+1=wcount w/\(EZ w i x).Dk.length<=w.Dk.length+1609:=by
 have hi:=Ay hx;have hn:=hI.ev w 4 x.proc hw;obtain⟨h1,h2⟩:=hI.wd (Cw w 4 x.proc) i x hn hx ba;have hp:(Bm (Cw w 4 x.proc) i x).procs=w.procs.set i (Cj x):=Dz _ _ _;have hg:(Bm (Cw w 4 x.proc) i x).procs[i]?=some (Cj x):=by rw[hp];simp[hi]
 have hl:EZ w i x=Bd (Bm (Cw w 4 x.proc) i x) i (C1 (Cj x)):=by
  simp only[EZ];rw[show (Bm (Cw w 4 x.proc) i x).procs.getD i x0=Cj x by simp[List.getD,hg]]
 have V1:=Ki (i:=i) h1;have gy:(Cw w 4 x.proc).Dk.length=w.Dk.length+1:=by simp[Cw]
 refine⟨by rw[hl];exact hI.nx _ _ _ h2 hg,hl,?_,by rw[hl];simp only[Bd];omega⟩;rw[hl];have:(Bd (Bm (Cw w 4 x.proc) i x) i (C1 (Cj x))).procs=w.procs.set i (C1 (Cj x)):=by simp[Bd,hp]
 unfold wcount;rw[this];exact countP_set (p:=(·.waiting)) (y:=C1 (Cj x)) rfl hx ba
def Kh(w:Aw):wcount (Co w)<=wcount w:=(Ob _ w).2
def JZ{w:Aw}(h:wcount w=0):Sf w = -1:=by
 rcases Ni w with h1|⟨k,x,_,h2,h3⟩
 ·exact h1
 ·exfalso;unfold wcount at h;rw[List.countP_eq_zero]at h;exact h x (mG h2) h3
def GD{w:Aw}(h:Sf w = -1):∀ n,MI n w=w
 | 0=>rfl
 | n+1=>by
  simp only[MI,h];split<;>simp
def OH{n:Nat}{w:Aw}{k:Nat}{x:Cd}(h:Sf w=(k:Nat))(hx:w.procs[k]?=some x):MI (n+1) w=MI n (Co (EZ w k x)):=by
 simp only[MI,h,Int.toNat_natCast,hx];rw[if_neg (by omega)]
def PX(w:Aw){i:Nat}{x:Cd}(hx:w.procs[i]?=some x)(ba:x.waiting=true):wcount (EZ w i x)+1=wcount w:=by
 have hi:=Ay hx;have hp:(Bm (Cw w 4 x.proc) i x).procs=w.procs.set i (Cj x):=Dz _ _ _;have hg:(Bm (Cw w 4 x.proc) i x).procs[i]?=some (Cj x):=by rw[hp];simp[hi]
 have:(EZ w i x).procs=w.procs.set i (C1 (Cj x)):=by
  simp only[EZ];rw[show (Bm (Cw w 4 x.proc) i x).procs.getD i x0=Cj x by simp[List.getD,hg]];simp[Bd,hp]
 unfold wcount;rw[this];exact countP_set (p:=(·.waiting)) (y:=C1 (Cj x)) rfl hx ba
def PY:∀ (n m:Nat) (w:Aw),wcount w<=n->wcount w<=m->MI n w=MI m w
 | 0,m,w,h,_=>by rw[GD (JZ (by omega)),GD (JZ (by omega))]
 | n+1,0,w,_,h=>by rw[GD (JZ (by omega)),GD (JZ (by omega))]
 | n+1,m+1,w,h1,h2=>by
  rcases Ni w with h|⟨k,x,h,hx,ba⟩
  ·rw[GD h,GD h]
  ·rw[OH h hx,OH h hx];have h3:=PX w hx ba;have h4:=Kh (EZ w k x);exact PY n m _ (by omega) (by omega)
def RZ(w:Aw):Aw:=MI (wcount w) w
def ck{w:Aw}{k:Nat}{x:Cd}(h:Sf w=(k:Nat))(hx:w.procs[k]?=some x)(ba:x.waiting=true):RZ w=RZ (Co (EZ w k x)):=by
 have h3:=PX w hx ba;have h4:=Kh (EZ w k x);unfold RZ;rw[<- h3,OH h hx];exact PY _ _ _ (by omega) (by omega)
def K5(w:Aw)(n:Int):Aw × Int :=
 if decide (n<0)||decide (1000<n) then (w,1) else if decide (1073741824-n<w.now) then (w,16) else (RZ { w with now:=w.now+n },0)
def ow(Inv:Aw->Prop)(hI:iZ Inv)(w:Aw)(n:Int)(hw:∀ t,Inv { w with now:=t })(x9:0<=w.now)(V1:w.Dk.length+3500*wcount w<=900000):Ac C0 220 [.ptr 63 0,I n] [(63,w.c)] (I (K5 w n).2) [(63,(K5 w n).1.c)]:=by
 refine Ac.go f220 ?_;unfold f220;refine gO ?_;cases h1:decide (n<0);rotate_left
 ·have hn:n<0:=by simpa using h1
  have ht:K5 w n=(w,1):=by simp[K5,hn]
  rw[ht];simp(disch:=omega)only[go_sem,h1];refine CE ⟨[(0,0),(1,1)],[(63,63)],[]⟩ _ ?_ ?_
  ·exact gI
  ·exact gI
 cases h2:decide (1000<n);rotate_left
 ·have hn:1000<n:=by simpa using h2
  have ht:K5 w n=(w,1):=by simp[K5,hn]
  rw[ht];simp(disch:=omega)only[go_sem,h1,h2];refine CE ⟨[(0,0),(1,1)],[(63,63)],[]⟩ _ ?_ ?_
  ·exact gI
  ·exact gI
 have gH:0<=n:=by simpa using h1
 have bX:n<=1000:=by simpa using h2
 cases h3:decide (1073741824-n<w.now);rotate_left
 ·have hn:1073741824-n<w.now:=by simpa using h3
  have ht:K5 w n=(w,16):=by simp only[K5,h1,h2,h3];rfl
  rw[ht];simp(disch:=omega)only[go_sem,h1,h2,h3];refine CE ⟨[(0,0),(1,1)],[(63,63)],[]⟩ _ ?_ ?_
  ·exact gI
  ·exact gI
 have hn3:w.now<=1073741824-n:=by simpa using h3
 have ht:K5 w n=(RZ { w with now:=w.now+n },0):=by simp only[K5,h1,h2,h3];rfl
 rw[ht];have b8:=hw (w.now+n);simp(disch:=omega)only[go_sem,h1,h2,h3];have tS:({ w with now:=w.now+n }:Aw).Dk.length+3500*wcount { w with now:=w.now+n }<=900000:=V1;have QW:=(hI.bK _ b8).2.1;refine call2 ⟨⟨[(0,0),(1,1)],[(63,63)],[]⟩,[],[]⟩ (dV { w with now:=w.now+n } (Nat.le_trans QW (by decide))) ?_;generalize ({ w with now:=w.now+n }:Aw)=w0 at b8 tS ⊢;clear QW;refine gO ?_;refine Ao (α:=Aw) (λw'=>⟨[(5,I (Sf w')),(0,.ptr 63 0)],[(63,w'.c)]⟩) (λw'=>Inv w'/\RZ w'=RZ w0/\w'.Dk.length+3500*wcount w'<=900000) (λw'=>wcount w') w0 ⟨b8,rfl,tS⟩ AS ?_;clear b8 tS hw V1 x9 ht h1 h2 h3 gH bX hn3;rintro w1 ⟨hw,rM,V1⟩ J hJ;obtain⟨hf,hp,hr⟩:=hI.bK w1 hw;rcases Ni w1 with hs|⟨o,x,hs,hx,ba⟩
 ·simp(disch:=omega)only[go_sem,hs];rw[<- rM,show RZ w1=w1 from GD hs _];refine CE ⟨[(0,0),(1,1)],[(63,63)],[]⟩ _ ?_ ?_
  ·exact gI
  ·exact gI
 ·obtain⟨i1,i2,i3,i4⟩:=T8 hI hw hx ba;have kM:=ck hs hx ba;obtain⟨j1,j2⟩:Inv (Co (EZ w1 o x))/\(Co (EZ w1 o x)).Dk.length+1700*wcount (Co (EZ w1 o x))<=(EZ w1 o x).Dk.length+1700*wcount (EZ w1 o x):=JU hI.toI6 (wcount (EZ w1 o x)) (EZ w1 o x) i1;have j3:=Kh (EZ w1 o x);have hn:=hI.ev w1 4 x.proc hw;obtain⟨k1,k2⟩:=hI.wd (Cw w1 4 x.proc) o x hn hx ba;have hi:=Ay hx;have hg:(Bm (Cw w1 4 x.proc) o x).procs[o]?=some (Cj x):=by rw[Dz];simp[Cw,hi]
  have gy:(Cw w1 4 x.proc).Dk.length=w1.Dk.length+1:=by simp[Cw]
  simp(disch:=omega)only[go_sem,hs,eq_true (show (0:Int)<=(o:Int) by omega),decide_true,gm,hx];refine call2 ⟨⟨[(0,0),(1,1)],[(63,63)],[]⟩,[],[]⟩ (XC w1 4 x.proc (by omega)) ?_;refine gO ?_;refine call2 ⟨⟨[(0,0),(1,1)],[(63,63)],[]⟩,[],[]⟩ (Xx (Cw w1 4 x.proc) o x hx k1 (by omega)) ?_;refine gO ?_;refine call2 ⟨⟨[(0,0),(1,1)],[(63,63)],[]⟩,[],[]⟩ (JJ (Bm (Cw w1 4 x.proc) o x) o (Cj x) hg) ?_;rw[<- i2];refine gO ?_;refine call2 ⟨⟨[(0,0),(1,1)],[(63,63)],[]⟩,[],[]⟩ (Ll Inv hI.toI6 (EZ w1 o x) i1 (by omega)) ?_;refine gO ?_;have hp4:=(hI.bK _ j1).2.1;refine call2 ⟨⟨[(0,0),(1,1)],[(63,63)],[]⟩,[],[]⟩ (dV (Co (EZ w1 o x)) (Nat.le_trans hp4 (by decide))) ?_;refine gO ?_;exact hJ _ (Co (EZ w1 o x)) ⟨j1,kM.symm.trans rM,by omega⟩ (by omega) AS
def Gy(w:Aw)(p:Ad)(a:Atom)(prio:Int):Aw:=CU w (Et w.Aa p a prio).1 (Et w.Aa p a prio).2.1
def De(w:Aw)(p:Ad)(prio:Int)(az:List Atom):Aw:=az.foldl (λw a=>Gy w p a prio) w
def Pe{w:Aw}{p:Ad}{prio:Int}{az:List Atom}{i:Nat}{b:Atom}(hb:az[i]?=some b):De w p prio (az.take (i+1))=Gy (De w p prio (az.take i)) p b prio:=by
 simp[De,take_add_one,hb,foldl_append]
def Yw(w:Aw)(p:Ad)(prio:Int)(az:List Atom):Prop:=∀ i,i<az.length->Ei (De w p prio (az.take i)).Aa
def Mm{w:Aw}{p:Ad}{prio:Int}{az:List Atom}(h:Yw w p prio az):∀ i,i<=az.length->(De w p prio (az.take i)).Dk.length<=w.Dk.length+101*i
 | 0,_=>by simp[De]
 | i+1,hi=>by
  obtain⟨b,hb⟩:∃ b,az[i]?=some b:=⟨_,gE (by omega)⟩;have h1:=Mm h i (by omega);have h2:=Tm (h i (by omega)) p b prio;rw[Pe hb];simp only[Gy,CU,List.length_append];omega
def J3(w:Aw)(p:Ad)(prio:Int):∀ az:List Atom,(De w p prio az).procs=w.procs
 |[]=>rfl
 | a::az=>J3 (Gy w p a prio) p prio az
def I4(w:Aw):wcount w<=w.procs.length:=List.countP_le_length
def Mh(now:Int)(x:Cd)(r:aY):Cd:=C1 { x with waiting:=true,BQ:=r,since:=now }
def UX(w:Aw)(i:Nat)(x:Cd)(r:aY):Aw:=De (Bd w i (Mh w.now x r)) x.proc r.prio (Al r.expr)
def EB(w:Aw)(i:Nat)(x:Cd)(r:aY):Aw × Int :=
 if x.waiting then (w,14) else if JS r then (if Dp (Hq w.Aa) r.expr=0 then (Co (UX w i x r),0) else (w,Dp (Hq w.Aa) r.expr)) else (w,1)
def ox(Inv:Aw->Prop)(hI:I6 Inv)(w:Aw)(i:Nat)(x:Cd)(r:aY)(hx:w.procs[i]?=some x)(hf:Ei w.Aa)
 (hc:x.waiting=false->JS r=true->Dp (Hq w.Aa) r.expr=0->Yw (Bd w i (Mh w.now x r)) x.proc r.prio (Al r.expr)/\Inv (UX w i x r))
 (hp:w.procs.length<=8) (V1:w.Dk.length<=500000) :
 Ac C0 221 [.ptr 63 0,I i,.agg r.c] [(63,w.c)] (I (EB w i x r).2) [(63,(EB w i x r).1.c)]:=by
 have hi:=Ay hx;have SQ:=C3 r.expr;have hn:=hf.n;refine Ac.go f221 ?_;unfold f221;simp(disch:=omega)only[go_sem,gm,hx];cases h1:x.waiting;rotate_left
 ·have ht:EB w i x r=(w,14):=by simp[EB,h1]
  rw[ht];simp(disch:=omega)only[go_sem,h1];refine CE ⟨[(0,0),(1,1)],[(63,63)],[]⟩ _ ?_ ?_
  ·exact gI
  ·exact gI
 simp(disch:=omega)only[go_sem,h1];refine Ab (Xq r) ?_;cases h2:JS r
 ·have ht:EB w i x r=(w,1):=by simp[EB,h1,h2]
  rw[ht];simp(disch:=omega)only[go_sem,h2,Bool.not_false];refine CE ⟨[(0,0),(1,1)],[(63,63)],[]⟩ _ ?_ ?_
  ·exact gI
  ·exact gI
 simp(disch:=omega)only[go_sem,h2,Bool.not_true];refine Av 8 [([],[0]),([],[25]),([],[26]),([],[27]),([],[28]),([],[29]),([],[5]),([],[31])] B7 ?_;refine gO ?_
 first|(refine Ab (SH w.Aa (by omega)) ?_)|(refine Aq (SH w.Aa (by omega)) ?_)
 refine gO ?_
 first|(refine Ab (SG (Hq w.Aa) r.expr) ?_)|(refine Aq (SG (Hq w.Aa) r.expr) ?_)
 refine gO ?_
 by_cases h3:Dp (Hq w.Aa) r.expr=0
 rotate_left
 ·have ht:EB w i x r=(w,Dp (Hq w.Aa) r.expr):=by simp[EB,h1,h2,h3]
  rw[ht];have UP:(Dp (Hq w.Aa) r.expr !=0)=true:=by simpa using h3
  simp(disch:=omega)only[go_sem,UP];refine CE ⟨[(0,0),(1,1)],[(63,63)],[]⟩ _ ?_ ?_
  ·exact gI
  ·exact gI
 obtain⟨c1,c2⟩:=hc h1 h2 h3;have ht:EB w i x r=(Co (UX w i x r),0):=by simp[EB,h1,h2,h3]
 rw[ht];simp(disch:=omega)only[go_sem,h3,gm,hx];refine D4 (st':=⟨[(5,.ptr 320 0),(0,.ptr 63 0),(1,I i)],[(320,r.c),(63,(Bd w i { x with waiting:=true }).c)]⟩) (AQ.An gI (by simp(disch:=omega)only[go_sem,Bd];exact .sl (by rw[map_set];rfl))) ?_;refine Av 7 [([],[0]),([],[45]),([],[46]),([],[47]),([],[48]),([],[1]),([],[5])] B7 ?_;simp(disch:=omega)only[go_sem,Bd,gm,List.getElem?_set,List.length_map,hi];refine D4 (st':=⟨[(5,.ptr 320 0),(0,.ptr 63 0),(1,I i)],[(320,r.c),(63,(Bd w i { x with waiting:=true,BQ:=r }).c)]⟩) (AQ.An gI (by simp(disch:=omega)only[go_sem,Bd];exact .sl (by simp only[map_set,set_set];rfl))) ?_;refine Av 11 [([],[0]),([],[54]),([],[55]),([],[56]),([],[57]),([],[1]),([],[0]),([],[60]),([],[61]),([],[62]),([],[63])] B7 ?_;simp(disch:=omega)only[go_sem,Bd,gm,List.getElem?_set,List.length_map,hi];have kQ:(Bd w i { x with waiting:=true,BQ:=r,since:=w.now }).procs[i]?=some { x with waiting:=true,BQ:=r,since:=w.now }:=by simp[Bd,hi]
 refine call2 ⟨⟨[(0,0),(1,1)],[(63,63)],[]⟩,[],[]⟩ (JJ (Bd w i { x with waiting:=true,BQ:=r,since:=w.now }) i _ kQ) ?_ (hh:=?_);rotate_left
 ·simp only[Bd];refine gO ?_;exact .sl (by simp only[map_set,set_set];rfl)
 have e3:Bd (Bd w i { x with waiting:=true,BQ:=r,since:=w.now }) i (C1 { x with waiting:=true,BQ:=r,since:=w.now })=Bd w i (Mh w.now x r):=by simp[Bd,Mh]
 rw[e3];have tT:(Bd w i (Mh w.now x r)).Dk.length=w.Dk.length:=rfl;have pN:(Bd w i (Mh w.now x r)).procs[i]?=some (Mh w.now x r):=by simp[Bd,hi]
 unfold UX at c2 ⊢;obtain⟨y,hy,hyp⟩:∃ y,y=Mh w.now x r/\y.proc=x.proc:=⟨_,rfl,rfl⟩;rw[<- hy]at pN c1 c2 tT ⊢;rw[<- hyp]at c1 c2 ⊢;generalize Bd w i y=w4 at c1 c2 tT pN ⊢;clear kQ e3 ht hc h3 h2 h1;refine gO ?_;refine Ab (Nt r.expr) ?_;obtain⟨o,rfl⟩:∃ o,o=i:=⟨i,rfl⟩;generalize Al r.expr=az at c1 c2 SQ ⊢;refine gO ?_;refine AH (az) (λi=>⟨[(9,I i),(8,BN az),(0,.ptr 63 0),(1,I o),(5,.ptr 320 0)],[(63,(De w4 y.proc r.prio (az.take i)).c),(320,r.c)]⟩) (λi=>True) trivial ?_ ?_
 ·refine AQ.An ?_ ?_
  all_goals(try simp(disch:=omega)only[go_sem])
  all_goals(try(repeat'(with_reducible apply And.intro)))
  all_goals(first|exact .AU (by omega)|exact .AD (by omega)|exact .sl (by simp[De])|exact .int (by simp[De])|exact .eq (by simp[De]))
 rintro i ⟨hi,hP⟩ J hJ;refine gO ?_;refine Bp hi (λAu b hb Cc AR=>?_) λBf=>?_
 ·have g1:=Mm c1 i hi;have g2:=Tm (c1 i AR) y.proc b r.prio;have g3:(De w4 y.proc r.prio (az.take i)).procs[o]?=some y:=by rw[J3];exact pN
  have g4:=Pe (w:=w4) (p:=y.proc) (prio:=r.prio) hb;have g5:=c1 i AR;generalize De w4 y.proc r.prio (az.take i)=w5 at g1 g2 g3 g4 g5 ⊢;refine Av 27 [([],[0]),([],[80]),([],[81]),([],[82]),([],[83]),([],[0]),([],[85]),([],[86]),([],[87]),([],[88]),([],[1]),([],[89,90]),([],[91]),([],[92]),([],[8]),([],[9]),([],[94,95]),([],[96]),([],[5]),([],[98]),([],[84,93,97,99]),([20],[100]),([20],[79]),([20],[79]),([20],[79]),([20],[101]),([20],[102])] B7 ?_;simp(disch:=omega)only[go_sem,gm,hb,g3]
  first|(refine Ab (dW w5.Aa y.proc b r.prio g5) ?_)|(refine Aq (dW w5.Aa y.proc b r.prio g5) ?_)
  refine gO ?_;refine call2 ⟨⟨[(0,0),(1,1)],[(63,63)],[]⟩,[],[]⟩ (Lm w5 (Et w5.Aa y.proc b r.prio).1 (Et w5.Aa y.proc b r.prio).2.1 (by omega)) ?_;refine gO ?_;refine hJ _ (i+1) ⟨by omega,trivial⟩ (by omega) (AQ.An ?_ ?_)
  ·exact gI
  ·rw[g4];unfold Gy;simp(disch:=omega)only[go_sem]
 ·subst Bf;rw[take_length];have g1:=Mm c1 _ (le_refl _);rw[take_length]at g1;obtain⟨k1,k2,k3⟩:=hI.bK _ c2;have k4:=I4 (De w4 y.proc r.prio az);refine call2 ⟨⟨[(0,0),(1,1)],[(63,63)],[]⟩,[],[]⟩ (Ll Inv hI (De w4 y.proc r.prio az) c2 (by omega)) ?_;refine gO ?_;refine CE ⟨[(0,0),(1,1)],[(63,63)],[]⟩ _ ?_ ?_
  ·exact gI
  ·exact gI
end Go.Rd
