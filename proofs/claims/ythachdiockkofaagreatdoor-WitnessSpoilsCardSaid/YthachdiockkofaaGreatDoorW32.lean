/- part 32 of the proof -/
import Derived.Test.YthachdiockkofaaGreatDoorW30
import Derived.Test.YthachdiockkofaaGreatDoorW31
set_option linter.all false
open Go Go.Abs Go.Proofs
set_option maxRecDepth 100000
namespace Go.Rd
set_option maxHeartbeats 8000000
open List (length_map map_cons map_set mem_append mem_map set_cons_succ set_set)
open Bool (and_eq_true false_eq_true)
open Option (getD_some or_none)
open Tryz
def PE(w:Av)(x:Pcs)(name:Bs):Prop:=∃ k,Cg w.Aa name=some k∧DZ w.Aa∧k<(EP w x name k).Aa.length∧DZ (EP w x name k).Aa
theorem Y8(w:Av)(x:Pcs)(name:Bs)(h:PE w x name)(hev:w.CL.length≤1000000):Ad C0 185 [.ptr 63 0,.agg x.c,.v (.string (str name))] [(63,w.c)] (.tup []) [(63,(Fv w x name).c)]:=by
 obtain⟨k,h1,h2,h3,h4⟩:=h;exact f185_ok w x name k h1 h2 hev h3 h4
theorem RI{w:Av}{x:Pcs}{name:Bs}(h:PE w x name):(Fv w x name).CL.length≤w.CL.length+201:=by
 obtain⟨k,h1,h2,h3,h4⟩:=h;have c1:=OJ h2 x.proc name;have c2:=Gz h4 x.proc ⟨name,AF x.led.entries name⟩;have c3:(EP w x name k).CL.length≤w.CL.length+100:=by
  unfold EP;split
  ·simp[CB];omega
  ·omega
 simp only[Fv,h1];unfold MV;split
 ·omega
 ·simp only[CB,List.length_append];omega
theorem Ik(w:Av)(x:Pcs)(name:Bs):(Fv w x name).procs=w.procs:=by
 unfold Fv;split
 ·rfl
 ·unfold MV EP;split<;>split<;>rfl
def En(w:Av)(x:Pcs)(az:List Atom):Av:=az.foldl (fun w a=>Fv w x a.name) w
theorem OP{w:Av}{x:Pcs}{az:List Atom}{i:Nat}{b:Atom}(hb:az[i]?=some b):En w x (az.take (i+1))=Fv (En w x (az.take i)) x b.name:=by
 simp[En,List.take_add_one,hb,List.foldl_append]
theorem Ht(w:Av)(x:Pcs):∀ az:List Atom,(En w x az).procs=w.procs
 |[]=>rfl
 | a::az=>by
  show (En (Fv w x a.name) x az).procs=w.procs;rw[Ht,Ik]
def L3(w:Av)(x:Pcs)(az:List Atom):Prop:=∀ i b,az[i]?=some b→PE (En w x (az.take i)) x b.name
theorem Mc{w:Av}{x:Pcs}{az:List Atom}(h:L3 w x az):∀ i,i≤az.length→(En w x (az.take i)).CL.length≤w.CL.length+201*i
 | 0,_=>by simp[En]
 | i+1,hi=>by
  obtain⟨b,hb⟩:∃ b,az[i]?=some b:=⟨_,gE (by omega)⟩;have h1:=Mc h i (by omega);have h2:=RI (h i b hb);rw[OP hb];omega
def A5(w:Av)(i:Nat)(x:Pcs):Av:=AX (En w x (Ag x.req.expr)) i (BV x)
theorem f120_ok(w:Av)(i:Nat)(x:Pcs)(hx:w.procs[i]?=some x)(hs:L3 w x (Ag x.req.expr))(hev:w.CL.length≤900000):Ad C0 120 [.ptr 63 0,I i] [(63,w.c)] (.tup []) [(63,(A5 w i x).c)]:=by
 have hal:=Cj x.req.expr;refine Ad.go f120 ?_;unfold f120;simp(disch:=omega)only[go_sem,gm,hx];refine Ac (f93_ok x.req.expr) ?_;obtain⟨o,rfl⟩:∃ o,o=i:=⟨i,rfl⟩;refine gO ?_;unfold A5;generalize Ag x.req.expr=az at hs hal ⊢;refine Ab (α:=Nat) (fun i=>⟨[(6,I i),(5,Bv az),(0,.ptr 63 0),(1,I o),(4,.ptr 256 0)],[(63,(En w x (az.take i)).c),(256,x.c)]⟩) (fun i=>i≤(az).length∧True) (fun i=>(az).length-i) 0 ⟨by omega,trivial⟩ ?_ ?_
 ·refine Imp.Am ?_ ?_
  all_goals(try simp(disch:=omega)only[go_sem])
  all_goals(try(repeat'(with_reducible apply And.intro)))
  all_goals(first|exact .AG (by omega)|exact .Az (by omega)|exact .sl (by simp[En])|exact .int (by simp[En])|exact .eq (by simp[En]))
 rintro i ⟨hi,hP⟩ J hJ;refine gO ?_;refine ⟨fun hlt=>?_,fun hge=>?_⟩;rotate_left;have hil:i=(az).length:=by simp at hge;omega
 rotate_left;obtain⟨b,hb⟩:∃ b,(az)[i]?=some b:=⟨_,gE (by simp at hlt;omega)⟩;have hbm:=mG hb;have hlt2:i<(az).length:=by simp at hlt;omega
 ·have h1:=Mc hs i hi;refine Aq 7 [([],[0]),([],[4]),([],[5]),([],[6]),([],[27,28]),([],[29]),([],[30])] fol ?_;simp(disch:=omega)only[go_sem,gm,hb];refine call2 ⟨⟨[(0,0),(1,1)],[(63,63)],[]⟩,[],[]⟩ (Y8 (En w x (az.take i)) x b.name (hs i b hb) (by omega)) ?_;rw[← OP hb];refine gO ?_;refine hJ _ (i+1) ⟨by simp at hlt;omega,trivial⟩ (by simp at hlt;omega) AR
 ·subst hil;rw[List.take_length];have hx2:(En w x az).procs[o]?=some x:=by rw[Ht];exact hx
  refine call2 ⟨⟨[(0,0),(1,1)],[(63,63)],[]⟩,[],[]⟩ (f186_ok (En w x az) o x hx2) ?_;refine gO ?_;refine Ci ⟨[(0,0),(1,1)],[(63,63)],[]⟩ _ ?_ ?_
  ·exact gI
  ·exact gI
def Nt(w:Av)(x:Pcs):Bool:=x.waiting&&DR x.req.expr (BI w.Aa x.proc x.req.expr)
def Ka(w:Av):Option Nat:=w.procs.findIdx? (Nt w)
def SG(w:Av):Prop:=∀ x∈w.procs,x.waiting=true→A4 x.req.expr=true
theorem f188_ok(w:Av)(h:DZ w.Aa)(hp:w.procs.length≤1000000)(hr:SG w):Ad C0 188 [.ptr 63 0] [(63,w.c)] (I (atI (Ka w))) [(63,w.c)]:=by
 refine Ad.go f188 ?_;unfold f188;refine gO ?_;refine Ab (α:=Nat) (fun i=>⟨[(3,I i),(0,.ptr 63 0)],[(63,w.c)]⟩) (fun i=>i≤(w.procs).length∧(w.procs.take i).find? (Nt w)=none) (fun i=>(w.procs).length-i) 0 ⟨by omega,rfl⟩ ?_ ?_
 ·exact BB
 rintro i ⟨hi,hP⟩ J hJ;refine gO ?_;refine ⟨fun hlt=>?_,fun hge=>?_⟩;rotate_left;have hil:i=(w.procs).length:=by simp at hge;omega
 rotate_left;obtain⟨b,hb⟩:∃ b,(w.procs)[i]?=some b:=⟨_,gE (by simp at hlt;omega)⟩;have hbm:=mG hb;have hlt2:i<(w.procs).length:=by simp at hlt;omega
 ·simp(disch:=omega)only[go_sem,gm,hb];cases hw:b.waiting
  ·have hs:Nt w b=false:=by simp[Nt,hw]
   refine Aq 17 [([],[4]),([],[23]),([],[24]),([],[4,25]),([],[26,25]),([],[27,25]),([],[0,25]),([],[29,25]),([],[30,25]),([],[31,25]),([],[32,25]),([],[4,25]),([],[34,25]),([],[4,25]),([],[36,25]),([],[37,25]),([],[33,35,38,25])] fol ?_;simp(disch:=omega)only[go_sem,hw];refine hJ _ (i+1) ⟨by simp at hlt;omega,(by rw[BS hP hb];simp[hs])⟩ (by simp at hlt;omega) AR
  ·have he:=hr b hbm hw;refine Aq 17 [([],[4]),([],[23]),([],[24]),([],[4,25]),([],[26,25]),([],[27,25]),([],[0,25]),([],[29,25]),([],[30,25]),([],[31,25]),([],[32,25]),([],[4,25]),([],[34,25]),([],[4,25]),([],[36,25]),([],[37,25]),([],[33,35,38,25])] fol ?_;simp(disch:=omega)only[go_sem,hw]
   first|(refine Ac (f179_ok w.Aa b.proc b.req.expr h) ?_)|(refine Ar (f179_ok w.Aa b.proc b.req.expr h) ?_)
   simp(disch:=omega)only[go_sem]
   first|(refine Ac (f160_ok b.req.expr (BI w.Aa b.proc b.req.expr) he) ?_)|(refine Ar (f160_ok b.req.expr (BI w.Aa b.proc b.req.expr) he) ?_)
   cases hh:DR b.req.expr (BI w.Aa b.proc b.req.expr)
   ·have hs:Nt w b=false:=by simp[Nt,hw,hh]
    refine gO ?_;refine hJ _ (i+1) ⟨by simp at hlt;omega,(by rw[BS hP hb];simp[hs])⟩ (by simp at hlt;omega) AR
   ·have hs:Nt w b=true:=by simp[Nt,hw,hh]
    have e:Ka w=some i:=FA hP b hb hs;simp(disch:=omega)only[go_sem,e,atI];refine Ci ⟨[(0,0),(1,1)],[(63,63)],[]⟩ _ ?_ ?_
    ·exact gI
    ·exact gI
 ·subst hil;rw[List.take_length]at hP;have e:Ka w=none:=by
   unfold Ka;rw[List.findIdx?_eq_none_iff];rw[List.find?_eq_none]at hP;intro x hx;simpa using hP x hx
  simp(disch:=omega)only[go_sem,e,atI];refine Ci ⟨[(0,0),(1,1)],[(63,63)],[]⟩ _ ?_ ?_
  ·exact gI
  ·exact gI
def GW(w:Av)(i:Nat)(x:Pcs)(keep:Bool)(name:Bs):Av:=if !keep then Fv w x name else match Cg w.Aa name with
 |none=>w
 |some k=>if decide (AB (w.Aa.getD k q0).holds x.proc=AF (w.procs.getD i x0).led.entries name) then w
  else AX w i { w.procs.getD i x0 with led:=(GJ (w.procs.getD i x0).led ⟨name,AF (w.procs.getD i x0).led.entries name,AB (w.Aa.getD k q0).holds x.proc⟩).1 }
def Dv(w:Av)(i:Nat)(x:Pcs)(kl:List (Bool × Atom)):Av:=kl.foldl (fun w p=>GW w i x p.1 p.2.name) w
def DC(w:Av)(i:Nat)(x:Pcs):Av :=
 let w1:=Dv (Cb w 2 x.proc) i x ((DV x.req.expr (BI w.Aa x.proc x.req.expr)).zip (Ag x.req.expr))
 let w2:=AX w1 i (BV (w1.procs.getD i x0))
 AX w2 i (CF (w2.procs.getD i x0))
def Fo:Nat→Av→Av
 | 0,w=>w
 | n+1,w=>match Ka w with
  |none=>w
  |some i=>Fo n (DC w i (w.procs.getD i x0))
def bP(w:Av)(x:Pcs)(kp:Bool)(name:Bs):Prop:=(kp=false→PE w x name)∧(kp=true→DZ w.Aa∧∃ k,Cg w.Aa name=some k)
theorem Z9(w:Av)(i:Nat)(x:Pcs):(AX w i x).procs.length=w.procs.length:=by simp[AX]
theorem Uv(w:Av)(i:Nat)(x:Pcs)(kp:Bool)(name:Bs):(GW w i x kp name).procs.length=w.procs.length:=by
 unfold GW;split
 ·rw[Ik]
 ·split
  ·rfl
  ·split
   ·rfl
   ·exact Z9 _ _ _
theorem O1{w:Av}{i:Nat}{x:Pcs}{kl:List (Bool × Atom)}{j:Nat}{p:Bool × Atom}(hp:kl[j]?=some p):Dv w i x (kl.take (j+1))=GW (Dv w i x (kl.take j)) i x p.1 p.2.name:=by
 simp[Dv,List.take_add_one,hp,List.foldl_append]
theorem JJ(w:Av)(i:Nat)(x:Pcs):∀ kl:List (Bool × Atom),(Dv w i x kl).procs.length=w.procs.length
 |[]=>rfl
 | p::kl=>by
  show (Dv (GW w i x p.1 p.2.name) i x kl).procs.length=w.procs.length;rw[JJ,Uv]
def SI(w:Av)(i:Nat)(x:Pcs)(kl:List (Bool × Atom)):Prop:=∀ j p,kl[j]?=some p→bP (Dv w i x (kl.take j)) x p.1 p.2.name
theorem X8{w:Av}{i:Nat}{x:Pcs}{kp:Bool}{name:Bs}(h:bP w x kp name):(GW w i x kp name).CL.length≤w.CL.length+201:=by
 unfold GW;cases kp
 ·have:=RI (h.1 rfl);simpa using this
 ·simp only[Bool.not_true,false_eq_true,if_false];split
  ·omega
  ·split
   ·omega
   ·simp[AX]
theorem JI{w:Av}{i:Nat}{x:Pcs}{kl:List (Bool × Atom)}(h:SI w i x kl):∀ j,j≤kl.length→(Dv w i x (kl.take j)).CL.length≤w.CL.length+201*j
 | 0,_=>by simp[Dv]
 | j+1,hj=>by
  obtain⟨p,hp⟩:∃ p,kl[j]?=some p:=⟨_,gE (by omega)⟩;have h1:=JI h j (by omega);have h2:=X8 (i:=i) (h j p hp);rw[O1 hp];omega
def wcount(w:Av):Nat:=w.procs.countP (·.waiting)
def B0(w:Av):Av:=Fo (wcount w) w
structure HO(Inv:Av→Prop):Prop where
 few:∀ w,Inv w→DZ w.Aa∧w.procs.length≤8∧SG w
 safe:∀ w i x,Inv w→Ka w=some i→w.procs[i]?=some x→SI (Cb w 2 x.proc) i x ((DV x.req.expr (BI w.Aa x.proc x.req.expr)).zip (Ag x.req.expr))
 next:∀ w i x,Inv w→Ka w=some i→w.procs[i]?=some x→Inv (DC w i x)
theorem HJ{w:Av}{i:Nat}(h:Ka w=some i):∃ x,w.procs[i]?=some x∧Nt w x=true:=by
 unfold Ka at h;rw[List.findIdx?_eq_some_iff_getElem]at h;obtain⟨h1,h2,_⟩:=h;exact⟨_,gE h1,h2⟩
theorem Nz{α:Type}:∀ {l:List α} {i:Nat} {z:α},l[i]?=some z→l.set i z=l
 |[],_,_,h=>by simp at h
 | a::l,0,z,h=>by simp at h;simp[h]
 | a::l,i+1,z,h=>by
  simp only[set_cons_succ];rw[Nz (by simpa using h)]
theorem countP_set{α:Type}{p:α→Bool}{y:α}(hy:p y=false):∀ {l:List α} {i:Nat} {z:α},l[i]?=some z→p z=true→(l.set i y).countP p+1=l.countP p
 |[],_,_,h,_=>by simp at h
 | a::l,0,z,h,hz=>by
  simp at h;subst h;simp[List.countP_cons,hy,hz]
 | a::l,i+1,z,h,hz=>by
  have:=countP_set hy (l:=l) (i:=i) (z:=z) (by simpa using h) hz;simp only[set_cons_succ,List.countP_cons];omega
theorem Oc{w:Av}{i:Nat}{x z:Pcs}(hz:w.procs[i]?=some z):∀ (kl:List (Bool × Atom)) (w':Av),(∃ l',w'.procs=w.procs.set i { z with led:=l' })→∃ l',(Dv w' i x kl).procs=w.procs.set i { z with led:=l' }
 |[],_,h=>h
 | p::kl,w',h=>by
  refine Oc hz kl (GW w' i x p.1 p.2.name) ?_;obtain⟨l',hl⟩:=h;have hi:=At hz;have hg:w'.procs[i]?=some { z with led:=l' }:=by rw[hl];simp[hi]
  unfold GW;split
  ·exact⟨l',by rw[Ik,hl]⟩
  ·split
   ·exact⟨l',hl⟩
   ·split
    ·exact⟨l',hl⟩
    ·have hgd:w'.procs.getD i x0 = { z with led:=l' }:=by simp[List.getD,hg]
     rw[hgd];exact⟨_,by simp only[AX,hl,set_set];rfl⟩
theorem IK{w:Av}{i:Nat}{x:Pcs}(hx:w.procs[i]?=some x):∃ y,(DC w i x).procs=w.procs.set i y∧y.waiting=false∧y.proc=x.proc:=by
 obtain⟨l',hl⟩:=Oc (w:=w) (i:=i) (x:=x) (z:=x) hx ((DV x.req.expr (BI w.Aa x.proc x.req.expr)).zip (Ag x.req.expr)) (Cb w 2 x.proc) ⟨x.led,(Nz hx).symm⟩;have hi:=At hx;refine⟨CF (BV { x with led:=l' }),?_,rfl,rfl⟩;simp only[DC,AX,hl,set_set];have h1:(w.procs.set i { x with led:=l' }).getD i x0 = { x with led:=l' }:=by simp[List.getD,hi]
 rw[h1];have h2:(w.procs.set i (BV { x with led:=l' })).getD i x0=BV { x with led:=l' }:=by simp[List.getD,hi]
 rw[h2]
theorem K6{w:Av}{i:Nat}{x:Pcs}(hs:Ka w=some i)(hx:w.procs[i]?=some x)(hsat:Nt w x=true):B0 w=B0 (DC w i x)∧wcount (DC w i x)+1=wcount w:=by
 obtain⟨y,h1,h2,_⟩:=IK hx;have hwt:x.waiting=true:=by simp only[Nt,and_eq_true]at hsat;exact hsat.1
 have hc:wcount (DC w i x)+1=wcount w:=by
  unfold wcount;rw[h1];exact countP_set (p:=(·.waiting)) h2 hx hwt
 refine⟨?_,hc⟩;have hg:w.procs.getD i x0=x:=by simp[List.getD,hx]
 unfold B0;rw[← hc];simp only[Fo,hs,hg]
theorem Tu(w:Av)(o:Nat)(x:Pcs)(z:Pcs)(kp:Bool)(name:Bs)(hz:w.procs[o]?=some z):GW w o x true name=(match Cg w.Aa name with
 |none=>w
 |some k=>if decide (AB (w.Aa.getD k q0).holds x.proc=AF z.led.entries name) then w else AX w o { z with led:=(GJ z.led ⟨name,AF z.led.entries name,AB (w.Aa.getD k q0).holds x.proc⟩).1 }):=by
 have hg:w.procs.getD o x0=z:=by simp[List.getD,hz]
 unfold GW;rw[hg];rfl
theorem f122_ok(Inv:Av→Prop)(hI:HO Inv)(w:Av)(hw:Inv w)(hev:w.CL.length+1700*wcount w≤900000):Ad C0 122 [.ptr 63 0] [(63,w.c)] (.tup []) [(63,(B0 w).c)]:=by
 obtain⟨hf,hp,hr⟩:=hI.few w hw;refine Ad.go f122 ?_;unfold f122;refine gO ?_;refine call2 ⟨⟨[(0,0),(1,1)],[(63,63)],[]⟩,[],[]⟩ (f188_ok w hf (by omega) hr) ?_;refine gO ?_;refine Ab (α:=Av) (fun w'=>⟨[(2,I (atI (Ka w'))),(0,.ptr 63 0)],[(63,w'.c)]⟩) (fun w'=>Inv w'∧B0 w'=B0 w∧w'.CL.length+1700*wcount w'≤900000) (fun w'=>wcount w') w ⟨hw,rfl,hev⟩ AR ?_;clear hf hp hr hw hev;rintro w1 ⟨hw,hsw,hev⟩ J hJ;obtain⟨hf,hp,hr⟩:=hI.few w1 hw;cases hs:Ka w1 with
 |none =>
  simp(disch:=omega)only[go_sem,hs,atI];have e:B0 w1=w1:=by
   unfold B0;cases wcount w1 with
   | zero=>rfl
   | succ n=>simp only[Fo,hs]
  rw[← hsw,e];refine Ci ⟨[(0,0),(1,1)],[(63,63)],[]⟩ _ ?_ ?_
  ·exact gI
  ·exact gI
 |some o =>
  obtain⟨x,hx,hsat⟩:=HJ hs;have hks:=hI.safe w1 o x hw hs hx;simp(disch:=omega)only[go_sem,hs,atI,eq_true (show (0:Int)≤(o:Int) by omega),decide_true,gm,hx];have hnw:=f182_ok w1 2 x.proc (by omega);have hs1:DC w1 o x=(let w1':=Dv (Cb w1 2 x.proc) o x ((DV x.req.expr (BI w1.Aa x.proc x.req.expr)).zip (Ag x.req.expr));let w2:=AX w1' o (BV (w1'.procs.getD o x0));AX w2 o (CF (w2.procs.getD o x0))):=rfl;have hstep:=K6 hs hx hsat;have hnext:=hI.next w1 o x hw hs hx;have hq2:(Cb w1 2 x.proc).Aa=w1.Aa:=rfl;have hp2:(Cb w1 2 x.proc).procs=w1.procs:=rfl;have he2:(Cb w1 2 x.proc).CL.length=w1.CL.length+1:=by simp[Cb]
  generalize Cb w1 2 x.proc=w2 at hnw hks hs1 hq2 hp2 he2;rw[← hq2]at hf hks hs1;have hprune:=f189_ok x.req.expr (BI w2.Aa x.proc x.req.expr);have hkl:=Wp x.req.expr (BI w2.Aa x.proc x.req.expr);have hat:=f93_ok x.req.expr;have hal:=Cj x.req.expr;generalize DV x.req.expr (BI w2.Aa x.proc x.req.expr)=keep at hprune hkl hks hs1;generalize Ag x.req.expr=az at hat hkl hks hal hs1;refine call2 ⟨⟨[(0,0),(1,1)],[(63,63)],[]⟩,[],[]⟩ hnw ?_;refine gO ?_;refine Aq 14 [([],[3]),([],[28]),([],[29]),([],[0]),([],[31]),([],[32]),([],[33]),([],[34]),([],[3]),([],[36]),([],[3]),([],[38]),([],[39]),([],[35,37,40])] fol ?_;simp(disch:=omega)only[go_sem]
  first|(refine Ac (f179_ok w2.Aa x.proc x.req.expr hf) ?_)|(refine Ar (f179_ok w2.Aa x.proc x.req.expr hf) ?_)
  simp(disch:=omega)only[go_sem]
  first|(refine Ac hprune ?_)|(refine Ar hprune ?_)
  refine gO ?_;refine Ac hat ?_;refine gO ?_;have hzl:(keep.zip az).length=az.length:=by simp[hkl]
  have hJo:=hJ;clear hJ;refine Ab (α:=Nat) (fun i=>⟨[(6,I i),(5,Bv az),(4,GN keep),(2,I o),(0,.ptr 63 0),(3,.ptr 192 0)],[(63,(Dv w2 o x ((keep.zip az).take i)).c),(192,x.c)]⟩) (fun i=>i≤(az).length∧True) (fun i=>(az).length-i) 0 ⟨by omega,trivial⟩ ?_ ?_
  ·refine Imp.Am ?_ ?_
   all_goals(try simp(disch:=omega)only[go_sem])
   all_goals(try(repeat'(with_reducible apply And.intro)))
   all_goals(first|exact .AG (by omega)|exact .Az (by omega)|exact .sl (by simp[Dv])|exact .int (by simp[Dv])|exact .eq (by simp[Dv]))
  rintro i ⟨hi,hP⟩ J hJ;refine gO ?_;refine ⟨fun hlt=>?_,fun hge=>?_⟩;rotate_left;have hil:i=(az).length:=by simp at hge;omega
  rotate_left;obtain⟨b,hb⟩:∃ b,(az)[i]?=some b:=⟨_,gE (by simp at hlt;omega)⟩;have hbm:=mG hb;have hlt2:i<(az).length:=by simp at hlt;omega
  ·obtain⟨kp,hkp⟩:∃ kp,keep[i]?=some kp:=⟨_,gE (by omega)⟩;have hzi:(keep.zip az)[i]?=some (kp,b):=by rw[List.getElem?_zip_eq_some];exact⟨hkp,hb⟩
   have hsk:=hks i (kp,b) hzi;have hln:=JI hks i (by omega);have htk:=O1 (w:=w2) (i:=o) (x:=x) hzi;have hpl:=JJ w2 o x ((keep.zip az).take i);simp only at hsk htk;obtain⟨z,hz⟩:∃ z,(Dv w2 o x ((keep.zip az).take i)).procs[o]?=some z:=⟨_,gE (by rw[hpl,hp2];exact At hx)⟩;generalize Dv w2 o x ((keep.zip az).take i)=w3 at hsk hln htk hz ⊢;simp(disch:=omega)only[go_sem,gm,hb,hkp];cases kp
   ·simp(disch:=omega)only[go_sem,Bool.not_false];have htk2:Dv w2 o x ((keep.zip az).take (i+1))=Fv w3 x b.name:=by rw[htk];rfl
    refine call2 ⟨⟨[(0,0),(1,1)],[(63,63)],[]⟩,[],[]⟩ (Y8 w3 x b.name (hsk.1 rfl) (by omega)) ?_;rw[← htk2];refine gO ?_;refine hJ _ (i+1) ⟨by simp at hlt;omega,trivial⟩ (by simp at hlt;omega) AR
   ·obtain⟨hf3,k,hfk⟩:=hsk.2 rfl;rw[Tu w3 o x z true b.name hz,hfk]at htk;obtain⟨hk,q,hq,_⟩:=Dk hfk;have hgq:w3.Aa.getD k q0=q:=by simp[List.getD,hq]
    simp only[hgq]at htk;obtain⟨q1,q2,q3⟩:=Bb (hf3.q q (mG hq));have hn3:=hf3.n;simp(disch:=omega)only[go_sem,Bool.not_true];refine Aq 18 [([],[0]),([],[67]),([],[68]),([],[69]),([],[70]),([],[0]),([],[72]),([],[73]),([],[74]),([],[75]),([],[7]),([],[76,77]),([11],[71,78]),([11],[79]),([],[3]),([],[81]),([11],[80,82]),([],[])] fol ?_;simp(disch:=omega)only[go_sem]
    first|(refine Ac (I2 w3.Aa b.name (by omega)) ?_)|(refine Ar (I2 w3.Aa b.name (by omega)) ?_)
    simp(disch:=omega)only[go_sem,hfk,atI,gm,hq]
    first|(refine Ac (f163_ok q x.proc q1) ?_)|(refine Ar (f163_ok q x.proc q1) ?_)
    simp(disch:=omega)only[go_sem,gm,hz];refine Ac (f190_ok z.led.entries b.name) ?_;refine gO ?_;cases hH:decide (AB q.holds x.proc=AF z.led.entries b.name);rotate_left
    ·rw[hH,if_pos rfl]at htk;simp(disch:=omega)only[go_sem,hH,Bool.not_true];rw[← htk];refine hJ _ (i+1) ⟨by simp at hlt;omega,trivial⟩ (by simp at hlt;omega) AR
    rw[hH]at htk;simp only[false_eq_true,if_false]at htk;simp(disch:=omega)only[go_sem,hH,Bool.not_false];refine D7 (st':=⟨[(9,.ptr 576 0),(8,.ptr 512 0),(7,.v (.string (str b.name))),(6,I i),(5,Bv az),(4,GN keep),(2,I o),(0,.ptr 63 0),(3,.ptr 192 0)],[(512,(AB q.holds x.proc).c),(576,(AF z.led.entries b.name).c),(63,w3.c),(192,x.c)]⟩) AR ?_;refine P8 23 [([],[0]),([0],[100]),([0,1],[101]),([0,1,2],[102]),([0,1,2,3],[103]),([],[2]),([],[0]),([6],[106]),([6,7],[107]),([6,7,8],[108]),([6,7,8,9],[109]),([],[2]),([6,7,8,9,10,11],[110,111]),([6,7,8,9,10,11,12],[112]),([6,7,8,9,10,11,12,13],[113]),([],[7]),([],[9]),([],[8]),([15,16,17],[115,116,117]),([6,7,8,9,10,11,12,13,14,15,16,17,18],[114,118]),([6,7,8,9,10,11,12,13,14,15,16,17,18,19],[119]),([6,7,8,9,10,11,12,13,14,15,16,17,18,19,20],[99]),([6,7,8,9,10,11,12,13,14,15,16,17,18,19,20],[99]),([0,1,2,3,4,5,6,7,8,9,10,11,12,13,14,15,16,17,18,19,20,21],[]),([0,1,2,3,4,5,6,7,8,9,10,11,12,13,14,15,16,17,18,19,20,21,23],[]),([0,1,2,3,4,5,6,7,8,9,10,11,12,13,14,15,16,17,18,19,20,21,23,24],[])] [22] [104,105,120,99,6,5,4,2,0,3] fol (by kernel_rfl) ?_;simp (maxSteps:=1000000) (disch:=omega)only[go_sem,gm,hz]
    first|(refine Ac (f191_ok z.led ⟨b.name,AF z.led.entries b.name,AB q.holds x.proc⟩) ?_)|(refine Ar (f191_ok z.led ⟨b.name,AF z.led.entries b.name,AB q.holds x.proc⟩) ?_)
    simp (maxSteps:=1000000) (disch:=omega)only[go_sem,gm,hz];refine hJ _ (i+1) ⟨by omega,trivial⟩ (by omega) (Imp.Am ?_ ?_)
    ·exact gI
    ·rw[htk];simp(disch:=omega)only[go_sem,AX];exact .sl (by rw[map_set];rfl)
  ·subst hil;have hta:(keep.zip az).take az.length=keep.zip az:=List.take_of_length_le (by omega);rw[hta];have hpl:=JJ w2 o x (keep.zip az);have hln:=JI hks az.length (by omega);rw[hta]at hln;obtain⟨z,hz⟩:∃ z,(Dv w2 o x (keep.zip az)).procs[o]?=some z:=⟨_,gE (by rw[hpl,hp2];exact At hx)⟩;generalize Dv w2 o x (keep.zip az)=w3 at hpl hln hz hs1 ⊢;have hzi:=At hz;have hz2:(AX w3 o (BV z)).procs[o]?=some (BV z):=by simp[AX,hzi]
   have hs2:DC w1 o x=AX (AX w3 o (BV z)) o (CF (BV z)):=by
    rw[hs1];simp only;rw[show w3.procs.getD o x0=z by simp[List.getD,hz],show (AX w3 o (BV z)).procs.getD o x0=BV z by simp[List.getD,hz2]]
   have hev2:(DC w1 o x).CL.length≤w1.CL.length+1609:=by
    rw[hs2];simp only[AX];omega
   refine call2 ⟨⟨[(0,0),(1,1)],[(63,63)],[]⟩,[],[]⟩ (f186_ok w3 o z hz) ?_;refine gO ?_;refine call2 ⟨⟨[(0,0),(1,1)],[(63,63)],[]⟩,[],[]⟩ (f121_ok (AX w3 o (BV z)) o (BV z) hz2) ?_;rw[← hs2];refine gO ?_;obtain⟨hf4,hp4,hr4⟩:=hI.few _ hnext;refine call2 ⟨⟨[(0,0),(1,1)],[(63,63)],[]⟩,[],[]⟩ (f188_ok (DC w1 o x) hf4 (by omega) hr4) ?_;refine gO ?_;exact hJo _ (DC w1 o x) ⟨hnext,hstep.1.symm.trans hsw,by omega⟩ (by omega) AR
@[reducible] def I6(l:List Int):AV:=.sl .no 1 (l.map fun x=>[I x])
def DA(l:List Int)(a:Nat):List AV:=[I6 l,I a]
theorem f15_ok(l:List Int):Ad C0 15 [I6 l] [] (B (decide ((l.length:Int)≤300))) []:=by
 refine Ad.lens f15 fun hlen=>?_
 simp only[D9,lens,length_map,and_true,true_and]at hlen;refine Ad.go f15 ?_;unfold f15;simp(disch:=omega)only[go_sem,length_map];exact AE _
theorem f49_ok(l:List Int)(a:Nat)(hl:l.length≤1000000):Ad C0 49 [.ptr 63 0] [(63,DA l a)] (B (decide ((a:Int)<l.length))) [(63,DA l a)]:=by
 refine Ad.go f49 ?_;unfold f49;refine gO ?_;refine Aq 9 [([],[0]),([],[3]),([],[4]),([],[5]),([],[0]),([],[7]),([],[8]),([],[9]),([],[10])] fol ?_;simp(disch:=omega)only[go_sem,DA,length_map];refine Ci ⟨[],[(63,63)],[]⟩ _ ?_ ?_
 ·exact gI
 ·simp(disch:=omega)only[go_sem,DA]
def Ia(x n:Int):Int:=if decide (n<1) then 0 else x%n
theorem f51_ok(x n:Int)(hn:n≤2000000):Ad C0 51 [I x,I n] [] (I (Ia x n)) []:=by
 refine Ad.go f51 ?_;unfold f51;refine gO ?_;cases h1:decide (n<1);rotate_left
 ·have e:Ia x n=0:=by simp[Ia,h1]
  rw[e];simp(disch:=omega)only[go_sem,h1];exact AE _
 have hn1:1≤n:=by simpa using h1
 have e:Ia x n=x%n:=by simp only[Ia,h1];rfl
 rw[e];have he:=Int.emod_nonneg x (show n≠0 by omega);have he2:=Int.emod_lt_of_pos x (show 0<n by omega);have hr:x.tmod n=x%n∨x.tmod n=x%n-n:=by
  rw[Int.tmod_eq_emod];split
  ·left;omega
  ·right;omega
 have hn0:=eq_false (show ¬ n=0 by omega);have hw:=wrap64 (x.tmod n+n) (by omega) (by omega);generalize x.tmod n=r at hr hw;generalize x%n=m at he he2 hr ⊢;simp(disch:=omega)only[go_sem,h1,hn0];rcases hr with hr|hr
 ·have hd:decide (r<0)=false:=by simp;omega
  simp(disch:=omega)only[go_sem,hd];refine B8 _ ?_;simp(disch:=omega)only[go_sem,hr]
 ·by_cases hz:m-n<0
  ·have hd:decide (r<0)=true:=by simp;omega
   simp(disch:=omega)only[go_sem,hd,hw];refine B8 _ ?_;simp(disch:=omega)only[go_sem,hr];exact .int (by omega)
  ·omega
def Ak(l:List Int)(a:Nat)(n:Int):Int × Nat:=match l[a]? with
 |none=>(0,a)
 |some x=>(Ia x n,a+1)
theorem f37_ok(l:List Int)(a:Nat)(n:Int)(hl:l.length≤1000000)(hn:n≤2000000):Ad C0 37 [.ptr 63 0,I n] [(63,DA l a)] (I (Ak l a n).1) [(63,DA l (Ak l a n).2)]:=by
 refine Ad.go f37 ?_;unfold f37;refine gO ?_;refine Aq 9 [([],[0]),([],[5]),([],[6]),([],[7]),([],[0]),([],[9]),([],[10]),([],[11]),([],[12])] fol ?_;simp(disch:=omega)only[go_sem,DA,length_map];cases hb:l[a]? with
 |none =>
  have hla:l.length≤a:=by
   rcases Nat.lt_or_ge a l.length with h|h
   ·rw[gE h]at hb;cases hb
   ·exact h
  have e:Ak l a n=(0,a):=by simp[Ak,hb]
  rw[e];simp(disch:=omega)only[go_sem,eq_true (show (l.length:Int)≤a by omega),decide_true];refine Ci ⟨[],[(63,63)],[]⟩ _ ?_ ?_
  ·exact gI
  ·simp(disch:=omega)only[go_sem,DA]
 |some x =>
  have hla:=At hb;have e:Ak l a n=(Ia x n,a+1):=by simp[Ak,hb]
  rw[e];have hc2:((a:Int)+1-1)=(a:Int):=by omega
  simp(disch:=omega)only[go_sem,eq_false (show ¬ (l.length:Int)≤a by omega),decide_false];refine Aq 12 [([],[0]),([],[22]),([],[23]),([],[24]),([],[0]),([],[26]),([],[27]),([],[28]),([],[29]),([],[25,30]),([],[31]),([],[1])] fol ?_;simp(disch:=omega)only[go_sem,hc2,gm,hb]
  first|(refine Ac (f51_ok x n hn) ?_)|(refine Ar (f51_ok x n hn) ?_)
  refine gO ?_;refine Ci ⟨[],[(63,63)],[]⟩ _ ?_ ?_
  ·exact gI
  ·simp(disch:=omega)only[go_sem,DA]
def Np(n:Int):Ae:=⟨(n%8)%4,1,1+(n%8) / 4⟩
theorem b0(n:Int):Ad C0 22 [I n] [] (.agg (Np n).c) []:=by
 refine Ad.go f22 ?_;unfold f22;refine gO ?_;refine Ac (f51_ok n 8 (by omega)) ?_;have e:Ia n 8=n%8:=by simp[Ia]
 rw[e];have h0:=Int.emod_nonneg n (show (8:Int)≠0 by omega);have h1:=Int.emod_lt_of_pos n (show (0:Int)<8 by omega);unfold Np;generalize n%8=m at h0 h1 ⊢;have e1:m.tmod 4=m%4:=Int.tmod_eq_emod_of_nonneg h0;have e2:m.tdiv 4=m / 4:=Int.tdiv_eq_ediv_of_nonneg h0;have e3:=wrap64 (m / 4) (by omega) (by omega);have e4:=wrap64 (1+m / 4) (by omega) (by omega);simp(disch:=omega)only[go_sem,e1,e2,e3,e4];refine Ap _ ?_;refine .eq ?_;simp[EY,AV.ren,Ae.c,e2]
def Wf:List Int:=[5,5,3,4,2,1,3,5]
theorem f275_ok(n:Int):Ad C0 275 [I n] [] (I (Wf.getD (n%8).toNat 0)) []:=by
 refine Ad.go f275 ?_;unfold f275;refine gO ?_;refine Ac (f51_ok n 8 (by omega)) ?_;have e:Ia n 8=n%8:=by simp[Ia]
 rw[e];have h0:=Int.emod_nonneg n (show (8:Int)≠0 by omega);have h1:=Int.emod_lt_of_pos n (show (0:Int)<8 by omega);generalize n%8=m at h0 h1 ⊢;obtain rfl|rfl|rfl|rfl|rfl|rfl|rfl|rfl:m=0∨m=1∨m=2∨m=3∨m=4∨m=5∨m=6∨m=7:=by omega
 all_goals
  refine gO ?_;refine B8 _ ?_;exact .eq rfl
def M4(w:Av)(i:Nat)(x:Pcs):Av :=
 Cb { CB w (Ce w.Aa x.proc).1 (Ce w.Aa x.proc).2 with procs:=w.procs.eraseIdx i } 5 x.proc
def Io(w:Av)(i:Nat)(x:Pcs):Av:=B0 (M4 w i x)
theorem erase_eq{α:Type}{l:List α}{i:Nat}:l.take i++l.drop (i+1)=l.eraseIdx i:=by
 rw[List.eraseIdx_eq_take_drop_succ]
theorem WE(w:Av):wcount w≤w.procs.length:=List.countP_le_length
theorem f126_ok(Inv:Av→Prop)(hI:HO Inv)(w:Av)(i:Nat)(x:Pcs)(hx:w.procs[i]?=some x)(hp:w.procs.length≤8)(hf:DZ w.Aa)(hw:Inv (M4 w i x))(hrl:(Ce w.Aa x.proc).2.length≤100000)(hev:w.CL.length≤500000):Ad C0 126 [.ptr 63 0,I i] [(63,w.c)] (.tup []) [(63,(Io w i x).c)]:=by
 have hi:=At hx;refine Ad.mk' [33] (fn:=f126) (c:=f126.body.getD .skip) (by kernel_rfl) (by kernel_rfl) (by kernel_rfl) (by kernel_rfl) (by simp[f126]) (by simp[names]) ?_;unfold f126;simp(disch:=omega)only[go_sem,gm,hx];refine Aq 10 [([],[0]),([],[0]),([],[15]),([],[16]),([],[17]),([],[18]),([],[4]),([],[19,20]),([7],[21]),([7],[21])] fol ?_;simp(disch:=omega)only[go_sem]
 first|(refine Ac (f196_ok w.Aa x.proc hf) ?_)|(refine Ar (f196_ok w.Aa x.proc hf) ?_)
 refine gO ?_;refine call2 ⟨⟨[(0,0),(1,1)],[(63,63)],[]⟩,[],[]⟩ (f184_ok w (Ce w.Aa x.proc).1 (Ce w.Aa x.proc).2 (by omega)) ?_;have e0:M4 w i x=Cb { CB w (Ce w.Aa x.proc).1 (Ce w.Aa x.proc).2 with procs:=w.procs.eraseIdx i } 5 x.proc:=rfl;have e1:(CB w (Ce w.Aa x.proc).1 (Ce w.Aa x.proc).2).CL.length=w.CL.length+(Ce w.Aa x.proc).2.length:=by simp[CB]
 have e2:(CB w (Ce w.Aa x.proc).1 (Ce w.Aa x.proc).2).procs=w.procs:=rfl;rw[← e2]at e0 hx hi hp;generalize CB w (Ce w.Aa x.proc).1 (Ce w.Aa x.proc).2=w1 at e0 e1 e2 hx hi hp ⊢;refine gO ?_;have ht:(w1.procs.drop (i+1)).take (w1.procs.length-(i+1))=w1.procs.drop (i+1):=List.take_of_length_le (by simp);refine IY 17 [([],[0]),([],[0]),([1],[26]),([1,2],[27]),([1,2,3],[28]),([1,2,3,4],[29]),([],[1]),([],[1]),([1,2,3,4,5,6,7],[30,31,32]),([],[0]),([9],[34]),([9,10],[35]),([9,10,11],[36]),([9,10,11,12],[37]),([],[1]),([14],[39]),([9,10,11,12,13,14,15],[38,40]),([1,2,3,4,5,6,7,8,9,10,11,12,13,14,15,16],[]),([0,1,2,3,4,5,6,7,8,9,10,11,12,13,14,15,16,17],[]),([0,1,2,3,4,5,6,7,8,9,10,11,12,13,14,15,16,17,18],[]),([0,1,2,3,4,5,6,7,8,9,10,11,12,13,14,15,16,17,18,19],[]),([0,1,2,3,4,5,6,7,8,9,10,11,12,13,14,15,16,17,18,19,20],[])] [0] [([],[33,41,0,1,4],let o0:OT:=.done;let o1:OT:=.pick [(21,o0)];let o2:OT:=.pick [(20,o1)];let o3:OT:=.pick [(19,o2)];let o4:OT:=.pick [(18,o3)];let o5:OT:=.pick [(17,o4)];let o6:OT:=.pick [(0,o4)];let o7:OT:=.pick [(0,o5),(17,o6)];o7),([0],[33,41,25,0,1,4],let o0:OT:=.done;let o1:OT:=.pick [(21,o0)];let o2:OT:=.pick [(20,o1)];let o3:OT:=.pick [(19,o2)];let o4:OT:=.pick [(18,o3)];let o5:OT:=.pick [(17,o4)];o5)] fol (by kernel_rfl) ?_;simp(disch:=omega)only[go_sem,ht];have e4:({ w1 with procs:=w1.procs.eraseIdx i }:Av).CL.length+1≤4294967296:=by show w1.CL.length+1≤_;omega
 obtain⟨k1,k2,k3⟩:=hI.few _ hw;have k4:=WE (M4 w i x);have k5:(M4 w i x).CL.length=w1.CL.length+1:=by rw[e0];simp[Cb]
 repeat'(with_reducible refine And.intro ?_ ?_)
 all_goals
  refine call2 ⟨⟨[(2688,0),(1,1)],[(63,63)],[]⟩,[],[]⟩ (f182_ok { w1 with procs:=w1.procs.eraseIdx i } 5 x.proc e4) ?_ (hh:=?_);rotate_left
  ·simp(disch:=omega)only[go_sem];exact .sl (by rw[← List.map_append,erase_eq])
  rw[← e0];refine gO ?_;refine call2 ⟨⟨[(2688,0),(1,1)],[(63,63)],[]⟩,[],[]⟩ (f122_ok Inv hI (M4 w i x) hw (by omega)) ?_;refine gO ?_;refine Ci ⟨[(2688,0),(1,1)],[(63,63)],[]⟩ _ ?_ ?_
  ·exact gI
  ·simp(disch:=omega)only[go_sem,Io]
def L0(l:List Pcs)(p:Ae):Nat→Nat
 | 0=>0
 | k+1=>if 0<Bo (l.getD k x0).proc p then L0 l p k else k+1
def ZK(p:Ae)(cost:Int):Pcs:=⟨p,cost,CO,false,Dg,0,0⟩
def a6(l:List Pcs)(x:Pcs):List Pcs:=mid l (L0 l x.proc l.length) x
def Jd(w:Av)(p:Ae)(cost:Int):Av × Int :=
 if !p.ok||(decide (cost<1)||decide (1000<cost)) then (w,1) else if 0≤E5 w.procs p then (w,11) else if w.procs.length=8 then (w,4) else ({ w with procs:=a6 w.procs (ZK p cost) },0)
theorem f117_ok(w:Av)(p:Ae)(cost:Int)(hp:w.procs.length≤1000000):Ad C0 117 [.ptr 63 0,.agg p.c,I cost] [(63,w.c)] (I (Jd w p cost).2) [(63,(Jd w p cost).1.c)]:=by
 refine Ad.go f117 ?_;unfold f117;refine gO ?_;refine Ac (f105_ok p) ?_;cases h1:(!p.ok||(decide (cost<1)||decide (1000<cost)));rotate_left
 ·have ht:Jd w p cost=(w,1):=by simp only[Jd,h1];rfl
  rw[ht];cases a1:p.ok
  ·simp(disch:=omega)only[go_sem,Bool.not_false];refine Ci ⟨[(0,0),(1,1)],[(63,63)],[]⟩ _ ?_ ?_
   ·exact gI
   ·exact gI
  cases a2:decide (cost<1)
  ·rw[a1,a2]at h1;simp only[Bool.not_true,Bool.false_or]at h1;simp(disch:=omega)only[go_sem,Bool.not_true,a2,h1];refine Ci ⟨[(0,0),(1,1)],[(63,63)],[]⟩ _ ?_ ?_
   ·exact gI
   ·exact gI
  ·simp(disch:=omega)only[go_sem,Bool.not_true,a2];refine Ci ⟨[(0,0),(1,1)],[(63,63)],[]⟩ _ ?_ ?_
   ·exact gI
   ·exact gI
 obtain⟨a1,a2,a3⟩:p.ok=true∧decide (cost<1)=false∧decide (1000<cost)=false:=by simpa using h1
 simp(disch:=omega)only[go_sem,a1,a2,a3,Bool.not_true];refine Aq 6 [([],[0]),([],[21]),([],[22]),([],[23]),([],[24]),([],[4])] fol ?_;refine gO ?_;refine C2 [0] (f69_ok w.procs p) gI rfl trivial ?_;refine gO ?_
 by_cases h2:0≤E5 w.procs p
 ·have ht:Jd w p cost=(w,11):=by simp only[Jd,h1,h2];rfl
  rw[ht];simp(disch:=omega)only[go_sem,eq_true h2,decide_true];refine Ci ⟨[(0,0),(1,1)],[(63,63)],[]⟩ _ ?_ ?_
  ·exact gI
  ·exact gI
 simp(disch:=omega)only[go_sem,eq_false h2,decide_false,length_map]
 by_cases h3:w.procs.length=8
 ·have ht:Jd w p cost=(w,4):=by simp only[Jd,h1,h2,h3];rfl
  rw[ht];have h3':decide ((w.procs.length:Int)=8)=true:=by simp;omega
  have h3'':((w.procs.length:Int)==8)=true:=by simp;omega
  simp(disch:=omega)only[go_sem,h3',h3''];refine Ci ⟨[(0,0),(1,1)],[(63,63)],[]⟩ _ ?_ ?_
  ·exact gI
  ·exact gI
 have ht:Jd w p cost=({ w with procs:=a6 w.procs (ZK p cost) },0):=by
  simp only[Jd,h1,h2,h3];rfl
 rw[ht];have h3':decide ((w.procs.length:Int)=8)=false:=by simp;omega
 have h3'':((w.procs.length:Int)==8)=false:=by simp;omega
 simp(disch:=omega)only[go_sem,h3',h3''];refine Aq 9 [([],[0]),([],[36]),([],[37]),([],[38]),([],[39]),([],[4]),([],[2]),([],[41,42]),([],[43])] fol ?_;refine gO ?_;obtain⟨x,hx⟩:∃ x,x=ZK p cost:=⟨_,rfl⟩;have hxp:x.proc=p:=by rw[hx];rfl
 refine Ab (α:=Nat) (fun k=>⟨[(8,I k),(7,.sl (.own 2880 0) 16 ((mid w.procs k x).map Pcs.c)),(0,.ptr 63 0)],[(63,[I w.now,Ay w.Aa,.undef,.sl (.own 1 0) 7 (w.CL.map Ev.c)])]⟩) (fun k=>k≤w.procs.length∧L0 w.procs p w.procs.length=L0 w.procs p k) (fun k=>k) w.procs.length ⟨Nat.le_refl _,rfl⟩ (Imp.Am ?_ ?_) ?_
 ·simp(disch:=omega)only[go_sem]
  all_goals(try(repeat'(with_reducible apply And.intro)))
  all_goals(first|exact .int (by omega)|skip)
  have em:mid w.procs w.procs.length x=w.procs++[x]:=by simp[mid]
  rw[em,List.map_append];refine .br (Gl.append _ ?_);simp only[hx,ZK,CO,Dg,e0,a0,Expr.k,Expr.atom,Expr.kids,map_cons,List.map_nil,Pcs.c,Gl,Jr,Vy];simp
 ·exact gI
 rintro k ⟨hk,hs⟩ J hJ;have fin:L0 w.procs p k=k→mid w.procs k x=a6 w.procs (ZK p cost):=fun hst=>by
  rw[← hx];unfold a6;rw[hxp,hs,hst]
 refine Aq 14 [([],[8]),([],[49]),([],[50]),([],[7,51]),([],[8,51]),([],[53,51]),([],[52,54,51]),([],[55,51]),([],[56,51]),([],[7,51]),([],[8,51]),([],[58,59,51]),([],[60,51]),([],[61,51])] fol ?_;cases k with
 | zero =>
  have e0:(0<((0:Nat):Int))=False:=by simp
  simp(disch:=omega)only[go_sem,e0,decide_false];rw[fin rfl];refine Ci ⟨[(2880,0),(1,1)],[(63,63)],[]⟩ _ ?_ ?_
  ·exact gI
  ·exact gI
 | succ k =>
  have e0:(0<(((k+1:Nat)):Int))=True:=eq_true (by omega);have e1:(0<(k:Int)+1)=True:=eq_true (by omega);have e2:((k:Int)+1-1)=(k:Int):=by omega
  obtain⟨y,hy⟩:∃ y,w.procs[k]?=some y:=⟨_,gE (by omega)⟩;have g1:=W3 w.procs (k+1) x hk;have g2:=UN w.procs k x hk;rw[hy]at g2;have hml:=Th w.procs (k+1) x hk;have z1:k<(mid w.procs (k+1) x).length:=by omega
  have z2:k+1<(mid w.procs (k+1) x).length:=by omega
  simp(disch:=omega)only[go_sem,e0,e1,e2,gm,g1,g2,length_map,hml];refine Ac (f107_ok y.proc x.proc) ?_;rw[hxp];have e4:(k=k+1)=False:=eq_false (by omega);have e5:(k+1=k)=False:=eq_false (by omega);cases hc:decide (0<Bo y.proc p)
  ·have hst:L0 w.procs p (k+1)=k+1:=by
    simp only[L0,List.getD,hy,getD_some];rw[if_neg (by simpa using hc)]
   simp(disch:=omega)only[go_sem,hc];rw[fin hst];refine Ci ⟨[(2880,0),(1,1)],[(63,63)],[]⟩ _ ?_ ?_
   ·exact gI
   ·exact gI
  ·have hst:L0 w.procs p (k+1)=L0 w.procs p k:=by
    simp only[L0,List.getD,hy,getD_some];rw[if_pos (by simpa using hc)]
   simp(disch:=omega)only[go_sem,hc,e2,gm,g1,g2,length_map,hml,List.length_set,List.getElem?_set,e4,e5];refine hJ _ k ⟨by omega,by rw[hs,hst]⟩ (by omega) (Imp.Am ?_ gI);refine gO ?_;refine .sl ?_;rw[← UO hy,map_set,map_set];rfl
theorem Qv(a b:UInt8)(x y:Bs):DM (a::x) (b::y)=(decide (a<b)||(a==b&&DM x y)):=by
 simp[DM,Op.bytesLess]
theorem Of(x:Bs):DM x []=false:=by cases x<;>simp[DM,Op.bytesLess]
theorem Hx:∀ n:Bs,DM n n=false
 |[]=>Of []
 | a::x=>by rw[Qv,Hx x];simp
theorem O5:∀ {a b c:Bs},DM a b=true→DM b c=true→DM a c=true
 | a,[],c,h,_=>by rw[Of]at h;cases h
 | a,b::y,[],_,h=>by rw[Of]at h;cases h
 |[],b::y,c::z,_,_=>by simp[DM,Op.bytesLess]
 | a::x,b::y,c::z,h1,h2=>by
  rw[Qv,Bool.or_eq_true,and_eq_true,decide_eq_true_eq,beq_iff_eq]at h1 h2 ⊢;rcases h1 with h1|⟨rfl,h1⟩
  ·rcases h2 with h2|⟨rfl,_⟩
   ·exact .inl (UInt8.lt_trans h1 h2)
   ·exact .inl h1
  ·rcases h2 with h2|⟨rfl,h2⟩
   ·exact .inl h2
   ·exact .inr ⟨rfl,O5 h1 h2⟩
structure Oz(p:Ae)(q q':Queue):Prop where
 val:valid q'=true
 res:q'.res=q.res
 inp:∀ x,inQ q' x→inQ q x∨x=p
 other:∀ y l,y≠p→Kq q y l→Kq q' y l
theorem Oz.refl{p:Ae}{q:Queue}(h:valid q=true):Oz p q q:=⟨h,rfl,fun _ hx=>.inl hx,fun _ _ _ hk=>hk⟩
theorem Jl{p:Ae}{q q1:Queue}(h:Sound q1)(hr:q1.res=q.res)(hi:∀ x,inQ q1 x→inQ q x∨x=p)(ho:∀ y,y≠p→As q1 y=As q y∧AB q1.holds y=AB q.holds y):Oz p q (Fh q1) where
 val:=XJ h
 res:=(aQ q1).trans hr
 inp:=fun x hx=>hi x ((S1 q1 x).1 hx)
 other:=fun y l hy hk=>by
  refine Y3 h ?_;obtain⟨a,b⟩:=ho y hy;unfold Kq at hk ⊢;rw[a,b,hr];exact hk
theorem YC{q:Queue}{p y:Ae}(h:y≠p):As (ER q p) y=As q y:=by
 unfold As ER;simp only[List.find?_append,J3 h]
theorem Q3(q:Queue)(p:Ae):As (ER q p) p=none:=by
 unfold As ER;simp only[List.find?_append,Qi,or_none,Option.map_none]
theorem Up{q:Queue}{p x:Ae}(h:inQ (ER q p) x):inQ q x:=by
 rcases h with h|⟨w,h,h2⟩|⟨w,h,h2⟩
 ·exact .inl h
 ·simp only[ER,Bu,List.mem_filter]at h;exact .inr (.inl ⟨w,h.1,h2⟩)
 ·simp only[ER,Bu,List.mem_filter]at h;exact .inr (.inr ⟨w,h.1,h2⟩)
theorem SP{q:Queue}{p:Ae}(hv:valid q=true)(hw:(As q p).isSome=true):(BR q p).2.2=0∧Oz p q (BR q p).1∧As (BR q p).1 p=none∧AB (BR q p).1.holds p=AB q.holds p:=by
 have hs:=((C9 q).1 hv).1;have e:BR q p=(Fh (ER q p),(B1 (ER q p)).2,0):=by simp[BR,hv,hw]
 rw[e];obtain⟨a,b⟩:=Ud (Q3 q p);exact⟨rfl,Jl (Pd hs p) rfl (fun x hx=>.inl (Up hx)) (fun y hy=>⟨YC hy,rfl⟩),a,b⟩
theorem cR{q:Queue}{p x:Ae}{a:Amt}(h:∃ y∈BX q.holds p a,y.proc=x):(∃ y∈q.holds,y.proc=x)∨x=p:=by
 obtain⟨y,hy,hx⟩:=h;unfold BX at hy;split at hy
 ·simp[AK]at hy;exact .inl ⟨y,hy.1,hx⟩
 ·simp only[mem_append,List.mem_cons]at hy;rcases hy with hy|rfl|hy
  ·have:=List.mem_of_mem_take hy;simp[AK]at this;exact .inl ⟨y,this.1,hx⟩
  ·exact .inr hx.symm
  ·have:=List.mem_of_mem_drop hy;simp[AK]at this;exact .inl ⟨y,this.1,hx⟩
theorem WY{q:Queue}{p x:Ae}{a:Amt}(h:inQ (JO q p a) x):inQ q x∨x=p:=by
 rcases h with h|h|h
 ·rcases cR h with h|h
  ·exact .inl (.inl h)
  ·exact .inr h
 ·exact .inl (.inr (.inl h))
 ·exact .inl (.inr (.inr h))
theorem UG{q:Queue}{p:Ae}{a:Amt}(hv:valid q=true)(hz:(AB q.holds p).zero=false)(hw:As q p=none)(hc:q.res.covers (AB q.holds p) a=true):(BO q p a).2.2=0∧Oz p q (BO q p a).1∧As (BO q p a).1 p=none∧AB (BO q p a).1.holds p=a:=by
 have hs:=((C9 q).1 hv).1
 by_cases he:AB q.holds p=a
 ·have e:BO q p a=(q,[],0):=by
   unfold BO;rw[if_neg (by simp[hv]),if_neg (by simp[hz]),if_neg (by simp[hw]),if_neg (by simp[hc]),if_pos (by simp[he])]
  rw[e];exact⟨rfl,.refl hv,hw,he⟩
 ·have e:BO q p a=(Fh (JO q p a),(B1 (JO q p a)).2,0):=by
   unfold BO;rw[if_neg (by simp[hv]),if_neg (by simp[hz]),if_neg (by simp[hw]),if_neg (by simp[hc]),if_neg (by simp[he])]
  rw[e];have hw':As (JO q p a) p=none:=hw;obtain⟨b1,b2⟩:=Ud hw';refine⟨rfl,Jl (Sx hs hz hw hc) rfl (fun x hx=>WY hx) (fun y hy=>⟨rfl,F1 hy⟩),b1,?_⟩;rw[b2];exact LM
theorem YB{q:Queue}{p y:Ae}{a:Amt}(h:y≠p):As (Hi q p a) y=As q y:=by
 have hd:decide (p=y)=false:=by simpa using Ne.symm h
 unfold As Hi;simp only[List.find?_append,List.find?_cons,List.find?_nil,hd,or_none]
theorem Zd(l:List AS)(y:Ae):((l.map V2).find? fun w=>decide (w.proc=y)).map (·.amt)=(l.find? fun w=>decide (w.proc=y)).map (·.amt):=by
 induction l with
 | nil=>rfl
 | cons w l ih =>
  simp only[map_cons,List.find?_cons,show (V2 w).proc=w.proc from rfl];cases decide (w.proc=y)
  ·exact ih
  ·rfl
theorem ZQ{α β:Type}(f:α→β)(a b:Option α):(a.or b).map f=(a.map f).or (b.map f):=by cases a<;>simp
theorem Ze{l:List AS}{w:AS}{y:Ae}(h:y≠w.proc):((Ms l w).find? fun x=>decide (x.proc=y)).map (·.amt)=(l.find? fun x=>decide (x.proc=y)).map (·.amt):=by
 have hd:decide (w.proc=y)=false:=by simpa using Ne.symm h
 rw[U4]
 conv=>rhs;rw[← List.take_append_drop (EX l w l.length) l]
 simp only[List.find?_append,List.find?_cons,hd,ZQ,Zd]
theorem YD{q:Queue}{p y:Ae}{a:Amt}{prio:Int}(h:y≠p):As (Iq q p a prio) y=As q y:=by
 unfold As Iq;simp only[List.find?_append,ZQ,Ze (w:=⟨p,a,prio,0⟩) h]
theorem Zq{q:Queue}{p x:Ae}{a:Amt}(h:inQ (Hi q p a) x):inQ q x∨x=p:=by
 rcases h with h|⟨w,h,h2⟩|h
 ·exact .inl (.inl h)
 ·simp only[Hi,mem_append,List.mem_singleton]at h;rcases h with h|rfl
  ·exact .inl (.inr (.inl ⟨w,h,h2⟩))
  ·exact .inr h2.symm
 ·exact .inl (.inr (.inr h))
theorem Zr{q:Queue}{p x:Ae}{a:Amt}{prio:Int}(h:inQ (Iq q p a prio) x):inQ q x∨x=p:=by
 rcases h with h|h|⟨w,h,h2⟩
 ·exact .inl (.inl h)
 ·exact .inl (.inr (.inl h))
 ·rcases QQ h with rfl|h|⟨y,hy,_,rfl⟩
  ·exact .inr h2.symm
  ·exact .inl (.inr (.inr ⟨w,h,h2⟩))
  ·exact .inl (.inr (.inr ⟨y,hy,h2⟩))
theorem T2{q:Queue}{p:Ae}{a:Amt}{prio:Int}{l:Amt}(hg:AB q.holds p=l)(h0:(BD q p a prio).2.2=0):Oz p q (BD q p a prio).1∧Kq (BD q p a prio).1 p l:=by
 revert h0;unfold BD;split
 ·intro h;simp at h
 rename_i hv;have hv:valid q=true:=by simpa using hv
 have hs:=((C9 q).1 hv).1;split
 ·intro h;simp at h
 rename_i hp;split
 ·intro h;simp at h
 rename_i hp1;split
 ·intro h;simp at h
 rename_i hp2;split
 ·intro h;simp at h
 rename_i hf;split
 ·intro h;simp at h
 rename_i hw;have hw:As q p=none:=FD (by simpa using hw);have hf:q.res.fits a=true:=by simpa using hf
 split
 ·intro _;exact⟨.refl hv,fun h=>by rw[hw]at h;simp at h,.inl hg⟩
 rename_i hc;have hc:q.res.covers (AB q.holds p) a=false:=by simpa using hc
 split
 ·rename_i hz;have hz:(AB q.holds p).zero=false:=by simpa using hz
  intro _;have h1:=QX hs hf hw hz hc;exact⟨Jl (q1:=Hi q p a) h1 rfl (fun x hx=>Zq hx) (fun y hy=>⟨YB hy,rfl⟩),Y3 (q:=Hi q p a) h1 ⟨fun _=>hg,.inl hg⟩⟩
 rename_i hz;have hz:(AB q.holds p).zero=true:=by simpa using hz
 split
 ·intro h;simp at h
 rename_i h8;intro _;simp only[decide_eq_true_eq]at h8 hp1 hp2;have h1:=Sy hs (p:=p) (a:=a) (prio:=prio) (by simpa using hp) ⟨by omega,by omega⟩ hf hw hz (by omega);exact⟨Jl (q1:=Iq q p a prio) h1 rfl (fun x hx=>Zr hx) (fun y hy=>⟨YD hy,rfl⟩),Y3 (q:=Iq q p a prio) h1 ⟨fun _=>hg,.inl hg⟩⟩
theorem av{q:Queue}{p y:Ae}(h:y≠p):As (B3 q p) y=As q y:=by
 unfold As B3;simp only[List.find?_append,J3 h]
theorem Ot{α:Type}:∀ {l:List α} {i:Nat} {z:α},l[i]?=some z→l.set i z=l
 |[],_,_,h=>by simp at h
 | a::l,0,z,h=>by simp at h;simp[h]
 | a::l,i+1,z,h=>by
  simp only[set_cons_succ];rw[Ot (by simpa using h)]
theorem Tp{q:Queue}(p:Ae)(hv:valid q=true):Oz p q (CQ p q).1:=by
 unfold CQ;cases hq:Qm q p
 ·exact .refl hv
 simp only[if_true];have hs:=((C9 q).1 hv).1;unfold E9;simp only[hv,if_true];have hm:Be (Br q) p=true:=by
  have:p∈Br q:=by
   rw[Db];unfold Qm at hq;rcases(by simpa using hq:(As q p).isSome=true∨(AB q.holds p).zero=false) with h|h
   ·unfold As at h;simp only[Option.isSome_map,List.find?_isSome,mem_append,decide_eq_true_eq]at h;obtain⟨w,h1|h1,h2⟩:=h
    ·exact .inr (.inl ⟨w,h1,h2⟩)
    ·exact .inr (.inr ⟨w,h1,h2⟩)
   ·exact .inl (Ls h)
  simpa [Be]using this
 rw[hm];simp only[if_true];exact Jl (Jk hs p) rfl (fun x hx=>.inl ((V1 q p x).1 hx).1) (fun y hy=>⟨av hy,(F1 hy:AB (BX q.holds p ⟨0,0⟩) y=AB q.holds y)⟩)
theorem Rm(t:List Queue):Ch t=true↔t.length≤8∧(∀ q∈t,valid q=true)∧∀ i,i+1<t.length→DM (t.getD i q0).res.name (t.getD (i+1) q0).res.name=true:=by
 unfold Ch;simp only[and_eq_true,decide_eq_true_eq,EB,B6,Bool.or_eq_true];constructor
 ·rintro⟨h1,h2⟩;refine⟨h1,fun q hq=>?_,fun i hi=>?_⟩
  ·obtain⟨i,hi⟩:=List.getElem?_of_mem hq;exact(h2 i q hi).1
  ·have hg:t[i+1]?=some (t[i+1]):=gE hi;have:=(h2 (i+1) _ hg).2;simp only[Nat.add_sub_cancel]at this;rw[show t.getD (i+1) q0=t[i+1] by simp[List.getD,hg]];rcases this with h|h
   ·omega
   ·exact h
 ·rintro⟨h1,h2,h3⟩;refine⟨h1,fun i q hq=>⟨h2 q (mG hq),?_⟩⟩;cases i with
  | zero=>exact .inl rfl
  | succ i =>
   have:=h3 i (At hq);rw[show t.getD (i+1) q0=q by simp[List.getD,hq]]at this;exact .inr this
theorem Vb{t t':List Queue}(h:t'.map (·.res)=t.map (·.res))(i:Nat):(t'.getD i q0).res=(t.getD i q0).res:=by
 have:=congrArg (fun l=>l[i]?) h;simp only[gm]at this;simp only[List.getD];cases h1:t'[i]?<;>cases h2:t[i]?<;>rw[h1,h2]at this<;>simp at this ⊢
 exact this
theorem Ek(t:List Queue)(x:Ae):x∈AN t↔∃ q∈t,inQ q x:=by
 unfold AN;rw[HH,List.mem_flatMap];constructor
 ·rintro⟨q,h1,h2⟩;exact⟨q,h1,(Db q x).1 h2⟩
 ·rintro⟨q,h1,h2⟩;exact⟨q,h1,(Db q x).2 h2⟩
theorem LR(t:List Queue):(AN t).Nodup:=HA (EC _)
structure EZ(t:List Queue):Prop where
 n:t.length≤8
 val:∀ q∈t,valid q=true
 ord:∀ i,i+1<t.length→DM (t.getD i q0).res.name (t.getD (i+1) q0).res.name=true
 pr:(AN t).length≤8
theorem HL(t:List Queue):Gb t=true↔EZ t:=by
 unfold Gb;simp only[and_eq_true,decide_eq_true_eq,Rm];exact⟨fun⟨⟨a,b,c⟩,d⟩=>⟨a,b,c,d⟩,fun h=>⟨⟨h.n,h.val,h.ord⟩,h.pr⟩⟩
theorem Xg{t t':List Queue}(h:EZ t)(hr:t'.map (·.res)=t.map (·.res))(hv:∀ q∈t',valid q=true)(hp:(AN t').length≤8):EZ t' where
 n:=by have:=congrArg List.length hr;simp at this;have:=h.n;omega
 val:=hv
 ord:=fun i hi=>by
  have:=congrArg List.length hr;simp at this;rw[Vb hr,Vb hr];exact h.ord i (by omega)
 pr:=hp
theorem Da{t:List Queue}(h:EZ t):DZ t:=by
 refine⟨by have:=h.n;omega,fun q hq=>?_⟩;have hs:=((C9 q).1 (h.val q hq)).1;have a:=((CW _ _).1 hs.holds).2.1;have b:=((BK q).1 hs.An).1;have c:=((Cv _).1 ((Bz q).1 hs.waits).1).1;unfold BC BQ;omega
structure FM(p:Ae)(t t':List Queue):Prop where
 tab:EZ t'
 res:t'.map (·.res)=t.map (·.res)
 other:∀ y,y≠p→∀ L:Bs→Amt,(∀ q∈t,Kq q y (L q.res.name))→∀ q∈t',Kq q y (L q.res.name)
theorem FM.refl{p:Ae}{t:List Queue}(h:EZ t):FM p t t:=⟨h,rfl,fun _ _ _ hk=>hk⟩
theorem FM.trans{p:Ae}{t t' t'':List Queue}(h:FM p t t')(h':FM p t' t''):FM p t t'' :=
 ⟨h'.tab,h'.res.trans h.res,fun y hy L hk=>h'.other y hy L (h.other y hy L hk)⟩
theorem Xd{t:List Queue}{i:Nat}{q q':Queue}(hq:t[i]?=some q)(hr:q'.res=q.res):(t.set i q').map (·.res)=t.map (·.res):=by
 rw[map_set,hr];exact Ot (by simp[hq])
theorem El{t:List Queue}{i:Nat}{q q' x:Queue}(h:x∈t.set i q'):x=q'∨∃ j,j≠i∧t[j]?=some x:=by
 obtain⟨j,hj⟩:=List.getElem?_of_mem h;rw[List.getElem?_set]at hj;split at hj
 ·split at hj
  ·exact .inl (Option.some.inj hj).symm
  ·cases hj
 ·rename_i hne;exact .inr ⟨j,fun e=>hne e.symm,hj⟩
theorem Om{t t':List Queue}(h:∀ x,x∈AN t'→x∈AN t)(hp:(AN t).length≤8):(AN t').length≤8 :=
 Nat.le_trans (EF _ _ (LR t') h) hp
theorem Ou{p:Ae}{t:List Queue}{i:Nat}{q q':Queue}(h:EZ t)(hq:t[i]?=some q)(hs:Oz p q q')(hp:(∀ x,inQ q' x→inQ q x)∨p∈AN t∨(AN t).length<8):FM p t (t.set i q'):=by
 have hqm:=mG hq;have hin:∀ x,x∈AN (t.set i q')→x∈AN t∨(x=p∧¬ ∀ x,inQ q' x→inQ q x):=fun x hx=>by
  rw[Ek]at hx;obtain⟨y,hy,hyx⟩:=hx;rcases El (q:=q) hy with rfl|⟨j,_,hj⟩
  ·by_cases ha:∀ x,inQ y x→inQ q x
   ·exact .inl ((Ek t x).2 ⟨q,hqm,ha x hyx⟩)
   ·rcases hs.inp x hyx with hb|hb
    ·exact .inl ((Ek t x).2 ⟨q,hqm,hb⟩)
    ·exact .inr ⟨hb,ha⟩
  ·exact .inl ((Ek t x).2 ⟨y,mG hj,hyx⟩)
 refine⟨Xg h (Xd hq hs.res) (fun x hx=>?_) ?_,Xd hq hs.res,fun y hy L hk x hx=>?_⟩
 ·rcases El (q:=q) hx with rfl|⟨j,_,hj⟩
  ·exact hs.val
  ·exact h.val x (mG hj)
 ·rcases hp with hp|hp|hp
  ·exact Om (fun x hx=>(hin x hx).elim id fun hx=>absurd hp hx.2) h.pr
  ·exact Om (fun x hx=>(hin x hx).elim id fun hx=>hx.1▸hp) h.pr
  ·have:=EF (AN (t.set i q')) (p::AN t) (LR _) fun x hx=>(hin x hx).elim (fun hx=>by simp[hx]) fun hx=>by simp[hx.1]
   simp at this;omega
 ·rcases El (q:=q) hx with rfl|⟨j,_,hj⟩
  ·have:=hs.other y (L q.res.name) hy (hk q hqm);rw[hs.res];exact this
  ·exact hk x (mG hj)
theorem LO(n:Bs)(h:DM n n=true):False:=by
 rw[Hx]at h;cases h
theorem Tm{t:List Queue}(h:EZ t):∀ d i,i+d+1<t.length→DM (t.getD i q0).res.name (t.getD (i+d+1) q0).res.name=true
 | 0,i,hi=>h.ord i hi
 | d+1,i,hi=>O5 (Tm h d i (by omega)) (h.ord (i+d+1) (by omega))
theorem KR{t:List Queue}(h:EZ t){i j:Nat}{q q':Queue}(hi:t[i]?=some q)(hj:t[j]?=some q')(hn:q.res.name=q'.res.name):i=j:=by
 have hli:=At hi;have hlj:=At hj;have ei:t.getD i q0=q:=by simp[List.getD,hi]
 have ej:t.getD j q0=q':=by simp[List.getD,hj]
 rcases Nat.lt_trichotomy i j with hlt|rfl|hlt
 ·obtain⟨d,rfl⟩:∃ d,j=i+d+1:=⟨j-i-1,by omega⟩;have:=Tm h d i hlj;rw[ei,ej,hn]at this;exact(LO _ this).elim
 ·rfl
 ·obtain⟨d,rfl⟩:∃ d,i=j+d+1:=⟨i-j-1,by omega⟩;have:=Tm h d j hli;rw[ei,ej,hn]at this;exact(LO _ this).elim
theorem Ui{t:List Queue}(h:EZ t){i:Nat}{q:Queue}(hi:t[i]?=some q):Cg t q.res.name=some i:=by
 unfold Cg;rw[List.findIdx?_eq_some_iff_getElem];refine⟨At hi,by simp[get_eq hi],fun j hj=>?_⟩;have hlt:=At hi;have hg:t[j]?=some (t[j]):=gE (by omega);simp only[Bool.not_eq_true,beq_eq_false_iff_ne];intro e;have:=KR h hg hi e;omega
theorem I3{t t':List Queue}(h:t'.map (·.res)=t.map (·.res))(n:Bs):Cg t' n=Cg t n:=by
 have h1:∀ l:List Queue,Cg l n=(l.map (·.res)).findIdx? fun r=>r.name==n:=fun l=>by
  unfold Cg;rw[List.findIdx?_map];rfl
 rw[h1,h1,h]
theorem SQ{t:List Queue}{p:Ae}{name:Bs}{k:Nat}{q:Queue}(h:EZ t)(hf:Cg t name=some k)(hq:t[k]?=some q)(hw:(As q p).isSome=true) :
 ∃ q',(CM t p name).1=t.set k q'∧FM p t (t.set k q')∧q'.res=q.res∧As q' p=none∧AB q'.holds p=AB q.holds p:=by
 have hg:t.getD k q0=q:=by simp[List.getD,hq]
 obtain⟨h0,h1,h2,h3⟩:=SP (h.val q (mG hq)) hw;refine⟨(BR q p).1,?_,Ou h hq h1 (.inl fun x hx=>?_),h1.res,h2,h3⟩
 ·simp only[CM,(HL t).2 h,hf,hg,h0];rfl
 ·have hv:=h.val q (mG hq);have e:(BR q p).1=Fh (ER q p):=by simp[BR,hv,hw]
  rw[e,S1]at hx;exact Up hx
theorem aZ{q:Queue}{p x:Ae}{a:Amt}(hz:(AB q.holds p).zero=false)(h:inQ (JO q p a) x):inQ q x:=by
 rcases WY h with h|rfl
 ·exact h
 ·exact .inl (Ls hz)
theorem KP{t:List Queue}{p:Ae}{a:Atom}{k:Nat}{q:Queue}(h:EZ t)(hf:Cg t a.name=some k)(hq:t[k]?=some q)(hw:As q p=none)(hz:(AB q.holds p).zero=false)(hc:q.res.covers (AB q.holds p) a.amt=true) :
 ∃ q',(Bi t p a).1=t.set k q'∧FM p t (t.set k q')∧q'.res=q.res∧As q' p=none∧AB q'.holds p=a.amt:=by
 have hg:t.getD k q0=q:=by simp[List.getD,hq]
 have hv:=h.val q (mG hq);obtain⟨h0,h1,h2,h3⟩:=UG hv hz hw hc;refine⟨(BO q p a.amt).1,?_,Ou h hq h1 (.inl fun x hx=>?_),h1.res,h2,h3⟩
 ·simp only[Bi,(HL t).2 h,hf,hg,h0];rfl
 ·revert hx;unfold BO;simp only[hv,hz,hw,hc,Option.isSome_none,Bool.not_true,false_eq_true,if_false];split
  ·exact id
  ·intro hx;rw[S1]at hx;exact aZ hz hx
theorem T3{t:List Queue}{p:Ae}{a:Atom}{prio:Int}(h:EZ t)(L:Bs→Amt)(hk:∀ q∈t,q.res.name=a.name→AB q.holds p=L q.res.name) :
 (D6 t p a prio).1=[]∨∃ k q q',Cg t a.name=some k∧t[k]?=some q∧q.res.name=a.name∧(D6 t p a prio).1=t.set k q'∧FM p t (t.set k q')∧q'.res=q.res∧Kq q' p (L q.res.name):=by
 unfold D6;simp only[(HL t).2 h,Bool.not_true,false_eq_true,if_false];cases hf:Cg t a.name with
 |none=>exact .inl rfl
 |some k =>
  obtain⟨hlt,q,hq,hn⟩:=Dk hf;have hg:t.getD k q0=q:=by simp[List.getD,hq]
  simp only[hg];split
  ·exact .inl rfl
  rename_i h8;split
  ·exact .inl rfl
  rename_i h0;have h0:(BD q p a.amt prio).2.2=0:=by simpa using h0
  obtain⟨h1,h2⟩:=T2 (hk q (mG hq) hn) h0;refine .inr ⟨k,q,(BD q p a.amt prio).1,rfl,hq,hn,rfl,Ou h hq h1 ?_,h1.res,h2⟩
  by_cases hm:p∈AN t
  ·exact .inr (.inl hm)
  ·refine .inr (.inr ?_);have hp:Be (AN t) p=false:=by simp[Be,hm]
   rw[hp]at h8;have:=h.pr;simp at h8;omega
theorem Tq{t:List Queue}(p:Ae)(h:EZ t):FM p t (Ce t p).1:=by
 have e:(Ce t p).1=t.map fun q=>(CQ p q).1:=by simp[Ce,(HL t).2 h]
 rw[e];have hs:=fun q hq=>Tp p (h.val q hq)
 have hr:(t.map fun q=>(CQ p q).1).map (·.res)=t.map (·.res):=by
  rw[List.map_map];exact List.map_congr_left fun q hq=>(hs q hq).res
 refine⟨Xg h hr (fun x hx=>?_) (Om (t:=t) (fun x hx=>?_) h.pr),hr,fun y hy L hk x hx=>?_⟩
 ·obtain⟨q,hq,rfl⟩:=mem_map.1 hx;exact(hs q hq).val
 ·rw[Ek]at hx ⊢;obtain⟨y,hy,hyx⟩:=hx;obtain⟨q,hq,rfl⟩:=mem_map.1 hy;refine⟨q,hq,?_⟩;revert hyx;unfold CQ;cases hh:Qm q p
  ·exact id
  ·simp only[if_true];unfold E9;simp only[h.val q hq,if_true];split
   ·intro hyx;rw[S1]at hyx;exact((V1 q p x).1 hyx).1
   ·intro hyx;rcases hyx with ⟨_,hm,_⟩|⟨_,hm,_⟩|⟨_,hm,_⟩<;>simp[q0]at hm
 ·obtain⟨q,hq,rfl⟩:=mem_map.1 hx;rw[(hs q hq).res];exact(hs q hq).other y _ hy (hk q hq)
end Go.Rd
