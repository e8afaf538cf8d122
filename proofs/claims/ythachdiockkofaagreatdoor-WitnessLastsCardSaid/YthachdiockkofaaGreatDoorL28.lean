/- part 28 of the proof -/
import Derived.Test.YthachdiockkofaaGreatDoorL26
import Derived.Test.YthachdiockkofaaGreatDoorL27
set_option linter.all false
open Go Go.Abs Go.Proofs
set_option maxRecDepth 100000
namespace Go.Rd
set_option maxHeartbeats 8000000
open List (foldl_append foldl_cons length_map length_set map_append map_cons map_set mem_append mem_cons mem_map set_cons_succ set_set)
open Bool (and_eq_true false_eq_true or_eq_true)
open Option (getD_some map_some or_none toList_some)
open Nat (le_trans)
open Tryz
def Qj(w:Am)(x:Pcs)(name:Bs):Prop:=∃ k,BS w.Aa name=some k∧D5 w.Aa∧k<(DJ w x name k).Aa.length∧D5 (DJ w x name k).Aa
def aG(w:Am)(x:Pcs)(name:Bs)(h:Qj w x name)(hev:w.CX.length≤1000000):Ad C0 185 [.ptr 63 0,.agg x.c,.v (.string (str name))] [(63,w.c)] (.tup []) [(63,(Dl w x name).c)]:=by
 obtain⟨k,h1,h2,h3,h4⟩:=h;exact f185_ok w x name k h1 h2 hev h3 h4
def Sq{w:Am}{x:Pcs}{name:Bs}(h:Qj w x name):(Dl w x name).CX.length≤w.CX.length+201:=by
 obtain⟨k,h1,h2,h3,h4⟩:=h;have c1:=Ph h2 x.proc name;have c2:=G2 h4 x.proc ⟨name,An x.led.entries name⟩;have c3:(DJ w x name k).CX.length≤w.CX.length+100:=by
  unfold DJ;split
  ·simp[Cg];omega
  ·omega
 simp only[Dl,h1];unfold Jw;split
 ·omega
 ·simp only[Cg,List.length_append];omega
def Fu(w:Am)(x:Pcs)(name:Bs):(Dl w x name).procs=w.procs:=by
 unfold Dl;split
 ·rfl
 ·unfold Jw DJ;split<;>split<;>rfl
def Dy(w:Am)(x:Pcs)(az:List Atom):Am:=az.foldl (fun w a=>Dl w x a.name) w
def Pr{w:Am}{x:Pcs}{az:List Atom}{i:Nat}{b:Atom}(hb:az[i]?=some b):Dy w x (az.take (i+1))=Dl (Dy w x (az.take i)) x b.name:=by
 simp[Dy,tA,hb,foldl_append]
def Gw(w:Am)(x:Pcs):∀ az:List Atom,(Dy w x az).procs=w.procs
 |[]=>rfl
 | a::az=>by
  show (Dy (Dl w x a.name) x az).procs=w.procs;rw[Gw,Fu]
def Mx(w:Am)(x:Pcs)(az:List Atom):Prop:=∀ i b,az[i]?=some b→Qj (Dy w x (az.take i)) x b.name
def MF{w:Am}{x:Pcs}{az:List Atom}(h:Mx w x az):∀ i,i≤az.length→(Dy w x (az.take i)).CX.length≤w.CX.length+201*i
 | 0,_=>by simp[Dy]
 | i+1,hi=>by
  obtain⟨b,hb⟩:∃ b,az[i]?=some b:=⟨_,gE (by omega)⟩;have h1:=MF h i (by omega);have h2:=Sq (h i b hb);rw[Pr hb];omega
def AH(w:Am)(i:Nat)(x:Pcs):Am:=AF (Dy w x (Ag x.req.expr)) i (Br x)
def f120_ok(w:Am)(i:Nat)(x:Pcs)(hx:w.procs[i]?=some x)(hs:Mx w x (Ag x.req.expr))(hev:w.CX.length≤900000):Ad C0 120 [.ptr 63 0,I i] [(63,w.c)] (.tup []) [(63,(AH w i x).c)]:=by
 have hal:=CF x.req.expr;refine Ad.go f120 ?_;unfold f120;simp(disch:=omega)only[go_sem,gm,hx];refine Ae (f93_ok x.req.expr) ?_;obtain⟨o,rfl⟩:∃ o,o=i:=⟨i,rfl⟩;refine gO ?_;unfold AH;generalize Ag x.req.expr=az at hs hal ⊢;refine Ac (α:=Nat) (fun i=>⟨[(6,I i),(5,BB az),(0,.ptr 63 0),(1,I o),(4,.ptr 256 0)],[(63,(Dy w x (az.take i)).c),(256,x.c)]⟩) (fun i=>i≤(az).length∧True) (fun i=>(az).length-i) 0 ⟨by omega,trivial⟩ ?_ ?_
 ·refine Imp.Ar ?_ ?_
  all_goals(try simp(disch:=omega)only[go_sem])
  all_goals(try(repeat'(with_reducible apply And.intro)))
  all_goals(first|exact .AO (by omega)|exact .AJ (by omega)|exact .sl (by simp[Dy])|exact .int (by simp[Dy])|exact .eq (by simp[Dy]))
 rintro i ⟨hi,hP⟩ J hJ;refine gO ?_;refine gR (l:=az) hi (fun b hb hbm hlt=>?_) (fun hil=>?_)
 ·have h1:=MF hs i hi;refine Aw 7 [([],[0]),([],[4]),([],[5]),([],[6]),([],[27,28]),([],[29]),([],[30])] fol ?_;simp(disch:=omega)only[go_sem,gm,hb];refine call2 ⟨⟨[(0,0),(1,1)],[(63,63)],[]⟩,[],[]⟩ (aG (Dy w x (az.take i)) x b.name (hs i b hb) (by omega)) ?_;rw[← Pr hb];refine gO ?_;refine hJ _ (i+1) ⟨by omega,trivial⟩ (by omega) AT
 ·subst hil;rw[tL];have hx2:(Dy w x az).procs[o]?=some x:=by rw[Gw];exact hx
  refine call2 ⟨⟨[(0,0),(1,1)],[(63,63)],[]⟩,[],[]⟩ (f186_ok (Dy w x az) o x hx2) ?_;refine gO ?_;refine Cp ⟨[(0,0),(1,1)],[(63,63)],[]⟩ _ ?_ ?_
  ·exact gI
  ·exact gI
def HB(w:Am)(x:Pcs):Bool:=x.waiting&&Fb x.req.expr (Bh w.Aa x.proc x.req.expr)
def F2(w:Am):Option Nat:=w.procs.findIdx? (HB w)
def TC(w:Am):Prop:=∀ x∈w.procs,x.waiting=true→Bb x.req.expr=true
def f188_ok(w:Am)(h:D5 w.Aa)(hp:w.procs.length≤1000000)(hr:TC w):Ad C0 188 [.ptr 63 0] [(63,w.c)] (I (atI (F2 w))) [(63,w.c)]:=by
 refine Ad.go f188 ?_;unfold f188;refine gO ?_;refine Ac (α:=Nat) (fun i=>⟨[(3,I i),(0,.ptr 63 0)],[(63,w.c)]⟩) (fun i=>i≤(w.procs).length∧(w.procs.take i).find? (HB w)=none) (fun i=>(w.procs).length-i) 0 ⟨by omega,rfl⟩ ?_ ?_
 ·exact B0
 rintro i ⟨hi,hP⟩ J hJ;refine gO ?_;refine gR (l:=w.procs) hi (fun b hb hbm hlt=>?_) (fun hil=>?_)
 ·simp(disch:=omega)only[go_sem,gm,hb];cases hw:b.waiting
  ·have hs:HB w b=false:=by simp[HB,hw]
   refine Aw 17 [([],[4]),([],[23]),([],[24]),([],[4,25]),([],[26,25]),([],[27,25]),([],[0,25]),([],[29,25]),([],[30,25]),([],[31,25]),([],[32,25]),([],[4,25]),([],[34,25]),([],[4,25]),([],[36,25]),([],[37,25]),([],[33,35,38,25])] fol ?_;simp(disch:=omega)only[go_sem,hw];refine hJ _ (i+1) ⟨by omega,(by rw[BW hP hb];simp[hs])⟩ (by omega) AT
  ·have he:=hr b hbm hw;refine Aw 17 [([],[4]),([],[23]),([],[24]),([],[4,25]),([],[26,25]),([],[27,25]),([],[0,25]),([],[29,25]),([],[30,25]),([],[31,25]),([],[32,25]),([],[4,25]),([],[34,25]),([],[4,25]),([],[36,25]),([],[37,25]),([],[33,35,38,25])] fol ?_;simp(disch:=omega)only[go_sem,hw]
   first|(refine Ae (f179_ok w.Aa b.proc b.req.expr h) ?_)|(refine Av (f179_ok w.Aa b.proc b.req.expr h) ?_)
   refine gO ?_
   first|(refine Ae (f160_ok b.req.expr (Bh w.Aa b.proc b.req.expr) he) ?_)|(refine Av (f160_ok b.req.expr (Bh w.Aa b.proc b.req.expr) he) ?_)
   cases hh:Fb b.req.expr (Bh w.Aa b.proc b.req.expr)
   ·have hs:HB w b=false:=by simp[HB,hw,hh]
    refine gO ?_;refine hJ _ (i+1) ⟨by omega,(by rw[BW hP hb];simp[hs])⟩ (by omega) AT
   ·have hs:HB w b=true:=by simp[HB,hw,hh]
    have e:F2 w=some i:=F8 hP b hb hs;simp(disch:=omega)only[go_sem,e,atI];refine Cp ⟨[(0,0),(1,1)],[(63,63)],[]⟩ _ ?_ ?_
    ·exact gI
    ·exact gI
 ·subst hil;rw[tL]at hP;have e:F2 w=none:=by
   unfold F2;rw[List.findIdx?_eq_none_iff];rw[List.find?_eq_none]at hP;intro x hx;simpa using hP x hx
  simp(disch:=omega)only[go_sem,e,atI];refine Cp ⟨[(0,0),(1,1)],[(63,63)],[]⟩ _ ?_ ?_
  ·exact gI
  ·exact gI
def Fy(w:Am)(i:Nat)(x:Pcs)(keep:Bool)(name:Bs):Am:=if !keep then Dl w x name else match BS w.Aa name with
 |none=>w
 |some k=>if decide (At (w.Aa.getD k q0).holds x.proc=An (w.procs.getD i x0).led.entries name) then w
  else AF w i { w.procs.getD i x0 with led:=(FO (w.procs.getD i x0).led ⟨name,An (w.procs.getD i x0).led.entries name,At (w.Aa.getD k q0).holds x.proc⟩).1 }
def CW(w:Am)(i:Nat)(x:Pcs)(kl:List (Bool × Atom)):Am:=kl.foldl (fun w p=>Fy w i x p.1 p.2.name) w
def Cq(w:Am)(i:Nat)(x:Pcs):Am :=
 let w1:=CW (BQ w 2 x.proc) i x ((Cv x.req.expr (Bh w.Aa x.proc x.req.expr)).zip (Ag x.req.expr))
 let w2:=AF w1 i (Br (w1.procs.getD i x0))
 AF w2 i (BC (w2.procs.getD i x0))
def C1:Nat→Am→Am
 | 0,w=>w
 | n+1,w=>match F2 w with
  |none=>w
  |some i=>C1 n (Cq w i (w.procs.getD i x0))
def dU(w:Am)(x:Pcs)(kp:Bool)(name:Bs):Prop:=(kp=false→Qj w x name)∧(kp=true→D5 w.Aa∧∃ k,BS w.Aa name=some k)
def bW(w:Am)(i:Nat)(x:Pcs):(AF w i x).procs.length=w.procs.length:=by simp[AF]
def Vx(w:Am)(i:Nat)(x:Pcs)(kp:Bool)(name:Bs):(Fy w i x kp name).procs.length=w.procs.length:=by
 unfold Fy;split
 ·rw[Fu]
 ·split
  ·rfl
  ·split
   ·rfl
   ·exact bW _ _ _
def PC{w:Am}{i:Nat}{x:Pcs}{kl:List (Bool × Atom)}{j:Nat}{p:Bool × Atom}(hp:kl[j]?=some p):CW w i x (kl.take (j+1))=Fy (CW w i x (kl.take j)) i x p.1 p.2.name:=by
 simp[CW,tA,hp,foldl_append]
def Kn(w:Am)(i:Nat)(x:Pcs):∀ kl:List (Bool × Atom),(CW w i x kl).procs.length=w.procs.length
 |[]=>rfl
 | p::kl=>by
  show (CW (Fy w i x p.1 p.2.name) i x kl).procs.length=w.procs.length;rw[Kn,Vx]
def TE(w:Am)(i:Nat)(x:Pcs)(kl:List (Bool × Atom)):Prop:=∀ j p,kl[j]?=some p→dU (CW w i x (kl.take j)) x p.1 p.2.name
def Zn{w:Am}{i:Nat}{x:Pcs}{kp:Bool}{name:Bs}(h:dU w x kp name):(Fy w i x kp name).CX.length≤w.CX.length+201:=by
 unfold Fy;cases kp
 ·have:=Sq (h.1 rfl);simpa using this
 ·simp only[zT,false_eq_true,if_false];split
  ·omega
  ·split
   ·omega
   ·simp[AF]
def Km{w:Am}{i:Nat}{x:Pcs}{kl:List (Bool × Atom)}(h:TE w i x kl):∀ j,j≤kl.length→(CW w i x (kl.take j)).CX.length≤w.CX.length+201*j
 | 0,_=>by simp[CW]
 | j+1,hj=>by
  obtain⟨p,hp⟩:∃ p,kl[j]?=some p:=⟨_,gE (by omega)⟩;have h1:=Km h j (by omega);have h2:=Zn (i:=i) (h j p hp);rw[PC hp];omega
def wcount(w:Am):Nat:=w.procs.countP (·.waiting)
def Bl(w:Am):Am:=C1 (wcount w) w
structure Io(Inv:Am→Prop):Prop where
 few:∀ w,Inv w→D5 w.Aa∧w.procs.length≤8∧TC w
 safe:∀ w i x,Inv w→F2 w=some i→w.procs[i]?=some x→TE (BQ w 2 x.proc) i x ((Cv x.req.expr (Bh w.Aa x.proc x.req.expr)).zip (Ag x.req.expr))
 next:∀ w i x,Inv w→F2 w=some i→w.procs[i]?=some x→Inv (Cq w i x)
def FR{w:Am}{i:Nat}(h:F2 w=some i):∃ x,w.procs[i]?=some x∧HB w x=true:=by
 unfold F2 at h;rw[List.findIdx?_eq_some_iff_getElem]at h;obtain⟨h1,h2,_⟩:=h;exact⟨_,gE h1,h2⟩
def JU{α:Type}:∀ {l:List α} {i:Nat} {z:α},l[i]?=some z→l.set i z=l
 |[],_,_,h=>by simp at h
 | a::l,0,z,h=>by simp at h;simp[h]
 | a::l,i+1,z,h=>by
  simp only[set_cons_succ];rw[JU (by simpa using h)]
def countP_set{α:Type}{p:α→Bool}{y:α}(hy:p y=false):∀ {l:List α} {i:Nat} {z:α},l[i]?=some z→p z=true→(l.set i y).countP p+1=l.countP p
 |[],_,_,h,_=>by simp at h
 | a::l,0,z,h,hz=>by
  simp at h;subst h;simp[List.countP_cons,hy,hz]
 | a::l,i+1,z,h,hz=>by
  have:=countP_set hy (l:=l) (i:=i) (z:=z) (by simpa using h) hz;simp only[set_cons_succ,List.countP_cons];omega
def ON{w:Am}{i:Nat}{x z:Pcs}(hz:w.procs[i]?=some z):∀ (kl:List (Bool × Atom)) (w':Am),(∃ l',w'.procs=w.procs.set i { z with led:=l' })→∃ l',(CW w' i x kl).procs=w.procs.set i { z with led:=l' }
 |[],_,h=>h
 | p::kl,w',h=>by
  refine ON hz kl (Fy w' i x p.1 p.2.name) ?_;obtain⟨l',hl⟩:=h;have hi:=Aj hz;have hg:w'.procs[i]?=some { z with led:=l' }:=by rw[hl];simp[hi]
  unfold Fy;split
  ·exact⟨l',by rw[Fu,hl]⟩
  ·split
   ·exact⟨l',hl⟩
   ·split
    ·exact⟨l',hl⟩
    ·have hgd:w'.procs.getD i x0 = { z with led:=l' }:=by simp[List.getD,hg]
     rw[hgd];exact⟨_,by simp only[AF,hl,set_set];rfl⟩
def He{w:Am}{i:Nat}{x:Pcs}(hx:w.procs[i]?=some x):∃ y,(Cq w i x).procs=w.procs.set i y∧y.waiting=false∧y.proc=x.proc:=by
 obtain⟨l',hl⟩:=ON (w:=w) (i:=i) (x:=x) (z:=x) hx ((Cv x.req.expr (Bh w.Aa x.proc x.req.expr)).zip (Ag x.req.expr)) (BQ w 2 x.proc) ⟨x.led,(JU hx).symm⟩;have hi:=Aj hx;refine⟨BC (Br { x with led:=l' }),?_,rfl,rfl⟩;simp only[Cq,AF,hl,set_set];have h1:(w.procs.set i { x with led:=l' }).getD i x0 = { x with led:=l' }:=by simp[List.getD,hi]
 rw[h1];have h2:(w.procs.set i (Br { x with led:=l' })).getD i x0=Br { x with led:=l' }:=by simp[List.getD,hi]
 rw[h2]
def Ja{w:Am}{i:Nat}{x:Pcs}(hs:F2 w=some i)(hx:w.procs[i]?=some x)(hsat:HB w x=true):Bl w=Bl (Cq w i x)∧wcount (Cq w i x)+1=wcount w:=by
 obtain⟨y,h1,h2,_⟩:=He hx;have hwt:x.waiting=true:=by simp only[HB,and_eq_true]at hsat;exact hsat.1
 have hc:wcount (Cq w i x)+1=wcount w:=by
  unfold wcount;rw[h1];exact countP_set (p:=(·.waiting)) h2 hx hwt
 refine⟨?_,hc⟩;have hg:w.procs.getD i x0=x:=by simp[List.getD,hx]
 unfold Bl;rw[← hc];simp only[C1,hs,hg]
def Uz(w:Am)(o:Nat)(x:Pcs)(z:Pcs)(kp:Bool)(name:Bs)(hz:w.procs[o]?=some z):Fy w o x true name=(match BS w.Aa name with
 |none=>w
 |some k=>if decide (At (w.Aa.getD k q0).holds x.proc=An z.led.entries name) then w else AF w o { z with led:=(FO z.led ⟨name,An z.led.entries name,At (w.Aa.getD k q0).holds x.proc⟩).1 }):=by
 have hg:w.procs.getD o x0=z:=by simp[List.getD,hz]
 unfold Fy;rw[hg];rfl
def f122_ok(Inv:Am→Prop)(hI:Io Inv)(w:Am)(hw:Inv w)(hev:w.CX.length+1700*wcount w≤900000):Ad C0 122 [.ptr 63 0] [(63,w.c)] (.tup []) [(63,(Bl w).c)]:=by
 obtain⟨hf,hp,hr⟩:=hI.few w hw;refine Ad.go f122 ?_;unfold f122;refine gO ?_;refine call2 ⟨⟨[(0,0),(1,1)],[(63,63)],[]⟩,[],[]⟩ (f188_ok w hf (by omega) hr) ?_;refine gO ?_;refine Ac (α:=Am) (fun w'=>⟨[(2,I (atI (F2 w'))),(0,.ptr 63 0)],[(63,w'.c)]⟩) (fun w'=>Inv w'∧Bl w'=Bl w∧w'.CX.length+1700*wcount w'≤900000) (fun w'=>wcount w') w ⟨hw,rfl,hev⟩ AT ?_;clear hf hp hr hw hev;rintro w1 ⟨hw,hsw,hev⟩ J hJ;obtain⟨hf,hp,hr⟩:=hI.few w1 hw;cases hs:F2 w1 with
 |none =>
  simp(disch:=omega)only[go_sem,hs,atI];have e:Bl w1=w1:=by
   unfold Bl;cases wcount w1 with
   | zero=>rfl
   | succ n=>simp only[C1,hs]
  rw[← hsw,e];refine Cp ⟨[(0,0),(1,1)],[(63,63)],[]⟩ _ ?_ ?_
  ·exact gI
  ·exact gI
 |some o =>
  obtain⟨x,hx,hsat⟩:=FR hs;have hks:=hI.safe w1 o x hw hs hx;simp(disch:=omega)only[go_sem,hs,atI,eq_true (show (0:Int)≤(o:Int) by omega),decide_true,gm,hx];have hnw:=f182_ok w1 2 x.proc (by omega);have hs1:Cq w1 o x=(let w1':=CW (BQ w1 2 x.proc) o x ((Cv x.req.expr (Bh w1.Aa x.proc x.req.expr)).zip (Ag x.req.expr));let w2:=AF w1' o (Br (w1'.procs.getD o x0));AF w2 o (BC (w2.procs.getD o x0))):=rfl;have hstep:=Ja hs hx hsat;have hnext:=hI.next w1 o x hw hs hx;have hq2:(BQ w1 2 x.proc).Aa=w1.Aa:=rfl;have hp2:(BQ w1 2 x.proc).procs=w1.procs:=rfl;have he2:(BQ w1 2 x.proc).CX.length=w1.CX.length+1:=by simp[BQ]
  generalize BQ w1 2 x.proc=w2 at hnw hks hs1 hq2 hp2 he2;rw[← hq2]at hf hks hs1;have hprune:=f189_ok x.req.expr (Bh w2.Aa x.proc x.req.expr);have hkl:=Ru x.req.expr (Bh w2.Aa x.proc x.req.expr);have hat:=f93_ok x.req.expr;have hal:=CF x.req.expr;generalize Cv x.req.expr (Bh w2.Aa x.proc x.req.expr)=keep at hprune hkl hks hs1;generalize Ag x.req.expr=az at hat hkl hks hal hs1;refine call2 ⟨⟨[(0,0),(1,1)],[(63,63)],[]⟩,[],[]⟩ hnw ?_;refine gO ?_;refine Aw 14 [([],[3]),([],[28]),([],[29]),([],[0]),([],[31]),([],[32]),([],[33]),([],[34]),([],[3]),([],[36]),([],[3]),([],[38]),([],[39]),([],[35,37,40])] fol ?_;refine gO ?_
  first|(refine Ae (f179_ok w2.Aa x.proc x.req.expr hf) ?_)|(refine Av (f179_ok w2.Aa x.proc x.req.expr hf) ?_)
  refine gO ?_
  first|(refine Ae hprune ?_)|(refine Av hprune ?_)
  refine gO ?_;refine Ae hat ?_;refine gO ?_;have hzl:(keep.zip az).length=az.length:=by simp[hkl]
  have hJo:=hJ;clear hJ;refine Ac (α:=Nat) (fun i=>⟨[(6,I i),(5,BB az),(4,HR keep),(2,I o),(0,.ptr 63 0),(3,.ptr 192 0)],[(63,(CW w2 o x ((keep.zip az).take i)).c),(192,x.c)]⟩) (fun i=>i≤(az).length∧True) (fun i=>(az).length-i) 0 ⟨by omega,trivial⟩ ?_ ?_
  ·refine Imp.Ar ?_ ?_
   all_goals(try simp(disch:=omega)only[go_sem])
   all_goals(try(repeat'(with_reducible apply And.intro)))
   all_goals(first|exact .AO (by omega)|exact .AJ (by omega)|exact .sl (by simp[CW])|exact .int (by simp[CW])|exact .eq (by simp[CW]))
  rintro i ⟨hi,hP⟩ J hJ;refine gO ?_;refine gR (l:=az) hi (fun b hb hbm hlt=>?_) (fun hil=>?_)
  ·obtain⟨kp,hkp⟩:∃ kp,keep[i]?=some kp:=⟨_,gE (by omega)⟩;have hzi:(keep.zip az)[i]?=some (kp,b):=by rw[List.getElem?_zip_eq_some];exact⟨hkp,hb⟩
   have hsk:=hks i (kp,b) hzi;have hln:=Km hks i (by omega);have htk:=PC (w:=w2) (i:=o) (x:=x) hzi;have hpl:=Kn w2 o x ((keep.zip az).take i);simp only at hsk htk;obtain⟨z,hz⟩:∃ z,(CW w2 o x ((keep.zip az).take i)).procs[o]?=some z:=⟨_,gE (by rw[hpl,hp2];exact Aj hx)⟩;generalize CW w2 o x ((keep.zip az).take i)=w3 at hsk hln htk hz ⊢;simp(disch:=omega)only[go_sem,gm,hb,hkp];cases kp
   ·simp(disch:=omega)only[go_sem,zF];have htk2:CW w2 o x ((keep.zip az).take (i+1))=Dl w3 x b.name:=by rw[htk];rfl
    refine call2 ⟨⟨[(0,0),(1,1)],[(63,63)],[]⟩,[],[]⟩ (aG w3 x b.name (hsk.1 rfl) (by omega)) ?_;rw[← htk2];refine gO ?_;refine hJ _ (i+1) ⟨by omega,trivial⟩ (by omega) AT
   ·obtain⟨hf3,k,hfk⟩:=hsk.2 rfl;rw[Uz w3 o x z true b.name hz,hfk]at htk;obtain⟨hk,q,hq,_⟩:=C5 hfk;have hgq:w3.Aa.getD k q0=q:=by simp[List.getD,hq]
    simp only[hgq]at htk;obtain⟨q1,q2,q3⟩:=Bu (hf3.q q (mG hq));have hn3:=hf3.n;simp(disch:=omega)only[go_sem,zT];refine Aw 18 [([],[0]),([],[67]),([],[68]),([],[69]),([],[70]),([],[0]),([],[72]),([],[73]),([],[74]),([],[75]),([],[7]),([],[76,77]),([11],[71,78]),([11],[79]),([],[3]),([],[81]),([11],[80,82]),([],[])] fol ?_;refine gO ?_
    first|(refine Ae (JC w3.Aa b.name (by omega)) ?_)|(refine Av (JC w3.Aa b.name (by omega)) ?_)
    simp(disch:=omega)only[go_sem,hfk,atI,gm,hq]
    first|(refine Ae (f163_ok q x.proc q1) ?_)|(refine Av (f163_ok q x.proc q1) ?_)
    simp(disch:=omega)only[go_sem,gm,hz];refine Ae (f190_ok z.led.entries b.name) ?_;refine gO ?_;cases hH:decide (At q.holds x.proc=An z.led.entries b.name);rotate_left
    ·rw[hH,if_pos rfl]at htk;simp(disch:=omega)only[go_sem,hH,zT];rw[← htk];refine hJ _ (i+1) ⟨by omega,trivial⟩ (by omega) AT
    rw[hH]at htk;simp only[false_eq_true,if_false]at htk;simp(disch:=omega)only[go_sem,hH,zF];refine En (st':=⟨[(9,.ptr 576 0),(8,.ptr 512 0),(7,.v (.string (str b.name))),(6,I i),(5,BB az),(4,HR keep),(2,I o),(0,.ptr 63 0),(3,.ptr 192 0)],[(512,(At q.holds x.proc).c),(576,(An z.led.entries b.name).c),(63,w3.c),(192,x.c)]⟩) AT ?_;refine QJ 23 [([],[0]),([0],[100]),([0,1],[101]),([0,1,2],[102]),([0,1,2,3],[103]),([],[2]),([],[0]),([6],[106]),([6,7],[107]),([6,7,8],[108]),([6,7,8,9],[109]),([],[2]),([6,7,8,9,10,11],[110,111]),([6,7,8,9,10,11,12],[112]),([6,7,8,9,10,11,12,13],[113]),([],[7]),([],[9]),([],[8]),([15,16,17],[115,116,117]),([6,7,8,9,10,11,12,13,14,15,16,17,18],[114,118]),([6,7,8,9,10,11,12,13,14,15,16,17,18,19],[119]),([6,7,8,9,10,11,12,13,14,15,16,17,18,19,20],[99]),([6,7,8,9,10,11,12,13,14,15,16,17,18,19,20],[99]),([0,1,2,3,4,5,6,7,8,9,10,11,12,13,14,15,16,17,18,19,20,21],[]),([0,1,2,3,4,5,6,7,8,9,10,11,12,13,14,15,16,17,18,19,20,21,23],[]),([0,1,2,3,4,5,6,7,8,9,10,11,12,13,14,15,16,17,18,19,20,21,23,24],[])] [22] [104,105,120,99,6,5,4,2,0,3] fol kR ?_;simp (maxSteps:=1000000) (disch:=omega)only[go_sem,gm,hz]
    first|(refine Ae (f191_ok z.led ⟨b.name,An z.led.entries b.name,At q.holds x.proc⟩) ?_)|(refine Av (f191_ok z.led ⟨b.name,An z.led.entries b.name,At q.holds x.proc⟩) ?_)
    simp (maxSteps:=1000000) (disch:=omega)only[go_sem,gm,hz];refine hJ _ (i+1) ⟨by omega,trivial⟩ (by omega) (Imp.Ar ?_ ?_)
    ·exact gI
    ·rw[htk];simp(disch:=omega)only[go_sem,AF];exact .sl (by rw[map_set];rfl)
  ·subst hil;have hta:(keep.zip az).take az.length=keep.zip az:=List.take_of_length_le (by omega);rw[hta];have hpl:=Kn w2 o x (keep.zip az);have hln:=Km hks az.length (by omega);rw[hta]at hln;obtain⟨z,hz⟩:∃ z,(CW w2 o x (keep.zip az)).procs[o]?=some z:=⟨_,gE (by rw[hpl,hp2];exact Aj hx)⟩;generalize CW w2 o x (keep.zip az)=w3 at hpl hln hz hs1 ⊢;have hzi:=Aj hz;have hz2:(AF w3 o (Br z)).procs[o]?=some (Br z):=by simp[AF,hzi]
   have hs2:Cq w1 o x=AF (AF w3 o (Br z)) o (BC (Br z)):=by
    rw[hs1];simp only;rw[show w3.procs.getD o x0=z by simp[List.getD,hz],show (AF w3 o (Br z)).procs.getD o x0=Br z by simp[List.getD,hz2]]
   have hev2:(Cq w1 o x).CX.length≤w1.CX.length+1609:=by
    rw[hs2];simp only[AF];omega
   refine call2 ⟨⟨[(0,0),(1,1)],[(63,63)],[]⟩,[],[]⟩ (f186_ok w3 o z hz) ?_;refine gO ?_;refine call2 ⟨⟨[(0,0),(1,1)],[(63,63)],[]⟩,[],[]⟩ (f121_ok (AF w3 o (Br z)) o (Br z) hz2) ?_;rw[← hs2];refine gO ?_;obtain⟨hf4,hp4,hr4⟩:=hI.few _ hnext;refine call2 ⟨⟨[(0,0),(1,1)],[(63,63)],[]⟩,[],[]⟩ (f188_ok (Cq w1 o x) hf4 (by omega) hr4) ?_;refine gO ?_;exact hJo _ (Cq w1 o x) ⟨hnext,hstep.1.symm.trans hsw,by omega⟩ (by omega) AT
@[reducible] def Q3(l:List Int):AV:=.sl .no 1 (l.map fun x=>[I x])
def DF(l:List Int)(a:Nat):List AV:=[Q3 l,I a]
def f15_ok(l:List Int):Ad C0 15 [Q3 l] [] (B (decide ((l.length:Int)≤300))) []:=by
 refine Ad.lens f15 fun hlen=>?_
 simp only[ED,lens,length_map,and_true,true_and]at hlen;refine Ad.go f15 ?_;unfold f15;simp(disch:=omega)only[go_sem,length_map];exact AQ _
def f49_ok(l:List Int)(a:Nat)(hl:l.length≤1000000):Ad C0 49 [.ptr 63 0] [(63,DF l a)] (B (decide ((a:Int)<l.length))) [(63,DF l a)]:=by
 refine Ad.go f49 ?_;unfold f49;refine gO ?_;refine Aw 9 [([],[0]),([],[3]),([],[4]),([],[5]),([],[0]),([],[7]),([],[8]),([],[9]),([],[10])] fol ?_;simp(disch:=omega)only[go_sem,DF,length_map];refine Cp ⟨[],[(63,63)],[]⟩ _ ?_ ?_
 ·exact gI
 ·simp(disch:=omega)only[go_sem,DF]
def Jj(x n:Int):Int:=if decide (n<1) then 0 else x%n
def f51_ok(x n:Int)(hn:n≤2000000):Ad C0 51 [I x,I n] [] (I (Jj x n)) []:=by
 refine Ad.go f51 ?_;unfold f51;refine gO ?_;cases h1:decide (n<1);rotate_left
 ·have e:Jj x n=0:=by simp[Jj,h1]
  rw[e];simp(disch:=omega)only[go_sem,h1];exact AQ _
 have hn1:1≤n:=by simpa using h1
 have e:Jj x n=x%n:=by simp only[Jj,h1];rfl
 rw[e];have he:=Int.emod_nonneg x (show n≠0 by omega);have he2:=Int.emod_lt_of_pos x (show 0<n by omega);have hr:x.tmod n=x%n∨x.tmod n=x%n-n:=by
  rw[Int.tmod_eq_emod];split
  ·left;omega
  ·right;omega
 have hn0:=eq_false (show ¬ n=0 by omega);have hw:=wrap64 (x.tmod n+n) (by omega) (by omega);generalize x.tmod n=r at hr hw;generalize x%n=m at he he2 hr ⊢;simp(disch:=omega)only[go_sem,h1,hn0];rcases hr with hr|hr
 ·have hd:decide (r<0)=false:=by simp;omega
  simp(disch:=omega)only[go_sem,hd];refine Cn _ ?_;simp(disch:=omega)only[go_sem,hr]
 ·by_cases hz:m-n<0
  ·have hd:decide (r<0)=true:=by simp;omega
   simp(disch:=omega)only[go_sem,hd,hw];refine Cn _ ?_;simp(disch:=omega)only[go_sem,hr];exact .int (by omega)
  ·omega
def Ak(l:List Int)(a:Nat)(n:Int):Int × Nat:=match l[a]? with
 |none=>(0,a)
 |some x=>(Jj x n,a+1)
def f37_ok(l:List Int)(a:Nat)(n:Int)(hl:l.length≤1000000)(hn:n≤2000000):Ad C0 37 [.ptr 63 0,I n] [(63,DF l a)] (I (Ak l a n).1) [(63,DF l (Ak l a n).2)]:=by
 refine Ad.go f37 ?_;unfold f37;refine gO ?_;refine Aw 9 [([],[0]),([],[5]),([],[6]),([],[7]),([],[0]),([],[9]),([],[10]),([],[11]),([],[12])] fol ?_;simp(disch:=omega)only[go_sem,DF,length_map];cases hb:l[a]? with
 |none =>
  have hla:l.length≤a:=by
   rcases Nat.lt_or_ge a l.length with h|h
   ·rw[gE h]at hb;cases hb
   ·exact h
  have e:Ak l a n=(0,a):=by simp[Ak,hb]
  rw[e];simp(disch:=omega)only[go_sem,eq_true (show (l.length:Int)≤a by omega),decide_true];refine Cp ⟨[],[(63,63)],[]⟩ _ ?_ ?_
  ·exact gI
  ·simp(disch:=omega)only[go_sem,DF]
 |some x =>
  have hla:=Aj hb;have e:Ak l a n=(Jj x n,a+1):=by simp[Ak,hb]
  rw[e];have hc2:((a:Int)+1-1)=(a:Int):=by omega
  simp(disch:=omega)only[go_sem,eq_false (show ¬ (l.length:Int)≤a by omega),decide_false];refine Aw 12 [([],[0]),([],[22]),([],[23]),([],[24]),([],[0]),([],[26]),([],[27]),([],[28]),([],[29]),([],[25,30]),([],[31]),([],[1])] fol ?_;simp(disch:=omega)only[go_sem,hc2,gm,hb]
  first|(refine Ae (f51_ok x n hn) ?_)|(refine Av (f51_ok x n hn) ?_)
  refine gO ?_;refine Cp ⟨[],[(63,63)],[]⟩ _ ?_ ?_
  ·exact gI
  ·simp(disch:=omega)only[go_sem,DF]
def NW(n:Int):Ab:=⟨(n%8)%4,1,1+(n%8) / 4⟩
def et(n:Int):Ad C0 22 [I n] [] (.agg (NW n).c) []:=by
 refine Ad.go f22 ?_;unfold f22;refine gO ?_;refine Ae (f51_ok n 8 (by omega)) ?_;have e:Jj n 8=n%8:=by simp[Jj]
 rw[e];have h0:=Int.emod_nonneg n (show (8:Int)≠0 by omega);have h1:=Int.emod_lt_of_pos n (show (0:Int)<8 by omega);unfold NW;generalize n%8=m at h0 h1 ⊢;have e1:m.tmod 4=m%4:=Int.tmod_eq_emod_of_nonneg h0;have e2:m.tdiv 4=m / 4:=Int.tdiv_eq_ediv_of_nonneg h0;have e3:=wrap64 (m / 4) (by omega) (by omega);have e4:=wrap64 (1+m / 4) (by omega) (by omega);simp(disch:=omega)only[go_sem,e1,e2,e3,e4];refine As _ ?_;refine .eq ?_;simp[Fq,AV.ren,Ab.c,e2]
def XD:List Int:=[5,5,3,4,2,1,3,5]
def f275_ok(n:Int):Ad C0 275 [I n] [] (I (XD.getD (n%8).toNat 0)) []:=by
 refine Ad.go f275 ?_;unfold f275;refine gO ?_;refine Ae (f51_ok n 8 (by omega)) ?_;have e:Jj n 8=n%8:=by simp[Jj]
 rw[e];have h0:=Int.emod_nonneg n (show (8:Int)≠0 by omega);have h1:=Int.emod_lt_of_pos n (show (0:Int)<8 by omega);generalize n%8=m at h0 h1 ⊢;obtain rfl|rfl|rfl|rfl|rfl|rfl|rfl|rfl:m=0∨m=1∨m=2∨m=3∨m=4∨m=5∨m=6∨m=7:=by omega
 all_goals
  refine gO ?_;refine Cn _ ?_;exact .eq rfl
def KP(w:Am)(i:Nat)(x:Pcs):Am :=
 BQ { Cg w (BO w.Aa x.proc).1 (BO w.Aa x.proc).2 with procs:=w.procs.eraseIdx i } 5 x.proc
def NC(w:Am)(i:Nat)(x:Pcs):Am:=Bl (KP w i x)
def erase_eq{α:Type}{l:List α}{i:Nat}:l.take i++l.drop (i+1)=l.eraseIdx i:=by
 rw[List.eraseIdx_eq_take_drop_succ]
def X2(w:Am):wcount w≤w.procs.length:=List.countP_le_length
def f126_ok(Inv:Am→Prop)(hI:Io Inv)(w:Am)(i:Nat)(x:Pcs)(hx:w.procs[i]?=some x)(hp:w.procs.length≤8)(hf:D5 w.Aa)(hw:Inv (KP w i x))(hrl:(BO w.Aa x.proc).2.length≤100000)(hev:w.CX.length≤500000):Ad C0 126 [.ptr 63 0,I i] [(63,w.c)] (.tup []) [(63,(NC w i x).c)]:=by
 have hi:=Aj hx;refine Ad.mk' [33] (fn:=f126) (c:=f126.body.getD .skip) kR kR kR kR (by simp[f126]) (by simp[names]) ?_;unfold f126;simp(disch:=omega)only[go_sem,gm,hx];refine Aw 10 [([],[0]),([],[0]),([],[15]),([],[16]),([],[17]),([],[18]),([],[4]),([],[19,20]),([7],[21]),([7],[21])] fol ?_;refine gO ?_
 first|(refine Ae (f196_ok w.Aa x.proc hf) ?_)|(refine Av (f196_ok w.Aa x.proc hf) ?_)
 refine gO ?_;refine call2 ⟨⟨[(0,0),(1,1)],[(63,63)],[]⟩,[],[]⟩ (f184_ok w (BO w.Aa x.proc).1 (BO w.Aa x.proc).2 (by omega)) ?_;have e0:KP w i x=BQ { Cg w (BO w.Aa x.proc).1 (BO w.Aa x.proc).2 with procs:=w.procs.eraseIdx i } 5 x.proc:=rfl;have e1:(Cg w (BO w.Aa x.proc).1 (BO w.Aa x.proc).2).CX.length=w.CX.length+(BO w.Aa x.proc).2.length:=by simp[Cg]
 have e2:(Cg w (BO w.Aa x.proc).1 (BO w.Aa x.proc).2).procs=w.procs:=rfl;rw[← e2]at e0 hx hi hp;generalize Cg w (BO w.Aa x.proc).1 (BO w.Aa x.proc).2=w1 at e0 e1 e2 hx hi hp ⊢;refine gO ?_;have ht:(w1.procs.drop (i+1)).take (w1.procs.length-(i+1))=w1.procs.drop (i+1):=List.take_of_length_le (by simp);refine Jv 17 [([],[0]),([],[0]),([1],[26]),([1,2],[27]),([1,2,3],[28]),([1,2,3,4],[29]),([],[1]),([],[1]),([1,2,3,4,5,6,7],[30,31,32]),([],[0]),([9],[34]),([9,10],[35]),([9,10,11],[36]),([9,10,11,12],[37]),([],[1]),([14],[39]),([9,10,11,12,13,14,15],[38,40]),([1,2,3,4,5,6,7,8,9,10,11,12,13,14,15,16],[]),([0,1,2,3,4,5,6,7,8,9,10,11,12,13,14,15,16,17],[]),([0,1,2,3,4,5,6,7,8,9,10,11,12,13,14,15,16,17,18],[]),([0,1,2,3,4,5,6,7,8,9,10,11,12,13,14,15,16,17,18,19],[]),([0,1,2,3,4,5,6,7,8,9,10,11,12,13,14,15,16,17,18,19,20],[])] [0] [([],[33,41,0,1,4],let o0:OT:=.done;let o1:OT:=.pick [(21,o0)];let o2:OT:=.pick [(20,o1)];let o3:OT:=.pick [(19,o2)];let o4:OT:=.pick [(18,o3)];let o5:OT:=.pick [(17,o4)];let o6:OT:=.pick [(0,o4)];let o7:OT:=.pick [(0,o5),(17,o6)];o7),([0],[33,41,25,0,1,4],let o0:OT:=.done;let o1:OT:=.pick [(21,o0)];let o2:OT:=.pick [(20,o1)];let o3:OT:=.pick [(19,o2)];let o4:OT:=.pick [(18,o3)];let o5:OT:=.pick [(17,o4)];o5)] fol kR ?_;simp(disch:=omega)only[go_sem,ht];have e4:({ w1 with procs:=w1.procs.eraseIdx i }:Am).CX.length+1≤4294967296:=by show w1.CX.length+1≤_;omega
 obtain⟨k1,k2,k3⟩:=hI.few _ hw;have k4:=X2 (KP w i x);have k5:(KP w i x).CX.length=w1.CX.length+1:=by rw[e0];simp[BQ]
 repeat'(with_reducible refine And.intro ?_ ?_)
 all_goals
  refine call2 ⟨⟨[(2688,0),(1,1)],[(63,63)],[]⟩,[],[]⟩ (f182_ok { w1 with procs:=w1.procs.eraseIdx i } 5 x.proc e4) ?_ (hh:=?_);rotate_left
  ·simp(disch:=omega)only[go_sem];exact .sl (by rw[← map_append,erase_eq])
  rw[← e0];refine gO ?_;refine call2 ⟨⟨[(2688,0),(1,1)],[(63,63)],[]⟩,[],[]⟩ (f122_ok Inv hI (KP w i x) hw (by omega)) ?_;refine gO ?_;refine Cp ⟨[(2688,0),(1,1)],[(63,63)],[]⟩ _ ?_ ?_
  ·exact gI
  ·simp(disch:=omega)only[go_sem,NC]
def FG(l:List Pcs)(p:Ab):Nat→Nat
 | 0=>0
 | k+1=>if 0<Bc (l.getD k x0).proc p then FG l p k else k+1
def WA(l:List Pcs)(p:Ab):∀ k,FG l p k≤k
 | 0=>by simp[FG]
 | k+1=>by
  simp only[FG];split
  ·have:=WA l p k;omega
  ·omega
def Mf(p:Ab)(cost:Int):Pcs:=⟨p,cost,CS,false,D4,0,0⟩
def R3(l:List Pcs)(x:Pcs):List Pcs:=mid l (FG l x.proc l.length) x
def EE(w:Am)(p:Ab)(cost:Int):Am × Int :=
 if !p.ok||(decide (cost<1)||decide (1000<cost)) then (w,1) else if 0≤DP w.procs p then (w,11) else if w.procs.length=8 then (w,4) else ({ w with procs:=R3 w.procs (Mf p cost) },0)
def f117_ok(w:Am)(p:Ab)(cost:Int)(hp:w.procs.length≤1000000):Ad C0 117 [.ptr 63 0,.agg p.c,I cost] [(63,w.c)] (I (EE w p cost).2) [(63,(EE w p cost).1.c)]:=by
 refine Ad.go f117 ?_;unfold f117;refine gO ?_;refine Ae (f105_ok p) ?_;cases h1:(!p.ok||(decide (cost<1)||decide (1000<cost)));rotate_left
 ·have ht:EE w p cost=(w,1):=by simp only[EE,h1];rfl
  rw[ht];cases a1:p.ok
  ·simp(disch:=omega)only[go_sem,zF];refine Cp ⟨[(0,0),(1,1)],[(63,63)],[]⟩ _ ?_ ?_
   ·exact gI
   ·exact gI
  cases a2:decide (cost<1)
  ·rw[a1,a2]at h1;simp only[zT,Bool.false_or]at h1;simp(disch:=omega)only[go_sem,zT,a2,h1];refine Cp ⟨[(0,0),(1,1)],[(63,63)],[]⟩ _ ?_ ?_
   ·exact gI
   ·exact gI
  ·simp(disch:=omega)only[go_sem,zT,a2];refine Cp ⟨[(0,0),(1,1)],[(63,63)],[]⟩ _ ?_ ?_
   ·exact gI
   ·exact gI
 obtain⟨a1,a2,a3⟩:p.ok=true∧decide (cost<1)=false∧decide (1000<cost)=false:=by simpa using h1
 simp(disch:=omega)only[go_sem,a1,a2,a3,zT];refine Aw 6 [([],[0]),([],[21]),([],[22]),([],[23]),([],[24]),([],[4])] fol ?_;refine gO ?_;refine Dd [0] (f69_ok w.procs p) gI rfl trivial ?_;refine gO ?_
 by_cases h2:0≤DP w.procs p
 ·have ht:EE w p cost=(w,11):=by simp only[EE,h1,h2];rfl
  rw[ht];simp(disch:=omega)only[go_sem,eq_true h2,decide_true];refine Cp ⟨[(0,0),(1,1)],[(63,63)],[]⟩ _ ?_ ?_
  ·exact gI
  ·exact gI
 simp(disch:=omega)only[go_sem,eq_false h2,decide_false,length_map]
 by_cases h3:w.procs.length=8
 ·have ht:EE w p cost=(w,4):=by simp only[EE,h1,h2,h3];rfl
  rw[ht];have h3':decide ((w.procs.length:Int)=8)=true:=by simp;omega
  have h3'':((w.procs.length:Int)==8)=true:=by simp;omega
  simp(disch:=omega)only[go_sem,h3',h3''];refine Cp ⟨[(0,0),(1,1)],[(63,63)],[]⟩ _ ?_ ?_
  ·exact gI
  ·exact gI
 have ht:EE w p cost=({ w with procs:=R3 w.procs (Mf p cost) },0):=by
  simp only[EE,h1,h2,h3];rfl
 rw[ht];have h3':decide ((w.procs.length:Int)=8)=false:=by simp;omega
 have h3'':((w.procs.length:Int)==8)=false:=by simp;omega
 simp(disch:=omega)only[go_sem,h3',h3''];refine Aw 9 [([],[0]),([],[36]),([],[37]),([],[38]),([],[39]),([],[4]),([],[2]),([],[41,42]),([],[43])] fol ?_;refine gO ?_;obtain⟨x,hx⟩:∃ x,x=Mf p cost:=⟨_,rfl⟩;have hxp:x.proc=p:=by rw[hx];rfl
 refine Ac (α:=Nat) (fun k=>⟨[(8,I k),(7,.sl (.own 2880 0) 16 ((mid w.procs k x).map Pcs.c)),(0,.ptr 63 0)],[(63,[I w.now,AB w.Aa,.undef,.sl (.own 1 0) 7 (w.CX.map Ev.c)])]⟩) (fun k=>k≤w.procs.length∧FG w.procs p w.procs.length=FG w.procs p k) (fun k=>k) w.procs.length ⟨Nat.le_refl _,rfl⟩ (Imp.Ar ?_ ?_) ?_
 ·simp(disch:=omega)only[go_sem]
  all_goals(try(repeat'(with_reducible apply And.intro)))
  all_goals(first|exact .int (by omega)|skip)
  have em:mid w.procs w.procs.length x=w.procs++[x]:=by simp[mid]
  rw[em,map_append];refine .dt (GR.append _ ?_);simp only[hx,Mf,CS,D4,e0,a0,Expr.k,Expr.atom,Expr.kids,map_cons,List.map_nil,Pcs.c,GR,J8,WQ];simp
 ·exact gI
 rintro k ⟨hk,hs⟩ J hJ;have fin:FG w.procs p k=k→mid w.procs k x=R3 w.procs (Mf p cost):=fun hst=>by
  rw[← hx];unfold R3;rw[hxp,hs,hst]
 refine Aw 14 [([],[8]),([],[49]),([],[50]),([],[7,51]),([],[8,51]),([],[53,51]),([],[52,54,51]),([],[55,51]),([],[56,51]),([],[7,51]),([],[8,51]),([],[58,59,51]),([],[60,51]),([],[61,51])] fol ?_;cases k with
 | zero =>
  have e0:(0<((0:Nat):Int))=False:=by simp
  simp(disch:=omega)only[go_sem,e0,decide_false];rw[fin rfl];refine Cp ⟨[(2880,0),(1,1)],[(63,63)],[]⟩ _ ?_ ?_
  ·exact gI
  ·exact gI
 | succ k =>
  have e0:(0<(((k+1:Nat)):Int))=True:=eq_true (by omega);have e1:(0<(k:Int)+1)=True:=eq_true (by omega);have e2:((k:Int)+1-1)=(k:Int):=by omega
  obtain⟨y,hy⟩:∃ y,w.procs[k]?=some y:=⟨_,gE (by omega)⟩;have g1:=Yk w.procs (k+1) x hk;have g2:=VV w.procs k x hk;rw[hy]at g2;have hml:=Ui w.procs (k+1) x hk;have z1:k<(mid w.procs (k+1) x).length:=by omega
  have z2:k+1<(mid w.procs (k+1) x).length:=by omega
  simp(disch:=omega)only[go_sem,e0,e1,e2,gm,g1,g2,length_map,hml];refine Ae (f107_ok y.proc x.proc) ?_;rw[hxp];have e4:(k=k+1)=False:=eq_false (by omega);have e5:(k+1=k)=False:=eq_false (by omega);cases hc:decide (0<Bc y.proc p)
  ·have hst:FG w.procs p (k+1)=k+1:=by
    simp only[FG,List.getD,hy,getD_some];rw[if_neg (by simpa using hc)]
   simp(disch:=omega)only[go_sem,hc];rw[fin hst];refine Cp ⟨[(2880,0),(1,1)],[(63,63)],[]⟩ _ ?_ ?_
   ·exact gI
   ·exact gI
  ·have hst:FG w.procs p (k+1)=FG w.procs p k:=by
    simp only[FG,List.getD,hy,getD_some];rw[if_pos (by simpa using hc)]
   simp(disch:=omega)only[go_sem,hc,e2,gm,g1,g2,length_map,hml,length_set,List.getElem?_set,e4,e5];refine hJ _ k ⟨by omega,by rw[hs,hst]⟩ (by omega) (Imp.Ar ?_ gI);refine gO ?_;refine .sl ?_;rw[← VW hy,map_set,map_set];rfl
def Ks(a b:UInt8)(x y:Bs):BX (a::x) (b::y)=(decide (a<b)||(a==b&&BX x y)):=by
 simp[BX,Op.bytesLess]
def OQ(x:Bs):BX x []=false:=by cases x<;>simp[BX,Op.bytesLess]
def GA:∀ n:Bs,BX n n=false
 |[]=>OQ []
 | a::x=>by rw[Ks,GA x];simp
def Hr:∀ {a b c:Bs},BX a b=true→BX b c=true→BX a c=true
 | a,[],c,h,_=>by rw[OQ]at h;cases h
 | a,b::y,[],_,h=>by rw[OQ]at h;cases h
 |[],b::y,c::z,_,_=>by simp[BX,Op.bytesLess]
 | a::x,b::y,c::z,h1,h2=>by
  rw[Ks,or_eq_true,and_eq_true,zD,beq_iff_eq]at h1 h2 ⊢;rcases h1 with h1|⟨rfl,h1⟩
  ·rcases h2 with h2|⟨rfl,_⟩
   ·exact .inl (UInt8.lt_trans h1 h2)
   ·exact .inl h1
  ·rcases h2 with h2|⟨rfl,h2⟩
   ·exact .inl h2
   ·exact .inr ⟨rfl,Hr h1 h2⟩
structure O9(p:Ab)(q q':Queue):Prop where
 val:valid q'=true
 res:q'.res=q.res
 inp:∀ x,inQ q' x→inQ q x∨x=p
 other:∀ y l,y≠p→Kq q y l→Kq q' y l
def O9.refl{p:Ab}{q:Queue}(h:valid q=true):O9 p q q:=⟨h,rfl,fun _ hx=>.inl hx,fun _ _ _ hk=>hk⟩
def J0{p:Ab}{q q1:Queue}(h:Sound q1)(hr:q1.res=q.res)(hi:∀ x,inQ q1 x→inQ q x∨x=p)(ho:∀ y,y≠p→Aq q1 y=Aq q y∧At q1.holds y=At q.holds y):O9 p q (ET q1) where
 val:=On h
 res:=(Ya q1).trans hr
 inp:=fun x hx=>hi x ((Om q1 x).1 hx)
 other:=fun y l hy hk=>by
  refine ax h ?_;obtain⟨a,b⟩:=ho y hy;unfold Kq at hk ⊢;rw[a,b,hr];exact hk
def Tu{q:Queue}{p y:Ab}(h:y≠p):Aq (DZ q p) y=Aq q y:=by
 unfold Aq DZ;simp only[List.find?_append,KO h]
def RO(q:Queue)(p:Ab):Aq (DZ q p) p=none:=by
 unfold Aq DZ;simp only[List.find?_append,QT,or_none,Option.map_none]
def Q2{q:Queue}{p x:Ab}(h:inQ (DZ q p) x):inQ q x:=by
 rcases h with h|⟨w,h,h2⟩|⟨w,h,h2⟩
 ·exact .inl h
 ·simp only[DZ,AZ,List.mem_filter]at h;exact .inr (.inl ⟨w,h.1,h2⟩)
 ·simp only[DZ,AZ,List.mem_filter]at h;exact .inr (.inr ⟨w,h.1,h2⟩)
def Kd{q:Queue}{p:Ab}(hv:valid q=true)(hw:(Aq q p).isSome=true):(Bn q p).2.2=0∧O9 p q (Bn q p).1∧Aq (Bn q p).1 p=none∧At (Bn q p).1.holds p=At q.holds p:=by
 have hs:=((BE q).1 hv).1;have e:Bn q p=(ET (DZ q p),(BT (DZ q p)).2,0):=by simp[Bn,hv,hw]
 rw[e];obtain⟨a,b⟩:=Ve (RO q p);exact⟨rfl,J0 (LJ hs p) rfl (fun x hx=>.inl (Q2 hx)) (fun y hy=>⟨Tu hy,rfl⟩),a,b⟩
def fx{q:Queue}{p x:Ab}{a:Amt}(h:∃ y∈B5 q.holds p a,y.proc=x):(∃ y∈q.holds,y.proc=x)∨x=p:=by
 obtain⟨y,hy,hx⟩:=h;unfold B5 at hy;split at hy
 ·simp[AA]at hy;exact .inl ⟨y,hy.1,hx⟩
 ·simp only[mem_append,mem_cons]at hy;rcases hy with hy|rfl|hy
  ·have:=List.mem_of_mem_take hy;simp[AA]at this;exact .inl ⟨y,this.1,hx⟩
  ·exact .inr hx.symm
  ·have:=List.mem_of_mem_drop hy;simp[AA]at this;exact .inl ⟨y,this.1,hx⟩
def T9{q:Queue}{p x:Ab}{a:Amt}(h:inQ (ID q p a) x):inQ q x∨x=p:=by
 rcases h with h|h|h
 ·rcases fx h with h|h
  ·exact .inl (.inl h)
  ·exact .inr h
 ·exact .inl (.inr (.inl h))
 ·exact .inl (.inr (.inr h))
def Ht{q:Queue}{p:Ab}{a:Amt}(hv:valid q=true)(hz:(At q.holds p).zero=false)(hw:Aq q p=none)(hc:q.res.covers (At q.holds p) a=true):(A7 q p a).2.2=0∧O9 p q (A7 q p a).1∧Aq (A7 q p a).1 p=none∧At (A7 q p a).1.holds p=a:=by
 have hs:=((BE q).1 hv).1
 by_cases he:At q.holds p=a
 ·have e:A7 q p a=(q,[],0):=by
   unfold A7;rw[if_neg (by simp[hv]),if_neg (by simp[hz]),if_neg (by simp[hw]),if_neg (by simp[hc]),if_pos (by simp[he])]
  rw[e];exact⟨rfl,.refl hv,hw,he⟩
 ·have e:A7 q p a=(ET (ID q p a),(BT (ID q p a)).2,0):=by
   unfold A7;rw[if_neg (by simp[hv]),if_neg (by simp[hz]),if_neg (by simp[hw]),if_neg (by simp[hc]),if_neg (by simp[he])]
  rw[e];have hw':Aq (ID q p a) p=none:=hw;obtain⟨b1,b2⟩:=Ve hw';refine⟨rfl,J0 (O5 hs hz hw hc) rfl (fun x hx=>T9 hx) (fun y hy=>⟨rfl,EW hy⟩),b1,?_⟩;rw[b2];exact Jh
def Tt{q:Queue}{p y:Ab}{a:Amt}(h:y≠p):Aq (FY q p a) y=Aq q y:=by
 have hd:decide (p=y)=false:=by simpa using Ne.symm h
 unfold Aq FY;simp only[List.find?_append,List.find?_cons,List.find?_nil,hd,or_none]
def aL(l:List AP)(y:Ab):((l.map Xo).find? fun w=>decide (w.proc=y)).map (·.amt)=(l.find? fun w=>decide (w.proc=y)).map (·.amt):=by
 induction l with
 | nil=>rfl
 | cons w l ih =>
  simp only[map_cons,List.find?_cons,show (Xo w).proc=w.proc from rfl];cases decide (w.proc=y)
  ·exact ih
  ·rfl
def bA{α β:Type}(f:α→β)(a b:Option α):(a.or b).map f=(a.map f).or (b.map f):=by cases a<;>simp
def aM{l:List AP}{w:AP}{y:Ab}(h:y≠w.proc):((KW l w).find? fun x=>decide (x.proc=y)).map (·.amt)=(l.find? fun x=>decide (x.proc=y)).map (·.amt):=by
 have hd:decide (w.proc=y)=false:=by simpa using Ne.symm h
 rw[Wc]
 conv=>rhs;rw[← List.take_append_drop (E0 l w l.length) l]
 simp only[List.find?_append,List.find?_cons,hd,bA,aL]
def Tw{q:Queue}{p y:Ab}{a:Amt}{prio:Int}(h:y≠p):Aq (Ga q p a prio) y=Aq q y:=by
 unfold Aq Ga;simp only[List.find?_append,bA,aM (w:=⟨p,a,prio,0⟩) h]
def Vq{q:Queue}{p x:Ab}{a:Amt}(h:inQ (FY q p a) x):inQ q x∨x=p:=by
 rcases h with h|⟨w,h,h2⟩|h
 ·exact .inl (.inl h)
 ·simp only[FY,mem_append,List.mem_singleton]at h;rcases h with h|rfl
  ·exact .inl (.inr (.inl ⟨w,h,h2⟩))
  ·exact .inr h2.symm
 ·exact .inl (.inr (.inr h))
def Vr{q:Queue}{p x:Ab}{a:Amt}{prio:Int}(h:inQ (Ga q p a prio) x):inQ q x∨x=p:=by
 rcases h with h|h|⟨w,h,h2⟩
 ·exact .inl (.inl h)
 ·exact .inl (.inr (.inl h))
 ·rcases LB h with rfl|h|⟨y,hy,_,rfl⟩
  ·exact .inr h2.symm
  ·exact .inl (.inr (.inr ⟨w,h,h2⟩))
  ·exact .inl (.inr (.inr ⟨y,hy,h2⟩))
def Pm{q:Queue}{p:Ab}{a:Amt}{prio:Int}{l:Amt}(hg:At q.holds p=l)(h0:(A3 q p a prio).2.2=0):O9 p q (A3 q p a prio).1∧Kq (A3 q p a prio).1 p l:=by
 revert h0;unfold A3;split
 ·intro h;simp at h
 rename_i hv;have hv:valid q=true:=by simpa using hv
 have hs:=((BE q).1 hv).1;split
 ·intro h;simp at h
 rename_i hp;split
 ·intro h;simp at h
 rename_i hp1;split
 ·intro h;simp at h
 rename_i hp2;split
 ·intro h;simp at h
 rename_i hf;split
 ·intro h;simp at h
 rename_i hw;have hw:Aq q p=none:=E1 (by simpa using hw);have hf:q.res.fits a=true:=by simpa using hf
 split
 ·intro _;exact⟨.refl hv,fun h=>by rw[hw]at h;simp at h,.inl hg⟩
 rename_i hc;have hc:q.res.covers (At q.holds p) a=false:=by simpa using hc
 split
 ·rename_i hz;have hz:(At q.holds p).zero=false:=by simpa using hz
  intro _;have h1:=M3 hs hf hw hz hc;exact⟨J0 (q1:=FY q p a) h1 rfl (fun x hx=>Vq hx) (fun y hy=>⟨Tt hy,rfl⟩),ax (q:=FY q p a) h1 ⟨fun _=>hg,.inl hg⟩⟩
 rename_i hz;have hz:(At q.holds p).zero=true:=by simpa using hz
 split
 ·intro h;simp at h
 rename_i h8;intro _;simp only[zD]at h8 hp1 hp2;have h1:=O6 hs (p:=p) (a:=a) (prio:=prio) (by simpa using hp) ⟨by omega,by omega⟩ hf hw hz (by omega);exact⟨J0 (q1:=Ga q p a prio) h1 rfl (fun x hx=>Vr hx) (fun y hy=>⟨Tw hy,rfl⟩),ax (q:=Ga q p a prio) h1 ⟨fun _=>hg,.inl hg⟩⟩
def WI{q:Queue}{p y:Ab}(h:y≠p):Aq (Bw q p) y=Aq q y:=by
 unfold Aq Bw;simp only[List.find?_append,KO h]
def Mc{α:Type}:∀ {l:List α} {i:Nat} {z:α},l[i]?=some z→l.set i z=l
 |[],_,_,h=>by simp at h
 | a::l,0,z,h=>by simp at h;simp[h]
 | a::l,i+1,z,h=>by
  simp only[set_cons_succ];rw[Mc (by simpa using h)]
def Us{q:Queue}(p:Ab)(hv:valid q=true):O9 p q (B4 p q).1:=by
 unfold B4;cases hq:Me q p
 ·exact .refl hv
 simp only[if_true];have hs:=((BE q).1 hv).1;unfold FC;simp only[hv,if_true];have hm:B2 (Bp q) p=true:=by
  have:p∈Bp q:=by
   rw[Ea];unfold Me at hq;rcases(by simpa using hq:(Aq q p).isSome=true∨(At q.holds p).zero=false) with h|h
   ·unfold Aq at h;simp only[Option.isSome_map,List.find?_isSome,mem_append,zD]at h;obtain⟨w,h1|h1,h2⟩:=h
    ·exact .inr (.inl ⟨w,h1,h2⟩)
    ·exact .inr (.inr ⟨w,h1,h2⟩)
   ·exact .inl (Ic h)
  simpa [B2]using this
 rw[hm];simp only[if_true];exact J0 (Ii hs p) rfl (fun x hx=>.inl ((Q1 q p x).1 hx).1) (fun y hy=>⟨WI hy,(EW hy:At (B5 q.holds p ⟨0,0⟩) y=At q.holds y)⟩)
def R6(t:List Queue):Cy t=true↔t.length≤8∧(∀ q∈t,valid q=true)∧∀ i,i+1<t.length→BX (t.getD i q0).res.name (t.getD (i+1) q0).res.name=true:=by
 unfold Cy;simp only[and_eq_true,zD,CM,B8,or_eq_true];constructor
 ·rintro⟨h1,h2⟩;refine⟨h1,fun q hq=>?_,fun i hi=>?_⟩
  ·obtain⟨i,hi⟩:=List.getElem?_of_mem hq;exact(h2 i q hi).1
  ·have hg:t[i+1]?=some (t[i+1]):=gE hi;have:=(h2 (i+1) _ hg).2;simp only[Nat.add_sub_cancel]at this;rw[show t.getD (i+1) q0=t[i+1] by simp[List.getD,hg]];rcases this with h|h
   ·omega
   ·exact h
 ·rintro⟨h1,h2,h3⟩;refine⟨h1,fun i q hq=>⟨h2 q (mG hq),?_⟩⟩;cases i with
  | zero=>exact .inl rfl
  | succ i =>
   have:=h3 i (Aj hq);rw[show t.getD (i+1) q0=q by simp[List.getD,hq]]at this;exact .inr this
def Wj{t t':List Queue}(h:t'.map (·.res)=t.map (·.res))(i:Nat):(t'.getD i q0).res=(t.getD i q0).res:=by
 have:=congrArg (fun l=>l[i]?) h;simp only[gm]at this;simp only[List.getD];cases h1:t'[i]?<;>cases h2:t[i]?<;>rw[h1,h2]at this<;>simp at this ⊢
 exact this
def Dv(t:List Queue)(x:Ab):x∈Ay t↔∃ q∈t,inQ q x:=by
 unfold Ay;rw[Ig,List.mem_flatMap];constructor
 ·rintro⟨q,h1,h2⟩;exact⟨q,h1,(Ea q x).1 h2⟩
 ·rintro⟨q,h1,h2⟩;exact⟨q,h1,(Ea q x).2 h2⟩
def Jl(t:List Queue):(Ay t).Nodup:=Jq (FI _)
structure CE(t:List Queue):Prop where
 n:t.length≤8
 val:∀ q∈t,valid q=true
 ord:∀ i,i+1<t.length→BX (t.getD i q0).res.name (t.getD (i+1) q0).res.name=true
 pr:(Ay t).length≤8
def DU(t:List Queue):GJ t=true↔CE t:=by
 unfold GJ;simp only[and_eq_true,zD,R6];exact⟨fun⟨⟨a,b,c⟩,d⟩=>⟨a,b,c,d⟩,fun h=>⟨⟨h.n,h.val,h.ord⟩,h.pr⟩⟩
def Yz{t t':List Queue}(h:CE t)(hr:t'.map (·.res)=t.map (·.res))(hv:∀ q∈t',valid q=true)(hp:(Ay t').length≤8):CE t' where
 n:=by have:=congrArg List.length hr;simp at this;have:=h.n;omega
 val:=hv
 ord:=fun i hi=>by
  have:=congrArg List.length hr;simp at this;rw[Wj hr,Wj hr];exact h.ord i (by omega)
 pr:=hp
def CV{t:List Queue}(h:CE t):D5 t:=by
 refine⟨by have:=h.n;omega,fun q hq=>?_⟩;have hs:=((BE q).1 (h.val q hq)).1;have a:=((C7 _ _).1 hs.holds).2.1;have b:=((Bz q).1 hs.Ao).1;have c:=((Ct _).1 ((Bt q).1 hs.waits).1).1;unfold BG BK;omega
structure Fj(p:Ab)(t t':List Queue):Prop where
 tab:CE t'
 res:t'.map (·.res)=t.map (·.res)
 other:∀ y,y≠p→∀ L:Bs→Amt,(∀ q∈t,Kq q y (L q.res.name))→∀ q∈t',Kq q y (L q.res.name)
def Fj.refl{p:Ab}{t:List Queue}(h:CE t):Fj p t t:=⟨h,rfl,fun _ _ _ hk=>hk⟩
def Fj.trans{p:Ab}{t t' t'':List Queue}(h:Fj p t t')(h':Fj p t' t''):Fj p t t'' :=
 ⟨h'.tab,h'.res.trans h.res,fun y hy L hk=>h'.other y hy L (h.other y hy L hk)⟩
def Yx{t:List Queue}{i:Nat}{q q':Queue}(hq:t[i]?=some q)(hr:q'.res=q.res):(t.set i q').map (·.res)=t.map (·.res):=by
 rw[map_set,hr];exact Mc (by simp[hq])
def CO{t:List Queue}{i:Nat}{q q' x:Queue}(h:x∈t.set i q'):x=q'∨∃ j,j≠i∧t[j]?=some x:=by
 obtain⟨j,hj⟩:=List.getElem?_of_mem h;rw[List.getElem?_set]at hj;split at hj
 ·split at hj
  ·exact .inl (Option.some.inj hj).symm
  ·cases hj
 ·rename_i hne;exact .inr ⟨j,fun e=>hne e.symm,hj⟩
def O0{t t':List Queue}(h:∀ x,x∈Ay t'→x∈Ay t)(hp:(Ay t).length≤8):(Ay t').length≤8 :=
 le_trans (CY _ _ (Jl t') h) hp
def Md{p:Ab}{t:List Queue}{i:Nat}{q q':Queue}(h:CE t)(hq:t[i]?=some q)(hs:O9 p q q')(hp:(∀ x,inQ q' x→inQ q x)∨p∈Ay t∨(Ay t).length<8):Fj p t (t.set i q'):=by
 have hqm:=mG hq;have hin:∀ x,x∈Ay (t.set i q')→x∈Ay t∨(x=p∧¬ ∀ x,inQ q' x→inQ q x):=fun x hx=>by
  rw[Dv]at hx;obtain⟨y,hy,hyx⟩:=hx;rcases CO (q:=q) hy with rfl|⟨j,_,hj⟩
  ·by_cases ha:∀ x,inQ y x→inQ q x
   ·exact .inl ((Dv t x).2 ⟨q,hqm,ha x hyx⟩)
   ·rcases hs.inp x hyx with hb|hb
    ·exact .inl ((Dv t x).2 ⟨q,hqm,hb⟩)
    ·exact .inr ⟨hb,ha⟩
  ·exact .inl ((Dv t x).2 ⟨y,mG hj,hyx⟩)
 refine⟨Yz h (Yx hq hs.res) (fun x hx=>?_) ?_,Yx hq hs.res,fun y hy L hk x hx=>?_⟩
 ·rcases CO (q:=q) hx with rfl|⟨j,_,hj⟩
  ·exact hs.val
  ·exact h.val x (mG hj)
 ·rcases hp with hp|hp|hp
  ·exact O0 (fun x hx=>(hin x hx).elim id fun hx=>absurd hp hx.2) h.pr
  ·exact O0 (fun x hx=>(hin x hx).elim id fun hx=>hx.1▸hp) h.pr
  ·have:=CY (Ay (t.set i q')) (p::Ay t) (Jl _) fun x hx=>(hin x hx).elim (fun hx=>by simp[hx]) fun hx=>by simp[hx.1]
   simp at this;omega
 ·rcases CO (q:=q) hx with rfl|⟨j,_,hj⟩
  ·have:=hs.other y (L q.res.name) hy (hk q hqm);rw[hs.res];exact this
  ·exact hk x (mG hj)
def Hd(n:Bs)(h:BX n n=true):False:=by
 rw[GA]at h;cases h
def Qf{t:List Queue}(h:CE t):∀ d i,i+d+1<t.length→BX (t.getD i q0).res.name (t.getD (i+d+1) q0).res.name=true
 | 0,i,hi=>h.ord i hi
 | d+1,i,hi=>Hr (Qf h d i (by omega)) (h.ord (i+d+1) (by omega))
def EY{t:List Queue}(h:CE t){i j:Nat}{q q':Queue}(hi:t[i]?=some q)(hj:t[j]?=some q')(hn:q.res.name=q'.res.name):i=j:=by
 have hli:=Aj hi;have hlj:=Aj hj;have ei:t.getD i q0=q:=by simp[List.getD,hi]
 have ej:t.getD j q0=q':=by simp[List.getD,hj]
 rcases Nat.lt_trichotomy i j with hlt|rfl|hlt
 ·obtain⟨d,rfl⟩:∃ d,j=i+d+1:=⟨j-i-1,by omega⟩;have:=Qf h d i hlj;rw[ei,ej,hn]at this;exact(Hd _ this).elim
 ·rfl
 ·obtain⟨d,rfl⟩:∃ d,i=j+d+1:=⟨i-j-1,by omega⟩;have:=Qf h d j hli;rw[ei,ej,hn]at this;exact(Hd _ this).elim
def Nv{t:List Queue}(h:CE t){i:Nat}{q:Queue}(hi:t[i]?=some q):BS t q.res.name=some i:=by
 unfold BS;rw[List.findIdx?_eq_some_iff_getElem];refine⟨Aj hi,by simp[get_eq hi],fun j hj=>?_⟩;have hlt:=Aj hi;have hg:t[j]?=some (t[j]):=gE (by omega);simp only[Bool.not_eq_true,beq_eq_false_iff_ne];intro e;have:=EY h hg hi e;omega
def Ia{t t':List Queue}(h:t'.map (·.res)=t.map (·.res))(n:Bs):BS t' n=BS t n:=by
 have h1:∀ l:List Queue,BS l n=(l.map (·.res)).findIdx? fun r=>r.name==n:=fun l=>by
  unfold BS;rw[List.findIdx?_map];rfl
 rw[h1,h1,h]
def TO{t:List Queue}{p:Ab}{name:Bs}{k:Nat}{q:Queue}(h:CE t)(hf:BS t name=some k)(hq:t[k]?=some q)(hw:(Aq q p).isSome=true) :
 ∃ q',(Co t p name).1=t.set k q'∧Fj p t (t.set k q')∧q'.res=q.res∧Aq q' p=none∧At q'.holds p=At q.holds p:=by
 have hg:t.getD k q0=q:=by simp[List.getD,hq]
 obtain⟨h0,h1,h2,h3⟩:=Kd (h.val q (mG hq)) hw;refine⟨(Bn q p).1,?_,Md h hq h1 (.inl fun x hx=>?_),h1.res,h2,h3⟩
 ·simp only[Co,(DU t).2 h,hf,hg,h0];rfl
 ·have hv:=h.val q (mG hq);have e:(Bn q p).1=ET (DZ q p):=by simp[Bn,hv,hw]
  rw[e,Om]at hx;exact Q2 hx
def da{q:Queue}{p x:Ab}{a:Amt}(hz:(At q.holds p).zero=false)(h:inQ (ID q p a) x):inQ q x:=by
 rcases T9 h with h|rfl
 ·exact h
 ·exact .inl (Ic hz)
def Hu{t:List Queue}{p:Ab}{a:Atom}{k:Nat}{q:Queue}(h:CE t)(hf:BS t a.name=some k)(hq:t[k]?=some q)(hw:Aq q p=none)(hz:(At q.holds p).zero=false)(hc:q.res.covers (At q.holds p) a.amt=true) :
 ∃ q',(A8 t p a).1=t.set k q'∧Fj p t (t.set k q')∧q'.res=q.res∧Aq q' p=none∧At q'.holds p=a.amt:=by
 have hg:t.getD k q0=q:=by simp[List.getD,hq]
 have hv:=h.val q (mG hq);obtain⟨h0,h1,h2,h3⟩:=Ht hv hz hw hc;refine⟨(A7 q p a.amt).1,?_,Md h hq h1 (.inl fun x hx=>?_),h1.res,h2,h3⟩
 ·simp only[A8,(DU t).2 h,hf,hg,h0];rfl
 ·revert hx;unfold A7;simp only[hv,hz,hw,hc,Option.isSome_none,zT,false_eq_true,if_false];split
  ·exact id
  ·intro hx;rw[Om]at hx;exact da hz hx
def U3{t:List Queue}{p:Ab}{a:Atom}{prio:Int}(h:CE t)(L:Bs→Amt)(hk:∀ q∈t,q.res.name=a.name→At q.holds p=L q.res.name) :
 (DN t p a prio).1=[]∨∃ k q q',BS t a.name=some k∧t[k]?=some q∧q.res.name=a.name∧(DN t p a prio).1=t.set k q'∧Fj p t (t.set k q')∧q'.res=q.res∧Kq q' p (L q.res.name):=by
 unfold DN;simp only[(DU t).2 h,zT,false_eq_true,if_false];cases hf:BS t a.name with
 |none=>exact .inl rfl
 |some k =>
  obtain⟨hlt,q,hq,hn⟩:=C5 hf;have hg:t.getD k q0=q:=by simp[List.getD,hq]
  simp only[hg];split
  ·exact .inl rfl
  rename_i h8;split
  ·exact .inl rfl
  rename_i h0;have h0:(A3 q p a.amt prio).2.2=0:=by simpa using h0
  obtain⟨h1,h2⟩:=Pm (hk q (mG hq) hn) h0;refine .inr ⟨k,q,(A3 q p a.amt prio).1,rfl,hq,hn,rfl,Md h hq h1 ?_,h1.res,h2⟩
  by_cases hm:p∈Ay t
  ·exact .inr (.inl hm)
  ·refine .inr (.inr ?_);have hp:B2 (Ay t) p=false:=by simp[B2,hm]
   rw[hp]at h8;have:=h.pr;simp at h8;omega
def Ut{t:List Queue}(p:Ab)(h:CE t):Fj p t (BO t p).1:=by
 have e:(BO t p).1=t.map fun q=>(B4 p q).1:=by simp[BO,(DU t).2 h]
 rw[e];have hs:=fun q hq=>Us p (h.val q hq)
 have hr:(t.map fun q=>(B4 p q).1).map (·.res)=t.map (·.res):=by
  rw[List.map_map];exact List.map_congr_left fun q hq=>(hs q hq).res
 refine⟨Yz h hr (fun x hx=>?_) (O0 (t:=t) (fun x hx=>?_) h.pr),hr,fun y hy L hk x hx=>?_⟩
 ·obtain⟨q,hq,rfl⟩:=mem_map.1 hx;exact(hs q hq).val
 ·rw[Dv]at hx ⊢;obtain⟨y,hy,hyx⟩:=hx;obtain⟨q,hq,rfl⟩:=mem_map.1 hy;refine⟨q,hq,?_⟩;revert hyx;unfold B4;cases hh:Me q p
  ·exact id
  ·simp only[if_true];unfold FC;simp only[h.val q hq,if_true];split
   ·intro hyx;rw[Om]at hyx;exact((Q1 q p x).1 hyx).1
   ·intro hyx;rcases hyx with ⟨_,hm,_⟩|⟨_,hm,_⟩|⟨_,hm,_⟩<;>simp[q0]at hm
 ·obtain⟨q,hq,rfl⟩:=mem_map.1 hx;rw[(hs q hq).res];exact(hs q hq).other y _ hy (hk q hq)
def FK(x:Pcs):Int:=IntKind.i64.wrap (x.since+x.req.BY)
def KV(now:Int)(b:Int × Int)(x:Pcs):Bool:=x.waiting&&(!decide (x.req.BY=0)&&(decide (FK x≤now)&&(decide (b.1<0)||decide (FK x<b.2))))
def LR(now:Int)(s:Nat × Int × Int)(x:Pcs):Nat × Int × Int:=(s.1+1,if KV now s.2 x then ((s.1:Int),FK x) else s.2)
def JA(now:Int)(l:List Pcs):Nat × Int × Int:=l.foldl (LR now) (0,-1,0)
def Ns(w:Am):Int:=(JA w.now w.procs).2.1
def fg(now:Int)(l:List Pcs):(JA now l).1=l.length:=by
 have:∀ (l:List Pcs) (s:Nat × Int × Int),(l.foldl (LR now) s).1=s.1+l.length:=by
  intro l
  induction l with
  | nil=>intro s;rfl
  | cons a l ih=>intro s;rw[foldl_cons,ih];simp[LR];omega
 rw[JA,this];simp
def Ou(now:Int){l:List Pcs}{i:Nat}{b:Pcs}(hb:l[i]?=some b):(JA now (l.take (i+1))).2=if KV now (JA now (l.take i)).2 b then ((i:Int),FK b) else (JA now (l.take i)).2:=by
 have hi:=Aj hb;have h1:=fg now (l.take i);rw[tA,hb];rw[List.length_take,Nat.min_eq_left (Nat.le_of_lt hi)]at h1;simp only[JA,foldl_append,toList_some,foldl_cons,List.foldl_nil]at h1 ⊢;show (if KV now (List.foldl (LR now) (0,-1,0) (List.take i l)).2 b then (((List.foldl (LR now) (0,-1,0) (List.take i l)).1:Int),FK b) else (List.foldl (LR now) (0,-1,0) (List.take i l)).2)=_;rw[h1];rfl
def QP(now:Int):JA now []=(0,-1,0):=rfl
def f181_ok(w:Am)(hp:w.procs.length≤1000000):Ad C0 181 [.ptr 63 0] [(63,w.c)] (I (Ns w)) [(63,w.c)]:=by
 refine Ad.go f181 ?_;unfold f181;refine gO ?_;refine Ac (α:=Nat) (fun i=>⟨[(5,I i),(4,I (JA w.now (w.procs.take i)).2.2),(3,I (JA w.now (w.procs.take i)).2.1),(0,.ptr 63 0)],[(63,w.c)]⟩) (fun i=>i≤(w.procs).length∧True) (fun i=>(w.procs).length-i) 0 ⟨by omega,trivial⟩ ?_ ?_
 ·refine Imp.Ar ?_ ?_
  all_goals(try simp(disch:=omega)only[go_sem])
  all_goals(try(repeat'(with_reducible apply And.intro)))
  all_goals(first|exact .AO (by omega)|exact .AJ (by omega)|exact .sl (by simp[QP])|exact .int (by simp[QP])|exact .eq (by simp[QP]))
 rintro i ⟨hi,hP⟩ J hJ;refine gO ?_;refine gR (l:=w.procs) hi (fun b hb hbm hlt=>?_) (fun hil=>?_)
 ·simp(disch:=omega)only[go_sem,gm,hb];have hsn:=Ou w.now hb;generalize JA w.now (w.procs.take i)=s at hsn;obtain⟨n,best,when⟩:=s;simp only at hsn;cases hw:b.waiting
  ·have hs2:(JA w.now (List.take (i+1) w.procs)).2=(best,when):=by rw[hsn,show KV w.now (best,when) b=false from by simp only[KV,hw]<;>rfl]<;>rfl
   refine Aw 33 [([],[6]),([],[25]),([],[26]),([],[6,27]),([],[28,27]),([],[29,27]),([],[30,27]),([],[27,31]),([],[32]),([],[6,33]),([],[34,33]),([],[6,33]),([],[36,33]),([],[37,33]),([],[35,38,33]),([],[0,33]),([],[40,33]),([],[41,33]),([],[42,33]),([],[43,33]),([],[39,44,33]),([],[33,45]),([],[46]),([],[3,47]),([],[48,47]),([],[49,47]),([],[6,50]),([],[51,50]),([],[6,50]),([],[53,50]),([],[54,50]),([],[52,55,50]),([],[4,50])] fol ?_;simp(disch:=omega)only[go_sem,hw];refine hJ _ (i+1) ⟨by omega,trivial⟩ (by omega) (Imp.Ar ?_ ?_)
   all_goals(try simp(disch:=omega)only[go_sem])
   all_goals(try(repeat'(with_reducible apply And.intro)))
   all_goals(first|exact .AO (by omega)|exact .AJ (by omega)|exact .sl (by simp[hs2,FK])|exact .int (by simp[hs2,FK])|exact .eq (by simp[hs2,FK]))
  ·by_cases hl:b.req.BY=0
   ·have hl3:decide (b.req.BY=0)=true:=by simpa using hl
    have hs2:(JA w.now (List.take (i+1) w.procs)).2=(best,when):=by rw[hsn,show KV w.now (best,when) b=false from by simp only[KV,hw,hl3]<;>rfl]<;>rfl
    refine Aw 33 [([],[6]),([],[25]),([],[26]),([],[6,27]),([],[28,27]),([],[29,27]),([],[30,27]),([],[27,31]),([],[32]),([],[6,33]),([],[34,33]),([],[6,33]),([],[36,33]),([],[37,33]),([],[35,38,33]),([],[0,33]),([],[40,33]),([],[41,33]),([],[42,33]),([],[43,33]),([],[39,44,33]),([],[33,45]),([],[46]),([],[3,47]),([],[48,47]),([],[49,47]),([],[6,50]),([],[51,50]),([],[6,50]),([],[53,50]),([],[54,50]),([],[52,55,50]),([],[4,50])] fol ?_;simp(disch:=omega)only[go_sem,hw,hl];refine hJ _ (i+1) ⟨by omega,trivial⟩ (by omega) (Imp.Ar ?_ ?_)
    all_goals(try simp(disch:=omega)only[go_sem])
    all_goals(try(repeat'(with_reducible apply And.intro)))
    all_goals(first|exact .AO (by omega)|exact .AJ (by omega)|exact .sl (by simp[hs2,FK])|exact .int (by simp[hs2,FK])|exact .eq (by simp[hs2,FK]))
   ·have hl':(b.req.BY !=0)=true:=by simpa using hl
    have hl2:decide (b.req.BY=0)=false:=by simpa using hl
    cases hd:decide (IntKind.i64.wrap (b.since+b.req.BY)≤w.now)
    ·have hd2:decide (FK b≤w.now)=false:=hd;have hs2:(JA w.now (List.take (i+1) w.procs)).2=(best,when):=by rw[hsn,show KV w.now (best,when) b=false from by simp only[KV,hw,hd2,hl2]<;>rfl]<;>rfl
     refine Aw 33 [([],[6]),([],[25]),([],[26]),([],[6,27]),([],[28,27]),([],[29,27]),([],[30,27]),([],[27,31]),([],[32]),([],[6,33]),([],[34,33]),([],[6,33]),([],[36,33]),([],[37,33]),([],[35,38,33]),([],[0,33]),([],[40,33]),([],[41,33]),([],[42,33]),([],[43,33]),([],[39,44,33]),([],[33,45]),([],[46]),([],[3,47]),([],[48,47]),([],[49,47]),([],[6,50]),([],[51,50]),([],[6,50]),([],[53,50]),([],[54,50]),([],[52,55,50]),([],[4,50])] fol ?_;simp(disch:=omega)only[go_sem,hw,hl,hl',hd];refine hJ _ (i+1) ⟨by omega,trivial⟩ (by omega) (Imp.Ar ?_ ?_)
     all_goals(try simp(disch:=omega)only[go_sem])
     all_goals(try(repeat'(with_reducible apply And.intro)))
     all_goals(first|exact .AO (by omega)|exact .AJ (by omega)|exact .sl (by simp[hs2,FK])|exact .int (by simp[hs2,FK])|exact .eq (by simp[hs2,FK]))
    ·cases hn:decide (best<0)
     ·cases hq:decide (IntKind.i64.wrap (b.since+b.req.BY)<when)
      ·have hd2:decide (FK b≤w.now)=true:=hd;have hq2:decide (FK b<when)=false:=hq;have hs2:(JA w.now (List.take (i+1) w.procs)).2=(best,when):=by rw[hsn,show KV w.now (best,when) b=false from by simp only[KV,hw,hd2,hn,hq2,hl2]<;>rfl]<;>rfl
       refine Aw 33 [([],[6]),([],[25]),([],[26]),([],[6,27]),([],[28,27]),([],[29,27]),([],[30,27]),([],[27,31]),([],[32]),([],[6,33]),([],[34,33]),([],[6,33]),([],[36,33]),([],[37,33]),([],[35,38,33]),([],[0,33]),([],[40,33]),([],[41,33]),([],[42,33]),([],[43,33]),([],[39,44,33]),([],[33,45]),([],[46]),([],[3,47]),([],[48,47]),([],[49,47]),([],[6,50]),([],[51,50]),([],[6,50]),([],[53,50]),([],[54,50]),([],[52,55,50]),([],[4,50])] fol ?_;simp(disch:=omega)only[go_sem,hw,hl,hl',hd,hn,hq];refine hJ _ (i+1) ⟨by omega,trivial⟩ (by omega) (Imp.Ar ?_ ?_)
       all_goals(try simp(disch:=omega)only[go_sem])
       all_goals(try(repeat'(with_reducible apply And.intro)))
       all_goals(first|exact .AO (by omega)|exact .AJ (by omega)|exact .sl (by simp[hs2,FK])|exact .int (by simp[hs2,FK])|exact .eq (by simp[hs2,FK]))
      ·have hd2:decide (FK b≤w.now)=true:=hd;have hq2:decide (FK b<when)=true:=hq;have hs2:(JA w.now (List.take (i+1) w.procs)).2=((i:Int),FK b):=by rw[hsn,show KV w.now (best,when) b=true from by simp only[KV,hw,hd2,hn,hq2,hl2]<;>rfl]<;>rfl
       refine Aw 33 [([],[6]),([],[25]),([],[26]),([],[6,27]),([],[28,27]),([],[29,27]),([],[30,27]),([],[27,31]),([],[32]),([],[6,33]),([],[34,33]),([],[6,33]),([],[36,33]),([],[37,33]),([],[35,38,33]),([],[0,33]),([],[40,33]),([],[41,33]),([],[42,33]),([],[43,33]),([],[39,44,33]),([],[33,45]),([],[46]),([],[3,47]),([],[48,47]),([],[49,47]),([],[6,50]),([],[51,50]),([],[6,50]),([],[53,50]),([],[54,50]),([],[52,55,50]),([],[4,50])] fol ?_;simp(disch:=omega)only[go_sem,hw,hl,hl',hd,hn,hq];refine Aw 8 [([],[5]),([],[6]),([],[62]),([],[6]),([],[64]),([],[65]),([],[63,66]),([],[61])] fol ?_;simp(disch:=omega)only[go_sem,hw,hl,hl',hd,hn,hq];refine hJ _ (i+1) ⟨by omega,trivial⟩ (by omega) (Imp.Ar ?_ ?_)
       all_goals(try simp(disch:=omega)only[go_sem])
       all_goals(try(repeat'(with_reducible apply And.intro)))
       all_goals(first|exact .AO (by omega)|exact .AJ (by omega)|exact .sl (by simp[hs2,FK])|exact .int (by simp[hs2,FK])|exact .eq (by simp[hs2,FK]))
     ·have hd2:decide (FK b≤w.now)=true:=hd;have hs2:(JA w.now (List.take (i+1) w.procs)).2=((i:Int),FK b):=by rw[hsn,show KV w.now (best,when) b=true from by simp only[KV,hw,hd2,hn,hl2]<;>rfl]<;>rfl
      refine Aw 33 [([],[6]),([],[25]),([],[26]),([],[6,27]),([],[28,27]),([],[29,27]),([],[30,27]),([],[27,31]),([],[32]),([],[6,33]),([],[34,33]),([],[6,33]),([],[36,33]),([],[37,33]),([],[35,38,33]),([],[0,33]),([],[40,33]),([],[41,33]),([],[42,33]),([],[43,33]),([],[39,44,33]),([],[33,45]),([],[46]),([],[3,47]),([],[48,47]),([],[49,47]),([],[6,50]),([],[51,50]),([],[6,50]),([],[53,50]),([],[54,50]),([],[52,55,50]),([],[4,50])] fol ?_;simp(disch:=omega)only[go_sem,hw,hl,hl',hd,hn];refine Aw 8 [([],[5]),([],[6]),([],[62]),([],[6]),([],[64]),([],[65]),([],[63,66]),([],[61])] fol ?_;simp(disch:=omega)only[go_sem,hw,hl,hl',hd,hn];refine hJ _ (i+1) ⟨by omega,trivial⟩ (by omega) (Imp.Ar ?_ ?_)
      all_goals(try simp(disch:=omega)only[go_sem])
      all_goals(try(repeat'(with_reducible apply And.intro)))
      all_goals(first|exact .AO (by omega)|exact .AJ (by omega)|exact .sl (by simp[hs2,FK])|exact .int (by simp[hs2,FK])|exact .eq (by simp[hs2,FK]))
 ·subst hil;rw[tL];refine Cp ⟨[(0,0),(1,1)],[(63,63)],[]⟩ _ ?_ ?_
  ·simp(disch:=omega)only[go_sem,Ns]
  ·exact gI
structure ZY(Inv:Am→Prop):Prop extends Io Inv where
 ev:∀ w k p,Inv w→Inv (BQ w k p)
 wd:∀ w i x,Inv w→w.procs[i]?=some x→x.waiting=true→Mx w x (Ag x.req.expr)∧Inv (AH w i x)
 nx:∀ w i x,Inv w→w.procs[i]?=some x→Inv (AF w i (BC x))
def Y3{now:Int}{b:Int × Int}{x:Pcs}(h:KV now b x=true):x.waiting=true:=by
 unfold KV at h;simp only[and_eq_true]at h;exact h.1
def Sz(now:Int)(l:List Pcs):∀ i,i≤l.length→(JA now (l.take i)).2.1 = -1∨∃ k x,(JA now (l.take i)).2.1=(k:Nat)∧l[k]?=some x∧x.waiting=true
 | 0,_=>.inl rfl
 | i+1,hi=>by
  obtain⟨b,hb⟩:∃ b,l[i]?=some b:=⟨_,gE (by omega)⟩;rw[Ou now hb];split
  ·rename_i hc;exact .inr ⟨i,b,rfl,hb,Y3 hc⟩
  ·exact Sz now l i (by omega)
def H9(w:Am):Ns w = -1∨∃ k x,Ns w=(k:Nat)∧w.procs[k]?=some x∧x.waiting=true:=by
 have:=Sz w.now w.procs w.procs.length (Nat.le_refl _)
 rwa [tL]at this
def DL(w:Am)(i:Nat)(x:Pcs):Am :=
 let w1:=AH (BQ w 4 x.proc) i x
 AF w1 i (BC (w1.procs.getD i x0))
def HT:Nat→Am→Am
 | 0,w=>w
 | n+1,w=>match w.procs[(Ns w).toNat]? with
  |none=>w
  |some x=>if Ns w<0 then w else HT n (Bl (DL w (Ns w).toNat x))
def Mp:∀ (n:Nat) (w:Am),(C1 n w).procs.length=w.procs.length∧wcount (C1 n w)≤wcount w
 | 0,w=>⟨rfl,Nat.le_refl _⟩
 | n+1,w=>by
  simp only[C1];cases hs:F2 w with
  |none=>exact⟨rfl,Nat.le_refl _⟩
  |some i =>
   obtain⟨x,hx,hsat⟩:=FR hs;have hg:w.procs.getD i x0=x:=by simp[List.getD,hx]
   simp only[hg];obtain⟨h1,h2⟩:=Mp n (Cq w i x);obtain⟨y,h3,_⟩:=He hx;have h4:=(Ja hs hx hsat).2;exact⟨by rw[h1,h3];simp,by omega⟩
def Wp{Inv:Am→Prop}(hI:Io Inv){w:Am}{i:Nat}{x:Pcs}(hw:Inv w)(hs:F2 w=some i)(hx:w.procs[i]?=some x):(Cq w i x).CX.length≤w.CX.length+1609:=by
 have hks:=hI.safe w i x hw hs hx;have hal:=CF x.req.expr;have hz:=Km hks ((Cv x.req.expr (Bh w.Aa x.proc x.req.expr)).zip (Ag x.req.expr)).length (Nat.le_refl _);rw[tL]at hz;have hzl:((Cv x.req.expr (Bh w.Aa x.proc x.req.expr)).zip (Ag x.req.expr)).length≤8:=by rw[List.length_zip];omega
 have he2:(BQ w 2 x.proc).CX.length=w.CX.length+1:=by simp[BQ]
 simp only[Cq,AF];omega
def I9{Inv:Am→Prop}(hI:Io Inv):∀ (n:Nat) (w:Am),Inv w→Inv (C1 n w)∧(C1 n w).CX.length+1700*wcount (C1 n w)≤w.CX.length+1700*wcount w
 | 0,w,h=>⟨h,Nat.le_refl _⟩
 | n+1,w,h=>by
  simp only[C1];cases hs:F2 w with
  |none=>exact⟨h,Nat.le_refl _⟩
  |some i =>
   obtain⟨x,hx,hsat⟩:=FR hs;have hg:w.procs.getD i x0=x:=by simp[List.getD,hx]
   simp only[hg];obtain⟨h1,h2⟩:=I9 hI n (Cq w i x) (hI.next w i x h hs hx);have h4:=(Ja hs hx hsat).2;have h5:=Wp hI h hs hx;exact⟨h1,by omega⟩
def Bm(w:Am)(i:Nat)(x:Pcs):(AH w i x).procs=w.procs.set i (Br x):=by simp[AH,AF,Gw]
def Jm{w:Am}{i:Nat}{x:Pcs}(h:Mx w x (Ag x.req.expr)):(AH w i x).CX.length≤w.CX.length+1608:=by
 have hal:=CF x.req.expr;have:=MF h _ (Nat.le_refl _);rw[tL]at this;simp only[AH,AF];omega
def Q6{Inv:Am→Prop}(hI:ZY Inv){w:Am}{i:Nat}{x:Pcs}(hw:Inv w)(hx:w.procs[i]?=some x)(hwt:x.waiting=true) :
 Inv (DL w i x)∧DL w i x=AF (AH (BQ w 4 x.proc) i x) i (BC (Br x))∧wcount (DL w i x)+1=wcount w∧(DL w i x).CX.length≤w.CX.length+1609:=by
 have hi:=Aj hx;have hn:=hI.ev w 4 x.proc hw;obtain⟨h1,h2⟩:=hI.wd (BQ w 4 x.proc) i x hn hx hwt;have hp:(AH (BQ w 4 x.proc) i x).procs=w.procs.set i (Br x):=Bm _ _ _;have hg:(AH (BQ w 4 x.proc) i x).procs[i]?=some (Br x):=by rw[hp];simp[hi]
 have hl:DL w i x=AF (AH (BQ w 4 x.proc) i x) i (BC (Br x)):=by
  simp only[DL];rw[show (AH (BQ w 4 x.proc) i x).procs.getD i x0=Br x by simp[List.getD,hg]]
 have hev:=Jm (i:=i) h1;have he2:(BQ w 4 x.proc).CX.length=w.CX.length+1:=by simp[BQ]
 refine⟨by rw[hl];exact hI.nx _ _ _ h2 hg,hl,?_,by rw[hl];simp only[AF];omega⟩;rw[hl];have:(AF (AH (BQ w 4 x.proc) i x) i (BC (Br x))).procs=w.procs.set i (BC (Br x)):=by simp[AF,hp]
 unfold wcount;rw[this];exact countP_set (p:=(·.waiting)) (y:=BC (Br x)) rfl hx hwt
def Hh(w:Am):wcount (Bl w)≤wcount w:=(Mp _ w).2
def HH{w:Am}(h:wcount w=0):Ns w = -1:=by
 rcases H9 w with h1|⟨k,x,_,h2,h3⟩
 ·exact h1
 ·exfalso;unfold wcount at h;rw[List.countP_eq_zero]at h;exact h x (mG h2) h3
def EK{w:Am}(h:Ns w = -1):∀ n,HT n w=w
 | 0=>rfl
 | n+1=>by
  simp only[HT,h];split<;>simp
def Iz{n:Nat}{w:Am}{k:Nat}{x:Pcs}(h:Ns w=(k:Nat))(hx:w.procs[k]?=some x):HT (n+1) w=HT n (Bl (DL w k x)):=by
 simp only[HT,h,Int.toNat_natCast,hx];rw[if_neg (by omega)]
def Kr(w:Am){i:Nat}{x:Pcs}(hx:w.procs[i]?=some x)(hwt:x.waiting=true):wcount (DL w i x)+1=wcount w:=by
 have hi:=Aj hx;have hp:(AH (BQ w 4 x.proc) i x).procs=w.procs.set i (Br x):=Bm _ _ _;have hg:(AH (BQ w 4 x.proc) i x).procs[i]?=some (Br x):=by rw[hp];simp[hi]
 have:(DL w i x).procs=w.procs.set i (BC (Br x)):=by
  simp only[DL];rw[show (AH (BQ w 4 x.proc) i x).procs.getD i x0=Br x by simp[List.getD,hg]];simp[AF,hp]
 unfold wcount;rw[this];exact countP_set (p:=(·.waiting)) (y:=BC (Br x)) rfl hx hwt
def NJ:∀ (n m:Nat) (w:Am),wcount w≤n→wcount w≤m→HT n w=HT m w
 | 0,m,w,h,_=>by rw[EK (HH (by omega)),EK (HH (by omega))]
 | n+1,0,w,_,h=>by rw[EK (HH (by omega)),EK (HH (by omega))]
 | n+1,m+1,w,h1,h2=>by
  rcases H9 w with h|⟨k,x,h,hx,hwt⟩
  ·rw[EK h,EK h]
  ·rw[Iz h hx,Iz h hx];have h3:=Kr w hx hwt;have h4:=Hh (DL w k x);exact NJ n m _ (by omega) (by omega)
def PE(w:Am):Am:=HT (wcount w) w
def Xt{w:Am}{k:Nat}{x:Pcs}(h:Ns w=(k:Nat))(hx:w.procs[k]?=some x)(hwt:x.waiting=true):PE w=PE (Bl (DL w k x)):=by
 have h3:=Kr w hx hwt;have h4:=Hh (DL w k x);unfold PE;rw[← h3,Iz h hx];exact NJ _ _ _ (by omega) (by omega)
def HD(w:Am)(n:Int):Am × Int :=
 if decide (n<0)||decide (1000<n) then (w,1) else if decide (1073741824-n<w.now) then (w,16) else (PE { w with now:=w.now+n },0)
def f118_ok(Inv:Am→Prop)(hI:ZY Inv)(w:Am)(n:Int)(hw:∀ t,Inv { w with now:=t })(hnow:0≤w.now)(hev:w.CX.length+3500*wcount w≤900000):Ad C0 118 [.ptr 63 0,I n] [(63,w.c)] (I (HD w n).2) [(63,(HD w n).1.c)]:=by
 refine Ad.go f118 ?_;unfold f118;refine gO ?_;cases h1:decide (n<0);rotate_left
 ·have hn:n<0:=by simpa using h1
  have ht:HD w n=(w,1):=by simp[HD,hn]
  rw[ht];simp(disch:=omega)only[go_sem,h1];refine Cp ⟨[(0,0),(1,1)],[(63,63)],[]⟩ _ ?_ ?_
  ·exact gI
  ·exact gI
 cases h2:decide (1000<n);rotate_left
 ·have hn:1000<n:=by simpa using h2
  have ht:HD w n=(w,1):=by simp[HD,hn]
  rw[ht];simp(disch:=omega)only[go_sem,h1,h2];refine Cp ⟨[(0,0),(1,1)],[(63,63)],[]⟩ _ ?_ ?_
  ·exact gI
  ·exact gI
 have hn1:0≤n:=by simpa using h1
 have hn2:n≤1000:=by simpa using h2
 cases h3:decide (1073741824-n<w.now);rotate_left
 ·have hn:1073741824-n<w.now:=by simpa using h3
  have ht:HD w n=(w,16):=by simp only[HD,h1,h2,h3];rfl
  rw[ht];simp(disch:=omega)only[go_sem,h1,h2,h3];refine Cp ⟨[(0,0),(1,1)],[(63,63)],[]⟩ _ ?_ ?_
  ·exact gI
  ·exact gI
 have hn3:w.now≤1073741824-n:=by simpa using h3
 have ht:HD w n=(PE { w with now:=w.now+n },0):=by simp only[HD,h1,h2,h3];rfl
 rw[ht];have hwn:=hw (w.now+n);simp(disch:=omega)only[go_sem,h1,h2,h3];have hev':({ w with now:=w.now+n }:Am).CX.length+3500*wcount { w with now:=w.now+n }≤900000:=hev;have hp0:=(hI.few _ hwn).2.1;refine call2 ⟨⟨[(0,0),(1,1)],[(63,63)],[]⟩,[],[]⟩ (f181_ok { w with now:=w.now+n } (le_trans hp0 (by decide))) ?_;generalize ({ w with now:=w.now+n }:Am)=w0 at hwn hev' ⊢;clear hp0;refine gO ?_;refine Ac (α:=Am) (fun w'=>⟨[(5,I (Ns w')),(0,.ptr 63 0)],[(63,w'.c)]⟩) (fun w'=>Inv w'∧PE w'=PE w0∧w'.CX.length+3500*wcount w'≤900000) (fun w'=>wcount w') w0 ⟨hwn,rfl,hev'⟩ AT ?_;clear hwn hev' hw hev hnow ht h1 h2 h3 hn1 hn2 hn3;rintro w1 ⟨hw,hsw,hev⟩ J hJ;obtain⟨hf,hp,hr⟩:=hI.few w1 hw;rcases H9 w1 with hs|⟨o,x,hs,hx,hwt⟩
 ·simp(disch:=omega)only[go_sem,hs];rw[← hsw,show PE w1=w1 from EK hs _];refine Cp ⟨[(0,0),(1,1)],[(63,63)],[]⟩ _ ?_ ?_
  ·exact gI
  ·exact gI
 ·obtain⟨i1,i2,i3,i4⟩:=Q6 hI hw hx hwt;have hstep:=Xt hs hx hwt;obtain⟨j1,j2⟩:Inv (Bl (DL w1 o x))∧(Bl (DL w1 o x)).CX.length+1700*wcount (Bl (DL w1 o x))≤(DL w1 o x).CX.length+1700*wcount (DL w1 o x):=I9 hI.toIo (wcount (DL w1 o x)) (DL w1 o x) i1;have j3:=Hh (DL w1 o x);have hn:=hI.ev w1 4 x.proc hw;obtain⟨k1,k2⟩:=hI.wd (BQ w1 4 x.proc) o x hn hx hwt;have hi:=Aj hx;have hg:(AH (BQ w1 4 x.proc) o x).procs[o]?=some (Br x):=by rw[Bm];simp[BQ,hi]
  have he2:(BQ w1 4 x.proc).CX.length=w1.CX.length+1:=by simp[BQ]
  simp(disch:=omega)only[go_sem,hs,eq_true (show (0:Int)≤(o:Int) by omega),decide_true,gm,hx];refine call2 ⟨⟨[(0,0),(1,1)],[(63,63)],[]⟩,[],[]⟩ (f182_ok w1 4 x.proc (by omega)) ?_;refine gO ?_;refine call2 ⟨⟨[(0,0),(1,1)],[(63,63)],[]⟩,[],[]⟩ (f120_ok (BQ w1 4 x.proc) o x hx k1 (by omega)) ?_;refine gO ?_;refine call2 ⟨⟨[(0,0),(1,1)],[(63,63)],[]⟩,[],[]⟩ (f121_ok (AH (BQ w1 4 x.proc) o x) o (Br x) hg) ?_;rw[← i2];refine gO ?_;refine call2 ⟨⟨[(0,0),(1,1)],[(63,63)],[]⟩,[],[]⟩ (f122_ok Inv hI.toIo (DL w1 o x) i1 (by omega)) ?_;refine gO ?_;have hp4:=(hI.few _ j1).2.1;refine call2 ⟨⟨[(0,0),(1,1)],[(63,63)],[]⟩,[],[]⟩ (f181_ok (Bl (DL w1 o x)) (le_trans hp4 (by decide))) ?_;refine gO ?_;exact hJ _ (Bl (DL w1 o x)) ⟨j1,hstep.symm.trans hsw,by omega⟩ (by omega) AT
def E8(w:Am)(p:Ab)(a:Atom)(prio:Int):Am:=Cg w (DN w.Aa p a prio).1 (DN w.Aa p a prio).2.1
def Cz(w:Am)(p:Ab)(prio:Int)(az:List Atom):Am:=az.foldl (fun w a=>E8 w p a prio) w
def Ni{w:Am}{p:Ab}{prio:Int}{az:List Atom}{i:Nat}{b:Atom}(hb:az[i]?=some b):Cz w p prio (az.take (i+1))=E8 (Cz w p prio (az.take i)) p b prio:=by
 simp[Cz,tA,hb,foldl_append]
def UF(w:Am)(p:Ab)(prio:Int)(az:List Atom):Prop:=∀ i,i<az.length→D5 (Cz w p prio (az.take i)).Aa
def K8{w:Am}{p:Ab}{prio:Int}{az:List Atom}(h:UF w p prio az):∀ i,i≤az.length→(Cz w p prio (az.take i)).CX.length≤w.CX.length+101*i
 | 0,_=>by simp[Cz]
 | i+1,hi=>by
  obtain⟨b,hb⟩:∃ b,az[i]?=some b:=⟨_,gE (by omega)⟩;have h1:=K8 h i (by omega);have h2:=QA (h i (by omega)) p b prio;rw[Ni hb];simp only[E8,Cg,List.length_append];omega
def Hb(w:Am)(p:Ab)(prio:Int):∀ az:List Atom,(Cz w p prio az).procs=w.procs
 |[]=>rfl
 | a::az=>Hb (E8 w p a prio) p prio az
def Ik(w:Am):wcount w≤w.procs.length:=List.countP_le_length
def Gi(now:Int)(x:Pcs)(r:Req):Pcs:=BC { x with waiting:=true,req:=r,since:=now }
def Ka(w:Am)(i:Nat)(x:Pcs)(r:Req):Am:=Cz (AF w i (Gi w.now x r)) x.proc r.prio (Ag r.expr)
def Dm(w:Am)(i:Nat)(x:Pcs)(r:Req):Am × Int :=
 if x.waiting then (w,14) else if GF r then (if Cm (CB w.Aa) r.expr=0 then (Bl (Ka w i x r),0) else (w,Cm (CB w.Aa) r.expr)) else (w,1)
def f119_ok(Inv:Am→Prop)(hI:Io Inv)(w:Am)(i:Nat)(x:Pcs)(r:Req)(hx:w.procs[i]?=some x)(hf:D5 w.Aa)
 (hc:x.waiting=false→GF r=true→Cm (CB w.Aa) r.expr=0→UF (AF w i (Gi w.now x r)) x.proc r.prio (Ag r.expr)∧Inv (Ka w i x r))
 (hp:w.procs.length≤8) (hev:w.CX.length≤500000) :
 Ad C0 119 [.ptr 63 0,I i,.agg r.c] [(63,w.c)] (I (Dm w i x r).2) [(63,(Dm w i x r).1.c)]:=by
 have hi:=Aj hx;have hal:=CF r.expr;have hn:=hf.n;refine Ad.go f119 ?_;unfold f119;simp(disch:=omega)only[go_sem,gm,hx];cases h1:x.waiting;rotate_left
 ·have ht:Dm w i x r=(w,14):=by simp[Dm,h1]
  rw[ht];simp(disch:=omega)only[go_sem,h1];refine Cp ⟨[(0,0),(1,1)],[(63,63)],[]⟩ _ ?_ ?_
  ·exact gI
  ·exact gI
 simp(disch:=omega)only[go_sem,h1];refine Ae (f176_ok r) ?_;cases h2:GF r
 ·have ht:Dm w i x r=(w,1):=by simp[Dm,h1,h2]
  rw[ht];simp(disch:=omega)only[go_sem,h2,zF];refine Cp ⟨[(0,0),(1,1)],[(63,63)],[]⟩ _ ?_ ?_
  ·exact gI
  ·exact gI
 simp(disch:=omega)only[go_sem,h2,zT];refine Aw 8 [([],[0]),([],[25]),([],[26]),([],[27]),([],[28]),([],[29]),([],[5]),([],[31])] fol ?_;refine gO ?_
 first|(refine Ae (f178_ok w.Aa (by omega)) ?_)|(refine Av (f178_ok w.Aa (by omega)) ?_)
 refine gO ?_
 first|(refine Ae (f177_ok (CB w.Aa) r.expr) ?_)|(refine Av (f177_ok (CB w.Aa) r.expr) ?_)
 refine gO ?_
 by_cases h3:Cm (CB w.Aa) r.expr=0
 rotate_left
 ·have ht:Dm w i x r=(w,Cm (CB w.Aa) r.expr):=by simp[Dm,h1,h2,h3]
  rw[ht];have h3':(Cm (CB w.Aa) r.expr !=0)=true:=by simpa using h3
  simp(disch:=omega)only[go_sem,h3'];refine Cp ⟨[(0,0),(1,1)],[(63,63)],[]⟩ _ ?_ ?_
  ·exact gI
  ·exact gI
 obtain⟨c1,c2⟩:=hc h1 h2 h3;have ht:Dm w i x r=(Bl (Ka w i x r),0):=by simp[Dm,h1,h2,h3]
 rw[ht];simp(disch:=omega)only[go_sem,h3,gm,hx];refine En (st':=⟨[(5,.ptr 320 0),(0,.ptr 63 0),(1,I i)],[(320,r.c),(63,(AF w i { x with waiting:=true }).c)]⟩) (Imp.Ar gI (by simp(disch:=omega)only[go_sem,AF];exact .sl (by rw[map_set];rfl))) ?_;refine Aw 7 [([],[0]),([],[45]),([],[46]),([],[47]),([],[48]),([],[1]),([],[5])] fol ?_;simp(disch:=omega)only[go_sem,AF,gm,List.getElem?_set,length_map,hi];refine En (st':=⟨[(5,.ptr 320 0),(0,.ptr 63 0),(1,I i)],[(320,r.c),(63,(AF w i { x with waiting:=true,req:=r }).c)]⟩) (Imp.Ar gI (by simp(disch:=omega)only[go_sem,AF];exact .sl (by simp only[map_set,set_set];rfl))) ?_;refine Aw 11 [([],[0]),([],[54]),([],[55]),([],[56]),([],[57]),([],[1]),([],[0]),([],[60]),([],[61]),([],[62]),([],[63])] fol ?_;simp(disch:=omega)only[go_sem,AF,gm,List.getElem?_set,length_map,hi];have hx3:(AF w i { x with waiting:=true,req:=r,since:=w.now }).procs[i]?=some { x with waiting:=true,req:=r,since:=w.now }:=by simp[AF,hi]
 refine call2 ⟨⟨[(0,0),(1,1)],[(63,63)],[]⟩,[],[]⟩ (f121_ok (AF w i { x with waiting:=true,req:=r,since:=w.now }) i _ hx3) ?_ (hh:=?_);rotate_left
 ·simp only[AF];refine gO ?_;exact .sl (by simp only[map_set,set_set];rfl)
 have e3:AF (AF w i { x with waiting:=true,req:=r,since:=w.now }) i (BC { x with waiting:=true,req:=r,since:=w.now })=AF w i (Gi w.now x r):=by simp[AF,Gi]
 rw[e3];have hev1:(AF w i (Gi w.now x r)).CX.length=w.CX.length:=rfl;have hx4:(AF w i (Gi w.now x r)).procs[i]?=some (Gi w.now x r):=by simp[AF,hi]
 unfold Ka at c2 ⊢;obtain⟨y,hy,hyp⟩:∃ y,y=Gi w.now x r∧y.proc=x.proc:=⟨_,rfl,rfl⟩;rw[← hy]at hx4 c1 c2 hev1 ⊢;rw[← hyp]at c1 c2 ⊢;generalize AF w i y=w4 at c1 c2 hev1 hx4 ⊢;clear hx3 e3 ht hc h3 h2 h1;refine gO ?_;refine Ae (f93_ok r.expr) ?_;obtain⟨o,rfl⟩:∃ o,o=i:=⟨i,rfl⟩;generalize Ag r.expr=az at c1 c2 hal ⊢;refine gO ?_;refine Ac (α:=Nat) (fun i=>⟨[(9,I i),(8,BB az),(0,.ptr 63 0),(1,I o),(5,.ptr 320 0)],[(63,(Cz w4 y.proc r.prio (az.take i)).c),(320,r.c)]⟩) (fun i=>i≤(az).length∧True) (fun i=>(az).length-i) 0 ⟨by omega,trivial⟩ ?_ ?_
 ·refine Imp.Ar ?_ ?_
  all_goals(try simp(disch:=omega)only[go_sem])
  all_goals(try(repeat'(with_reducible apply And.intro)))
  all_goals(first|exact .AO (by omega)|exact .AJ (by omega)|exact .sl (by simp[Cz])|exact .int (by simp[Cz])|exact .eq (by simp[Cz]))
 rintro i ⟨hi,hP⟩ J hJ;refine gO ?_;refine gR (l:=az) hi (fun b hb hbm hlt=>?_) (fun hil=>?_)
 ·have g1:=K8 c1 i hi;have g2:=QA (c1 i hlt) y.proc b r.prio;have g3:(Cz w4 y.proc r.prio (az.take i)).procs[o]?=some y:=by rw[Hb];exact hx4
  have g4:=Ni (w:=w4) (p:=y.proc) (prio:=r.prio) hb;have g5:=c1 i hlt;generalize Cz w4 y.proc r.prio (az.take i)=w5 at g1 g2 g3 g4 g5 ⊢;refine Aw 27 [([],[0]),([],[80]),([],[81]),([],[82]),([],[83]),([],[0]),([],[85]),([],[86]),([],[87]),([],[88]),([],[1]),([],[89,90]),([],[91]),([],[92]),([],[8]),([],[9]),([],[94,95]),([],[96]),([],[5]),([],[98]),([],[84,93,97,99]),([20],[100]),([20],[79]),([20],[79]),([20],[79]),([20],[101]),([20],[102])] fol ?_;simp(disch:=omega)only[go_sem,gm,hb,g3]
  first|(refine Ae (f183_ok w5.Aa y.proc b r.prio g5) ?_)|(refine Av (f183_ok w5.Aa y.proc b r.prio g5) ?_)
  refine gO ?_;refine call2 ⟨⟨[(0,0),(1,1)],[(63,63)],[]⟩,[],[]⟩ (f184_ok w5 (DN w5.Aa y.proc b r.prio).1 (DN w5.Aa y.proc b r.prio).2.1 (by omega)) ?_;refine gO ?_;refine hJ _ (i+1) ⟨by omega,trivial⟩ (by omega) (Imp.Ar ?_ ?_)
  ·exact gI
  ·rw[g4];unfold E8;simp(disch:=omega)only[go_sem]
 ·subst hil;rw[tL];have g1:=K8 c1 _ (Nat.le_refl _);rw[tL]at g1;obtain⟨k1,k2,k3⟩:=hI.few _ c2;have k4:=Ik (Cz w4 y.proc r.prio az);refine call2 ⟨⟨[(0,0),(1,1)],[(63,63)],[]⟩,[],[]⟩ (f122_ok Inv hI (Cz w4 y.proc r.prio az) c2 (by omega)) ?_;refine gO ?_;refine Cp ⟨[(0,0),(1,1)],[(63,63)],[]⟩ _ ?_ ?_
  ·exact gI
  ·exact gI
def KX(t:List Queue)(x:Pcs):Prop:=∀ q∈t,Kq q x.proc (An x.led.entries q.res.name)
def KF(q:Queue)(p:Ab)(l:Amt):Prop:=Aq q p=none∧At q.holds p=l
def KF.k{q:Queue}{p:Ab}{l:Amt}(h:KF q p l):Kq q p l:=⟨fun hh=>by rw[h.1]at hh;simp at hh,.inl h.2⟩
structure Good(t:List Queue)(x:Pcs):Prop where
 ex:Bb x.req.expr=true
 fd:∀ a∈Ag x.req.expr,∃ k,BS t a.name=some k
 k:KX t x
def Good.step{p:Ab}{t t':List Queue}{x:Pcs}(h:Good t x)(hs:Fj p t t')(hp:x.proc≠p):Good t' x :=
 ⟨h.ex,fun a ha=>by rw[Ia hs.res];exact h.fd a ha,hs.other x.proc hp (fun n=>An x.led.entries n) h.k⟩
structure JE(e:Option Nat)(w:Am):Prop where
 tab:CE w.Aa
 n:w.procs.length≤8
 uq:∀ (i j:Nat) (x y:Pcs),w.procs[i]?=some x→w.procs[j]?=some y→x.proc=y.proc→i=j
 good:∀ (j:Nat) (x:Pcs),w.procs[j]?=some x→some j≠e→x.waiting=true→Good w.Aa x
def JE.but{w:Am}(h:JE none w)(i:Nat):JE (some i) w:=⟨h.tab,h.n,h.uq,fun j x hj _ hw=>h.good j x hj (by simp) hw⟩
def JE.step{i:Nat}{w w':Am}{z:Pcs}(h:JE (some i) w)(hz:w.procs[i]?=some z)(hp:w'.procs=w.procs)(hs:Fj z.proc w.Aa w'.Aa):JE (some i) w' where
 tab:=hs.tab
 n:=by rw[hp];exact h.n
 uq:=by rw[hp];exact h.uq
 good:=fun j x hj hne hw=>by
  rw[hp]at hj;refine(h.good j x hj hne hw).step hs fun e=>hne ?_
  rw[h.uq j i x z hj hz e]
def JE.set{i:Nat}{w:Am}{z y:Pcs}(h:JE (some i) w)(hz:w.procs[i]?=some z)(hy:y.proc=z.proc)(hg:y.waiting=true→Good w.Aa y):JE none (AF w i y) where
 tab:=h.tab
 n:=by simp only[AF,length_set];exact h.n
 uq:=fun a b u v ha hb e=>by
  have key:∀ (c:Nat) (u:Pcs),(w.procs.set i y)[c]?=some u→∃ u',w.procs[c]?=some u'∧u'.proc=u.proc:=fun c u hc=>by
   rw[List.getElem?_set]at hc;split at hc
   ·rename_i e;subst e;split at hc
    ·exact⟨z,hz,by rw[← hy,Option.some.inj hc]⟩
    ·cases hc
   ·exact⟨u,hc,rfl⟩
  obtain⟨u',h1,h2⟩:=key a u ha;obtain⟨v',h3,h4⟩:=key b v hb;exact h.uq a b u' v' h1 h3 (by rw[h2,h4,e])
 good:=fun j x hj _ hw=>by
  simp only[AF]at hj;rw[List.getElem?_set]at hj;split at hj
  ·split at hj
   ·have:=Option.some.inj hj;subst this;exact hg hw
   ·cases hj
  ·rename_i hne;exact h.good j x hj (fun e=>hne (Option.some.inj e).symm) hw
def JE.set'{i:Nat}{w:Am}{z y:Pcs}(h:JE (some i) w)(hz:w.procs[i]?=some z)(hy:y.proc=z.proc):JE (some i) (AF w i y):=by
 have h1:=JE.set (y:={ y with waiting:=false }) h hz hy (fun e=>by simp at e);refine⟨h.tab,by simp only[AF,length_set];exact h.n,fun a b u v ha hb e=>?_,fun j x hj hne hw=>?_⟩
 ·have key:∀ (c:Nat) (u:Pcs),(w.procs.set i y)[c]?=some u→∃ u',w.procs[c]?=some u'∧u'.proc=u.proc:=fun c u hc=>by
   rw[List.getElem?_set]at hc;split at hc
   ·rename_i e;subst e;split at hc
    ·exact⟨z,hz,by rw[← hy,Option.some.inj hc]⟩
    ·cases hc
   ·exact⟨u,hc,rfl⟩
  obtain⟨u',h1,h2⟩:=key a u ha;obtain⟨v',h3,h4⟩:=key b v hb;exact h.uq a b u' v' h1 h3 (by rw[h2,h4,e])
 ·simp only[AF]at hj;rw[List.getElem?_set]at hj;split at hj
  ·rename_i e;subst e;exact absurd rfl hne
  ·exact h.good j x hj hne hw
def Iv{w:Am}{x:Pcs}{name:Bs}(h:CE w.Aa)(hk:KX w.Aa x)(hf:∃ k,BS w.Aa name=some k) :
 Qj w x name∧Fj x.proc w.Aa (Dl w x name).Aa∧KX (Dl w x name).Aa x∧∀ q∈(Dl w x name).Aa,KF q x.proc (An x.led.entries q.res.name)∨(q∈w.Aa∧q.res.name≠name):=by
 obtain⟨k,hf⟩:=hf;obtain⟨hlt,q,hq,hn⟩:=C5 hf;have hg:w.Aa.getD k q0=q:=by simp[List.getD,hq]
 have hqm:=mG hq;have hkq:=hk q hqm;have fin:∀ q1:Queue,q1.res=q.res→KF q1 x.proc (An x.led.entries name)→Fj x.proc w.Aa (w.Aa.set k q1) →
  KX (w.Aa.set k q1) x∧∀ q'∈w.Aa.set k q1,KF q' x.proc (An x.led.entries q'.res.name)∨(q'∈w.Aa∧q'.res.name≠name):=by
  intro q1 hr hkf hs;have e1:q1.res.name=name:=by rw[hr,hn]
  refine⟨fun q' hq'=>?_,fun q' hq'=>?_⟩
  ·rcases CO (q:=q) hq' with rfl|⟨j,_,hj⟩
   ·rw[e1];exact hkf.k
   ·exact hk q' (mG hj)
  ·rcases CO (q:=q) hq' with rfl|⟨j,_,hj⟩
   ·exact .inl (by rw[e1];exact hkf)
   ·rename_i hji;exact .inr ⟨mG hj,fun e=>hji (EY h hj hq (e.trans hn.symm))⟩
 cases hw:(Aq q x.proc).isSome
 ·have eA:DJ w x name k=w:=by simp only[DJ,hg,hw];rfl
  have hsafe:Qj w x name:=⟨k,hf,CV h,by rw[eA];exact hlt,by rw[eA];exact CV h⟩;have hwn:=E1 hw;have eK:Dl w x name=Jw w x name k:=by unfold Dl;rw[hf];simp only[eA]
  rw[eK];unfold Jw;rw[hg]
  by_cases hl:At q.holds x.proc=An x.led.entries name
  ·simp only[hl,decide_true,if_true];refine⟨hsafe,.refl h,hk,fun q' hq'=>?_⟩
   by_cases e:q'.res.name=name
   ·obtain⟨j,hj⟩:=List.getElem?_of_mem hq';have:=EY h hj hq (e.trans hn.symm);subst this;rw[hq]at hj;have:=Option.some.inj hj;subst this;exact .inl ⟨hwn,by rw[hn];exact hl⟩
   ·exact .inr ⟨hq',e⟩
  ·simp only[hl,decide_false,false_eq_true,if_false];rw[hn]at hkq;obtain⟨hz,hc⟩:=hkq.2.resolve_left hl;obtain⟨q1,e1,hs,hr,h1,h2⟩:=Hu (a:=⟨name,An x.led.entries name⟩) h hf hq hwn hz hc;simp only[Cg];rw[e1];exact⟨hsafe,hs,fin q1 hr ⟨h1,h2⟩ hs⟩
 ·obtain⟨q1,e1,hs,hr,h1,h2⟩:=TO h hf hq hw;have hl:=hkq.1 hw;rw[hn]at hl;have eA:DJ w x name k=Cg w (w.Aa.set k q1) (Co w.Aa x.proc name).2.1:=by simp only[DJ,hg,hw,if_true,e1]
  have hsafe:Qj w x name:=⟨k,hf,CV h,by rw[eA];simpa [Cg]using hlt,by rw[eA];exact CV hs.tab⟩;have eK:Dl w x name=DJ w x name k:=by
   unfold Dl;rw[hf];simp only;unfold Jw;rw[eA];have:(Cg w (w.Aa.set k q1) (Co w.Aa x.proc name).2.1).Aa.getD k q0=q1:=by simp[Cg,List.getD,hlt]
   rw[this,h2,hl];simp
  rw[eK,eA];exact⟨hsafe,hs,fin q1 hr ⟨h1,h2.trans hl⟩ hs⟩
def Lc{x:Pcs}:∀ (az:List Atom) (w:Am),CE w.Aa→KX w.Aa x→(∀ a∈az,∃ k,BS w.Aa a.name=some k) →
 Mx w x az∧Fj x.proc w.Aa (Dy w x az).Aa∧KX (Dy w x az).Aa x∧∀ q∈(Dy w x az).Aa,KF q x.proc (An x.led.entries q.res.name)∨(q∈w.Aa∧∀ a∈az,q.res.name≠a.name)
 |[],w,h,hk,_=>⟨fun i b hb=>by simp at hb,.refl h,hk,fun q hq=>.inr ⟨hq,fun a ha=>by cases ha⟩⟩
 | a::az,w,h,hk,hf=>by
  obtain⟨h1,h2,h3,h4⟩:=Iv h hk (hf a (by simp));obtain⟨g1,g2,g3,g4⟩:=Lc az (Dl w x a.name) h2.tab h3 (fun b hb=>by rw[Ia h2.res];exact hf b (by simp[hb]));refine⟨fun i b hb=>?_,h2.trans g2,g3,fun q hq=>?_⟩
  ·cases i with
   | zero =>
    simp at hb;subst hb;exact h1
   | succ i=>exact g1 i b (by simpa using hb)
  ·rcases g4 q hq with hkf|⟨hq,hn⟩
   ·exact .inl hkf
   ·rcases h4 q hq with hkf|⟨hq,hn1⟩
    ·exact .inl hkf
    ·exact .inr ⟨hq,fun b hb=>by
      rcases mem_cons.1 hb with rfl|hb
      ·exact hn1
      ·exact hn b hb⟩
def Eb{w:Am}{i:Nat}{x:Pcs}(h:JE none w)(hx:w.procs[i]?=some x)(hw:x.waiting=true):Mx w x (Ag x.req.expr)∧JE none (AH w i x)∧∀ q∈(AH w i x).Aa,KF q x.proc (An x.led.entries q.res.name)∨(q∈w.Aa∧∀ a∈Ag x.req.expr,q.res.name≠a.name):=by
 have hg:=h.good i x hx (by simp) hw;obtain⟨h1,h2,h3,h4⟩:=Lc (Ag x.req.expr) w h.tab hg.k hg.fd;refine⟨h1,?_,h4⟩;have hp:=Gw w x (Ag x.req.expr);exact JE.set (z:=x) ((h.but i).step hx hp h2) (by rw[hp];exact hx) rfl (fun e=>by simp[Br]at e)
def PB{i:Nat}{x:Pcs}:∀ (kl:List (Bool × Atom)) (w:Am) (z:Pcs),JE (some i) w→w.procs[i]?=some z→z.proc=x.proc→KX w.Aa x→(∀ p∈kl,∃ k,BS w.Aa p.2.name=some k) →
 TE w i x kl∧JE (some i) (CW w i x kl)
 |[],w,z,h,_,_,_,_=>⟨fun j p hp=>by simp at hp,h⟩
 |(kp,a)::kl,w,z,h,hz,hzp,hk,hf=>by
  have hfa:=hf (kp,a) (by simp);obtain⟨h1,h2,h3,_⟩:=Iv h.tab hk hfa;have key:JE (some i) (Fy w i x kp a.name)∧(∃ z',(Fy w i x kp a.name).procs[i]?=some z'∧z'.proc=x.proc)∧KX (Fy w i x kp a.name).Aa x∧(Fy w i x kp a.name).Aa.map (·.res)=w.Aa.map (·.res):=by
   unfold Fy;cases kp
   ·simp only[zF,if_true];have hp:=Fu w x a.name;exact⟨h.step hz hp (hzp▸h2),⟨z,by rw[hp];exact hz,hzp⟩,h3,h2.res⟩
   ·simp only[zT,false_eq_true,if_false];have hg:w.procs.getD i x0=z:=by simp[List.getD,hz]
    obtain⟨k,hfk⟩:=hfa;rw[hfk,hg];simp only;split
    ·exact⟨h,⟨z,hz,hzp⟩,hk,rfl⟩
    ·refine⟨h.set' hz rfl,?_,hk,rfl⟩;simp only[AF];rw[List.getElem?_set_self (Aj hz)];exact⟨_,rfl,hzp⟩
  obtain⟨k1,⟨z',k2,k3⟩,k4,k5⟩:=key;obtain⟨g1,g2⟩:=PB kl (Fy w i x kp a.name) z' k1 k2 k3 k4 (fun p hp=>by rw[Ia k5];exact hf p (by simp[hp]));refine⟨fun j p hp=>?_,g2⟩;cases j with
  | zero =>
   simp at hp;subst hp;exact⟨fun _=>h1,fun _=>⟨CV h.tab,hfa⟩⟩
  | succ j=>exact g1 j p (by simpa using hp)
def JE.note{e:Option Nat}{w:Am}(h:JE e w)(k:Int)(p:Ab):JE e (BQ w k p):=⟨h.tab,h.n,h.uq,h.good⟩
def N1{w:Am}{i:Nat}{x:Pcs}(h:JE none w)(hx:w.procs[i]?=some x)(hw:x.waiting=true) :
 TE (BQ w 2 x.proc) i x ((Cv x.req.expr (Bh w.Aa x.proc x.req.expr)).zip (Ag x.req.expr))∧JE none (Cq w i x):=by
 have hg:=h.good i x hx (by simp) hw;obtain⟨h1,h2⟩:=PB ((Cv x.req.expr (Bh w.Aa x.proc x.req.expr)).zip (Ag x.req.expr)) (BQ w 2 x.proc) x ((h.but i).note 2 x.proc) hx rfl hg.k (fun p hp=>hg.fd p.2 (List.of_mem_zip hp).2);refine⟨h1,?_⟩;obtain⟨l',hl⟩:=ON (w:=w) (i:=i) (x:=x) (z:=x) hx ((Cv x.req.expr (Bh w.Aa x.proc x.req.expr)).zip (Ag x.req.expr)) (BQ w 2 x.proc) ⟨x.led,(JU hx).symm⟩;have hi:=Aj hx;have hz:(CW (BQ w 2 x.proc) i x ((Cv x.req.expr (Bh w.Aa x.proc x.req.expr)).zip (Ag x.req.expr))).procs[i]?=some { x with led:=l' }:=by rw[hl];simp[hi]
 simp only[Cq];generalize CW (BQ w 2 x.proc) i x ((Cv x.req.expr (Bh w.Aa x.proc x.req.expr)).zip (Ag x.req.expr))=w1 at h2 hz ⊢;have e1:w1.procs.getD i x0 = { x with led:=l' }:=by simp[List.getD,hz]
 rw[e1];have h3:=JE.set (y:=Br { x with led:=l' }) h2 hz rfl (fun e=>by simp[Br]at e);have hi2:=Aj hz;have hz2:(AF w1 i (Br { x with led:=l' })).procs[i]?=some (Br { x with led:=l' }):=by simp[AF,hi2]
 have e2:(AF w1 i (Br { x with led:=l' })).procs.getD i x0=Br { x with led:=l' }:=by simp[List.getD,hz2]
 rw[e2];exact JE.set (h3.but i) hz2 rfl (fun e=>by simp[Br,BC]at e)
def JE.reqs{w:Am}(h:JE none w):TC w:=fun x hx hw=>by
 obtain⟨j,hj⟩:=List.getElem?_of_mem hx;exact(h.good j x hj (by simp) hw).ex
def JE.Fh:Io (JE none) where
 few:=fun w h=>⟨CV h.tab,h.n,h.reqs⟩
 safe:=fun w i x h hs hx=>by
  obtain⟨y,hy,hsat⟩:=FR hs;rw[hx]at hy;have:=Option.some.inj hy;subst this;exact(N1 h hx (by simp only[HB,and_eq_true]at hsat;exact hsat.1)).1
 next:=fun w i x h hs hx=>by
  obtain⟨y,hy,hsat⟩:=FR hs;rw[hx]at hy;have:=Option.some.inj hy;subst this;exact(N1 h hx (by simp only[HB,and_eq_true]at hsat;exact hsat.1)).2
def JE.next{w:Am}{i:Nat}{x:Pcs}(h:JE none w)(hx:w.procs[i]?=some x):JE none (AF w i (BC x)) :=
 JE.set (h.but i) hx rfl fun hw=>by
  have:=h.good i x hx (by simp) hw;exact⟨this.ex,this.fd,this.k⟩
def JE.ef:ZY (JE none) where
 toIo:=JE.Fh
 ev:=fun w k p h=>h.note k p
 wd:=fun w i x h hx hw=>⟨(Eb h hx hw).1,(Eb h hx hw).2.1⟩
 nx:=fun w i x h hx=>h.next hx
structure Lost(w:Am):Prop where
 q:w.Aa=[]
 n:w.procs.length≤8
 rq:TC w
def RQ(w:Am):Prop:=JE none w∨Lost w
def Zg(l:List Atom)(set:List Bool)(h:∀ b∈set,b=false)(a:Atom):D0 l set a=false:=by
 unfold D0;split
 ·rename_i i _;simp only[List.getD];cases hs:set[i]? with
  |none=>rfl
  |some b=>rw[h b (mG hs)];rfl
 ·rfl
def QE{has:Atom→Bool}:∀ (es:List Expr) (l:List Atom),(∀ e∈es,∀ l,(prop e l).1=true→Ez has e=false)→(Cl es l).1=true→CP has es=0
 |[],_,_,_=>by simp[CP]
 | e::es,l,hk,h=>by
  simp only[Cl]at h;split at h
  ·rename_i h1;have:=hk e (by simp) l h1;simp only[CP,this,false_eq_true,if_false];rw[QE es _ (fun e' he=>hk e' (by simp[he])) h];rfl
  ·cases h
def Sy{has:Atom→Bool}(hh:∀ a,has a=false):∀ (N:Nat) (e:Expr),SizeOf.sizeOf e<N→∀ l:List Atom,(prop e l).1=true→Ez has e=false
 | 0,_,h,_,_=>by omega
 | N+1,e,h,l,hp=>by
  rw[Jz];rw[D2]at hp
  by_cases h0:e.kids.length=0
  ·rw[if_pos h0];exact hh _
  ·rw[if_neg h0]at hp ⊢;split at hp
   ·cases hp
   ·rename_i hn;have hc:=QE (has:=has) e.kids l (fun k hk l' hp'=>Sy hh N k (by have:=DB hk;omega) l' hp') hp;rw[hc];simp only[not_or,Int.not_lt]at hn;have:=hn.1;simp only[decide_eq_false_iff_not];omega
def Xn{p:Ab}{e:Expr}(h:Bb e=true):Fb e (Bh [] p e)=false:=by
 have hp:(prop e []).1=true:=by simp only[Bb,and_eq_true]at h;exact h.2
 have hg:∀ b∈Bh [] p e,b=false:=fun b hb=>by
  simp only[Bh,mem_map]at hb;obtain⟨a,_,rfl⟩:=hb;rfl
 unfold Fb;rw[Sy (fun a=>Zg _ _ hg a) _ e (Nat.lt_succ_self _) [] hp];simp
def Lost.sat{w:Am}(h:Lost w):F2 w=none:=by
 unfold F2;rw[List.findIdx?_eq_none_iff];intro x hx;unfold HB;cases hw:x.waiting
 ·rfl
 ·rw[h.q,Xn (h.rq x hx hw)];rfl
def LS:D5 []:=⟨by simp,by simp⟩
def RQ.Fh:Io RQ where
 few:=fun w h=>h.elim (fun h=>JE.Fh.few w h) fun h=>⟨by rw[h.q];exact LS,h.n,h.rq⟩
 safe:=fun w i x h hs hx=>h.elim (fun h=>JE.Fh.safe w i x h hs hx) fun h=>by rw[h.sat]at hs;cases hs
 next:=fun w i x h hs hx=>h.elim (fun h=>.inl (JE.Fh.next w i x h hs hx)) fun h=>by rw[h.sat]at hs;cases hs
def W6(p:Ab)(a:Atom)(prio:Int):(DN [] p a prio).1=[]:=by
 unfold DN;split
 ·rfl
 ·rfl
def Pn(p:Ab)(prio:Int):∀ (az:List Atom) (w:Am),w.Aa=[]→(Cz w p prio az).Aa=[]∧UF w p prio az
 |[],w,h=>⟨h,fun i hi=>by simp at hi⟩
 | a::az,w,h=>by
  have h1:(E8 w p a prio).Aa=[]:=by simp only[E8,Cg];rw[h];exact W6 p a prio
  obtain⟨g1,g2⟩:=Pn p prio az (E8 w p a prio) h1;refine⟨g1,fun i hi=>?_⟩;cases i with
  | zero=>show D5 w.Aa;rw[h];exact LS
  | succ i=>exact g2 i (by simpa using hi)
def Nh{i:Nat}{y:Pcs}{prio:Int}:∀ (az:List Atom) (w:Am),(az.map (·.name)).Nodup→JE (some i) w→w.procs[i]?=some y→KX w.Aa y→(∀ q∈w.Aa,(∃ a∈az,a.name=q.res.name)→At q.holds y.proc=An y.led.entries q.res.name) →
 UF w y.proc prio az∧((Cz w y.proc prio az).Aa=[]∨(JE (some i) (Cz w y.proc prio az)∧KX (Cz w y.proc prio az).Aa y∧(Cz w y.proc prio az).Aa.map (·.res)=w.Aa.map (·.res)))
 |[],w,_,h,_,hk,_=>⟨fun i hi=>by simp at hi,.inr ⟨h,hk,rfl⟩⟩
 | a::az,w,hu,h,hy,hk,hf=>by
  have hu':=List.nodup_cons.1 hu;have few0:=CV h.tab;rcases U3 (p:=y.proc) (a:=a) (prio:=prio) h.tab (fun n=>An y.led.entries n) (fun q hq hn=>hf q hq ⟨a,by simp,hn.symm⟩) with hl|⟨k,q,q1,hfk,hq,hn,e1,hs,hr,hkq⟩
  ·have h1:(E8 w y.proc a prio).Aa=[]:=hl;obtain⟨g1,g2⟩:=Pn y.proc prio az (E8 w y.proc a prio) h1;refine⟨fun j hj=>?_,.inl g1⟩;cases j with
   | zero=>exact few0
   | succ j=>exact g2 j (by simpa using hj)
  ·have eq1:(E8 w y.proc a prio).Aa=w.Aa.set k q1:=e1;have hp1:(E8 w y.proc a prio).procs=w.procs:=rfl;have hk1:KX (E8 w y.proc a prio).Aa y:=fun q' hq'=>by
    rw[eq1]at hq';rcases CO (q:=q) hq' with rfl|⟨j,_,hj⟩
    ·rw[hr];exact hkq
    ·exact hk q' (mG hj)
   have hs':Fj y.proc w.Aa (E8 w y.proc a prio).Aa:=by rw[eq1];exact hs
   obtain⟨g1,g2⟩:=Nh az (E8 w y.proc a prio) hu'.2 (h.step hy hp1 hs') (by rw[hp1];exact hy) hk1 (fun q' hq' hx=>by
    rw[eq1]at hq';rcases CO (q:=q) hq' with rfl|⟨j,_,hj⟩
    ·exfalso;obtain⟨b,hb,e⟩:=hx;refine hu'.1 ?_;rw[mem_map];exact⟨b,hb,by rw[e,hr,hn]⟩
    ·obtain⟨b,hb,e⟩:=hx;exact hf q' (mG hj) ⟨b,by simp[hb],e⟩)
   refine⟨fun j hj=>?_,?_⟩
   ·cases j with
    | zero=>exact few0
    | succ j=>exact g1 j (by simpa using hj)
   ·rcases g2 with g2|⟨a1,a2,a3⟩
    ·exact .inl g2
    ·exact .inr ⟨a1,a2,a3.trans hs'.res⟩
def Je(l:List Atom):Prop:=(l.map (·.name)).Nodup
def Zx{l:List Atom}{a:Atom}(h:Je l):Je (Fm l a).2:=by
 unfold Fm;cases hf:l.find? (hit a) with
 |some b=>exact h
 |none =>
  simp only;split
  ·exact h
  ·unfold Je at h ⊢;rw[map_append,List.nodup_append];refine⟨h,by simp,fun x hx y hy=>?_⟩;simp at hy;subst hy;rw[List.find?_eq_none]at hf;obtain⟨b,hb,rfl⟩:=mem_map.1 hx;have:=hf b hb;simp only[hit]at this;intro e;rw[e]at this;simp at this
def Rs:∀ (es:List Expr) (l:List Atom),(∀ e∈es,∀ l,Je l→Je (prop e l).2)→Je l→Je (Cl es l).2
 |[],l,_,h=>by simpa [Cl]using h
 | e::es,l,hk,h=>by
  simp only[Cl];have h1:=hk e (by simp) l h;split
  ·exact Rs es _ (fun e' he=>hk e' (by simp[he])) h1
  ·exact h1
def Tg:∀ (N:Nat) (e:Expr),SizeOf.sizeOf e<N→∀ l:List Atom,Je l→Je (prop e l).2
 | 0,_,h,_,_=>by omega
 | N+1,e,h,l,hu=>by
  rw[D2];split
  ·split
   ·exact Zx hu
   ·exact hu
  ·split
   ·exact hu
   ·exact Rs e.kids l (fun k hk l' hu'=>Tg N k (by have:=DB hk;omega) l' hu') hu
def Gm(e:Expr):Je (Ag e):=by
 unfold Ag;split
 ·rename_i h;have hp:(prop e []).1=true:=by simp only[Bb,and_eq_true]at h;exact h.2
  rw[Hz _ e (Nat.lt_succ_self _) [] hp];exact Tg _ e (Nat.lt_succ_self _) [] (by simp[Je])
 ·simp[Je]
def Idle(t:List Queue)(x:Pcs):Prop:=∀ q∈t,KF q x.proc (An x.led.entries q.res.name)
def UW{w:Am}{i:Nat}{x:Pcs}{r:Req}(h:JE none w)(hx:w.procs[i]?=some x)(hi:Idle w.Aa x)(he:Bb r.expr=true)(hf:∀ a∈Ag r.expr,∃ k,BS w.Aa a.name=some k) :
 UF (AF w i (Gi w.now x r)) x.proc r.prio (Ag r.expr)∧RQ (Ka w i x r):=by
 have hli:=Aj hx;have h1:JE (some i) (AF w i (Gi w.now x r)):=(h.but i).set' hx rfl;have hy:(AF w i (Gi w.now x r)).procs[i]?=some (Gi w.now x r):=by simp[AF,hli]
 obtain⟨g1,g2⟩:=Nh (prio:=r.prio) (Ag r.expr) (AF w i (Gi w.now x r)) (Gm r.expr) h1 hy (fun q hq=>(hi q hq).k) (fun q hq _=>(hi q hq).2);refine⟨g1,?_⟩;have hp:(Ka w i x r).procs=w.procs.set i (Gi w.now x r):=Hb _ _ _ _;have hy2:(Ka w i x r).procs[i]?=some (Gi w.now x r):=by rw[hp];simp[hli]
 rcases g2 with g2|⟨a1,a2,a3⟩
 ·refine .inr ⟨g2,by rw[hp];simpa using h.n,fun z hz hw=>?_⟩;rw[hp]at hz;rcases List.mem_or_eq_of_mem_set hz with hz|rfl
  ·exact h.reqs z hz hw
  ·exact he
 ·refine .inl ?_;have:=JE.set (y:=Gi w.now x r) a1 hy2 rfl (fun _=>⟨he,fun a ha=>by rw[Ia a3];exact hf a ha,a2⟩);have e:AF (Ka w i x r) i (Gi w.now x r)=Ka w i x r:=by
   unfold AF;rw[JU hy2]
  unfold Ka at e this ⊢;rw[← e];exact this
def Xy{t:List Queue}(p:Ab)(a:Atom)(h:CE t):(A8 t p a).1=[]∨Fj p t (A8 t p a).1:=by
 cases hf:BS t a.name with
 |none=>left;simp[A8,hf];split<;>rfl
 |some k =>
  obtain⟨hlt,q,hq,hn⟩:=C5 hf;have hg:t.getD k q0=q:=by simp[List.getD,hq]
  have hv:=h.val q (mG hq)
  by_cases h0:(A7 q p a.amt).2.2=0
  ·right;have:(At q.holds p).zero=false∧Aq q p=none∧q.res.covers (At q.holds p) a.amt=true:=by
    revert h0;unfold A7;simp only[hv,zT,false_eq_true,if_false];split
    ·intro h;simp at h
    split
    ·intro h;simp at h
    split
    ·intro h;simp at h
    rename_i h1 h2 h3;intro _;exact⟨by simpa using h1,E1 (by simpa using h2),by simpa using h3⟩
   obtain⟨q1,e1,hs,_⟩:=Hu h hf hq this.2.1 this.1 this.2.2;rw[e1];exact hs
  ·left;simp only[A8,hf,hg];split
   ·rfl
   ·rw[if_pos (by simpa using h0)]
def C2{a:Amt}(h:usable a=true):(Bi a.mode=true∧a.Ax=0)∨(a.mode=0∧1≤a.Ax∧a.Ax≤8):=by
 unfold usable at h;rw[or_eq_true]at h;rcases h with h|h
 ·rcases(B9 h).2 with ⟨_,b,c⟩|⟨a,_⟩
  ·exact .inl ⟨b,c⟩
  ·exact absurd rfl a
 ·rcases(B9 h).2 with ⟨a,_⟩|⟨_,b,c,d,e⟩
  ·exact absurd a (by decide)
  ·exact .inr ⟨b,c,by omega⟩
def H5{m:Int}(h:Bi m=true):m≠0:=by rcases AN h with rfl|rfl|rfl|rfl|rfl<;>decide
def J4{a:Amt}(h:usable a=true):a≠⟨0,0⟩:=by
 rintro rfl;rcases C2 h with ⟨h,_⟩|⟨_,h,_⟩
 ·exact H5 h rfl
 ·exact absurd h (by decide)
def Gr(a b:Amt):Prop:=a=⟨0,0⟩∨(usable a=true∧usable b=true∧((a.mode≠0∧A5 b.mode a.mode=true)∨(a.mode=0∧b.mode=0∧a.Ax≤b.Ax)))
def Gr.self{a:Amt}(h:a=⟨0,0⟩∨usable a=true):Gr a a:=by
 rcases h with h|h
 ·exact .inl h
 ·refine .inr ⟨h,h,?_⟩;rcases C2 h with ⟨h1,h2⟩|⟨h1,h2⟩
  ·exact .inl ⟨H5 h1,No h1⟩
  ·exact .inr ⟨h1,h1,Int.le_refl _⟩
def Gr.trans{a b c:Amt}(h1:Gr a b)(h2:Gr b c):Gr a c:=by
 rcases h1 with h1|⟨ua,ub,h1⟩
 ·exact .inl h1
 ·rcases h2 with h2|⟨_,uc,h2⟩
  ·exact absurd h2 (J4 ub)
  ·refine .inr ⟨ua,uc,?_⟩;rcases h1 with ⟨a1,a2⟩|⟨a1,a2,a3⟩
   ·rcases h2 with ⟨b1,b2⟩|⟨b1,_⟩
    ·exact .inl ⟨a1,RW b2 a2⟩
    ·have:Bi b.mode=true:=by simp only[A5,and_eq_true]at a2;exact a2.1.1
     exact absurd b1 (H5 this)
   ·rcases h2 with ⟨b1,_⟩|⟨b1,b2,b3⟩
    ·exact absurd a2 b1
    ·exact .inr ⟨a1,b2,by omega⟩
def Ln{a b:Amt}(h:DA a b=true):usable b=true∧Gr a b:=by
 unfold DA at h;split at h
 ·cases h
 rename_i h1;simp only[or_eq_true,Bool.not_eq_true',zD,not_or,Bool.not_eq_false]at h1;refine⟨h1.1,?_⟩;split at h
 ·rename_i h2;obtain⟨m,u⟩:=a;simp at h2;exact .inl (by simp[h2])
 rename_i h2;split at h
 ·cases h
 rename_i h3;have ua:usable a=true:=by simpa using h3
 refine .inr ⟨ua,h1.1,?_⟩;split at h
 ·rename_i h4;exact .inl ⟨by simpa using h4,h⟩
 ·rename_i h4;have h4:a.mode=0:=by simpa using h4
  have h5:a.Ax<b.Ax:=by simpa using h
  rcases C2 ua with ⟨m,_⟩|⟨_,m,_⟩
  ·exact absurd h4 (H5 m)
  ·rcases C2 h1.1 with ⟨_,n⟩|⟨n,_⟩
   ·omega
   ·exact .inr ⟨h4,n,by omega⟩
def OC{r:Res}{h a:Amt}(hf:r.fits h=true)(hg:Gr a h):r.covers h a=true:=by
 rcases hg with rfl|⟨ua,uh,hg⟩
 ·exact Hl hf
 ·obtain⟨hs,hc⟩:=B9 hf;rcases hc with ⟨k,m,u⟩|⟨k,m,u1,u2,u3⟩
  ·rcases hg with ⟨a1,a2⟩|⟨_,a2,_⟩
   ·have ma:Bi a.mode=true:=by simp only[A5,and_eq_true]at a2;exact a2.1.2
    have ha:a.Ax=0:=by
     rcases C2 ua with ⟨_,h⟩|⟨h,_⟩
     ·exact h
     ·exact absurd h a1
    have fa:r.fits a=true:=by simp[Res.fits,hs,k,ma,ha]
    rw[DW hf fa,if_pos k];exact a2
   ·exact absurd a2 (H5 m)
  ·rcases hg with ⟨a1,a2⟩|⟨a1,a2,a3⟩
   ·have:Bi h.mode=true:=by simp only[A5,and_eq_true]at a2;exact a2.1.1
    exact absurd m (H5 this)
   ·have h1:1≤a.Ax:=by
     rcases C2 ua with ⟨h,_⟩|⟨_,h,_⟩
     ·exact absurd a1 (H5 h)
     ·exact h
    have fa:r.fits a=true:=by
     have hb:AI a.Ax 1 r.Ax=true:=by simp[AI];omega
     simp[Res.fits,hs,k,a1,hb]
    rw[DW hf fa,if_neg k];simpa using a3
def KI{l:Ledger}(h:A9 l=true){i:Nat}{e:Entry}(he:l.entries[i]?=some e):e.before=An (l.entries.take i) e.name∧DA e.before e.after=true:=by
 simp only[A9,and_eq_true]at h;have:=Sf h.1.1.2 he;simp only[EU,and_eq_true,zD]at this;exact⟨this.1.2,this.2⟩
def T7{l:Ledger}(h:A9 l=true)(n:Bs):∀ i,i≤l.entries.length→An (l.entries.take i) n=⟨0,0⟩∨usable (An (l.entries.take i) n)=true
 | 0,_=>.inl rfl
 | i+1,hi=>by
  obtain⟨e,he⟩:∃ e,l.entries[i]?=some e:=⟨_,gE (by omega)⟩;rw[D7 he];split
  ·exact .inr (Ln (KI h he).2).1
  ·exact T7 h n i (by omega)
def Yf{l:Ledger}(h:A9 l=true)(n:Bs)(i:Nat):∀ d,i+d≤l.entries.length→Gr (An (l.entries.take i) n) (An (l.entries.take (i+d)) n)
 | 0,hi=>Gr.self (T7 h n i hi)
 | d+1,hi=>by
  obtain⟨e,he⟩:∃ e,l.entries[i+d]?=some e:=⟨_,gE (by omega)⟩;have ih:=Yf h n i d (by omega);rw[show i+(d+1)=i+d+1 from rfl,D7 he];split
  ·rename_i hn;have hn:e.name=n:=by simpa using hn
   obtain⟨h1,h2⟩:=KI h he;rw[hn]at h1;rw[h1]at h2;exact ih.trans (Ln h2).2
  ·exact ih
def OF{l:Ledger}(h:A9 l=true)(n:Bs)(i:Nat):Gr (An (l.entries.take i) n) (An l.entries n):=by
 rcases Nat.lt_or_ge i l.entries.length with hi|hi
 ·have:=Yf h n i (l.entries.length-i) (by omega);rw[show i+(l.entries.length-i)=l.entries.length by omega,tL]at this;exact this
 ·rw[List.take_of_length_le hi];have:=T7 h n l.entries.length (Nat.le_refl _);rw[tL]at this;exact .self this
def LY{l:Ledger}(h:A9 l=true){n:Bs}:∀ i,i≤l.entries.length→(∃ e∈l.entries.take i,e.name=n)→usable (An (l.entries.take i) n)=true
 | 0,_,⟨e,he,_⟩=>by simp at he
 | i+1,hi,⟨e,he,hn⟩=>by
  obtain⟨b,hb⟩:∃ b,l.entries[i]?=some b:=⟨_,gE (by omega)⟩;rw[D7 hb];split
  ·exact(Ln (KI h hb).2).1
  ·rename_i hne;refine LY h i (by omega) ⟨e,?_,hn⟩;rw[tA,hb]at he;simp only[toList_some,mem_append,List.mem_singleton]at he;rcases he with he|rfl
   ·exact he
   ·rw[hn]at hne;simp at hne
def bk(l:List Bs)(n x:Bs):x∈PV l n↔x∈l∨x=n:=by
 unfold PV;split
 ·rename_i h;exact⟨.inl,fun hx=>hx.elim id fun e=>e▸h⟩
 ·exact Uj _ _ _ _
def S4:∀ (ns l:List Bs) (x:Bs),x∈ns.foldl PV l↔x∈l∨x∈ns
 |[],l,x=>by simp
 | n::ns,l,x=>by
  rw[foldl_cons,S4 ns,bk];simp[or_assoc]
def D9(l:List Entry)(x:Bs):x∈B3 l↔∃ e∈l,e.name=x:=by
 unfold B3;rw[S4];simp
def S5{l:Ledger}(h:A9 l=true){n:Bs}(hn:∃ e∈l.entries,e.name=n):(⟨n,An l.entries n⟩:Atom)∈EX l∧usable (An l.entries n)=true:=by
 have hu:=LY h (n:=n) l.entries.length (Nat.le_refl _) (by rw[tL];exact hn);rw[tL]at hu;refine⟨?_,hu⟩;unfold EX;rw[List.mem_filterMap];refine⟨n,(D9 _ _).2 hn,?_⟩;rw[if_neg ?_];intro hz;refine J4 hu ?_;generalize An l.entries n=a at hz;obtain⟨m,u⟩:=a;simp at hz;simp[hz]
def LX{l:List Entry}{n:Bs}(h:¬ ∃ e∈l,e.name=n):An l n=⟨0,0⟩:=by
 have:∀ (l:List Entry) (a:Amt),(¬ ∃ e∈l,e.name=n)→l.foldl (fun a e=>if e.name==n then e.after else a) a=a:=by
  intro l
  induction l with
  | nil=>intro a _;rfl
  | cons e l ih =>
   intro a hn;rw[foldl_cons,if_neg (by simpa using fun e'=>hn ⟨e,by simp,e'⟩)];exact ih a fun⟨e',h1,h2⟩=>hn ⟨e',by simp[h1],h2⟩
 exact this l _ h
def Il(t:List Queue)(x:Pcs):Prop:=∀ n,(∃ e∈x.led.entries,e.name=n)→∃ k q,BS t n=some k∧t[k]?=some q∧q.res.name=n∧q.res.fits (An x.led.entries n)=true
def dT(t:List Queue)(x:Pcs)(a:Nat):Prop:=∀ q∈t,Aq q x.proc=none∧(At q.holds x.proc=An x.led.entries q.res.name∨At q.holds x.proc=An (x.led.entries.take a) q.res.name)
def Il.res{t t':List Queue}{x:Pcs}(h:Il t x)(hr:t'.map (·.res)=t.map (·.res)):Il t' x:=fun n hn=>by
 obtain⟨k,q,h1,h2,h3,h4⟩:=h n hn;have:=congrArg (fun l=>l[k]?) hr;simp only[gm,h2,map_some]at this;cases h5:t'[k]? with
 |none=>rw[h5]at this;cases this
 |some q' =>
  rw[h5]at this;simp only[map_some,zO]at this;exact⟨k,q',(Ia hr n).trans h1,h5,by rw[this];exact h3,by rw[this];exact h4⟩
end Go.Rd
