/- part 28 of the proof -/
import Derived.Test.YthachdiockkofaaGreatDoorS26
import Derived.Test.YthachdiockkofaaGreatDoorS27
set_option linter.all false
open Go Go.Abs Go.Proofs
set_option maxRecDepth 100000
namespace Go.Rd
set_option maxHeartbeats 8000000
open List (foldl_append map_set set_set take_add_one take_length)
open Nat (le_refl)
open Tryz
def Pu(w:Work)(x:Pcs)(name:Bs):Prop:=∃ k,By w.queues name=some k∧CU w.queues∧k<(Dj w x name k).queues.length∧CU (Dj w x name k).queues
theorem Y4(w:Work)(x:Pcs)(name:Bs)(h:Pu w x name)(hev:w.evs.length≤1000000):Ac C0 185 [.ptr 63 0,.agg x.c,.v (.string (str name))] [(63,w.c)] (.tup []) [(63,(CV w x name).c)]:=by
 obtain⟨k,h1,h2,h3,h4⟩:=h;exact f185_ok w x name k h1 h2 hev h3 h4
theorem Rs{w:Work}{x:Pcs}{name:Bs}(h:Pu w x name):(CV w x name).evs.length≤w.evs.length+201:=by
 obtain⟨k,h1,h2,h3,h4⟩:=h;have c1:=Ov h2 x.proc name;have c2:=GF h4 x.proc ⟨name,Ai x.led.entries name⟩;have c3:(Dj w x name k).evs.length≤w.evs.length+100:=by
  unfold Dj;split
  ·simp[BS];omega
  ·omega
 simp only[CV,h1];unfold I1;split
 ·omega
 ·simp only[BS,List.length_append];omega
theorem E0(w:Work)(x:Pcs)(name:Bs):(CV w x name).procs=w.procs:=by
 unfold CV;split
 ·rfl
 ·unfold I1 Dj;split<;>split<;>rfl
def C9(w:Work)(x:Pcs)(az:List Atom):Work:=az.foldl (fun w a=>CV w x a.name) w
theorem OD{w:Work}{x:Pcs}{az:List Atom}{i:Nat}{b:Atom}(hb:az[i]?=some b):C9 w x (az.take (i+1))=CV (C9 w x (az.take i)) x b.name:=by
 simp[C9,take_add_one,hb,foldl_append]
theorem F5(w:Work)(x:Pcs):∀ az:List Atom,(C9 w x az).procs=w.procs
 |[]=>rfl
 | a::az=>by
  show (C9 (CV w x a.name) x az).procs=w.procs;rw[F5,E0]
def LZ(w:Work)(x:Pcs)(az:List Atom):Prop:=∀ i b,az[i]?=some b→Pu (C9 w x (az.take i)) x b.name
theorem L7{w:Work}{x:Pcs}{az:List Atom}(h:LZ w x az):∀ i,i≤az.length→(C9 w x (az.take i)).evs.length≤w.evs.length+201*i
 | 0,_=>by simp[C9]
 | i+1,hi=>by
  obtain⟨b,hb⟩:∃ b,az[i]?=some b:=⟨_,gE (by omega)⟩;have h1:=L7 h i (by omega);have h2:=Rs (h i b hb);rw[OD hb];omega
def Au(w:Work)(i:Nat)(x:Pcs):Work:=At (C9 w x (Ad x.req.expr)) i (A7 x)
theorem f120_ok(w:Work)(i:Nat)(x:Pcs)(hx:w.procs[i]?=some x)(hs:LZ w x (Ad x.req.expr))(hev:w.evs.length≤900000):Ac C0 120 [.ptr 63 0,I i] [(63,w.c)] (.tup []) [(63,(Au w i x).c)]:=by
 have hal:=CS x.req.expr;refine Ac.go f120 ?_;unfold f120;simp(disch:=omega)only[go_sem,gm,hx];refine Ab (f93_ok x.req.expr) ?_;obtain⟨o,rfl⟩:∃ o,o=i:=⟨i,rfl⟩;refine gO ?_;unfold Au;generalize Ad x.req.expr=az at hs hal ⊢;refine Aa (α:=Nat) (fun i=>⟨[(6,I i),(5,Bn az),(0,.ptr 63 0),(1,I o),(4,.ptr 256 0)],[(63,(C9 w x (az.take i)).c),(256,x.c)]⟩) (fun i=>i≤(az).length∧True) (fun i=>(az).length-i) 0 ⟨by omega,trivial⟩ ?_ ?_
 ·refine Imp.weak ?_ ?_
  all_goals(try simp(disch:=omega)only[go_sem])
  all_goals(try(repeat'(with_reducible apply And.intro)))
  all_goals(first|exact .AA (by omega)|exact .Az (by omega)|exact .sl (by simp[C9])|exact .int (by simp[C9])|exact .eq (by simp[C9]))
 rintro i ⟨hi,hP⟩ J hJ;refine gO ?_;refine ⟨fun hlt=>?_,fun hge=>?_⟩;rotate_left;have hil:i=(az).length:=by simp at hge;omega
 rotate_left;obtain⟨b,hb⟩:∃ b,(az)[i]?=some b:=⟨_,gE (by simp at hlt;omega)⟩;have hbm:=mG hb;have hlt2:i<(az).length:=by simp at hlt;omega
 ·have h1:=L7 hs i hi;refine Aq 7 [([],[0]),([],[4]),([],[5]),([],[6]),([],[27,28]),([],[29]),([],[30])] fol ?_;simp(disch:=omega)only[go_sem,gm,hb];refine call2 ⟨⟨[(0,0),(1,1)],[(63,63)],[]⟩,[],[]⟩ (Y4 (C9 w x (az.take i)) x b.name (hs i b hb) (by omega)) ?_;rw[← OD hb];refine gO ?_;refine hJ _ (i+1) ⟨by simp at hlt;omega,trivial⟩ (by simp at hlt;omega) AK
 ·subst hil;rw[take_length];have hx2:(C9 w x az).procs[o]?=some x:=by rw[F5];exact hx
  refine call2 ⟨⟨[(0,0),(1,1)],[(63,63)],[]⟩,[],[]⟩ (f186_ok (C9 w x az) o x hx2) ?_;refine gO ?_;refine B1 ⟨[(0,0),(1,1)],[(63,63)],[]⟩ _ ?_ ?_
  ·exact gI
  ·exact gI
def GG(w:Work)(x:Pcs):Bool:=x.waiting&&EI x.req.expr (AU w.queues x.proc x.req.expr)
def Fq(w:Work):Option Nat:=w.procs.findIdx? (GG w)
def Sz(w:Work):Prop:=∀ x∈w.procs,x.waiting=true→A5 x.req.expr=true
theorem f188_ok(w:Work)(h:CU w.queues)(hp:w.procs.length≤1000000)(hr:Sz w):Ac C0 188 [.ptr 63 0] [(63,w.c)] (I (atI (Fq w))) [(63,w.c)]:=by
 refine Ac.go f188 ?_;unfold f188;refine gO ?_;refine Aa (α:=Nat) (fun i=>⟨[(3,I i),(0,.ptr 63 0)],[(63,w.c)]⟩) (fun i=>i≤(w.procs).length∧(w.procs.take i).find? (GG w)=none) (fun i=>(w.procs).length-i) 0 ⟨by omega,rfl⟩ ?_ ?_
 ·exact Ca
 rintro i ⟨hi,hP⟩ J hJ;refine gO ?_;refine ⟨fun hlt=>?_,fun hge=>?_⟩;rotate_left;have hil:i=(w.procs).length:=by simp at hge;omega
 rotate_left;obtain⟨b,hb⟩:∃ b,(w.procs)[i]?=some b:=⟨_,gE (by simp at hlt;omega)⟩;have hbm:=mG hb;have hlt2:i<(w.procs).length:=by simp at hlt;omega
 ·simp(disch:=omega)only[go_sem,gm,hb];cases hw:b.waiting
  ·have hs:GG w b=false:=by simp[GG,hw]
   refine Aq 17 [([],[4]),([],[23]),([],[24]),([],[4,25]),([],[26,25]),([],[27,25]),([],[0,25]),([],[29,25]),([],[30,25]),([],[31,25]),([],[32,25]),([],[4,25]),([],[34,25]),([],[4,25]),([],[36,25]),([],[37,25]),([],[33,35,38,25])] fol ?_;simp(disch:=omega)only[go_sem,hw];refine hJ _ (i+1) ⟨by simp at hlt;omega,(by rw[BU hP hb];simp[hs])⟩ (by simp at hlt;omega) AK
  ·have he:=hr b hbm hw;refine Aq 17 [([],[4]),([],[23]),([],[24]),([],[4,25]),([],[26,25]),([],[27,25]),([],[0,25]),([],[29,25]),([],[30,25]),([],[31,25]),([],[32,25]),([],[4,25]),([],[34,25]),([],[4,25]),([],[36,25]),([],[37,25]),([],[33,35,38,25])] fol ?_;simp(disch:=omega)only[go_sem,hw]
   first|(refine Ab (f179_ok w.queues b.proc b.req.expr h) ?_)|(refine Al (f179_ok w.queues b.proc b.req.expr h) ?_)
   simp(disch:=omega)only[go_sem]
   first|(refine Ab (f160_ok b.req.expr (AU w.queues b.proc b.req.expr) he) ?_)|(refine Al (f160_ok b.req.expr (AU w.queues b.proc b.req.expr) he) ?_)
   cases hh:EI b.req.expr (AU w.queues b.proc b.req.expr)
   ·have hs:GG w b=false:=by simp[GG,hw,hh]
    refine gO ?_;refine hJ _ (i+1) ⟨by simp at hlt;omega,(by rw[BU hP hb];simp[hs])⟩ (by simp at hlt;omega) AK
   ·have hs:GG w b=true:=by simp[GG,hw,hh]
    have e:Fq w=some i:=F9 hP b hb hs;simp(disch:=omega)only[go_sem,e,atI];refine B1 ⟨[(0,0),(1,1)],[(63,63)],[]⟩ _ ?_ ?_
    ·exact gI
    ·exact gI
 ·subst hil;rw[take_length]at hP;have e:Fq w=none:=by
   unfold Fq;rw[List.findIdx?_eq_none_iff];rw[List.find?_eq_none]at hP;intro x hx;simpa using hP x hx
  simp(disch:=omega)only[go_sem,e,atI];refine B1 ⟨[(0,0),(1,1)],[(63,63)],[]⟩ _ ?_ ?_
  ·exact gI
  ·exact gI
def E5(w:Work)(i:Nat)(x:Pcs)(keep:Bool)(name:Bs):Work:=if !keep then CV w x name else match By w.queues name with
 |none=>w
 |some k=>if decide (Ak (w.queues.getD k q0).holds x.proc=Ai (w.procs.getD i x0).led.entries name) then w
  else At w i { w.procs.getD i x0 with led:=(Fo (w.procs.getD i x0).led ⟨name,Ai (w.procs.getD i x0).led.entries name,Ak (w.queues.getD k q0).holds x.proc⟩).1 }
def CA(w:Work)(i:Nat)(x:Pcs)(kl:List (Bool × Atom)):Work:=kl.foldl (fun w p=>E5 w i x p.1 p.2.name) w
def B2(w:Work)(i:Nat)(x:Pcs):Work :=
 let w1:=CA (Bv w 2 x.proc) i x ((B9 x.req.expr (AU w.queues x.proc x.req.expr)).zip (Ad x.req.expr))
 let w2:=At w1 i (A7 (w1.procs.getD i x0))
 At w2 i (Bf (w2.procs.getD i x0))
def Cr:Nat→Work→Work
 | 0,w=>w
 | n+1,w=>match Fq w with
  |none=>w
  |some i=>Cr n (B2 w i (w.procs.getD i x0))
def bM(w:Work)(x:Pcs)(kp:Bool)(name:Bs):Prop:=(kp=false→Pu w x name)∧(kp=true→CU w.queues∧∃ k,By w.queues name=some k)
theorem ZZ(w:Work)(i:Nat)(x:Pcs):(At w i x).procs.length=w.procs.length:=by simp[At]
theorem Uo(w:Work)(i:Nat)(x:Pcs)(kp:Bool)(name:Bs):(E5 w i x kp name).procs.length=w.procs.length:=by
 unfold E5;split
 ·rw[E0]
 ·split
  ·rfl
  ·split
   ·rfl
   ·exact ZZ _ _ _
theorem ON{w:Work}{i:Nat}{x:Pcs}{kl:List (Bool × Atom)}{j:Nat}{p:Bool × Atom}(hp:kl[j]?=some p):CA w i x (kl.take (j+1))=E5 (CA w i x (kl.take j)) i x p.1 p.2.name:=by
 simp[CA,take_add_one,hp,foldl_append]
theorem JP(w:Work)(i:Nat)(x:Pcs):∀ kl:List (Bool × Atom),(CA w i x kl).procs.length=w.procs.length
 |[]=>rfl
 | p::kl=>by
  show (CA (E5 w i x p.1 p.2.name) i x kl).procs.length=w.procs.length;rw[JP,Uo]
def SB(w:Work)(i:Nat)(x:Pcs)(kl:List (Bool × Atom)):Prop:=∀ j p,kl[j]?=some p→bM (CA w i x (kl.take j)) x p.1 p.2.name
theorem XZ{w:Work}{i:Nat}{x:Pcs}{kp:Bool}{name:Bs}(h:bM w x kp name):(E5 w i x kp name).evs.length≤w.evs.length+201:=by
 unfold E5;cases kp
 ·have:=Rs (h.1 rfl);simpa using this
 ·simp only[Bool.not_true,Bool.false_eq_true,if_false];split
  ·omega
  ·split
   ·omega
   ·simp[At]
theorem JO{w:Work}{i:Nat}{x:Pcs}{kl:List (Bool × Atom)}(h:SB w i x kl):∀ j,j≤kl.length→(CA w i x (kl.take j)).evs.length≤w.evs.length+201*j
 | 0,_=>by simp[CA]
 | j+1,hj=>by
  obtain⟨p,hp⟩:∃ p,kl[j]?=some p:=⟨_,gE (by omega)⟩;have h1:=JO h j (by omega);have h2:=XZ (i:=i) (h j p hp);rw[ON hp];omega
def wcount(w:Work):Nat:=w.procs.countP (·.waiting)
def AQ(w:Work):Work:=Cr (wcount w) w
structure HR(Inv:Work→Prop):Prop where
 few:∀ w,Inv w→CU w.queues∧w.procs.length≤8∧Sz w
 safe:∀ w i x,Inv w→Fq w=some i→w.procs[i]?=some x→SB (Bv w 2 x.proc) i x ((B9 x.req.expr (AU w.queues x.proc x.req.expr)).zip (Ad x.req.expr))
 next:∀ w i x,Inv w→Fq w=some i→w.procs[i]?=some x→Inv (B2 w i x)
theorem EE{w:Work}{i:Nat}(h:Fq w=some i):∃ x,w.procs[i]?=some x∧GG w x=true:=by
 unfold Fq at h;rw[List.findIdx?_eq_some_iff_getElem]at h;obtain⟨h1,h2,_⟩:=h;exact⟨_,gE h1,h2⟩
theorem Jk{α:Type}:∀ {l:List α} {i:Nat} {z:α},l[i]?=some z→l.set i z=l
 |[],_,_,h=>by simp at h
 | a::l,0,z,h=>by simp at h;simp[h]
 | a::l,i+1,z,h=>by
  simp only[List.set_cons_succ];rw[Jk (by simpa using h)]
theorem countP_set{α:Type}{p:α→Bool}{y:α}(hy:p y=false):∀ {l:List α} {i:Nat} {z:α},l[i]?=some z→p z=true→(l.set i y).countP p+1=l.countP p
 |[],_,_,h,_=>by simp at h
 | a::l,0,z,h,hz=>by
  simp at h;subst h;simp[List.countP_cons,hy,hz]
 | a::l,i+1,z,h,hz=>by
  have:=countP_set hy (l:=l) (i:=i) (z:=z) (by simpa using h) hz;simp only[List.set_cons_succ,List.countP_cons];omega
theorem N0{w:Work}{i:Nat}{x z:Pcs}(hz:w.procs[i]?=some z):∀ (kl:List (Bool × Atom)) (w':Work),(∃ l',w'.procs=w.procs.set i { z with led:=l' })→∃ l',(CA w' i x kl).procs=w.procs.set i { z with led:=l' }
 |[],_,h=>h
 | p::kl,w',h=>by
  refine N0 hz kl (E5 w' i x p.1 p.2.name) ?_;obtain⟨l',hl⟩:=h;have hi:=Ae hz;have hg:w'.procs[i]?=some { z with led:=l' }:=by rw[hl];simp[hi]
  unfold E5;split
  ·exact⟨l',by rw[E0,hl]⟩
  ·split
   ·exact⟨l',hl⟩
   ·split
    ·exact⟨l',hl⟩
    ·have hgd:w'.procs.getD i x0 = { z with led:=l' }:=by simp[List.getD,hg]
     rw[hgd];exact⟨_,by simp only[At,hl,set_set];rfl⟩
theorem FL{w:Work}{i:Nat}{x:Pcs}(hx:w.procs[i]?=some x):∃ y,(B2 w i x).procs=w.procs.set i y∧y.waiting=false∧y.proc=x.proc:=by
 obtain⟨l',hl⟩:=N0 (w:=w) (i:=i) (x:=x) (z:=x) hx ((B9 x.req.expr (AU w.queues x.proc x.req.expr)).zip (Ad x.req.expr)) (Bv w 2 x.proc) ⟨x.led,(Jk hx).symm⟩;have hi:=Ae hx;refine⟨Bf (A7 { x with led:=l' }),?_,rfl,rfl⟩;simp only[B2,At,hl,set_set];have h1:(w.procs.set i { x with led:=l' }).getD i x0 = { x with led:=l' }:=by simp[List.getD,hi]
 rw[h1];have h2:(w.procs.set i (A7 { x with led:=l' })).getD i x0=A7 { x with led:=l' }:=by simp[List.getD,hi]
 rw[h2]
theorem IH{w:Work}{i:Nat}{x:Pcs}(hs:Fq w=some i)(hx:w.procs[i]?=some x)(hsat:GG w x=true):AQ w=AQ (B2 w i x)∧wcount (B2 w i x)+1=wcount w:=by
 obtain⟨y,h1,h2,_⟩:=FL hx;have hwt:x.waiting=true:=by simp only[GG,Bool.and_eq_true]at hsat;exact hsat.1
 have hc:wcount (B2 w i x)+1=wcount w:=by
  unfold wcount;rw[h1];exact countP_set (p:=(·.waiting)) h2 hx hwt
 refine⟨?_,hc⟩;have hg:w.procs.getD i x0=x:=by simp[List.getD,hx]
 unfold AQ;rw[← hc];simp only[Cr,hs,hg]
theorem Tq(w:Work)(o:Nat)(x:Pcs)(z:Pcs)(kp:Bool)(name:Bs)(hz:w.procs[o]?=some z):E5 w o x true name=(match By w.queues name with
 |none=>w
 |some k=>if decide (Ak (w.queues.getD k q0).holds x.proc=Ai z.led.entries name) then w else At w o { z with led:=(Fo z.led ⟨name,Ai z.led.entries name,Ak (w.queues.getD k q0).holds x.proc⟩).1 }):=by
 have hg:w.procs.getD o x0=z:=by simp[List.getD,hz]
 unfold E5;rw[hg];rfl
theorem f122_ok(Inv:Work→Prop)(hI:HR Inv)(w:Work)(hw:Inv w)(hev:w.evs.length+1700*wcount w≤900000):Ac C0 122 [.ptr 63 0] [(63,w.c)] (.tup []) [(63,(AQ w).c)]:=by
 obtain⟨hf,hp,hr⟩:=hI.few w hw;refine Ac.go f122 ?_;unfold f122;refine gO ?_;refine call2 ⟨⟨[(0,0),(1,1)],[(63,63)],[]⟩,[],[]⟩ (f188_ok w hf (by omega) hr) ?_;refine gO ?_;refine Aa (α:=Work) (fun w'=>⟨[(2,I (atI (Fq w'))),(0,.ptr 63 0)],[(63,w'.c)]⟩) (fun w'=>Inv w'∧AQ w'=AQ w∧w'.evs.length+1700*wcount w'≤900000) (fun w'=>wcount w') w ⟨hw,rfl,hev⟩ AK ?_;clear hf hp hr hw hev;rintro w1 ⟨hw,hsw,hev⟩ J hJ;obtain⟨hf,hp,hr⟩:=hI.few w1 hw;cases hs:Fq w1 with
 |none =>
  simp(disch:=omega)only[go_sem,hs,atI];have e:AQ w1=w1:=by
   unfold AQ;cases wcount w1 with
   | zero=>rfl
   | succ n=>simp only[Cr,hs]
  rw[← hsw,e];refine B1 ⟨[(0,0),(1,1)],[(63,63)],[]⟩ _ ?_ ?_
  ·exact gI
  ·exact gI
 |some o =>
  obtain⟨x,hx,hsat⟩:=EE hs;have hks:=hI.safe w1 o x hw hs hx;simp(disch:=omega)only[go_sem,hs,atI,eq_true (show (0:Int)≤(o:Int) by omega),decide_true,gm,hx];have hnw:=f182_ok w1 2 x.proc (by omega);have hs1:B2 w1 o x=(let w1':=CA (Bv w1 2 x.proc) o x ((B9 x.req.expr (AU w1.queues x.proc x.req.expr)).zip (Ad x.req.expr));let w2:=At w1' o (A7 (w1'.procs.getD o x0));At w2 o (Bf (w2.procs.getD o x0))):=rfl;have hstep:=IH hs hx hsat;have hnext:=hI.next w1 o x hw hs hx;have hq2:(Bv w1 2 x.proc).queues=w1.queues:=rfl;have hp2:(Bv w1 2 x.proc).procs=w1.procs:=rfl;have he2:(Bv w1 2 x.proc).evs.length=w1.evs.length+1:=by simp[Bv]
  generalize Bv w1 2 x.proc=w2 at hnw hks hs1 hq2 hp2 he2;rw[← hq2]at hf hks hs1;have hprune:=f189_ok x.req.expr (AU w2.queues x.proc x.req.expr);have hkl:=Qz x.req.expr (AU w2.queues x.proc x.req.expr);have hat:=f93_ok x.req.expr;have hal:=CS x.req.expr;generalize B9 x.req.expr (AU w2.queues x.proc x.req.expr)=keep at hprune hkl hks hs1;generalize Ad x.req.expr=az at hat hkl hks hal hs1;refine call2 ⟨⟨[(0,0),(1,1)],[(63,63)],[]⟩,[],[]⟩ hnw ?_;refine gO ?_;refine Aq 14 [([],[3]),([],[28]),([],[29]),([],[0]),([],[31]),([],[32]),([],[33]),([],[34]),([],[3]),([],[36]),([],[3]),([],[38]),([],[39]),([],[35,37,40])] fol ?_;simp(disch:=omega)only[go_sem]
  first|(refine Ab (f179_ok w2.queues x.proc x.req.expr hf) ?_)|(refine Al (f179_ok w2.queues x.proc x.req.expr hf) ?_)
  simp(disch:=omega)only[go_sem]
  first|(refine Ab hprune ?_)|(refine Al hprune ?_)
  refine gO ?_;refine Ab hat ?_;refine gO ?_;have hzl:(keep.zip az).length=az.length:=by simp[hkl]
  have hJo:=hJ;clear hJ;refine Aa (α:=Nat) (fun i=>⟨[(6,I i),(5,Bn az),(4,It keep),(2,I o),(0,.ptr 63 0),(3,.ptr 192 0)],[(63,(CA w2 o x ((keep.zip az).take i)).c),(192,x.c)]⟩) (fun i=>i≤(az).length∧True) (fun i=>(az).length-i) 0 ⟨by omega,trivial⟩ ?_ ?_
  ·refine Imp.weak ?_ ?_
   all_goals(try simp(disch:=omega)only[go_sem])
   all_goals(try(repeat'(with_reducible apply And.intro)))
   all_goals(first|exact .AA (by omega)|exact .Az (by omega)|exact .sl (by simp[CA])|exact .int (by simp[CA])|exact .eq (by simp[CA]))
  rintro i ⟨hi,hP⟩ J hJ;refine gO ?_;refine ⟨fun hlt=>?_,fun hge=>?_⟩;rotate_left;have hil:i=(az).length:=by simp at hge;omega
  rotate_left;obtain⟨b,hb⟩:∃ b,(az)[i]?=some b:=⟨_,gE (by simp at hlt;omega)⟩;have hbm:=mG hb;have hlt2:i<(az).length:=by simp at hlt;omega
  ·obtain⟨kp,hkp⟩:∃ kp,keep[i]?=some kp:=⟨_,gE (by omega)⟩;have hzi:(keep.zip az)[i]?=some (kp,b):=by rw[List.getElem?_zip_eq_some];exact⟨hkp,hb⟩
   have hsk:=hks i (kp,b) hzi;have hln:=JO hks i (by omega);have htk:=ON (w:=w2) (i:=o) (x:=x) hzi;have hpl:=JP w2 o x ((keep.zip az).take i);simp only at hsk htk;obtain⟨z,hz⟩:∃ z,(CA w2 o x ((keep.zip az).take i)).procs[o]?=some z:=⟨_,gE (by rw[hpl,hp2];exact Ae hx)⟩;generalize CA w2 o x ((keep.zip az).take i)=w3 at hsk hln htk hz ⊢;simp(disch:=omega)only[go_sem,gm,hb,hkp];cases kp
   ·simp(disch:=omega)only[go_sem,Bool.not_false];have htk2:CA w2 o x ((keep.zip az).take (i+1))=CV w3 x b.name:=by rw[htk];rfl
    refine call2 ⟨⟨[(0,0),(1,1)],[(63,63)],[]⟩,[],[]⟩ (Y4 w3 x b.name (hsk.1 rfl) (by omega)) ?_;rw[← htk2];refine gO ?_;refine hJ _ (i+1) ⟨by simp at hlt;omega,trivial⟩ (by simp at hlt;omega) AK
   ·obtain⟨hf3,k,hfk⟩:=hsk.2 rfl;rw[Tq w3 o x z true b.name hz,hfk]at htk;obtain⟨hk,q,hq,_⟩:=CH hfk;have hgq:w3.queues.getD k q0=q:=by simp[List.getD,hq]
    simp only[hgq]at htk;obtain⟨q1,q2,q3⟩:=Bw (hf3.q q (mG hq));have hn3:=hf3.n;simp(disch:=omega)only[go_sem,Bool.not_true];refine Aq 18 [([],[0]),([],[67]),([],[68]),([],[69]),([],[70]),([],[0]),([],[72]),([],[73]),([],[74]),([],[75]),([],[7]),([],[76,77]),([11],[71,78]),([11],[79]),([],[3]),([],[81]),([11],[80,82]),([],[])] fol ?_;simp(disch:=omega)only[go_sem]
    first|(refine Ab (I6 w3.queues b.name (by omega)) ?_)|(refine Al (I6 w3.queues b.name (by omega)) ?_)
    simp(disch:=omega)only[go_sem,hfk,atI,gm,hq]
    first|(refine Ab (f163_ok q x.proc q1) ?_)|(refine Al (f163_ok q x.proc q1) ?_)
    simp(disch:=omega)only[go_sem,gm,hz];refine Ab (f190_ok z.led.entries b.name) ?_;refine gO ?_;cases hH:decide (Ak q.holds x.proc=Ai z.led.entries b.name);rotate_left
    ·rw[hH,if_pos rfl]at htk;simp(disch:=omega)only[go_sem,hH,Bool.not_true];rw[← htk];refine hJ _ (i+1) ⟨by simp at hlt;omega,trivial⟩ (by simp at hlt;omega) AK
    rw[hH]at htk;simp only[Bool.false_eq_true,if_false]at htk;simp(disch:=omega)only[go_sem,hH,Bool.not_false];refine DW (st':=⟨[(9,.ptr 576 0),(8,.ptr 512 0),(7,.v (.string (str b.name))),(6,I i),(5,Bn az),(4,It keep),(2,I o),(0,.ptr 63 0),(3,.ptr 192 0)],[(512,(Ak q.holds x.proc).c),(576,(Ai z.led.entries b.name).c),(63,w3.c),(192,x.c)]⟩) AK ?_;refine PS 23 [([],[0]),([0],[100]),([0,1],[101]),([0,1,2],[102]),([0,1,2,3],[103]),([],[2]),([],[0]),([6],[106]),([6,7],[107]),([6,7,8],[108]),([6,7,8,9],[109]),([],[2]),([6,7,8,9,10,11],[110,111]),([6,7,8,9,10,11,12],[112]),([6,7,8,9,10,11,12,13],[113]),([],[7]),([],[9]),([],[8]),([15,16,17],[115,116,117]),([6,7,8,9,10,11,12,13,14,15,16,17,18],[114,118]),([6,7,8,9,10,11,12,13,14,15,16,17,18,19],[119]),([6,7,8,9,10,11,12,13,14,15,16,17,18,19,20],[99]),([6,7,8,9,10,11,12,13,14,15,16,17,18,19,20],[99]),([0,1,2,3,4,5,6,7,8,9,10,11,12,13,14,15,16,17,18,19,20,21],[]),([0,1,2,3,4,5,6,7,8,9,10,11,12,13,14,15,16,17,18,19,20,21,23],[]),([0,1,2,3,4,5,6,7,8,9,10,11,12,13,14,15,16,17,18,19,20,21,23,24],[])] [22] [104,105,120,99,6,5,4,2,0,3] fol (by kernel_rfl) ?_;simp (maxSteps:=1000000) (disch:=omega)only[go_sem,gm,hz]
    first|(refine Ab (f191_ok z.led ⟨b.name,Ai z.led.entries b.name,Ak q.holds x.proc⟩) ?_)|(refine Al (f191_ok z.led ⟨b.name,Ai z.led.entries b.name,Ak q.holds x.proc⟩) ?_)
    simp (maxSteps:=1000000) (disch:=omega)only[go_sem,gm,hz];refine hJ _ (i+1) ⟨by omega,trivial⟩ (by omega) (Imp.weak ?_ ?_)
    ·exact gI
    ·rw[htk];simp(disch:=omega)only[go_sem,At];exact .sl (by rw[map_set];rfl)
  ·subst hil;have hta:(keep.zip az).take az.length=keep.zip az:=List.take_of_length_le (by omega);rw[hta];have hpl:=JP w2 o x (keep.zip az);have hln:=JO hks az.length (by omega);rw[hta]at hln;obtain⟨z,hz⟩:∃ z,(CA w2 o x (keep.zip az)).procs[o]?=some z:=⟨_,gE (by rw[hpl,hp2];exact Ae hx)⟩;generalize CA w2 o x (keep.zip az)=w3 at hpl hln hz hs1 ⊢;have hzi:=Ae hz;have hz2:(At w3 o (A7 z)).procs[o]?=some (A7 z):=by simp[At,hzi]
   have hs2:B2 w1 o x=At (At w3 o (A7 z)) o (Bf (A7 z)):=by
    rw[hs1];simp only;rw[show w3.procs.getD o x0=z by simp[List.getD,hz],show (At w3 o (A7 z)).procs.getD o x0=A7 z by simp[List.getD,hz2]]
   have hev2:(B2 w1 o x).evs.length≤w1.evs.length+1609:=by
    rw[hs2];simp only[At];omega
   refine call2 ⟨⟨[(0,0),(1,1)],[(63,63)],[]⟩,[],[]⟩ (f186_ok w3 o z hz) ?_;refine gO ?_;refine call2 ⟨⟨[(0,0),(1,1)],[(63,63)],[]⟩,[],[]⟩ (f121_ok (At w3 o (A7 z)) o (A7 z) hz2) ?_;rw[← hs2];refine gO ?_;obtain⟨hf4,hp4,hr4⟩:=hI.few _ hnext;refine call2 ⟨⟨[(0,0),(1,1)],[(63,63)],[]⟩,[],[]⟩ (f188_ok (B2 w1 o x) hf4 (by omega) hr4) ?_;refine gO ?_;exact hJo _ (B2 w1 o x) ⟨hnext,hstep.1.symm.trans hsw,by omega⟩ (by omega) AK
def Fj(x:Pcs):Int:=IntKind.i64.wrap (x.since+x.req.limit)
def Kj(now:Int)(b:Int × Int)(x:Pcs):Bool:=x.waiting&&(!decide (x.req.limit=0)&&(decide (Fj x≤now)&&(decide (b.1<0)||decide (Fj x<b.2))))
def Ll(now:Int)(s:Nat × Int × Int)(x:Pcs):Nat × Int × Int:=(s.1+1,if Kj now s.2 x then ((s.1:Int),Fj x) else s.2)
def I4(now:Int)(l:List Pcs):Nat × Int × Int:=l.foldl (Ll now) (0,-1,0)
def ML(w:Work):Int:=(I4 w.now w.procs).2.1
theorem cI(now:Int)(l:List Pcs):(I4 now l).1=l.length:=by
 have:∀ (l:List Pcs) (s:Nat × Int × Int),(l.foldl (Ll now) s).1=s.1+l.length:=by
  intro l
  induction l with
  | nil=>intro s;rfl
  | cons a l ih=>intro s;rw[List.foldl_cons,ih];simp[Ll];omega
 rw[I4,this];simp
theorem NL(now:Int){l:List Pcs}{i:Nat}{b:Pcs}(hb:l[i]?=some b):(I4 now (l.take (i+1))).2=if Kj now (I4 now (l.take i)).2 b then ((i:Int),Fj b) else (I4 now (l.take i)).2:=by
 have hi:=Ae hb;have h1:=cI now (l.take i);rw[take_add_one,hb];rw[List.length_take,Nat.min_eq_left (Nat.le_of_lt hi)]at h1;simp only[I4,foldl_append,Option.toList_some,List.foldl_cons,List.foldl_nil]at h1 ⊢;show (if Kj now (List.foldl (Ll now) (0,-1,0) (List.take i l)).2 b then (((List.foldl (Ll now) (0,-1,0) (List.take i l)).1:Int),Fj b) else (List.foldl (Ll now) (0,-1,0) (List.take i l)).2)=_;rw[h1];rfl
theorem PY(now:Int):I4 now []=(0,-1,0):=rfl
theorem f181_ok(w:Work)(hp:w.procs.length≤1000000):Ac C0 181 [.ptr 63 0] [(63,w.c)] (I (ML w)) [(63,w.c)]:=by
 refine Ac.go f181 ?_;unfold f181;refine gO ?_;refine Aa (α:=Nat) (fun i=>⟨[(5,I i),(4,I (I4 w.now (w.procs.take i)).2.2),(3,I (I4 w.now (w.procs.take i)).2.1),(0,.ptr 63 0)],[(63,w.c)]⟩) (fun i=>i≤(w.procs).length∧True) (fun i=>(w.procs).length-i) 0 ⟨by omega,trivial⟩ ?_ ?_
 ·refine Imp.weak ?_ ?_
  all_goals(try simp(disch:=omega)only[go_sem])
  all_goals(try(repeat'(with_reducible apply And.intro)))
  all_goals(first|exact .AA (by omega)|exact .Az (by omega)|exact .sl (by simp[PY])|exact .int (by simp[PY])|exact .eq (by simp[PY]))
 rintro i ⟨hi,hP⟩ J hJ;refine gO ?_;refine ⟨fun hlt=>?_,fun hge=>?_⟩;rotate_left;have hil:i=(w.procs).length:=by simp at hge;omega
 rotate_left;obtain⟨b,hb⟩:∃ b,(w.procs)[i]?=some b:=⟨_,gE (by simp at hlt;omega)⟩;have hbm:=mG hb;have hlt2:i<(w.procs).length:=by simp at hlt;omega
 ·simp(disch:=omega)only[go_sem,gm,hb];have hsn:=NL w.now hb;generalize I4 w.now (w.procs.take i)=s at hsn;obtain⟨n,best,when⟩:=s;simp only at hsn;cases hw:b.waiting
  ·have hs2:(I4 w.now (List.take (i+1) w.procs)).2=(best,when):=by rw[hsn,show Kj w.now (best,when) b=false from by simp only[Kj,hw]<;>rfl]<;>rfl
   refine Aq 33 [([],[6]),([],[25]),([],[26]),([],[6,27]),([],[28,27]),([],[29,27]),([],[30,27]),([],[27,31]),([],[32]),([],[6,33]),([],[34,33]),([],[6,33]),([],[36,33]),([],[37,33]),([],[35,38,33]),([],[0,33]),([],[40,33]),([],[41,33]),([],[42,33]),([],[43,33]),([],[39,44,33]),([],[33,45]),([],[46]),([],[3,47]),([],[48,47]),([],[49,47]),([],[6,50]),([],[51,50]),([],[6,50]),([],[53,50]),([],[54,50]),([],[52,55,50]),([],[4,50])] fol ?_;simp(disch:=omega)only[go_sem,hw];refine hJ _ (i+1) ⟨by simp at hlt;omega,trivial⟩ (by simp at hlt;omega) (Imp.weak ?_ ?_)
   all_goals(try simp(disch:=omega)only[go_sem])
   all_goals(try(repeat'(with_reducible apply And.intro)))
   all_goals(first|exact .AA (by omega)|exact .Az (by omega)|exact .sl (by simp[hs2,Fj])|exact .int (by simp[hs2,Fj])|exact .eq (by simp[hs2,Fj]))
  ·by_cases hl:b.req.limit=0
   ·have hl3:decide (b.req.limit=0)=true:=by simpa using hl
    have hs2:(I4 w.now (List.take (i+1) w.procs)).2=(best,when):=by rw[hsn,show Kj w.now (best,when) b=false from by simp only[Kj,hw,hl3]<;>rfl]<;>rfl
    refine Aq 33 [([],[6]),([],[25]),([],[26]),([],[6,27]),([],[28,27]),([],[29,27]),([],[30,27]),([],[27,31]),([],[32]),([],[6,33]),([],[34,33]),([],[6,33]),([],[36,33]),([],[37,33]),([],[35,38,33]),([],[0,33]),([],[40,33]),([],[41,33]),([],[42,33]),([],[43,33]),([],[39,44,33]),([],[33,45]),([],[46]),([],[3,47]),([],[48,47]),([],[49,47]),([],[6,50]),([],[51,50]),([],[6,50]),([],[53,50]),([],[54,50]),([],[52,55,50]),([],[4,50])] fol ?_;simp(disch:=omega)only[go_sem,hw,hl];refine hJ _ (i+1) ⟨by simp at hlt;omega,trivial⟩ (by simp at hlt;omega) (Imp.weak ?_ ?_)
    all_goals(try simp(disch:=omega)only[go_sem])
    all_goals(try(repeat'(with_reducible apply And.intro)))
    all_goals(first|exact .AA (by omega)|exact .Az (by omega)|exact .sl (by simp[hs2,Fj])|exact .int (by simp[hs2,Fj])|exact .eq (by simp[hs2,Fj]))
   ·have hl':(b.req.limit !=0)=true:=by simpa using hl
    have hl2:decide (b.req.limit=0)=false:=by simpa using hl
    cases hd:decide (IntKind.i64.wrap (b.since+b.req.limit)≤w.now)
    ·have hd2:decide (Fj b≤w.now)=false:=hd;have hs2:(I4 w.now (List.take (i+1) w.procs)).2=(best,when):=by rw[hsn,show Kj w.now (best,when) b=false from by simp only[Kj,hw,hd2,hl2]<;>rfl]<;>rfl
     refine Aq 33 [([],[6]),([],[25]),([],[26]),([],[6,27]),([],[28,27]),([],[29,27]),([],[30,27]),([],[27,31]),([],[32]),([],[6,33]),([],[34,33]),([],[6,33]),([],[36,33]),([],[37,33]),([],[35,38,33]),([],[0,33]),([],[40,33]),([],[41,33]),([],[42,33]),([],[43,33]),([],[39,44,33]),([],[33,45]),([],[46]),([],[3,47]),([],[48,47]),([],[49,47]),([],[6,50]),([],[51,50]),([],[6,50]),([],[53,50]),([],[54,50]),([],[52,55,50]),([],[4,50])] fol ?_;simp(disch:=omega)only[go_sem,hw,hl,hl',hd];refine hJ _ (i+1) ⟨by simp at hlt;omega,trivial⟩ (by simp at hlt;omega) (Imp.weak ?_ ?_)
     all_goals(try simp(disch:=omega)only[go_sem])
     all_goals(try(repeat'(with_reducible apply And.intro)))
     all_goals(first|exact .AA (by omega)|exact .Az (by omega)|exact .sl (by simp[hs2,Fj])|exact .int (by simp[hs2,Fj])|exact .eq (by simp[hs2,Fj]))
    ·cases hn:decide (best<0)
     ·cases hq:decide (IntKind.i64.wrap (b.since+b.req.limit)<when)
      ·have hd2:decide (Fj b≤w.now)=true:=hd;have hq2:decide (Fj b<when)=false:=hq;have hs2:(I4 w.now (List.take (i+1) w.procs)).2=(best,when):=by rw[hsn,show Kj w.now (best,when) b=false from by simp only[Kj,hw,hd2,hn,hq2,hl2]<;>rfl]<;>rfl
       refine Aq 33 [([],[6]),([],[25]),([],[26]),([],[6,27]),([],[28,27]),([],[29,27]),([],[30,27]),([],[27,31]),([],[32]),([],[6,33]),([],[34,33]),([],[6,33]),([],[36,33]),([],[37,33]),([],[35,38,33]),([],[0,33]),([],[40,33]),([],[41,33]),([],[42,33]),([],[43,33]),([],[39,44,33]),([],[33,45]),([],[46]),([],[3,47]),([],[48,47]),([],[49,47]),([],[6,50]),([],[51,50]),([],[6,50]),([],[53,50]),([],[54,50]),([],[52,55,50]),([],[4,50])] fol ?_;simp(disch:=omega)only[go_sem,hw,hl,hl',hd,hn,hq];refine hJ _ (i+1) ⟨by simp at hlt;omega,trivial⟩ (by simp at hlt;omega) (Imp.weak ?_ ?_)
       all_goals(try simp(disch:=omega)only[go_sem])
       all_goals(try(repeat'(with_reducible apply And.intro)))
       all_goals(first|exact .AA (by omega)|exact .Az (by omega)|exact .sl (by simp[hs2,Fj])|exact .int (by simp[hs2,Fj])|exact .eq (by simp[hs2,Fj]))
      ·have hd2:decide (Fj b≤w.now)=true:=hd;have hq2:decide (Fj b<when)=true:=hq;have hs2:(I4 w.now (List.take (i+1) w.procs)).2=((i:Int),Fj b):=by rw[hsn,show Kj w.now (best,when) b=true from by simp only[Kj,hw,hd2,hn,hq2,hl2]<;>rfl]<;>rfl
       refine Aq 33 [([],[6]),([],[25]),([],[26]),([],[6,27]),([],[28,27]),([],[29,27]),([],[30,27]),([],[27,31]),([],[32]),([],[6,33]),([],[34,33]),([],[6,33]),([],[36,33]),([],[37,33]),([],[35,38,33]),([],[0,33]),([],[40,33]),([],[41,33]),([],[42,33]),([],[43,33]),([],[39,44,33]),([],[33,45]),([],[46]),([],[3,47]),([],[48,47]),([],[49,47]),([],[6,50]),([],[51,50]),([],[6,50]),([],[53,50]),([],[54,50]),([],[52,55,50]),([],[4,50])] fol ?_;simp(disch:=omega)only[go_sem,hw,hl,hl',hd,hn,hq];refine Aq 8 [([],[5]),([],[6]),([],[62]),([],[6]),([],[64]),([],[65]),([],[63,66]),([],[61])] fol ?_;simp(disch:=omega)only[go_sem,hw,hl,hl',hd,hn,hq];refine hJ _ (i+1) ⟨by simp at hlt;omega,trivial⟩ (by simp at hlt;omega) (Imp.weak ?_ ?_)
       all_goals(try simp(disch:=omega)only[go_sem])
       all_goals(try(repeat'(with_reducible apply And.intro)))
       all_goals(first|exact .AA (by omega)|exact .Az (by omega)|exact .sl (by simp[hs2,Fj])|exact .int (by simp[hs2,Fj])|exact .eq (by simp[hs2,Fj]))
     ·have hd2:decide (Fj b≤w.now)=true:=hd;have hs2:(I4 w.now (List.take (i+1) w.procs)).2=((i:Int),Fj b):=by rw[hsn,show Kj w.now (best,when) b=true from by simp only[Kj,hw,hd2,hn,hl2]<;>rfl]<;>rfl
      refine Aq 33 [([],[6]),([],[25]),([],[26]),([],[6,27]),([],[28,27]),([],[29,27]),([],[30,27]),([],[27,31]),([],[32]),([],[6,33]),([],[34,33]),([],[6,33]),([],[36,33]),([],[37,33]),([],[35,38,33]),([],[0,33]),([],[40,33]),([],[41,33]),([],[42,33]),([],[43,33]),([],[39,44,33]),([],[33,45]),([],[46]),([],[3,47]),([],[48,47]),([],[49,47]),([],[6,50]),([],[51,50]),([],[6,50]),([],[53,50]),([],[54,50]),([],[52,55,50]),([],[4,50])] fol ?_;simp(disch:=omega)only[go_sem,hw,hl,hl',hd,hn];refine Aq 8 [([],[5]),([],[6]),([],[62]),([],[6]),([],[64]),([],[65]),([],[63,66]),([],[61])] fol ?_;simp(disch:=omega)only[go_sem,hw,hl,hl',hd,hn];refine hJ _ (i+1) ⟨by simp at hlt;omega,trivial⟩ (by simp at hlt;omega) (Imp.weak ?_ ?_)
      all_goals(try simp(disch:=omega)only[go_sem])
      all_goals(try(repeat'(with_reducible apply And.intro)))
      all_goals(first|exact .AA (by omega)|exact .Az (by omega)|exact .sl (by simp[hs2,Fj])|exact .int (by simp[hs2,Fj])|exact .eq (by simp[hs2,Fj]))
 ·subst hil;rw[take_length];refine B1 ⟨[(0,0),(1,1)],[(63,63)],[]⟩ _ ?_ ?_
  ·simp(disch:=omega)only[go_sem,ML]
  ·exact gI
structure Yz(Inv:Work→Prop):Prop extends HR Inv where
 ev:∀ w k p,Inv w→Inv (Bv w k p)
 wd:∀ w i x,Inv w→w.procs[i]?=some x→x.waiting=true→LZ w x (Ad x.req.expr)∧Inv (Au w i x)
 nx:∀ w i x,Inv w→w.procs[i]?=some x→Inv (At w i (Bf x))
theorem XI{now:Int}{b:Int × Int}{x:Pcs}(h:Kj now b x=true):x.waiting=true:=by
 unfold Kj at h;simp only[Bool.and_eq_true]at h;exact h.1
theorem Ry(now:Int)(l:List Pcs):∀ i,i≤l.length→(I4 now (l.take i)).2.1 = -1∨∃ k x,(I4 now (l.take i)).2.1=(k:Nat)∧l[k]?=some x∧x.waiting=true
 | 0,_=>.inl rfl
 | i+1,hi=>by
  obtain⟨b,hb⟩:∃ b,l[i]?=some b:=⟨_,gE (by omega)⟩;rw[NL now hb];split
  ·rename_i hc;exact .inr ⟨i,b,rfl,hb,XI hc⟩
  ·exact Ry now l i (by omega)
theorem HD(w:Work):ML w = -1∨∃ k x,ML w=(k:Nat)∧w.procs[k]?=some x∧x.waiting=true:=by
 have:=Ry w.now w.procs w.procs.length (le_refl _)
 rwa [take_length]at this
def Dl(w:Work)(i:Nat)(x:Pcs):Work :=
 let w1:=Au (Bv w 4 x.proc) i x
 At w1 i (Bf (w1.procs.getD i x0))
def Hs:Nat→Work→Work
 | 0,w=>w
 | n+1,w=>match w.procs[(ML w).toNat]? with
  |none=>w
  |some x=>if ML w<0 then w else Hs n (AQ (Dl w (ML w).toNat x))
theorem IU:∀ (n:Nat) (w:Work),(Cr n w).procs.length=w.procs.length∧wcount (Cr n w)≤wcount w
 | 0,w=>⟨rfl,le_refl _⟩
 | n+1,w=>by
  simp only[Cr];cases hs:Fq w with
  |none=>exact⟨rfl,le_refl _⟩
  |some i =>
   obtain⟨x,hx,hsat⟩:=EE hs;have hg:w.procs.getD i x0=x:=by simp[List.getD,hx]
   simp only[hg];obtain⟨h1,h2⟩:=IU n (B2 w i x);obtain⟨y,h3,_⟩:=FL hx;have h4:=(IH hs hx hsat).2;exact⟨by rw[h1,h3];simp,by omega⟩
theorem Va{Inv:Work→Prop}(hI:HR Inv){w:Work}{i:Nat}{x:Pcs}(hw:Inv w)(hs:Fq w=some i)(hx:w.procs[i]?=some x):(B2 w i x).evs.length≤w.evs.length+1609:=by
 have hks:=hI.safe w i x hw hs hx;have hal:=CS x.req.expr;have hz:=JO hks ((B9 x.req.expr (AU w.queues x.proc x.req.expr)).zip (Ad x.req.expr)).length (le_refl _);rw[take_length]at hz;have hzl:((B9 x.req.expr (AU w.queues x.proc x.req.expr)).zip (Ad x.req.expr)).length≤8:=by rw[List.length_zip];omega
 have he2:(Bv w 2 x.proc).evs.length=w.evs.length+1:=by simp[Bv]
 simp only[B2,At];omega
theorem IG{Inv:Work→Prop}(hI:HR Inv):∀ (n:Nat) (w:Work),Inv w→Inv (Cr n w)∧(Cr n w).evs.length+1700*wcount (Cr n w)≤w.evs.length+1700*wcount w
 | 0,w,h=>⟨h,le_refl _⟩
 | n+1,w,h=>by
  simp only[Cr];cases hs:Fq w with
  |none=>exact⟨h,le_refl _⟩
  |some i =>
   obtain⟨x,hx,hsat⟩:=EE hs;have hg:w.procs.getD i x0=x:=by simp[List.getD,hx]
   simp only[hg];obtain⟨h1,h2⟩:=IG hI n (B2 w i x) (hI.next w i x h hs hx);have h4:=(IH hs hx hsat).2;have h5:=Va hI h hs hx;exact⟨h1,by omega⟩
theorem AZ(w:Work)(i:Nat)(x:Pcs):(Au w i x).procs=w.procs.set i (A7 x):=by simp[Au,At,F5]
theorem IV{w:Work}{i:Nat}{x:Pcs}(h:LZ w x (Ad x.req.expr)):(Au w i x).evs.length≤w.evs.length+1608:=by
 have hal:=CS x.req.expr;have:=L7 h _ (le_refl _);rw[take_length]at this;simp only[Au,At];omega
theorem Qd{Inv:Work→Prop}(hI:Yz Inv){w:Work}{i:Nat}{x:Pcs}(hw:Inv w)(hx:w.procs[i]?=some x)(hwt:x.waiting=true) :
 Inv (Dl w i x)∧Dl w i x=At (Au (Bv w 4 x.proc) i x) i (Bf (A7 x))∧wcount (Dl w i x)+1=wcount w∧(Dl w i x).evs.length≤w.evs.length+1609:=by
 have hi:=Ae hx;have hn:=hI.ev w 4 x.proc hw;obtain⟨h1,h2⟩:=hI.wd (Bv w 4 x.proc) i x hn hx hwt;have hp:(Au (Bv w 4 x.proc) i x).procs=w.procs.set i (A7 x):=AZ _ _ _;have hg:(Au (Bv w 4 x.proc) i x).procs[i]?=some (A7 x):=by rw[hp];simp[hi]
 have hl:Dl w i x=At (Au (Bv w 4 x.proc) i x) i (Bf (A7 x)):=by
  simp only[Dl];rw[show (Au (Bv w 4 x.proc) i x).procs.getD i x0=A7 x by simp[List.getD,hg]]
 have hev:=IV (i:=i) h1;have he2:(Bv w 4 x.proc).evs.length=w.evs.length+1:=by simp[Bv]
 refine⟨by rw[hl];exact hI.nx _ _ _ h2 hg,hl,?_,by rw[hl];simp only[At];omega⟩;rw[hl];have:(At (Au (Bv w 4 x.proc) i x) i (Bf (A7 x))).procs=w.procs.set i (Bf (A7 x)):=by simp[At,hp]
 unfold wcount;rw[this];exact countP_set (p:=(·.waiting)) (y:=Bf (A7 x)) rfl hx hwt
theorem GS(w:Work):wcount (AQ w)≤wcount w:=(IU _ w).2
theorem Hi{w:Work}(h:wcount w=0):ML w = -1:=by
 rcases HD w with h1|⟨k,x,_,h2,h3⟩
 ·exact h1
 ·exfalso;unfold wcount at h;rw[List.countP_eq_zero]at h;exact h x (mG h2) h3
theorem Ec{w:Work}(h:ML w = -1):∀ n,Hs n w=w
 | 0=>rfl
 | n+1=>by
  simp only[Hs,h];split<;>simp
theorem H2{n:Nat}{w:Work}{k:Nat}{x:Pcs}(h:ML w=(k:Nat))(hx:w.procs[k]?=some x):Hs (n+1) w=Hs n (AQ (Dl w k x)):=by
 simp only[Hs,h,Int.toNat_natCast,hx];rw[if_neg (by omega)]
theorem JR(w:Work){i:Nat}{x:Pcs}(hx:w.procs[i]?=some x)(hwt:x.waiting=true):wcount (Dl w i x)+1=wcount w:=by
 have hi:=Ae hx;have hp:(Au (Bv w 4 x.proc) i x).procs=w.procs.set i (A7 x):=AZ _ _ _;have hg:(Au (Bv w 4 x.proc) i x).procs[i]?=some (A7 x):=by rw[hp];simp[hi]
 have:(Dl w i x).procs=w.procs.set i (Bf (A7 x)):=by
  simp only[Dl];rw[show (Au (Bv w 4 x.proc) i x).procs.getD i x0=A7 x by simp[List.getD,hg]];simp[At,hp]
 unfold wcount;rw[this];exact countP_set (p:=(·.waiting)) (y:=Bf (A7 x)) rfl hx hwt
theorem M1:∀ (n m:Nat) (w:Work),wcount w≤n→wcount w≤m→Hs n w=Hs m w
 | 0,m,w,h,_=>by rw[Ec (Hi (by omega)),Ec (Hi (by omega))]
 | n+1,0,w,_,h=>by rw[Ec (Hi (by omega)),Ec (Hi (by omega))]
 | n+1,m+1,w,h1,h2=>by
  rcases HD w with h|⟨k,x,h,hx,hwt⟩
  ·rw[Ec h,Ec h]
  ·rw[H2 h hx,H2 h hx];have h3:=JR w hx hwt;have h4:=GS (Dl w k x);exact M1 n m _ (by omega) (by omega)
def OP(w:Work):Work:=Hs (wcount w) w
theorem V6{w:Work}{k:Nat}{x:Pcs}(h:ML w=(k:Nat))(hx:w.procs[k]?=some x)(hwt:x.waiting=true):OP w=OP (AQ (Dl w k x)):=by
 have h3:=JR w hx hwt;have h4:=GS (Dl w k x);unfold OP;rw[← h3,H2 h hx];exact M1 _ _ _ (by omega) (by omega)
def He(w:Work)(n:Int):Work × Int :=
 if decide (n<0)||decide (1000<n) then (w,1) else if decide (1073741824-n<w.now) then (w,16) else (OP { w with now:=w.now+n },0)
theorem f118_ok(Inv:Work→Prop)(hI:Yz Inv)(w:Work)(n:Int)(hw:∀ t,Inv { w with now:=t })(hnow:0≤w.now)(hev:w.evs.length+3500*wcount w≤900000):Ac C0 118 [.ptr 63 0,I n] [(63,w.c)] (I (He w n).2) [(63,(He w n).1.c)]:=by
 refine Ac.go f118 ?_;unfold f118;refine gO ?_;cases h1:decide (n<0);rotate_left
 ·have hn:n<0:=by simpa using h1
  have ht:He w n=(w,1):=by simp[He,hn]
  rw[ht];simp(disch:=omega)only[go_sem,h1];refine B1 ⟨[(0,0),(1,1)],[(63,63)],[]⟩ _ ?_ ?_
  ·exact gI
  ·exact gI
 cases h2:decide (1000<n);rotate_left
 ·have hn:1000<n:=by simpa using h2
  have ht:He w n=(w,1):=by simp[He,hn]
  rw[ht];simp(disch:=omega)only[go_sem,h1,h2];refine B1 ⟨[(0,0),(1,1)],[(63,63)],[]⟩ _ ?_ ?_
  ·exact gI
  ·exact gI
 have hn1:0≤n:=by simpa using h1
 have hn2:n≤1000:=by simpa using h2
 cases h3:decide (1073741824-n<w.now);rotate_left
 ·have hn:1073741824-n<w.now:=by simpa using h3
  have ht:He w n=(w,16):=by simp only[He,h1,h2,h3];rfl
  rw[ht];simp(disch:=omega)only[go_sem,h1,h2,h3];refine B1 ⟨[(0,0),(1,1)],[(63,63)],[]⟩ _ ?_ ?_
  ·exact gI
  ·exact gI
 have hn3:w.now≤1073741824-n:=by simpa using h3
 have ht:He w n=(OP { w with now:=w.now+n },0):=by simp only[He,h1,h2,h3];rfl
 rw[ht];have hwn:=hw (w.now+n);simp(disch:=omega)only[go_sem,h1,h2,h3];have hev':({ w with now:=w.now+n }:Work).evs.length+3500*wcount { w with now:=w.now+n }≤900000:=hev;have hp0:=(hI.few _ hwn).2.1;refine call2 ⟨⟨[(0,0),(1,1)],[(63,63)],[]⟩,[],[]⟩ (f181_ok { w with now:=w.now+n } (Nat.le_trans hp0 (by decide))) ?_;generalize ({ w with now:=w.now+n }:Work)=w0 at hwn hev' ⊢;clear hp0;refine gO ?_;refine Aa (α:=Work) (fun w'=>⟨[(5,I (ML w')),(0,.ptr 63 0)],[(63,w'.c)]⟩) (fun w'=>Inv w'∧OP w'=OP w0∧w'.evs.length+3500*wcount w'≤900000) (fun w'=>wcount w') w0 ⟨hwn,rfl,hev'⟩ AK ?_;clear hwn hev' hw hev hnow ht h1 h2 h3 hn1 hn2 hn3;rintro w1 ⟨hw,hsw,hev⟩ J hJ;obtain⟨hf,hp,hr⟩:=hI.few w1 hw;rcases HD w1 with hs|⟨o,x,hs,hx,hwt⟩
 ·simp(disch:=omega)only[go_sem,hs];rw[← hsw,show OP w1=w1 from Ec hs _];refine B1 ⟨[(0,0),(1,1)],[(63,63)],[]⟩ _ ?_ ?_
  ·exact gI
  ·exact gI
 ·obtain⟨i1,i2,i3,i4⟩:=Qd hI hw hx hwt;have hstep:=V6 hs hx hwt;obtain⟨j1,j2⟩:Inv (AQ (Dl w1 o x))∧(AQ (Dl w1 o x)).evs.length+1700*wcount (AQ (Dl w1 o x))≤(Dl w1 o x).evs.length+1700*wcount (Dl w1 o x):=IG hI.toHR (wcount (Dl w1 o x)) (Dl w1 o x) i1;have j3:=GS (Dl w1 o x);have hn:=hI.ev w1 4 x.proc hw;obtain⟨k1,k2⟩:=hI.wd (Bv w1 4 x.proc) o x hn hx hwt;have hi:=Ae hx;have hg:(Au (Bv w1 4 x.proc) o x).procs[o]?=some (A7 x):=by rw[AZ];simp[Bv,hi]
  have he2:(Bv w1 4 x.proc).evs.length=w1.evs.length+1:=by simp[Bv]
  simp(disch:=omega)only[go_sem,hs,eq_true (show (0:Int)≤(o:Int) by omega),decide_true,gm,hx];refine call2 ⟨⟨[(0,0),(1,1)],[(63,63)],[]⟩,[],[]⟩ (f182_ok w1 4 x.proc (by omega)) ?_;refine gO ?_;refine call2 ⟨⟨[(0,0),(1,1)],[(63,63)],[]⟩,[],[]⟩ (f120_ok (Bv w1 4 x.proc) o x hx k1 (by omega)) ?_;refine gO ?_;refine call2 ⟨⟨[(0,0),(1,1)],[(63,63)],[]⟩,[],[]⟩ (f121_ok (Au (Bv w1 4 x.proc) o x) o (A7 x) hg) ?_;rw[← i2];refine gO ?_;refine call2 ⟨⟨[(0,0),(1,1)],[(63,63)],[]⟩,[],[]⟩ (f122_ok Inv hI.toHR (Dl w1 o x) i1 (by omega)) ?_;refine gO ?_;have hp4:=(hI.few _ j1).2.1;refine call2 ⟨⟨[(0,0),(1,1)],[(63,63)],[]⟩,[],[]⟩ (f181_ok (AQ (Dl w1 o x)) (Nat.le_trans hp4 (by decide))) ?_;refine gO ?_;exact hJ _ (AQ (Dl w1 o x)) ⟨j1,hstep.symm.trans hsw,by omega⟩ (by omega) AK
def EG(w:Work)(p:Proc)(a:Atom)(prio:Int):Work:=BS w (Dp w.queues p a prio).1 (Dp w.queues p a prio).2.1
def Ce(w:Work)(p:Proc)(prio:Int)(az:List Atom):Work:=az.foldl (fun w a=>EG w p a prio) w
theorem MD{w:Work}{p:Proc}{prio:Int}{az:List Atom}{i:Nat}{b:Atom}(hb:az[i]?=some b):Ce w p prio (az.take (i+1))=EG (Ce w p prio (az.take i)) p b prio:=by
 simp[Ce,take_add_one,hb,foldl_append]
def Tv(w:Work)(p:Proc)(prio:Int)(az:List Atom):Prop:=∀ i,i<az.length→CU (Ce w p prio (az.take i)).queues
theorem Kt{w:Work}{p:Proc}{prio:Int}{az:List Atom}(h:Tv w p prio az):∀ i,i≤az.length→(Ce w p prio (az.take i)).evs.length≤w.evs.length+101*i
 | 0,_=>by simp[Ce]
 | i+1,hi=>by
  obtain⟨b,hb⟩:∃ b,az[i]?=some b:=⟨_,gE (by omega)⟩;have h1:=Kt h i (by omega);have h2:=PI (h i (by omega)) p b prio;rw[MD hb];simp only[EG,BS,List.length_append];omega
theorem GN(w:Work)(p:Proc)(prio:Int):∀ az:List Atom,(Ce w p prio az).procs=w.procs
 |[]=>rfl
 | a::az=>GN (EG w p a prio) p prio az
theorem HO(w:Work):wcount w≤w.procs.length:=List.countP_le_length
def FR(now:Int)(x:Pcs)(r:Req):Pcs:=Bf { x with waiting:=true,req:=r,since:=now }
def JB(w:Work)(i:Nat)(x:Pcs)(r:Req):Work:=Ce (At w i (FR w.now x r)) x.proc r.prio (Ad r.expr)
def CX(w:Work)(i:Nat)(x:Pcs)(r:Req):Work × Int :=
 if x.waiting then (w,14) else if Gd r then (if BY (B6 w.queues) r.expr=0 then (AQ (JB w i x r),0) else (w,BY (B6 w.queues) r.expr)) else (w,1)
theorem f119_ok(Inv:Work→Prop)(hI:HR Inv)(w:Work)(i:Nat)(x:Pcs)(r:Req)(hx:w.procs[i]?=some x)(hf:CU w.queues)
 (hc:x.waiting=false→Gd r=true→BY (B6 w.queues) r.expr=0→Tv (At w i (FR w.now x r)) x.proc r.prio (Ad r.expr)∧Inv (JB w i x r))
 (hp:w.procs.length≤8) (hev:w.evs.length≤500000) :
 Ac C0 119 [.ptr 63 0,I i,.agg r.c] [(63,w.c)] (I (CX w i x r).2) [(63,(CX w i x r).1.c)]:=by
 have hi:=Ae hx;have hal:=CS r.expr;have hn:=hf.n;refine Ac.go f119 ?_;unfold f119;simp(disch:=omega)only[go_sem,gm,hx];cases h1:x.waiting;rotate_left
 ·have ht:CX w i x r=(w,14):=by simp[CX,h1]
  rw[ht];simp(disch:=omega)only[go_sem,h1];refine B1 ⟨[(0,0),(1,1)],[(63,63)],[]⟩ _ ?_ ?_
  ·exact gI
  ·exact gI
 simp(disch:=omega)only[go_sem,h1];refine Ab (f176_ok r) ?_;cases h2:Gd r
 ·have ht:CX w i x r=(w,1):=by simp[CX,h1,h2]
  rw[ht];simp(disch:=omega)only[go_sem,h2,Bool.not_false];refine B1 ⟨[(0,0),(1,1)],[(63,63)],[]⟩ _ ?_ ?_
  ·exact gI
  ·exact gI
 simp(disch:=omega)only[go_sem,h2,Bool.not_true];refine Aq 8 [([],[0]),([],[25]),([],[26]),([],[27]),([],[28]),([],[29]),([],[5]),([],[31])] fol ?_;simp(disch:=omega)only[go_sem]
 first|(refine Ab (f178_ok w.queues (by omega)) ?_)|(refine Al (f178_ok w.queues (by omega)) ?_)
 simp(disch:=omega)only[go_sem]
 first|(refine Ab (f177_ok (B6 w.queues) r.expr) ?_)|(refine Al (f177_ok (B6 w.queues) r.expr) ?_)
 refine gO ?_
 by_cases h3:BY (B6 w.queues) r.expr=0
 rotate_left
 ·have ht:CX w i x r=(w,BY (B6 w.queues) r.expr):=by simp[CX,h1,h2,h3]
  rw[ht];have h3':(BY (B6 w.queues) r.expr !=0)=true:=by simpa using h3
  simp(disch:=omega)only[go_sem,h3'];refine B1 ⟨[(0,0),(1,1)],[(63,63)],[]⟩ _ ?_ ?_
  ·exact gI
  ·exact gI
 obtain⟨c1,c2⟩:=hc h1 h2 h3;have ht:CX w i x r=(AQ (JB w i x r),0):=by simp[CX,h1,h2,h3]
 rw[ht];simp(disch:=omega)only[go_sem,h3,gm,hx];refine DW (st':=⟨[(5,.ptr 320 0),(0,.ptr 63 0),(1,I i)],[(320,r.c),(63,(At w i { x with waiting:=true }).c)]⟩) (Imp.weak gI (by simp(disch:=omega)only[go_sem,At];exact .sl (by rw[map_set];rfl))) ?_;refine Aq 7 [([],[0]),([],[45]),([],[46]),([],[47]),([],[48]),([],[1]),([],[5])] fol ?_;simp(disch:=omega)only[go_sem,At,gm,List.getElem?_set,List.length_map,hi];refine DW (st':=⟨[(5,.ptr 320 0),(0,.ptr 63 0),(1,I i)],[(320,r.c),(63,(At w i { x with waiting:=true,req:=r }).c)]⟩) (Imp.weak gI (by simp(disch:=omega)only[go_sem,At];exact .sl (by simp only[map_set,set_set];rfl))) ?_;refine Aq 11 [([],[0]),([],[54]),([],[55]),([],[56]),([],[57]),([],[1]),([],[0]),([],[60]),([],[61]),([],[62]),([],[63])] fol ?_;simp(disch:=omega)only[go_sem,At,gm,List.getElem?_set,List.length_map,hi];have hx3:(At w i { x with waiting:=true,req:=r,since:=w.now }).procs[i]?=some { x with waiting:=true,req:=r,since:=w.now }:=by simp[At,hi]
 refine call2 ⟨⟨[(0,0),(1,1)],[(63,63)],[]⟩,[],[]⟩ (f121_ok (At w i { x with waiting:=true,req:=r,since:=w.now }) i _ hx3) ?_ (hh:=?_);rotate_left
 ·simp only[At];refine gO ?_;exact .sl (by simp only[map_set,set_set];rfl)
 have e3:At (At w i { x with waiting:=true,req:=r,since:=w.now }) i (Bf { x with waiting:=true,req:=r,since:=w.now })=At w i (FR w.now x r):=by simp[At,FR]
 rw[e3];have hev1:(At w i (FR w.now x r)).evs.length=w.evs.length:=rfl;have hx4:(At w i (FR w.now x r)).procs[i]?=some (FR w.now x r):=by simp[At,hi]
 unfold JB at c2 ⊢;obtain⟨y,hy,hyp⟩:∃ y,y=FR w.now x r∧y.proc=x.proc:=⟨_,rfl,rfl⟩;rw[← hy]at hx4 c1 c2 hev1 ⊢;rw[← hyp]at c1 c2 ⊢;generalize At w i y=w4 at c1 c2 hev1 hx4 ⊢;clear hx3 e3 ht hc h3 h2 h1;refine gO ?_;refine Ab (f93_ok r.expr) ?_;obtain⟨o,rfl⟩:∃ o,o=i:=⟨i,rfl⟩;generalize Ad r.expr=az at c1 c2 hal ⊢;refine gO ?_;refine Aa (α:=Nat) (fun i=>⟨[(9,I i),(8,Bn az),(0,.ptr 63 0),(1,I o),(5,.ptr 320 0)],[(63,(Ce w4 y.proc r.prio (az.take i)).c),(320,r.c)]⟩) (fun i=>i≤(az).length∧True) (fun i=>(az).length-i) 0 ⟨by omega,trivial⟩ ?_ ?_
 ·refine Imp.weak ?_ ?_
  all_goals(try simp(disch:=omega)only[go_sem])
  all_goals(try(repeat'(with_reducible apply And.intro)))
  all_goals(first|exact .AA (by omega)|exact .Az (by omega)|exact .sl (by simp[Ce])|exact .int (by simp[Ce])|exact .eq (by simp[Ce]))
 rintro i ⟨hi,hP⟩ J hJ;refine gO ?_;refine ⟨fun hlt=>?_,fun hge=>?_⟩;rotate_left;have hil:i=(az).length:=by simp at hge;omega
 rotate_left;obtain⟨b,hb⟩:∃ b,(az)[i]?=some b:=⟨_,gE (by simp at hlt;omega)⟩;have hbm:=mG hb;have hlt2:i<(az).length:=by simp at hlt;omega
 ·have g1:=Kt c1 i hi;have g2:=PI (c1 i hlt2) y.proc b r.prio;have g3:(Ce w4 y.proc r.prio (az.take i)).procs[o]?=some y:=by rw[GN];exact hx4
  have g4:=MD (w:=w4) (p:=y.proc) (prio:=r.prio) hb;have g5:=c1 i hlt2;generalize Ce w4 y.proc r.prio (az.take i)=w5 at g1 g2 g3 g4 g5 ⊢;refine Aq 27 [([],[0]),([],[80]),([],[81]),([],[82]),([],[83]),([],[0]),([],[85]),([],[86]),([],[87]),([],[88]),([],[1]),([],[89,90]),([],[91]),([],[92]),([],[8]),([],[9]),([],[94,95]),([],[96]),([],[5]),([],[98]),([],[84,93,97,99]),([20],[100]),([20],[79]),([20],[79]),([20],[79]),([20],[101]),([20],[102])] fol ?_;simp(disch:=omega)only[go_sem,gm,hb,g3]
  first|(refine Ab (f183_ok w5.queues y.proc b r.prio g5) ?_)|(refine Al (f183_ok w5.queues y.proc b r.prio g5) ?_)
  refine gO ?_;refine call2 ⟨⟨[(0,0),(1,1)],[(63,63)],[]⟩,[],[]⟩ (f184_ok w5 (Dp w5.queues y.proc b r.prio).1 (Dp w5.queues y.proc b r.prio).2.1 (by omega)) ?_;refine gO ?_;refine hJ _ (i+1) ⟨by omega,trivial⟩ (by omega) (Imp.weak ?_ ?_)
  ·exact gI
  ·rw[g4];unfold EG;simp(disch:=omega)only[go_sem]
 ·subst hil;rw[take_length];have g1:=Kt c1 _ (le_refl _);rw[take_length]at g1;obtain⟨k1,k2,k3⟩:=hI.few _ c2;have k4:=HO (Ce w4 y.proc r.prio az);refine call2 ⟨⟨[(0,0),(1,1)],[(63,63)],[]⟩,[],[]⟩ (f122_ok Inv hI (Ce w4 y.proc r.prio az) c2 (by omega)) ?_;refine gO ?_;refine B1 ⟨[(0,0),(1,1)],[(63,63)],[]⟩ _ ?_ ?_
  ·exact gI
  ·exact gI
end Go.Rd
