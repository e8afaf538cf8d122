/- part 26 of the proof -/
import Derived.Test.YthachdiockkofaaGreatDoorT24
import Derived.Test.YthachdiockkofaaGreatDoorT25
set_option linter.all false
open Go Go.Abs Go.Proofs
set_option maxRecDepth 100000
namespace Go.Rd
set_option maxHeartbeats 8000000
open List (length_map map_cons map_set mem_append mem_map set_cons_succ set_set)
open Bool (and_eq_true false_eq_true)
open Option (getD_some or_none)
open Tryz
def Oe(w:Work)(x:Pcs)(name:Bs):Prop:=∃ k,BR w.queues name=some k∧Di w.queues∧k<(D8 w x name k).queues.length∧Di (D8 w x name k).queues
theorem WX(w:Work)(x:Pcs)(name:Bs)(h:Oe w x name)(hev:w.evs.length≤1000000):Ac C0 185 [.ptr 63 0,.agg x.c,.v (.string (str name))] [(63,w.c)] (.tup []) [(63,(EV w x name).c)]:=by
 obtain⟨k,h1,h2,h3,h4⟩:=h
 exact f185_ok w x name k h1 h2 hev h3 h4
theorem Qf{w:Work}{x:Pcs}{name:Bs}(h:Oe w x name):(EV w x name).evs.length≤w.evs.length+201:=by
 obtain⟨k,h1,h2,h3,h4⟩:=h
 have c1:=Nn h2 x.proc name
 have c2:=FT h4 x.proc ⟨name,Ar x.led.entries name⟩
 have c3:(D8 w x name k).evs.length≤w.evs.length+100:=by
  unfold D8;split
  ·simp[Cc];omega
  ·omega
 simp only[EV,h1]
 unfold LL
 split
 ·omega
 ·simp only[Cc,List.length_append];omega
theorem Hv(w:Work)(x:Pcs)(name:Bs):(EV w x name).procs=w.procs:=by
 unfold EV
 split
 ·rfl
 ·unfold LL D8
  split<;>split<;>rfl
def DH(w:Work)(x:Pcs)(az:List Atom):Work:=az.foldl (fun w a=>EV w x a.name) w
theorem Nt{w:Work}{x:Pcs}{az:List Atom}{i:Nat}{b:Atom}(hb:az[i]?=some b):DH w x (az.take (i+1))=EV (DH w x (az.take i)) x b.name:=by
 simp[DH,List.take_add_one,hb,List.foldl_append]
theorem GH(w:Work)(x:Pcs):∀ az:List Atom,(DH w x az).procs=w.procs
 |[]=>rfl
 | a::az=>by
  show (DH (EV w x a.name) x az).procs=w.procs
  rw[GH,Hv]
def KW(w:Work)(x:Pcs)(az:List Atom):Prop:=∀ i b,az[i]?=some b→Oe (DH w x (az.take i)) x b.name
theorem K6{w:Work}{x:Pcs}{az:List Atom}(h:KW w x az):∀ i,i≤az.length→(DH w x (az.take i)).evs.length≤w.evs.length+201*i
 | 0,_=>by simp[DH]
 | i+1,hi=>by
  obtain⟨b,hb⟩:∃ b,az[i]?=some b:=⟨_,gE (by omega)⟩
  have h1:=K6 h i (by omega)
  have h2:=Qf (h i b hb)
  rw[Nt hb]
  omega
def AL(w:Work)(i:Nat)(x:Pcs):Work:=AH (DH w x (Ag x.req.expr)) i (Bx x)
theorem f120_ok(w:Work)(i:Nat)(x:Pcs)(hx:w.procs[i]?=some x)(hs:KW w x (Ag x.req.expr))(hev:w.evs.length≤900000):Ac C0 120 [.ptr 63 0,I i] [(63,w.c)] (.tup []) [(63,(AL w i x).c)]:=by
 have hal:=Ci x.req.expr
 refine Ac.go f120 ?_
 unfold f120
 simp(disch:=omega)only[go_sem,gm,hx]
 refine Aa (f93_ok x.req.expr) ?_
 obtain⟨o,rfl⟩:∃ o,o=i:=⟨i,rfl⟩
 refine gO ?_
 unfold AL
 generalize Ag x.req.expr=az at hs hal ⊢
 refine Ab (α:=Nat) (fun i=>⟨[(6,I i),(5,Be az),(0,.ptr 63 0),(1,I o),(4,.ptr 256 0)],[(63,(DH w x (az.take i)).c),(256,x.c)]⟩) (fun i=>i≤(az).length∧True) (fun i=>(az).length-i) 0 ⟨by omega,trivial⟩ ?_ ?_
 ·refine Imp.weak ?_ ?_
  all_goals(try simp(disch:=omega)only[go_sem])
  all_goals(try(repeat'(with_reducible apply And.intro)))
  all_goals(first|exact .AA (by omega)|exact .Au (by omega)|exact .sl (by simp[DH])|exact .int (by simp[DH])|exact .eq (by simp[DH]))
 rintro i ⟨hi,hP⟩ J hJ
 refine gO ?_
 refine ⟨fun hlt=>?_,fun hge=>?_⟩
 rotate_left
 have hil:i=(az).length:=by simp at hge;omega
 rotate_left
 obtain⟨b,hb⟩:∃ b,(az)[i]?=some b:=⟨_,gE (by simp at hlt;omega)⟩
 have hbm:=mG hb
 have hlt2:i<(az).length:=by simp at hlt;omega
 ·have h1:=K6 hs i hi
  refine Aj 7 [([],[0]),([],[4]),([],[5]),([],[6]),([],[27,28]),([],[29]),([],[30])] fol ?_
  simp(disch:=omega)only[go_sem,gm,hb]
  refine call2 ⟨⟨[(0,0),(1,1)],[(63,63)],[]⟩,[],[]⟩ (WX (DH w x (az.take i)) x b.name (hs i b hb) (by omega)) ?_
  rw[← Nt hb]
  refine gO ?_
  refine hJ _ (i+1) ⟨by simp at hlt;omega,trivial⟩ (by simp at hlt;omega) AE
 ·subst hil
  rw[List.take_length]
  have hx2:(DH w x az).procs[o]?=some x:=by rw[GH];exact hx
  refine call2 ⟨⟨[(0,0),(1,1)],[(63,63)],[]⟩,[],[]⟩ (f186_ok (DH w x az) o x hx2) ?_
  refine gO ?_
  refine BU ⟨[(0,0),(1,1)],[(63,63)],[]⟩ _ ?_ ?_
  ·exact gI
  ·exact gI
def Md(w:Work)(x:Pcs):Bool:=x.waiting&&D2 x.req.expr (Bf w.queues x.proc x.req.expr)
def J8(w:Work):Option Nat:=w.procs.findIdx? (Md w)
def Rf(w:Work):Prop:=∀ x∈w.procs,x.waiting=true→AQ x.req.expr=true
theorem f188_ok(w:Work)(h:Di w.queues)(hp:w.procs.length≤1000000)(hr:Rf w):Ac C0 188 [.ptr 63 0] [(63,w.c)] (I (atI (J8 w))) [(63,w.c)]:=by
 refine Ac.go f188 ?_
 unfold f188
 refine gO ?_
 refine Ab (α:=Nat) (fun i=>⟨[(3,I i),(0,.ptr 63 0)],[(63,w.c)]⟩) (fun i=>i≤(w.procs).length∧(w.procs.take i).find? (Md w)=none) (fun i=>(w.procs).length-i) 0 ⟨by omega,rfl⟩ ?_ ?_
 ·exact Bu
 rintro i ⟨hi,hP⟩ J hJ
 refine gO ?_
 refine ⟨fun hlt=>?_,fun hge=>?_⟩
 rotate_left
 have hil:i=(w.procs).length:=by simp at hge;omega
 rotate_left
 obtain⟨b,hb⟩:∃ b,(w.procs)[i]?=some b:=⟨_,gE (by simp at hlt;omega)⟩
 have hbm:=mG hb
 have hlt2:i<(w.procs).length:=by simp at hlt;omega
 ·simp(disch:=omega)only[go_sem,gm,hb]
  cases hw:b.waiting
  ·have hs:Md w b=false:=by simp[Md,hw]
   refine Aj 17 [([],[4]),([],[23]),([],[24]),([],[4,25]),([],[26,25]),([],[27,25]),([],[0,25]),([],[29,25]),([],[30,25]),([],[31,25]),([],[32,25]),([],[4,25]),([],[34,25]),([],[4,25]),([],[36,25]),([],[37,25]),([],[33,35,38,25])] fol ?_
   simp(disch:=omega)only[go_sem,hw]
   refine hJ _ (i+1) ⟨by simp at hlt;omega,(by rw[BA hP hb];simp[hs])⟩ (by simp at hlt;omega) AE
  ·have he:=hr b hbm hw
   refine Aj 17 [([],[4]),([],[23]),([],[24]),([],[4,25]),([],[26,25]),([],[27,25]),([],[0,25]),([],[29,25]),([],[30,25]),([],[31,25]),([],[32,25]),([],[4,25]),([],[34,25]),([],[4,25]),([],[36,25]),([],[37,25]),([],[33,35,38,25])] fol ?_
   simp(disch:=omega)only[go_sem,hw]
   first|(refine Aa (f179_ok w.queues b.proc b.req.expr h) ?_)|(refine Ai (f179_ok w.queues b.proc b.req.expr h) ?_)
   simp(disch:=omega)only[go_sem]
   first|(refine Aa (f160_ok b.req.expr (Bf w.queues b.proc b.req.expr) he) ?_)|(refine Ai (f160_ok b.req.expr (Bf w.queues b.proc b.req.expr) he) ?_)
   cases hh:D2 b.req.expr (Bf w.queues b.proc b.req.expr)
   ·have hs:Md w b=false:=by simp[Md,hw,hh]
    refine gO ?_
    refine hJ _ (i+1) ⟨by simp at hlt;omega,(by rw[BA hP hb];simp[hs])⟩ (by simp at hlt;omega) AE
   ·have hs:Md w b=true:=by simp[Md,hw,hh]
    have e:J8 w=some i:=Fp hP b hb hs
    simp(disch:=omega)only[go_sem,e,atI]
    refine BU ⟨[(0,0),(1,1)],[(63,63)],[]⟩ _ ?_ ?_
    ·exact gI
    ·exact gI
 ·subst hil
  rw[List.take_length]at hP
  have e:J8 w=none:=by
   unfold J8
   rw[List.findIdx?_eq_none_iff]
   rw[List.find?_eq_none]at hP
   intro x hx
   simpa using hP x hx
  simp(disch:=omega)only[go_sem,e,atI]
  refine BU ⟨[(0,0),(1,1)],[(63,63)],[]⟩ _ ?_ ?_
  ·exact gI
  ·exact gI
def Gc(w:Work)(i:Nat)(x:Pcs)(keep:Bool)(name:Bs):Work:=if !keep then EV w x name else match BR w.queues name with
 |none=>w
 |some k=>if decide (Ap (w.queues.getD k q0).holds x.proc=Ar (w.procs.getD i x0).led.entries name) then w
  else AH w i { w.procs.getD i x0 with led:=(F3 (w.procs.getD i x0).led ⟨name,Ar (w.procs.getD i x0).led.entries name,Ap (w.queues.getD k q0).holds x.proc⟩).1 }
def CT(w:Work)(i:Nat)(x:Pcs)(kl:List (Bool × Atom)):Work:=kl.foldl (fun w p=>Gc w i x p.1 p.2.name) w
def CZ(w:Work)(i:Nat)(x:Pcs):Work :=
 let w1:=CT (BM w 2 x.proc) i x ((De x.req.expr (Bf w.queues x.proc x.req.expr)).zip (Ag x.req.expr))
 let w2:=AH w1 i (Bx (w1.procs.getD i x0))
 AH w2 i (Ch (w2.procs.getD i x0))
def Fx:Nat→Work→Work
 | 0,w=>w
 | n+1,w=>match J8 w with
  |none=>w
  |some i=>Fx n (CZ w i (w.procs.getD i x0))
def Y4(w:Work)(x:Pcs)(kp:Bool)(name:Bs):Prop:=(kp=false→Oe w x name)∧(kp=true→Di w.queues∧∃ k,BR w.queues name=some k)
theorem XQ(w:Work)(i:Nat)(x:Pcs):(AH w i x).procs.length=w.procs.length:=by simp[AH]
theorem SX(w:Work)(i:Nat)(x:Pcs)(kp:Bool)(name:Bs):(Gc w i x kp name).procs.length=w.procs.length:=by
 unfold Gc
 split
 ·rw[Hv]
 ·split
  ·rfl
  ·split
   ·rfl
   ·exact XQ _ _ _
theorem NF{w:Work}{i:Nat}{x:Pcs}{kl:List (Bool × Atom)}{j:Nat}{p:Bool × Atom}(hp:kl[j]?=some p):CT w i x (kl.take (j+1))=Gc (CT w i x (kl.take j)) i x p.1 p.2.name:=by
 simp[CT,List.take_add_one,hp,List.foldl_append]
theorem IT(w:Work)(i:Nat)(x:Pcs):∀ kl:List (Bool × Atom),(CT w i x kl).procs.length=w.procs.length
 |[]=>rfl
 | p::kl=>by
  show (CT (Gc w i x p.1 p.2.name) i x kl).procs.length=w.procs.length
  rw[IT,SX]
def Rh(w:Work)(i:Nat)(x:Pcs)(kl:List (Bool × Atom)):Prop:=∀ j p,kl[j]?=some p→Y4 (CT w i x (kl.take j)) x p.1 p.2.name
theorem V6{w:Work}{i:Nat}{x:Pcs}{kp:Bool}{name:Bs}(h:Y4 w x kp name):(Gc w i x kp name).evs.length≤w.evs.length+201:=by
 unfold Gc
 cases kp
 ·have:=Qf (h.1 rfl)
  simpa using this
 ·simp only[Bool.not_true,false_eq_true,if_false]
  split
  ·omega
  ·split
   ·omega
   ·simp[AH]
theorem IS{w:Work}{i:Nat}{x:Pcs}{kl:List (Bool × Atom)}(h:Rh w i x kl):∀ j,j≤kl.length→(CT w i x (kl.take j)).evs.length≤w.evs.length+201*j
 | 0,_=>by simp[CT]
 | j+1,hj=>by
  obtain⟨p,hp⟩:∃ p,kl[j]?=some p:=⟨_,gE (by omega)⟩
  have h1:=IS h j (by omega)
  have h2:=V6 (i:=i) (h j p hp)
  rw[NF hp]
  omega
def wcount(w:Work):Nat:=w.procs.countP (·.waiting)
def BC(w:Work):Work:=Fx (wcount w) w
structure G1(Inv:Work→Prop):Prop where
 few:∀ w,Inv w→Di w.queues∧w.procs.length≤8∧Rf w
 safe:∀ w i x,Inv w→J8 w=some i→w.procs[i]?=some x→Rh (BM w 2 x.proc) i x ((De x.req.expr (Bf w.queues x.proc x.req.expr)).zip (Ag x.req.expr))
 next:∀ w i x,Inv w→J8 w=some i→w.procs[i]?=some x→Inv (CZ w i x)
theorem It{w:Work}{i:Nat}(h:J8 w=some i):∃ x,w.procs[i]?=some x∧Md w x=true:=by
 unfold J8 at h
 rw[List.findIdx?_eq_some_iff_getElem]at h
 obtain⟨h1,h2,_⟩:=h
 exact⟨_,gE h1,h2⟩
theorem Mi{α:Type}:∀ {l:List α} {i:Nat} {z:α},l[i]?=some z→l.set i z=l
 |[],_,_,h=>by simp at h
 | a::l,0,z,h=>by simp at h;simp[h]
 | a::l,i+1,z,h=>by
  simp only[set_cons_succ]
  rw[Mi (by simpa using h)]
theorem countP_set{α:Type}{p:α→Bool}{y:α}(hy:p y=false):∀ {l:List α} {i:Nat} {z:α},l[i]?=some z→p z=true→(l.set i y).countP p+1=l.countP p
 |[],_,_,h,_=>by simp at h
 | a::l,0,z,h,hz=>by
  simp at h;subst h
  simp[List.countP_cons,hy,hz]
 | a::l,i+1,z,h,hz=>by
  have:=countP_set hy (l:=l) (i:=i) (z:=z) (by simpa using h) hz
  simp only[set_cons_succ,List.countP_cons]
  omega
theorem MR{w:Work}{i:Nat}{x z:Pcs}(hz:w.procs[i]?=some z):∀ (kl:List (Bool × Atom)) (w':Work),(∃ l',w'.procs=w.procs.set i { z with led:=l' })→∃ l',(CT w' i x kl).procs=w.procs.set i { z with led:=l' }
 |[],_,h=>h
 | p::kl,w',h=>by
  refine MR hz kl (Gc w' i x p.1 p.2.name) ?_
  obtain⟨l',hl⟩:=h
  have hi:=Al hz
  have hg:w'.procs[i]?=some { z with led:=l' }:=by rw[hl];simp[hi]
  unfold Gc
  split
  ·exact⟨l',by rw[Hv,hl]⟩
  ·split
   ·exact⟨l',hl⟩
   ·split
    ·exact⟨l',hl⟩
    ·have hgd:w'.procs.getD i x0 = { z with led:=l' }:=by simp[List.getD,hg]
     rw[hgd]
     exact⟨_,by simp only[AH,hl,set_set];rfl⟩
theorem KP{w:Work}{i:Nat}{x:Pcs}(hx:w.procs[i]?=some x):∃ y,(CZ w i x).procs=w.procs.set i y∧y.waiting=false∧y.proc=x.proc:=by
 obtain⟨l',hl⟩:=MR (w:=w) (i:=i) (x:=x) (z:=x) hx ((De x.req.expr (Bf w.queues x.proc x.req.expr)).zip (Ag x.req.expr)) (BM w 2 x.proc) ⟨x.led,(Mi hx).symm⟩
 have hi:=Al hx
 refine⟨Ch (Bx { x with led:=l' }),?_,rfl,rfl⟩
 simp only[CZ,AH,hl,set_set]
 have h1:(w.procs.set i { x with led:=l' }).getD i x0 = { x with led:=l' }:=by simp[List.getD,hi]
 rw[h1]
 have h2:(w.procs.set i (Bx { x with led:=l' })).getD i x0=Bx { x with led:=l' }:=by simp[List.getD,hi]
 rw[h2]
theorem J9{w:Work}{i:Nat}{x:Pcs}(hs:J8 w=some i)(hx:w.procs[i]?=some x)(hsat:Md w x=true):BC w=BC (CZ w i x)∧wcount (CZ w i x)+1=wcount w:=by
 obtain⟨y,h1,h2,_⟩:=KP hx
 have hwt:x.waiting=true:=by simp only[Md,and_eq_true]at hsat;exact hsat.1
 have hc:wcount (CZ w i x)+1=wcount w:=by
  unfold wcount
  rw[h1]
  exact countP_set (p:=(·.waiting)) h2 hx hwt
 refine⟨?_,hc⟩
 have hg:w.procs.getD i x0=x:=by simp[List.getD,hx]
 unfold BC
 rw[← hc]
 simp only[Fx,hs,hg]
theorem RW(w:Work)(o:Nat)(x:Pcs)(z:Pcs)(kp:Bool)(name:Bs)(hz:w.procs[o]?=some z):Gc w o x true name=(match BR w.queues name with
 |none=>w
 |some k=>if decide (Ap (w.queues.getD k q0).holds x.proc=Ar z.led.entries name) then w else AH w o { z with led:=(F3 z.led ⟨name,Ar z.led.entries name,Ap (w.queues.getD k q0).holds x.proc⟩).1 }):=by
 have hg:w.procs.getD o x0=z:=by simp[List.getD,hz]
 unfold Gc
 rw[hg]
 rfl
theorem f122_ok(Inv:Work→Prop)(hI:G1 Inv)(w:Work)(hw:Inv w)(hev:w.evs.length+1700*wcount w≤900000):Ac C0 122 [.ptr 63 0] [(63,w.c)] (.tup []) [(63,(BC w).c)]:=by
 obtain⟨hf,hp,hr⟩:=hI.few w hw
 refine Ac.go f122 ?_
 unfold f122
 refine gO ?_
 refine call2 ⟨⟨[(0,0),(1,1)],[(63,63)],[]⟩,[],[]⟩ (f188_ok w hf (by omega) hr) ?_
 refine gO ?_
 refine Ab (α:=Work) (fun w'=>⟨[(2,I (atI (J8 w'))),(0,.ptr 63 0)],[(63,w'.c)]⟩) (fun w'=>Inv w'∧BC w'=BC w∧w'.evs.length+1700*wcount w'≤900000) (fun w'=>wcount w') w ⟨hw,rfl,hev⟩ AE ?_
 clear hf hp hr hw hev
 rintro w1 ⟨hw,hsw,hev⟩ J hJ
 obtain⟨hf,hp,hr⟩:=hI.few w1 hw
 cases hs:J8 w1 with
 |none =>
  simp(disch:=omega)only[go_sem,hs,atI]
  have e:BC w1=w1:=by
   unfold BC
   cases wcount w1 with
   | zero=>rfl
   | succ n=>simp only[Fx,hs]
  rw[← hsw,e]
  refine BU ⟨[(0,0),(1,1)],[(63,63)],[]⟩ _ ?_ ?_
  ·exact gI
  ·exact gI
 |some o =>
  obtain⟨x,hx,hsat⟩:=It hs
  have hks:=hI.safe w1 o x hw hs hx
  simp(disch:=omega)only[go_sem,hs,atI,eq_true (show (0:Int)≤(o:Int) by omega),decide_true,gm,hx]
  have hnw:=f182_ok w1 2 x.proc (by omega)
  have hs1:CZ w1 o x=(let w1':=CT (BM w1 2 x.proc) o x ((De x.req.expr (Bf w1.queues x.proc x.req.expr)).zip (Ag x.req.expr));let w2:=AH w1' o (Bx (w1'.procs.getD o x0));AH w2 o (Ch (w2.procs.getD o x0))):=rfl
  have hstep:=J9 hs hx hsat
  have hnext:=hI.next w1 o x hw hs hx
  have hq2:(BM w1 2 x.proc).queues=w1.queues:=rfl
  have hp2:(BM w1 2 x.proc).procs=w1.procs:=rfl
  have he2:(BM w1 2 x.proc).evs.length=w1.evs.length+1:=by simp[BM]
  generalize BM w1 2 x.proc=w2 at hnw hks hs1 hq2 hp2 he2
  rw[← hq2]at hf hks hs1
  have hprune:=f189_ok x.req.expr (Bf w2.queues x.proc x.req.expr)
  have hkl:=Uy x.req.expr (Bf w2.queues x.proc x.req.expr)
  have hat:=f93_ok x.req.expr
  have hal:=Ci x.req.expr
  generalize De x.req.expr (Bf w2.queues x.proc x.req.expr)=keep at hprune hkl hks hs1
  generalize Ag x.req.expr=az at hat hkl hks hal hs1
  refine call2 ⟨⟨[(0,0),(1,1)],[(63,63)],[]⟩,[],[]⟩ hnw ?_
  refine gO ?_
  refine Aj 14 [([],[3]),([],[28]),([],[29]),([],[0]),([],[31]),([],[32]),([],[33]),([],[34]),([],[3]),([],[36]),([],[3]),([],[38]),([],[39]),([],[35,37,40])] fol ?_
  simp(disch:=omega)only[go_sem]
  first|(refine Aa (f179_ok w2.queues x.proc x.req.expr hf) ?_)|(refine Ai (f179_ok w2.queues x.proc x.req.expr hf) ?_)
  simp(disch:=omega)only[go_sem]
  first|(refine Aa hprune ?_)|(refine Ai hprune ?_)
  refine gO ?_
  refine Aa hat ?_
  refine gO ?_
  have hzl:(keep.zip az).length=az.length:=by simp[hkl]
  have hJo:=hJ
  clear hJ
  refine Ab (α:=Nat) (fun i=>⟨[(6,I i),(5,Be az),(4,G5 keep),(2,I o),(0,.ptr 63 0),(3,.ptr 192 0)],[(63,(CT w2 o x ((keep.zip az).take i)).c),(192,x.c)]⟩) (fun i=>i≤(az).length∧True) (fun i=>(az).length-i) 0 ⟨by omega,trivial⟩ ?_ ?_
  ·refine Imp.weak ?_ ?_
   all_goals(try simp(disch:=omega)only[go_sem])
   all_goals(try(repeat'(with_reducible apply And.intro)))
   all_goals(first|exact .AA (by omega)|exact .Au (by omega)|exact .sl (by simp[CT])|exact .int (by simp[CT])|exact .eq (by simp[CT]))
  rintro i ⟨hi,hP⟩ J hJ
  refine gO ?_
  refine ⟨fun hlt=>?_,fun hge=>?_⟩
  rotate_left
  have hil:i=(az).length:=by simp at hge;omega
  rotate_left
  obtain⟨b,hb⟩:∃ b,(az)[i]?=some b:=⟨_,gE (by simp at hlt;omega)⟩
  have hbm:=mG hb
  have hlt2:i<(az).length:=by simp at hlt;omega
  ·obtain⟨kp,hkp⟩:∃ kp,keep[i]?=some kp:=⟨_,gE (by omega)⟩
   have hzi:(keep.zip az)[i]?=some (kp,b):=by rw[List.getElem?_zip_eq_some];exact⟨hkp,hb⟩
   have hsk:=hks i (kp,b) hzi
   have hln:=IS hks i (by omega)
   have htk:=NF (w:=w2) (i:=o) (x:=x) hzi
   have hpl:=IT w2 o x ((keep.zip az).take i)
   simp only at hsk htk
   obtain⟨z,hz⟩:∃ z,(CT w2 o x ((keep.zip az).take i)).procs[o]?=some z:=⟨_,gE (by rw[hpl,hp2];exact Al hx)⟩
   generalize CT w2 o x ((keep.zip az).take i)=w3 at hsk hln htk hz ⊢
   simp(disch:=omega)only[go_sem,gm,hb,hkp]
   cases kp
   ·simp(disch:=omega)only[go_sem,Bool.not_false]
    have htk2:CT w2 o x ((keep.zip az).take (i+1))=EV w3 x b.name:=by rw[htk];rfl
    refine call2 ⟨⟨[(0,0),(1,1)],[(63,63)],[]⟩,[],[]⟩ (WX w3 x b.name (hsk.1 rfl) (by omega)) ?_
    rw[← htk2]
    refine gO ?_
    refine hJ _ (i+1) ⟨by simp at hlt;omega,trivial⟩ (by simp at hlt;omega) AE
   ·obtain⟨hf3,k,hfk⟩:=hsk.2 rfl
    rw[RW w3 o x z true b.name hz,hfk]at htk
    obtain⟨hk,q,hq,_⟩:=CK hfk
    have hgq:w3.queues.getD k q0=q:=by simp[List.getD,hq]
    simp only[hgq]at htk
    obtain⟨q1,q2,q3⟩:=A5 (hf3.q q (mG hq))
    have hn3:=hf3.n
    simp(disch:=omega)only[go_sem,Bool.not_true]
    refine Aj 18 [([],[0]),([],[67]),([],[68]),([],[69]),([],[70]),([],[0]),([],[72]),([],[73]),([],[74]),([],[75]),([],[7]),([],[76,77]),([11],[71,78]),([11],[79]),([],[3]),([],[81]),([11],[80,82]),([],[])] fol ?_
    simp(disch:=omega)only[go_sem]
    first|(refine Aa (Ia w3.queues b.name (by omega)) ?_)|(refine Ai (Ia w3.queues b.name (by omega)) ?_)
    simp(disch:=omega)only[go_sem,hfk,atI,gm,hq]
    first|(refine Aa (f163_ok q x.proc q1) ?_)|(refine Ai (f163_ok q x.proc q1) ?_)
    simp(disch:=omega)only[go_sem,gm,hz]
    refine Aa (f190_ok z.led.entries b.name) ?_
    refine gO ?_
    cases hH:decide (Ap q.holds x.proc=Ar z.led.entries b.name)
    rotate_left
    ·rw[hH,if_pos rfl]at htk
     simp(disch:=omega)only[go_sem,hH,Bool.not_true]
     rw[← htk]
     refine hJ _ (i+1) ⟨by simp at hlt;omega,trivial⟩ (by simp at hlt;omega) AE
    rw[hH]at htk
    simp only[false_eq_true,if_false]at htk
    simp(disch:=omega)only[go_sem,hH,Bool.not_false]
    refine CP (st':=⟨[(9,.ptr 576 0),(8,.ptr 512 0),(7,.v (.string (str b.name))),(6,I i),(5,Be az),(4,G5 keep),(2,I o),(0,.ptr 63 0),(3,.ptr 192 0)],[(512,(Ap q.holds x.proc).c),(576,(Ar z.led.entries b.name).c),(63,w3.c),(192,x.c)]⟩) AE ?_
    refine OH 23 [([],[0]),([0],[100]),([0,1],[101]),([0,1,2],[102]),([0,1,2,3],[103]),([],[2]),([],[0]),([6],[106]),([6,7],[107]),([6,7,8],[108]),([6,7,8,9],[109]),([],[2]),([6,7,8,9,10,11],[110,111]),([6,7,8,9,10,11,12],[112]),([6,7,8,9,10,11,12,13],[113]),([],[7]),([],[9]),([],[8]),([15,16,17],[115,116,117]),([6,7,8,9,10,11,12,13,14,15,16,17,18],[114,118]),([6,7,8,9,10,11,12,13,14,15,16,17,18,19],[119]),([6,7,8,9,10,11,12,13,14,15,16,17,18,19,20],[99]),([6,7,8,9,10,11,12,13,14,15,16,17,18,19,20],[99]),([0,1,2,3,4,5,6,7,8,9,10,11,12,13,14,15,16,17,18,19,20,21],[]),([0,1,2,3,4,5,6,7,8,9,10,11,12,13,14,15,16,17,18,19,20,21,23],[]),([0,1,2,3,4,5,6,7,8,9,10,11,12,13,14,15,16,17,18,19,20,21,23,24],[])] [22] [104,105,120,99,6,5,4,2,0,3] fol (by kernel_rfl) ?_
    simp (maxSteps:=1000000) (disch:=omega)only[go_sem,gm,hz]
    first|(refine Aa (f191_ok z.led ⟨b.name,Ar z.led.entries b.name,Ap q.holds x.proc⟩) ?_)|(refine Ai (f191_ok z.led ⟨b.name,Ar z.led.entries b.name,Ap q.holds x.proc⟩) ?_)
    simp (maxSteps:=1000000) (disch:=omega)only[go_sem,gm,hz]
    refine hJ _ (i+1) ⟨by omega,trivial⟩ (by omega) (Imp.weak ?_ ?_)
    ·exact gI
    ·rw[htk]
     simp(disch:=omega)only[go_sem,AH]
     exact .sl (by rw[map_set];rfl)
  ·subst hil
   have hta:(keep.zip az).take az.length=keep.zip az:=List.take_of_length_le (by omega)
   rw[hta]
   have hpl:=IT w2 o x (keep.zip az)
   have hln:=IS hks az.length (by omega)
   rw[hta]at hln
   obtain⟨z,hz⟩:∃ z,(CT w2 o x (keep.zip az)).procs[o]?=some z:=⟨_,gE (by rw[hpl,hp2];exact Al hx)⟩
   generalize CT w2 o x (keep.zip az)=w3 at hpl hln hz hs1 ⊢
   have hzi:=Al hz
   have hz2:(AH w3 o (Bx z)).procs[o]?=some (Bx z):=by simp[AH,hzi]
   have hs2:CZ w1 o x=AH (AH w3 o (Bx z)) o (Ch (Bx z)):=by
    rw[hs1]
    simp only
    rw[show w3.procs.getD o x0=z by simp[List.getD,hz],show (AH w3 o (Bx z)).procs.getD o x0=Bx z by simp[List.getD,hz2]]
   have hev2:(CZ w1 o x).evs.length≤w1.evs.length+1609:=by
    rw[hs2];simp only[AH];omega
   refine call2 ⟨⟨[(0,0),(1,1)],[(63,63)],[]⟩,[],[]⟩ (f186_ok w3 o z hz) ?_
   refine gO ?_
   refine call2 ⟨⟨[(0,0),(1,1)],[(63,63)],[]⟩,[],[]⟩ (f121_ok (AH w3 o (Bx z)) o (Bx z) hz2) ?_
   rw[← hs2]
   refine gO ?_
   obtain⟨hf4,hp4,hr4⟩:=hI.few _ hnext
   refine call2 ⟨⟨[(0,0),(1,1)],[(63,63)],[]⟩,[],[]⟩ (f188_ok (CZ w1 o x) hf4 (by omega) hr4) ?_
   refine gO ?_
   exact hJo _ (CZ w1 o x) ⟨hnext,hstep.1.symm.trans hsw,by omega⟩ (by omega) AE
@[reducible] def Hz(l:List Int):AV:=.sl .no 1 (l.map fun x=>[I x])
def CE(l:List Int)(a:Nat):List AV:=[Hz l,I a]
theorem f15_ok(l:List Int):Ac C0 15 [Hz l] [] (B (decide ((l.length:Int)≤300))) []:=by
 refine Ac.lens f15 fun hlen=>?_
 simp only[Ec,lens,length_map,and_true,true_and]at hlen
 refine Ac.go f15 ?_
 unfold f15
 simp(disch:=omega)only[go_sem,length_map]
 exact Av _
theorem f49_ok(l:List Int)(a:Nat)(hl:l.length≤1000000):Ac C0 49 [.ptr 63 0] [(63,CE l a)] (B (decide ((a:Int)<l.length))) [(63,CE l a)]:=by
 refine Ac.go f49 ?_
 unfold f49
 refine gO ?_
 refine Aj 9 [([],[0]),([],[3]),([],[4]),([],[5]),([],[0]),([],[7]),([],[8]),([],[9]),([],[10])] fol ?_
 simp(disch:=omega)only[go_sem,CE,length_map]
 refine BU ⟨[],[(63,63)],[]⟩ _ ?_ ?_
 ·exact gI
 ·simp(disch:=omega)only[go_sem,CE]
def HT(x n:Int):Int:=if decide (n<1) then 0 else x%n
theorem f51_ok(x n:Int)(hn:n≤2000000):Ac C0 51 [I x,I n] [] (I (HT x n)) []:=by
 refine Ac.go f51 ?_
 unfold f51
 refine gO ?_
 cases h1:decide (n<1)
 rotate_left
 ·have e:HT x n=0:=by simp[HT,h1]
  rw[e]
  simp(disch:=omega)only[go_sem,h1]
  exact Av _
 have hn1:1≤n:=by simpa using h1
 have e:HT x n=x%n:=by simp only[HT,h1];rfl
 rw[e]
 have he:=Int.emod_nonneg x (show n≠0 by omega)
 have he2:=Int.emod_lt_of_pos x (show 0<n by omega)
 have hr:x.tmod n=x%n∨x.tmod n=x%n-n:=by
  rw[Int.tmod_eq_emod]
  split
  ·left;omega
  ·right;omega
 have hn0:=eq_false (show ¬ n=0 by omega)
 have hw:=wrap64 (x.tmod n+n) (by omega) (by omega)
 generalize x.tmod n=r at hr hw
 generalize x%n=m at he he2 hr ⊢
 simp(disch:=omega)only[go_sem,h1,hn0]
 rcases hr with hr|hr
 ·have hd:decide (r<0)=false:=by simp;omega
  simp(disch:=omega)only[go_sem,hd]
  refine BP _ ?_
  simp(disch:=omega)only[go_sem,hr]
 ·by_cases hz:m-n<0
  ·have hd:decide (r<0)=true:=by simp;omega
   simp(disch:=omega)only[go_sem,hd,hw]
   refine BP _ ?_
   simp(disch:=omega)only[go_sem,hr]
   exact .int (by omega)
  ·omega
def Ad(l:List Int)(a:Nat)(n:Int):Int × Nat:=match l[a]? with
 |none=>(0,a)
 |some x=>(HT x n,a+1)
theorem f37_ok(l:List Int)(a:Nat)(n:Int)(hl:l.length≤1000000)(hn:n≤2000000):Ac C0 37 [.ptr 63 0,I n] [(63,CE l a)] (I (Ad l a n).1) [(63,CE l (Ad l a n).2)]:=by
 refine Ac.go f37 ?_
 unfold f37
 refine gO ?_
 refine Aj 9 [([],[0]),([],[5]),([],[6]),([],[7]),([],[0]),([],[9]),([],[10]),([],[11]),([],[12])] fol ?_
 simp(disch:=omega)only[go_sem,CE,length_map]
 cases hb:l[a]? with
 |none =>
  have hla:l.length≤a:=by
   rcases Nat.lt_or_ge a l.length with h|h
   ·rw[gE h]at hb;cases hb
   ·exact h
  have e:Ad l a n=(0,a):=by simp[Ad,hb]
  rw[e]
  simp(disch:=omega)only[go_sem,eq_true (show (l.length:Int)≤a by omega),decide_true]
  refine BU ⟨[],[(63,63)],[]⟩ _ ?_ ?_
  ·exact gI
  ·simp(disch:=omega)only[go_sem,CE]
 |some x =>
  have hla:=Al hb
  have e:Ad l a n=(HT x n,a+1):=by simp[Ad,hb]
  rw[e]
  have hc2:((a:Int)+1-1)=(a:Int):=by omega
  simp(disch:=omega)only[go_sem,eq_false (show ¬ (l.length:Int)≤a by omega),decide_false]
  refine Aj 12 [([],[0]),([],[22]),([],[23]),([],[24]),([],[0]),([],[26]),([],[27]),([],[28]),([],[29]),([],[25,30]),([],[31]),([],[1])] fol ?_
  simp(disch:=omega)only[go_sem,hc2,gm,hb]
  first|(refine Aa (f51_ok x n hn) ?_)|(refine Ai (f51_ok x n hn) ?_)
  refine gO ?_
  refine BU ⟨[],[(63,63)],[]⟩ _ ?_ ?_
  ·exact gI
  ·simp(disch:=omega)only[go_sem,CE]
def L9(n:Int):Proc:=⟨(n%8)%4,1,1+(n%8) / 4⟩
theorem Ze(n:Int):Ac C0 22 [I n] [] (.agg (L9 n).c) []:=by
 refine Ac.go f22 ?_
 unfold f22
 refine gO ?_
 refine Aa (f51_ok n 8 (by omega)) ?_
 have e:HT n 8=n%8:=by simp[HT]
 rw[e]
 have h0:=Int.emod_nonneg n (show (8:Int)≠0 by omega)
 have h1:=Int.emod_lt_of_pos n (show (0:Int)<8 by omega)
 unfold L9
 generalize n%8=m at h0 h1 ⊢
 have e1:m.tmod 4=m%4:=Int.tmod_eq_emod_of_nonneg h0
 have e2:m.tdiv 4=m / 4:=Int.tdiv_eq_ediv_of_nonneg h0
 have e3:=wrap64 (m / 4) (by omega) (by omega)
 have e4:=wrap64 (1+m / 4) (by omega) (by omega)
 simp(disch:=omega)only[go_sem,e1,e2,e3,e4]
 refine Ak _ ?_
 refine .eq ?_
 simp[Ei,AV.ren,Proc.c,e2]
def Uq:List Int:=[5,5,3,4,2,1,3,5]
theorem f275_ok(n:Int):Ac C0 275 [I n] [] (I (Uq.getD (n%8).toNat 0)) []:=by
 refine Ac.go f275 ?_
 unfold f275
 refine gO ?_
 refine Aa (f51_ok n 8 (by omega)) ?_
 have e:HT n 8=n%8:=by simp[HT]
 rw[e]
 have h0:=Int.emod_nonneg n (show (8:Int)≠0 by omega)
 have h1:=Int.emod_lt_of_pos n (show (0:Int)<8 by omega)
 generalize n%8=m at h0 h1 ⊢
 obtain rfl|rfl|rfl|rfl|rfl|rfl|rfl|rfl:m=0∨m=1∨m=2∨m=3∨m=4∨m=5∨m=6∨m=7:=by omega
 all_goals
  refine gO ?_
  refine BP _ ?_
  exact .eq rfl
def NC(w:Work)(i:Nat)(x:Pcs):Work :=
 BM { Cc w (BO w.queues x.proc).1 (BO w.queues x.proc).2 with procs:=w.procs.eraseIdx i } 5 x.proc
def Qu(w:Work)(i:Nat)(x:Pcs):Work:=BC (NC w i x)
theorem erase_eq{α:Type}{l:List α}{i:Nat}:l.take i++l.drop (i+1)=l.eraseIdx i:=by
 rw[List.eraseIdx_eq_take_drop_succ]
theorem UN(w:Work):wcount w≤w.procs.length:=List.countP_le_length
theorem f126_ok(Inv:Work→Prop)(hI:G1 Inv)(w:Work)(i:Nat)(x:Pcs)(hx:w.procs[i]?=some x)(hp:w.procs.length≤8)(hf:Di w.queues)(hw:Inv (NC w i x))(hrl:(BO w.queues x.proc).2.length≤100000)(hev:w.evs.length≤500000):Ac C0 126 [.ptr 63 0,I i] [(63,w.c)] (.tup []) [(63,(Qu w i x).c)]:=by
 have hi:=Al hx
 refine Ac.mk' [33] (fn:=f126) (c:=f126.body.getD .skip) (by kernel_rfl) (by kernel_rfl) (by kernel_rfl) (by kernel_rfl) (by simp[f126]) (by simp[names]) ?_
 unfold f126
 simp(disch:=omega)only[go_sem,gm,hx]
 refine Aj 10 [([],[0]),([],[0]),([],[15]),([],[16]),([],[17]),([],[18]),([],[4]),([],[19,20]),([7],[21]),([7],[21])] fol ?_
 simp(disch:=omega)only[go_sem]
 first|(refine Aa (f196_ok w.queues x.proc hf) ?_)|(refine Ai (f196_ok w.queues x.proc hf) ?_)
 refine gO ?_
 refine call2 ⟨⟨[(0,0),(1,1)],[(63,63)],[]⟩,[],[]⟩ (f184_ok w (BO w.queues x.proc).1 (BO w.queues x.proc).2 (by omega)) ?_
 have e0:NC w i x=BM { Cc w (BO w.queues x.proc).1 (BO w.queues x.proc).2 with procs:=w.procs.eraseIdx i } 5 x.proc:=rfl
 have e1:(Cc w (BO w.queues x.proc).1 (BO w.queues x.proc).2).evs.length=w.evs.length+(BO w.queues x.proc).2.length:=by simp[Cc]
 have e2:(Cc w (BO w.queues x.proc).1 (BO w.queues x.proc).2).procs=w.procs:=rfl
 rw[← e2]at e0 hx hi hp
 generalize Cc w (BO w.queues x.proc).1 (BO w.queues x.proc).2=w1 at e0 e1 e2 hx hi hp ⊢
 refine gO ?_
 have ht:(w1.procs.drop (i+1)).take (w1.procs.length-(i+1))=w1.procs.drop (i+1):=List.take_of_length_le (by simp)
 refine H6 17 [([],[0]),([],[0]),([1],[26]),([1,2],[27]),([1,2,3],[28]),([1,2,3,4],[29]),([],[1]),([],[1]),([1,2,3,4,5,6,7],[30,31,32]),([],[0]),([9],[34]),([9,10],[35]),([9,10,11],[36]),([9,10,11,12],[37]),([],[1]),([14],[39]),([9,10,11,12,13,14,15],[38,40]),([1,2,3,4,5,6,7,8,9,10,11,12,13,14,15,16],[]),([0,1,2,3,4,5,6,7,8,9,10,11,12,13,14,15,16,17],[]),([0,1,2,3,4,5,6,7,8,9,10,11,12,13,14,15,16,17,18],[]),([0,1,2,3,4,5,6,7,8,9,10,11,12,13,14,15,16,17,18,19],[]),([0,1,2,3,4,5,6,7,8,9,10,11,12,13,14,15,16,17,18,19,20],[])] [0] [([],[33,41,0,1,4],let o0:OT:=.done;let o1:OT:=.pick [(21,o0)];let o2:OT:=.pick [(20,o1)];let o3:OT:=.pick [(19,o2)];let o4:OT:=.pick [(18,o3)];let o5:OT:=.pick [(17,o4)];let o6:OT:=.pick [(0,o4)];let o7:OT:=.pick [(0,o5),(17,o6)];o7),([0],[33,41,25,0,1,4],let o0:OT:=.done;let o1:OT:=.pick [(21,o0)];let o2:OT:=.pick [(20,o1)];let o3:OT:=.pick [(19,o2)];let o4:OT:=.pick [(18,o3)];let o5:OT:=.pick [(17,o4)];o5)] fol (by kernel_rfl) ?_
 simp(disch:=omega)only[go_sem,ht]
 have e4:({ w1 with procs:=w1.procs.eraseIdx i }:Work).evs.length+1≤4294967296:=by show w1.evs.length+1≤_;omega
 obtain⟨k1,k2,k3⟩:=hI.few _ hw
 have k4:=UN (NC w i x)
 have k5:(NC w i x).evs.length=w1.evs.length+1:=by rw[e0];simp[BM]
 repeat'(with_reducible refine And.intro ?_ ?_)
 all_goals
  refine call2 ⟨⟨[(2688,0),(1,1)],[(63,63)],[]⟩,[],[]⟩ (f182_ok { w1 with procs:=w1.procs.eraseIdx i } 5 x.proc e4) ?_ (hh:=?_)
  rotate_left
  ·simp(disch:=omega)only[go_sem]
   exact .sl (by rw[← List.map_append,erase_eq])
  rw[← e0]
  refine gO ?_
  refine call2 ⟨⟨[(2688,0),(1,1)],[(63,63)],[]⟩,[],[]⟩ (f122_ok Inv hI (NC w i x) hw (by omega)) ?_
  refine gO ?_
  refine BU ⟨[(2688,0),(1,1)],[(63,63)],[]⟩ _ ?_ ?_
  ·exact gI
  ·simp(disch:=omega)only[go_sem,Qu]
def KU(l:List Pcs)(p:Proc):Nat→Nat
 | 0=>0
 | k+1=>if 0<A2 (l.getD k x0).proc p then KU l p k else k+1
def Xs(p:Proc)(cost:Int):Pcs:=⟨p,cost,Cp,false,Df,0,0⟩
def Yy(l:List Pcs)(x:Pcs):List Pcs:=mid l (KU l x.proc l.length) x
def Io(w:Work)(p:Proc)(cost:Int):Work × Int :=
 if !p.ok||(decide (cost<1)||decide (1000<cost)) then (w,1) else if 0≤Es w.procs p then (w,11) else if w.procs.length=8 then (w,4) else ({ w with procs:=Yy w.procs (Xs p cost) },0)
theorem f117_ok(w:Work)(p:Proc)(cost:Int)(hp:w.procs.length≤1000000):Ac C0 117 [.ptr 63 0,.agg p.c,I cost] [(63,w.c)] (I (Io w p cost).2) [(63,(Io w p cost).1.c)]:=by
 refine Ac.go f117 ?_
 unfold f117
 refine gO ?_
 refine Aa (f105_ok p) ?_
 cases h1:(!p.ok||(decide (cost<1)||decide (1000<cost)))
 rotate_left
 ·have ht:Io w p cost=(w,1):=by simp only[Io,h1];rfl
  rw[ht]
  cases a1:p.ok
  ·simp(disch:=omega)only[go_sem,Bool.not_false]
   refine BU ⟨[(0,0),(1,1)],[(63,63)],[]⟩ _ ?_ ?_
   ·exact gI
   ·exact gI
  cases a2:decide (cost<1)
  ·rw[a1,a2]at h1
   simp only[Bool.not_true,Bool.false_or]at h1
   simp(disch:=omega)only[go_sem,Bool.not_true,a2,h1]
   refine BU ⟨[(0,0),(1,1)],[(63,63)],[]⟩ _ ?_ ?_
   ·exact gI
   ·exact gI
  ·simp(disch:=omega)only[go_sem,Bool.not_true,a2]
   refine BU ⟨[(0,0),(1,1)],[(63,63)],[]⟩ _ ?_ ?_
   ·exact gI
   ·exact gI
 obtain⟨a1,a2,a3⟩:p.ok=true∧decide (cost<1)=false∧decide (1000<cost)=false:=by simpa using h1
 simp(disch:=omega)only[go_sem,a1,a2,a3,Bool.not_true]
 refine Aj 6 [([],[0]),([],[21]),([],[22]),([],[23]),([],[24]),([],[4])] fol ?_
 refine gO ?_
 refine Dr [0] (f69_ok w.procs p) (by simp(disch:=omega)only[go_sem]) rfl trivial ?_
 refine gO ?_
 by_cases h2:0≤Es w.procs p
 ·have ht:Io w p cost=(w,11):=by simp only[Io,h1,h2];rfl
  rw[ht]
  simp(disch:=omega)only[go_sem,eq_true h2,decide_true]
  refine BU ⟨[(0,0),(1,1)],[(63,63)],[]⟩ _ ?_ ?_
  ·exact gI
  ·exact gI
 simp(disch:=omega)only[go_sem,eq_false h2,decide_false,length_map]
 by_cases h3:w.procs.length=8
 ·have ht:Io w p cost=(w,4):=by simp only[Io,h1,h2,h3];rfl
  rw[ht]
  have h3':decide ((w.procs.length:Int)=8)=true:=by simp;omega
  have h3'':((w.procs.length:Int)==8)=true:=by simp;omega
  simp(disch:=omega)only[go_sem,h3',h3'']
  refine BU ⟨[(0,0),(1,1)],[(63,63)],[]⟩ _ ?_ ?_
  ·exact gI
  ·exact gI
 have ht:Io w p cost=({ w with procs:=Yy w.procs (Xs p cost) },0):=by
  simp only[Io,h1,h2,h3]
  rfl
 rw[ht]
 have h3':decide ((w.procs.length:Int)=8)=false:=by simp;omega
 have h3'':((w.procs.length:Int)==8)=false:=by simp;omega
 simp(disch:=omega)only[go_sem,h3',h3'']
 refine Aj 9 [([],[0]),([],[36]),([],[37]),([],[38]),([],[39]),([],[4]),([],[2]),([],[41,42]),([],[43])] fol ?_
 refine gO ?_
 obtain⟨x,hx⟩:∃ x,x=Xs p cost:=⟨_,rfl⟩
 have hxp:x.proc=p:=by rw[hx];rfl
 refine Ab (α:=Nat) (fun k=>⟨[(8,I k),(7,.sl (.own 2880 0) 16 ((mid w.procs k x).map Pcs.c)),(0,.ptr 63 0)],[(63,[I w.now,At w.queues,.undef,.sl (.own 1 0) 7 (w.evs.map Ev.c)])]⟩) (fun k=>k≤w.procs.length∧KU w.procs p w.procs.length=KU w.procs p k) (fun k=>k) w.procs.length ⟨Nat.le_refl _,rfl⟩ (Imp.weak ?_ ?_) ?_
 ·simp(disch:=omega)only[go_sem]
  all_goals(try(repeat'(with_reducible apply And.intro)))
  all_goals(first|exact .int (by omega)|skip)
  have em:mid w.procs w.procs.length x=w.procs++[x]:=by simp[mid]
  rw[em,List.map_append]
  refine .YJ (FF.append _ ?_)
  simp only[hx,Xs,Cp,Df,e0,a0,Expr.k,Expr.atom,Expr.kids,map_cons,List.map_nil,Pcs.c,FF,ID,TT]
  simp
 ·exact gI
 rintro k ⟨hk,hs⟩ J hJ
 have fin:KU w.procs p k=k→mid w.procs k x=Yy w.procs (Xs p cost):=fun hst=>by
  rw[← hx]
  unfold Yy
  rw[hxp,hs,hst]
 refine Aj 14 [([],[8]),([],[49]),([],[50]),([],[7,51]),([],[8,51]),([],[53,51]),([],[52,54,51]),([],[55,51]),([],[56,51]),([],[7,51]),([],[8,51]),([],[58,59,51]),([],[60,51]),([],[61,51])] fol ?_
 cases k with
 | zero =>
  have e0:(0<((0:Nat):Int))=False:=by simp
  simp(disch:=omega)only[go_sem,e0,decide_false]
  rw[fin rfl]
  refine BU ⟨[(2880,0),(1,1)],[(63,63)],[]⟩ _ ?_ ?_
  ·exact gI
  ·exact gI
 | succ k =>
  have e0:(0<(((k+1:Nat)):Int))=True:=eq_true (by omega)
  have e1:(0<(k:Int)+1)=True:=eq_true (by omega)
  have e2:((k:Int)+1-1)=(k:Int):=by omega
  obtain⟨y,hy⟩:∃ y,w.procs[k]?=some y:=⟨_,gE (by omega)⟩
  have g1:=U4 w.procs (k+1) x hk
  have g2:=Tc w.procs k x hk
  rw[hy]at g2
  have hml:=RM w.procs (k+1) x hk
  have z1:k<(mid w.procs (k+1) x).length:=by omega
  have z2:k+1<(mid w.procs (k+1) x).length:=by omega
  simp(disch:=omega)only[go_sem,e0,e1,e2,gm,g1,g2,length_map,hml]
  refine Aa (f107_ok y.proc x.proc) ?_
  rw[hxp]
  have e4:(k=k+1)=False:=eq_false (by omega)
  have e5:(k+1=k)=False:=eq_false (by omega)
  cases hc:decide (0<A2 y.proc p)
  ·have hst:KU w.procs p (k+1)=k+1:=by
    simp only[KU,List.getD,hy,getD_some]
    rw[if_neg (by simpa using hc)]
   simp(disch:=omega)only[go_sem,hc]
   rw[fin hst]
   refine BU ⟨[(2880,0),(1,1)],[(63,63)],[]⟩ _ ?_ ?_
   ·exact gI
   ·exact gI
  ·have hst:KU w.procs p (k+1)=KU w.procs p k:=by
    simp only[KU,List.getD,hy,getD_some]
    rw[if_pos (by simpa using hc)]
   simp(disch:=omega)only[go_sem,hc,e2,gm,g1,g2,length_map,hml,List.length_set,List.getElem?_set,e4,e5]
   refine hJ _ k ⟨by omega,by rw[hs,hst]⟩ (by omega) (Imp.weak ?_ (by simp(disch:=omega)only[go_sem]))
   refine gO ?_
   refine .sl ?_
   rw[← Td hy,map_set,map_set]
   rfl
theorem O4(a b:UInt8)(x y:Bs):Dg (a::x) (b::y)=(decide (a<b)||(a==b&&Dg x y)):=by
 simp[Dg,Op.bytesLess]
theorem MU(x:Bs):Dg x []=false:=by cases x<;>simp[Dg,Op.bytesLess]
theorem LZ:∀ n:Bs,Dg n n=false
 |[]=>MU []
 | a::x=>by rw[O4,LZ x];simp
theorem NJ:∀ {a b c:Bs},Dg a b=true→Dg b c=true→Dg a c=true
 | a,[],c,h,_=>by rw[MU]at h;cases h
 | a,b::y,[],_,h=>by rw[MU]at h;cases h
 |[],b::y,c::z,_,_=>by simp[Dg,Op.bytesLess]
 | a::x,b::y,c::z,h1,h2=>by
  rw[O4,Bool.or_eq_true,and_eq_true,decide_eq_true_eq,beq_iff_eq]at h1 h2 ⊢
  rcases h1 with h1|⟨rfl,h1⟩
  ·rcases h2 with h2|⟨rfl,_⟩
   ·exact .inl (UInt8.lt_trans h1 h2)
   ·exact .inl h1
  ·rcases h2 with h2|⟨rfl,h2⟩
   ·exact .inl h2
   ·exact .inr ⟨rfl,NJ h1 h2⟩
structure Na(p:Proc)(q q':Queue):Prop where
 val:valid q'=true
 res:q'.res=q.res
 inp:∀ x,inQ q' x→inQ q x∨x=p
 other:∀ y l,y≠p→Kq q y l→Kq q' y l
theorem Na.refl{p:Proc}{q:Queue}(h:valid q=true):Na p q q:=⟨h,rfl,fun _ hx=>.inl hx,fun _ _ _ hk=>hk⟩
theorem Ix{p:Proc}{q q1:Queue}(h:Sound q1)(hr:q1.res=q.res)(hi:∀ x,inQ q1 x→inQ q x∨x=p)(ho:∀ y,y≠p→Ao q1 y=Ao q y∧Ap q1.holds y=Ap q.holds y):Na p q (EH q1) where
 val:=VK h
 res:=(Yo q1).trans hr
 inp:=fun x hx=>hi x ((Rv q1 x).1 hx)
 other:=fun y l hy hk=>by
  refine WU h ?_
  obtain⟨a,b⟩:=ho y hy
  unfold Kq at hk ⊢
  rw[a,b,hr];exact hk
theorem Wx{q:Queue}{p y:Proc}(h:y≠p):Ao (D9 q p) y=Ao q y:=by
 unfold Ao D9
 simp only[List.find?_append,Jf h]
theorem PC(q:Queue)(p:Proc):Ao (D9 q p) p=none:=by
 unfold Ao D9
 simp only[List.find?_append,OQ,or_none,Option.map_none]
theorem SQ{q:Queue}{p x:Proc}(h:inQ (D9 q p) x):inQ q x:=by
 rcases h with h|⟨w,h,h2⟩|⟨w,h,h2⟩
 ·exact .inl h
 ·simp only[D9,A8,List.mem_filter]at h
  exact .inr (.inl ⟨w,h.1,h2⟩)
 ·simp only[D9,A8,List.mem_filter]at h
  exact .inr (.inr ⟨w,h.1,h2⟩)
theorem Rm{q:Queue}{p:Proc}(hv:valid q=true)(hw:(Ao q p).isSome=true):(Bp q p).2.2=0∧Na p q (Bp q p).1∧Ao (Bp q p).1 p=none∧Ap (Bp q p).1.holds p=Ap q.holds p:=by
 have hs:=((CF q).1 hv).1
 have e:Bp q p=(EH (D9 q p),(BD (D9 q p)).2,0):=by simp[Bp,hv,hw]
 rw[e]
 obtain⟨a,b⟩:=SE (PC q p)
 exact⟨rfl,Ix (NQ hs p) rfl (fun x hx=>.inl (SQ hx)) (fun y hy=>⟨Wx hy,rfl⟩),a,b⟩
theorem ZK{q:Queue}{p x:Proc}{a:Amt}(h:∃ y∈BQ q.holds p a,y.proc=x):(∃ y∈q.holds,y.proc=x)∨x=p:=by
 obtain⟨y,hy,hx⟩:=h
 unfold BQ at hy
 split at hy
 ·simp[Az]at hy
  exact .inl ⟨y,hy.1,hx⟩
 ·simp only[mem_append,List.mem_cons]at hy
  rcases hy with hy|rfl|hy
  ·have:=List.mem_of_mem_take hy
   simp[Az]at this
   exact .inl ⟨y,this.1,hx⟩
  ·exact .inr hx.symm
  ·have:=List.mem_of_mem_drop hy
   simp[Az]at this
   exact .inl ⟨y,this.1,hx⟩
theorem UZ{q:Queue}{p x:Proc}{a:Amt}(h:inQ (IX q p a) x):inQ q x∨x=p:=by
 rcases h with h|h|h
 ·rcases ZK h with h|h
  ·exact .inl (.inl h)
  ·exact .inr h
 ·exact .inl (.inr (.inl h))
 ·exact .inl (.inr (.inr h))
theorem S6{q:Queue}{p:Proc}{a:Amt}(hv:valid q=true)(hz:(Ap q.holds p).zero=false)(hw:Ao q p=none)(hc:q.res.covers (Ap q.holds p) a=true):(Bl q p a).2.2=0∧Na p q (Bl q p a).1∧Ao (Bl q p a).1 p=none∧Ap (Bl q p a).1.holds p=a:=by
 have hs:=((CF q).1 hv).1
 by_cases he:Ap q.holds p=a
 ·have e:Bl q p a=(q,[],0):=by
   unfold Bl
   rw[if_neg (by simp[hv]),if_neg (by simp[hz]),if_neg (by simp[hw]),if_neg (by simp[hc]),if_pos (by simp[he])]
  rw[e]
  exact⟨rfl,.refl hv,hw,he⟩
 ·have e:Bl q p a=(EH (IX q p a),(BD (IX q p a)).2,0):=by
   unfold Bl
   rw[if_neg (by simp[hv]),if_neg (by simp[hz]),if_neg (by simp[hw]),if_neg (by simp[hc]),if_neg (by simp[he])]
  rw[e]
  have hw':Ao (IX q p a) p=none:=hw
  obtain⟨b1,b2⟩:=SE hw'
  refine⟨rfl,Ix (Q5 hs hz hw hc) rfl (fun x hx=>UZ hx) (fun y hy=>⟨rfl,Fm hy⟩),b1,?_⟩
  rw[b2]
  exact KE
theorem Ww{q:Queue}{p y:Proc}{a:Amt}(h:y≠p):Ao (Gz q p a) y=Ao q y:=by
 have hd:decide (p=y)=false:=by simpa using Ne.symm h
 unfold Ao Gz
 simp only[List.find?_append,List.find?_cons,List.find?_nil,hd,or_none]
theorem W2(l:List Wait)(y:Proc):((l.map Ue).find? fun w=>decide (w.proc=y)).map (·.amt)=(l.find? fun w=>decide (w.proc=y)).map (·.amt):=by
 induction l with
 | nil=>rfl
 | cons w l ih =>
  simp only[map_cons,List.find?_cons,show (Ue w).proc=w.proc from rfl]
  cases decide (w.proc=y)
  ·exact ih
  ·rfl
theorem Xy{α β:Type}(f:α→β)(a b:Option α):(a.or b).map f=(a.map f).or (b.map f):=by cases a<;>simp
theorem W3{l:List Wait}{w:Wait}{y:Proc}(h:y≠w.proc):((Ln l w).find? fun x=>decide (x.proc=y)).map (·.amt)=(l.find? fun x=>decide (x.proc=y)).map (·.amt):=by
 have hd:decide (w.proc=y)=false:=by simpa using Ne.symm h
 rw[Tq]
 conv=>rhs;rw[← List.take_append_drop (Eh l w l.length) l]
 simp only[List.find?_append,List.find?_cons,hd,Xy,W2]
theorem Wy{q:Queue}{p y:Proc}{a:Amt}{prio:Int}(h:y≠p):Ao (HA q p a prio) y=Ao q y:=by
 unfold Ao HA
 simp only[List.find?_append,Xy,W3 (w:=⟨p,a,prio,0⟩) h]
theorem Xb{q:Queue}{p x:Proc}{a:Amt}(h:inQ (Gz q p a) x):inQ q x∨x=p:=by
 rcases h with h|⟨w,h,h2⟩|h
 ·exact .inl (.inl h)
 ·simp only[Gz,mem_append,List.mem_singleton]at h
  rcases h with h|rfl
  ·exact .inl (.inr (.inl ⟨w,h,h2⟩))
  ·exact .inr h2.symm
 ·exact .inl (.inr (.inr h))
theorem Xc{q:Queue}{p x:Proc}{a:Amt}{prio:Int}(h:inQ (HA q p a prio) x):inQ q x∨x=p:=by
 rcases h with h|h|⟨w,h,h2⟩
 ·exact .inl (.inl h)
 ·exact .inl (.inr (.inl h))
 ·rcases Pq h with rfl|h|⟨y,hy,_,rfl⟩
  ·exact .inr h2.symm
  ·exact .inl (.inr (.inr ⟨w,h,h2⟩))
  ·exact .inl (.inr (.inr ⟨y,hy,h2⟩))
theorem Sq{q:Queue}{p:Proc}{a:Amt}{prio:Int}{l:Amt}(hg:Ap q.holds p=l)(h0:(Bc q p a prio).2.2=0):Na p q (Bc q p a prio).1∧Kq (Bc q p a prio).1 p l:=by
 revert h0
 unfold Bc
 split
 ·intro h;simp at h
 rename_i hv
 have hv:valid q=true:=by simpa using hv
 have hs:=((CF q).1 hv).1
 split
 ·intro h;simp at h
 rename_i hp
 split
 ·intro h;simp at h
 rename_i hp1
 split
 ·intro h;simp at h
 rename_i hp2
 split
 ·intro h;simp at h
 rename_i hf
 split
 ·intro h;simp at h
 rename_i hw
 have hw:Ao q p=none:=E2 (by simpa using hw)
 have hf:q.res.fits a=true:=by simpa using hf
 split
 ·intro _
  exact⟨.refl hv,fun h=>by rw[hw]at h;simp at h,.inl hg⟩
 rename_i hc
 have hc:q.res.covers (Ap q.holds p) a=false:=by simpa using hc
 split
 ·rename_i hz
  have hz:(Ap q.holds p).zero=false:=by simpa using hz
  intro _
  have h1:=Px hs hf hw hz hc
  exact⟨Ix (q1:=Gz q p a) h1 rfl (fun x hx=>Xb hx) (fun y hy=>⟨Ww hy,rfl⟩),WU (q:=Gz q p a) h1 ⟨fun _=>hg,.inl hg⟩⟩
 rename_i hz
 have hz:(Ap q.holds p).zero=true:=by simpa using hz
 split
 ·intro h;simp at h
 rename_i h8
 intro _
 simp only[decide_eq_true_eq]at h8 hp1 hp2
 have h1:=Q6 hs (p:=p) (a:=a) (prio:=prio) (by simpa using hp) ⟨by omega,by omega⟩ hf hw hz (by omega)
 exact⟨Ix (q1:=HA q p a prio) h1 rfl (fun x hx=>Xc hx) (fun y hy=>⟨Wy hy,rfl⟩),WU (q:=HA q p a prio) h1 ⟨fun _=>hg,.inl hg⟩⟩
theorem X1{q:Queue}{p y:Proc}(h:y≠p):Ao (BF q p) y=Ao q y:=by
 unfold Ao BF
 simp only[List.find?_append,Jf h]
theorem QZ{α:Type}:∀ {l:List α} {i:Nat} {z:α},l[i]?=some z→l.set i z=l
 |[],_,_,h=>by simp at h
 | a::l,0,z,h=>by simp at h;simp[h]
 | a::l,i+1,z,h=>by
  simp only[set_cons_succ]
  rw[QZ (by simpa using h)]
theorem RR{q:Queue}(p:Proc)(hv:valid q=true):Na p q (Cq p q).1:=by
 unfold Cq
 cases hq:OW q p
 ·exact .refl hv
 simp only[if_true]
 have hs:=((CF q).1 hv).1
 unfold Ez
 simp only[hv,if_true]
 have hm:AK (Bm q) p=true:=by
  have:p∈Bm q:=by
   rw[Eu]
   unfold OW at hq
   rcases(by simpa using hq:(Ao q p).isSome=true∨(Ap q.holds p).zero=false) with h|h
   ·unfold Ao at h
    simp only[Option.isSome_map,List.find?_isSome,mem_append,decide_eq_true_eq]at h
    obtain⟨w,h1|h1,h2⟩:=h
    ·exact .inr (.inl ⟨w,h1,h2⟩)
    ·exact .inr (.inr ⟨w,h1,h2⟩)
   ·exact .inl (Kp h)
  simpa [AK]using this
 rw[hm]
 simp only[if_true]
 exact Ix (Iw hs p) rfl (fun x hx=>.inl ((Ud q p x).1 hx).1) (fun y hy=>⟨X1 hy,(Fm hy:Ap (BQ q.holds p ⟨0,0⟩) y=Ap q.holds y)⟩)
theorem PX(t:List Queue):BT t=true↔t.length≤8∧(∀ q∈t,valid q=true)∧∀ i,i+1<t.length→Dg (t.getD i q0).res.name (t.getD (i+1) q0).res.name=true:=by
 unfold BT
 simp only[and_eq_true,decide_eq_true_eq,DU,BH,Bool.or_eq_true]
 constructor
 ·rintro⟨h1,h2⟩
  refine⟨h1,fun q hq=>?_,fun i hi=>?_⟩
  ·obtain⟨i,hi⟩:=List.getElem?_of_mem hq
   exact(h2 i q hi).1
  ·have hg:t[i+1]?=some (t[i+1]):=gE hi
   have:=(h2 (i+1) _ hg).2
   simp only[Nat.add_sub_cancel]at this
   rw[show t.getD (i+1) q0=t[i+1] by simp[List.getD,hg]]
   rcases this with h|h
   ·omega
   ·exact h
 ·rintro⟨h1,h2,h3⟩
  refine⟨h1,fun i q hq=>⟨h2 q (mG hq),?_⟩⟩
  cases i with
  | zero=>exact .inl rfl
  | succ i =>
   have:=h3 i (Al hq)
   rw[show t.getD (i+1) q0=q by simp[List.getD,hq]]at this
   exact .inr this
theorem Tw{t t':List Queue}(h:t'.map (·.res)=t.map (·.res))(i:Nat):(t'.getD i q0).res=(t.getD i q0).res:=by
 have:=congrArg (fun l=>l[i]?) h
 simp only[gm]at this
 simp only[List.getD]
 cases h1:t'[i]?<;>cases h2:t[i]?<;>rw[h1,h2]at this<;>simp at this ⊢
 exact this
theorem Fc(t:List Queue)(x:Proc):x∈Aw t↔∃ q∈t,inQ q x:=by
 unfold Aw
 rw[GV,List.mem_flatMap]
 constructor
 ·rintro⟨q,h1,h2⟩;exact⟨q,h1,(Eu q x).1 h2⟩
 ·rintro⟨q,h1,h2⟩;exact⟨q,h1,(Eu q x).2 h2⟩
theorem KL(t:List Queue):(Aw t).Nodup:=FG (Dp _)
structure Ej(t:List Queue):Prop where
 n:t.length≤8
 val:∀ q∈t,valid q=true
 ord:∀ i,i+1<t.length→Dg (t.getD i q0).res.name (t.getD (i+1) q0).res.name=true
 pr:(Aw t).length≤8
theorem GY(t:List Queue):Fy t=true↔Ej t:=by
 unfold Fy
 simp only[and_eq_true,decide_eq_true_eq,PX]
 exact⟨fun⟨⟨a,b,c⟩,d⟩=>⟨a,b,c,d⟩,fun h=>⟨⟨h.n,h.val,h.ord⟩,h.pr⟩⟩
theorem Vg{t t':List Queue}(h:Ej t)(hr:t'.map (·.res)=t.map (·.res))(hv:∀ q∈t',valid q=true)(hp:(Aw t').length≤8):Ej t' where
 n:=by have:=congrArg List.length hr;simp at this;have:=h.n;omega
 val:=hv
 ord:=fun i hi=>by
  have:=congrArg List.length hr
  simp at this
  rw[Tw hr,Tw hr]
  exact h.ord i (by omega)
 pr:=hp
theorem CG{t:List Queue}(h:Ej t):Di t:=by
 refine⟨by have:=h.n;omega,fun q hq=>?_⟩
 have hs:=((CF q).1 (h.val q hq)).1
 have a:=((DD _ _).1 hs.holds).2.1
 have b:=((Bq q).1 hs.convs).1
 have c:=((Cl _).1 ((Bi q).1 hs.waits).1).1
 unfold Br Bo
 omega
structure Fa(p:Proc)(t t':List Queue):Prop where
 tab:Ej t'
 res:t'.map (·.res)=t.map (·.res)
 other:∀ y,y≠p→∀ L:Bs→Amt,(∀ q∈t,Kq q y (L q.res.name))→∀ q∈t',Kq q y (L q.res.name)
theorem Fa.refl{p:Proc}{t:List Queue}(h:Ej t):Fa p t t:=⟨h,rfl,fun _ _ _ hk=>hk⟩
theorem Fa.trans{p:Proc}{t t' t'':List Queue}(h:Fa p t t')(h':Fa p t' t''):Fa p t t'' :=
 ⟨h'.tab,h'.res.trans h.res,fun y hy L hk=>h'.other y hy L (h.other y hy L hk)⟩
theorem Ve{t:List Queue}{i:Nat}{q q':Queue}(hq:t[i]?=some q)(hr:q'.res=q.res):(t.set i q').map (·.res)=t.map (·.res):=by
 rw[map_set,hr]
 exact QZ (by simp[hq])
theorem DE{t:List Queue}{i:Nat}{q q' x:Queue}(h:x∈t.set i q'):x=q'∨∃ j,j≠i∧t[j]?=some x:=by
 obtain⟨j,hj⟩:=List.getElem?_of_mem h
 rw[List.getElem?_set]at hj
 split at hj
 ·split at hj
  ·exact .inl (Option.some.inj hj).symm
  ·cases hj
 ·rename_i hne
  exact .inr ⟨j,fun e=>hne e.symm,hj⟩
theorem M1{t t':List Queue}(h:∀ x,x∈Aw t'→x∈Aw t)(hp:(Aw t).length≤8):(Aw t').length≤8 :=
 Nat.le_trans (DY _ _ (KL t') h) hp
theorem M5{p:Proc}{t:List Queue}{i:Nat}{q q':Queue}(h:Ej t)(hq:t[i]?=some q)(hs:Na p q q')(hp:(∀ x,inQ q' x→inQ q x)∨p∈Aw t∨(Aw t).length<8):Fa p t (t.set i q'):=by
 have hqm:=mG hq
 have hin:∀ x,x∈Aw (t.set i q')→x∈Aw t∨(x=p∧¬ ∀ x,inQ q' x→inQ q x):=fun x hx=>by
  rw[Fc]at hx
  obtain⟨y,hy,hyx⟩:=hx
  rcases DE (q:=q) hy with rfl|⟨j,_,hj⟩
  ·by_cases ha:∀ x,inQ y x→inQ q x
   ·exact .inl ((Fc t x).2 ⟨q,hqm,ha x hyx⟩)
   ·rcases hs.inp x hyx with hb|hb
    ·exact .inl ((Fc t x).2 ⟨q,hqm,hb⟩)
    ·exact .inr ⟨hb,ha⟩
  ·exact .inl ((Fc t x).2 ⟨y,mG hj,hyx⟩)
 refine⟨Vg h (Ve hq hs.res) (fun x hx=>?_) ?_,Ve hq hs.res,fun y hy L hk x hx=>?_⟩
 ·rcases DE (q:=q) hx with rfl|⟨j,_,hj⟩
  ·exact hs.val
  ·exact h.val x (mG hj)
 ·rcases hp with hp|hp|hp
  ·exact M1 (fun x hx=>(hin x hx).elim id fun hx=>absurd hp hx.2) h.pr
  ·exact M1 (fun x hx=>(hin x hx).elim id fun hx=>hx.1▸hp) h.pr
  ·have:=DY (Aw (t.set i q')) (p::Aw t) (KL _) fun x hx=>(hin x hx).elim (fun hx=>by simp[hx]) fun hx=>by simp[hx.1]
   simp at this
   omega
 ·rcases DE (q:=q) hx with rfl|⟨j,_,hj⟩
  ·have:=hs.other y (L q.res.name) hy (hk q hqm)
   rw[hs.res];exact this
  ·exact hk x (mG hj)
theorem KH(n:Bs)(h:Dg n n=true):False:=by
 rw[LZ]at h;cases h
theorem RP{t:List Queue}(h:Ej t):∀ d i,i+d+1<t.length→Dg (t.getD i q0).res.name (t.getD (i+d+1) q0).res.name=true
 | 0,i,hi=>h.ord i hi
 | d+1,i,hi=>NJ (RP h d i (by omega)) (h.ord (i+d+1) (by omega))
theorem JU{t:List Queue}(h:Ej t){i j:Nat}{q q':Queue}(hi:t[i]?=some q)(hj:t[j]?=some q')(hn:q.res.name=q'.res.name):i=j:=by
 have hli:=Al hi
 have hlj:=Al hj
 have ei:t.getD i q0=q:=by simp[List.getD,hi]
 have ej:t.getD j q0=q':=by simp[List.getD,hj]
 rcases Nat.lt_trichotomy i j with hlt|rfl|hlt
 ·obtain⟨d,rfl⟩:∃ d,j=i+d+1:=⟨j-i-1,by omega⟩
  have:=RP h d i hlj
  rw[ei,ej,hn]at this
  exact(KH _ this).elim
 ·rfl
 ·obtain⟨d,rfl⟩:∃ d,i=j+d+1:=⟨i-j-1,by omega⟩
  have:=RP h d j hli
  rw[ei,ej,hn]at this
  exact(KH _ this).elim
theorem SI{t:List Queue}(h:Ej t){i:Nat}{q:Queue}(hi:t[i]?=some q):BR t q.res.name=some i:=by
 unfold BR
 rw[List.findIdx?_eq_some_iff_getElem]
 refine⟨Al hi,by simp[get_eq hi],fun j hj=>?_⟩
 have hlt:=Al hi
 have hg:t[j]?=some (t[j]):=gE (by omega)
 simp only[Bool.not_eq_true,beq_eq_false_iff_ne]
 intro e
 have:=JU h hg hi e
 omega
theorem Ib{t t':List Queue}(h:t'.map (·.res)=t.map (·.res))(n:Bs):BR t' n=BR t n:=by
 have h1:∀ l:List Queue,BR l n=(l.map (·.res)).findIdx? fun r=>r.name==n:=fun l=>by
  unfold BR
  rw[List.findIdx?_map]
  rfl
 rw[h1,h1,h]
theorem Ro{t:List Queue}{p:Proc}{name:Bs}{k:Nat}{q:Queue}(h:Ej t)(hf:BR t name=some k)(hq:t[k]?=some q)(hw:(Ao q p).isSome=true) :
 ∃ q',(Cn t p name).1=t.set k q'∧Fa p t (t.set k q')∧q'.res=q.res∧Ao q' p=none∧Ap q'.holds p=Ap q.holds p:=by
 have hg:t.getD k q0=q:=by simp[List.getD,hq]
 obtain⟨h0,h1,h2,h3⟩:=Rm (h.val q (mG hq)) hw
 refine⟨(Bp q p).1,?_,M5 h hq h1 (.inl fun x hx=>?_),h1.res,h2,h3⟩
 ·simp only[Cn,(GY t).2 h,hf,hg,h0]
  rfl
 ·have hv:=h.val q (mG hq)
  have e:(Bp q p).1=EH (D9 q p):=by simp[Bp,hv,hw]
  rw[e,Rv]at hx
  exact SQ hx
theorem Yx{q:Queue}{p x:Proc}{a:Amt}(hz:(Ap q.holds p).zero=false)(h:inQ (IX q p a) x):inQ q x:=by
 rcases UZ h with h|rfl
 ·exact h
 ·exact .inl (Kp hz)
theorem JT{t:List Queue}{p:Proc}{a:Atom}{k:Nat}{q:Queue}(h:Ej t)(hf:BR t a.name=some k)(hq:t[k]?=some q)(hw:Ao q p=none)(hz:(Ap q.holds p).zero=false)(hc:q.res.covers (Ap q.holds p) a.amt=true) :
 ∃ q',(AT t p a).1=t.set k q'∧Fa p t (t.set k q')∧q'.res=q.res∧Ao q' p=none∧Ap q'.holds p=a.amt:=by
 have hg:t.getD k q0=q:=by simp[List.getD,hq]
 have hv:=h.val q (mG hq)
 obtain⟨h0,h1,h2,h3⟩:=S6 hv hz hw hc
 refine⟨(Bl q p a.amt).1,?_,M5 h hq h1 (.inl fun x hx=>?_),h1.res,h2,h3⟩
 ·simp only[AT,(GY t).2 h,hf,hg,h0]
  rfl
 ·revert hx
  unfold Bl
  simp only[hv,hz,hw,hc,Option.isSome_none,Bool.not_true,false_eq_true,if_false]
  split
  ·exact id
  ·intro hx
   rw[Rv]at hx
   exact Yx hz hx
theorem Sr{t:List Queue}{p:Proc}{a:Atom}{prio:Int}(h:Ej t)(L:Bs→Amt)(hk:∀ q∈t,q.res.name=a.name→Ap q.holds p=L q.res.name) :
 (Ds t p a prio).1=[]∨∃ k q q',BR t a.name=some k∧t[k]?=some q∧q.res.name=a.name∧(Ds t p a prio).1=t.set k q'∧Fa p t (t.set k q')∧q'.res=q.res∧Kq q' p (L q.res.name):=by
 unfold Ds
 simp only[(GY t).2 h,Bool.not_true,false_eq_true,if_false]
 cases hf:BR t a.name with
 |none=>exact .inl rfl
 |some k =>
  obtain⟨hlt,q,hq,hn⟩:=CK hf
  have hg:t.getD k q0=q:=by simp[List.getD,hq]
  simp only[hg]
  split
  ·exact .inl rfl
  rename_i h8
  split
  ·exact .inl rfl
  rename_i h0
  have h0:(Bc q p a.amt prio).2.2=0:=by simpa using h0
  obtain⟨h1,h2⟩:=Sq (hk q (mG hq) hn) h0
  refine .inr ⟨k,q,(Bc q p a.amt prio).1,rfl,hq,hn,rfl,M5 h hq h1 ?_,h1.res,h2⟩
  by_cases hm:p∈Aw t
  ·exact .inr (.inl hm)
  ·refine .inr (.inr ?_)
   have hp:AK (Aw t) p=false:=by simp[AK,hm]
   rw[hp]at h8
   have:=h.pr
   simp at h8
   omega
theorem RS{t:List Queue}(p:Proc)(h:Ej t):Fa p t (BO t p).1:=by
 have e:(BO t p).1=t.map fun q=>(Cq p q).1:=by simp[BO,(GY t).2 h]
 rw[e]
 have hs:=fun q hq=>RR p (h.val q hq)
 have hr:(t.map fun q=>(Cq p q).1).map (·.res)=t.map (·.res):=by
  rw[List.map_map]
  exact List.map_congr_left fun q hq=>(hs q hq).res
 refine⟨Vg h hr (fun x hx=>?_) (M1 (t:=t) (fun x hx=>?_) h.pr),hr,fun y hy L hk x hx=>?_⟩
 ·obtain⟨q,hq,rfl⟩:=mem_map.1 hx
  exact(hs q hq).val
 ·rw[Fc]at hx ⊢
  obtain⟨y,hy,hyx⟩:=hx
  obtain⟨q,hq,rfl⟩:=mem_map.1 hy
  refine⟨q,hq,?_⟩
  revert hyx
  unfold Cq
  cases hh:OW q p
  ·exact id
  ·simp only[if_true]
   unfold Ez
   simp only[h.val q hq,if_true]
   split
   ·intro hyx
    rw[Rv]at hyx
    exact((Ud q p x).1 hyx).1
   ·intro hyx
    rcases hyx with ⟨_,hm,_⟩|⟨_,hm,_⟩|⟨_,hm,_⟩<;>simp[q0]at hm
 ·obtain⟨q,hq,rfl⟩:=mem_map.1 hx
  rw[(hs q hq).res]
  exact(hs q hq).other y _ hy (hk q hq)
end Go.Rd
