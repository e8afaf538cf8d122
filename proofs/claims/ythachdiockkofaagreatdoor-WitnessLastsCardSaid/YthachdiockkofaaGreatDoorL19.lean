/- part 19 of the proof -/
import Derived.Test.YthachdiockkofaaGreatDoorL15
import Derived.Test.YthachdiockkofaaGreatDoorL16
import Derived.Test.YthachdiockkofaaGreatDoorL18
set_option linter.all false
open Go Go.Abs Go.Proofs
set_option maxRecDepth 100000
namespace Go.Rd
set_option maxHeartbeats 8000000
open Bool (and_eq_true)
open Option (getD_none getD_some isSome_none isSome_some toList_some)
open Tryz
structure Wit where
 state:WS
 members:List Ab
 A2:List Cause
@[reducible] def LL(l:List Cause):AV:=.sl .no 6 (l.map Cause.c)
def Wit.c(w:Wit):List AV:=[AB w.state.Aa,Fe w.state.AE,AX w.members,LL w.A2]
attribute [go_sem] Wit.c
def wE:Wit:=⟨wsE,[],[]⟩
def Qp{q:Queue}(h:BG q≤100):q.Ao.length+q.waits.length≤1000000∧q.holds.length≤1000000:=by
 unfold BG BK at h;omega
def HP(s:WS)(c:Cause):Bool:=match s.Aa.find? (fun q=>q.res.name==c.name) with
 |none=>false
 |some q=>(BU q c.proc).isSome&&decide (((BU q c.proc).getD cz).why=c.why)&&decide (((BU q c.proc).getD cz).members=c.members)
def Qy{q:Queue}(h:BG q≤100)(p:Ab):((BU q p).getD cz).members.length≤1000000:=by
 unfold BU;split
 ·simp[cz]
 ·simp only[getD_some,ER];split
  ·have:=X3 q.res p (PT q p) q.holds;have:=Qp h;omega
  ·simp
 ·simp
def f85_ok(s:WS)(c:Cause)(h:Few s):Ad C0 85 [.agg s.c,.agg c.c] [] (B (HP s c)) []:=by
 have h1:=h.nq;refine Ad.go f85 ?_;unfold f85;refine gO ?_;refine Ac (α:=Nat) (fun i=>⟨[(12,I i),(11,I s.Aa.length),(10,AB s.Aa),(3,.ptr 192 0)],[(192,c.c)]⟩) (fun i=>i≤(s.Aa).length∧(s.Aa.take i).find? (fun q=>q.res.name==c.name)=none) (fun i=>(s.Aa).length-i) 0 ⟨by omega,rfl⟩ ?_ ?_
 ·exact B0
 rintro i ⟨hi,hP⟩ J hJ;refine gO ?_;refine gR (l:=s.Aa) hi (fun b hb hbm hlt=>?_) (fun hil=>?_);simp(disch:=omega)only[go_sem,gm,hb]
 ·obtain⟨q1,q2⟩:=Qp (h.aq b hbm);have ql:=Qy (h.aq b hbm) c.proc
  by_cases hn:b.res.name=c.name
  ·have e1:(b.res.name==c.name)=true:=by simp[hn]
   have e:HP s c=((BU b c.proc).isSome&&decide (((BU b c.proc).getD cz).why=c.why)&&decide (((BU b c.proc).getD cz).members=c.members)):=by
    have:s.Aa.find? (fun q=>q.res.name==c.name)=some b:=H2 hP hb e1;simp[HP,this]
   have e2:(b.res.name !=c.name)=false:=by simp[hn]
   rw[e];simp(disch:=omega)only[go_sem,e1,e2,zT];refine Ae (f90_ok b c.proc q1 q2) ?_;generalize (BU b c.proc).getD cz=d at ql;cases hs:(BU b c.proc).isSome
   ·simp(disch:=omega)only[go_sem];exact AQ _
   refine gO ?_
   by_cases hw:d.why=c.why
   rotate_left
   ·have e3:(d.why==c.why)=false:=by simp[hw]
    simp(disch:=omega)only[go_sem,e3];refine As _ ?_;exact wb (by simp[hw])
   have e3:(d.why==c.why)=true:=by simp[hw]
   simp(disch:=omega)only[go_sem,e3];refine Ae (f84_ok d.members c.members ql) ?_;refine gO ?_;refine As _ ?_;exact wb (by simp[hw])
  ·have e1:(b.res.name==c.name)=false:=by simp[hn]
   have e2:(b.res.name !=c.name)=true:=by simp[hn]
   simp(disch:=omega)only[go_sem,e1,e2,zF];refine hJ _ (i+1) ⟨by omega,(by rw[BW hP hb];simp[e1])⟩ (by omega) AT
 ·subst hil;rw[tL]at hP;refine As _ ?_;exact wb (by simp[HP,hP])
def IW(w:Wit)(s:WS):Bool:=decide ((A4 s w.members).2=0)&&Mz (A4 s w.members).1 w.state
def f45_ok(w:Wit)(s:WS)(hw:Few w.state)(h:Few s)(hm:w.members.length≤1000000):Ad C0 45 [.agg w.c,.agg s.c] [] (B (IW w s)) []:=by
 refine Ad.go f45 ?_;unfold f45;refine gO ?_;refine Ae (f32_ok s w.members h hm) ?_;have hf:=H0 h w.members;unfold IW;generalize A4 s w.members=r at hf
 by_cases h0:r.2=0
 ·have e:(r.2==0)=true:=by simp[h0]
  simp(disch:=omega)only[go_sem,e];refine Ae (f89_ok r.1 w.state hf hw) ?_;refine gO ?_;refine As _ ?_;exact wb (by simp[h0])
 ·have e:(r.2==0)=false:=by simp[h0]
  simp(disch:=omega)only[go_sem,e];refine As _ ?_;exact wb (by simp[h0])
@[go_sem] theorem eb:LL []=.sl .no 6 []:=rfl
def EG(p:Ab)(l:List Queue):List Cause:=l.filterMap fun q=>BU q p
def Bv(l:List Queue)(ms:List Ab):List Cause:=ms.flatMap fun p=>EG p l
def TP{p:Ab}{l:List Queue}{i:Nat}{b:Queue}(hb:l[i]?=some b):EG p (l.take (i+1))=EG p (l.take i)++(BU b p).toList:=by
 unfold EG;rw[tA,hb,toList_some,List.filterMap_append];cases h:BU b p<;>simp[h]
def Pj(p:Ab)(l:List Queue):(EG p l).length≤l.length:=List.length_filterMap_le _ _
def TQ{l:List Queue}{ms:List Ab}{i:Nat}{p:Ab}(hb:ms[i]?=some p):Bv l (ms.take (i+1))=Bv l (ms.take i)++EG p l:=by
 unfold Bv;rw[tA,hb,toList_some,List.flatMap_append];simp
def IX(l:List Queue):∀ ms:List Ab,(Bv l ms).length≤ms.length*l.length
 |[]=>by simp[Bv]
 | p::ms=>by
  have h1:=IX l ms;have h2:=Pj p l;unfold Bv at h1 ⊢;simp only[List.flatMap_cons,List.length_append,List.length_cons,Nat.add_mul,Nat.one_mul];omega
def ofS(s:WS)(l:List Ab):Wit × Int :=
 if (A4 s l).2=0 then
  if (Ap (A4 s l).1).length=0∨0<(IU (A4 s l).1).length then (wE,14)
  else (⟨(A4 s l).1,Ap (A4 s l).1,Bv (A4 s l).1.Aa (Ap (A4 s l).1)⟩,0)
 else (wE,(A4 s l).2)
def f46_ok(s:WS)(l:List Ab)(h:Few s)(hl:l.length≤1000000):Ad C0 46 [.agg s.c,AX l] [] (.tup [.agg (ofS s l).1.c,I (ofS s l).2]) []:=by
 have hf:=H0 h l;refine Ad.go f46 ?_;unfold f46;refine gO ?_;refine Ae (f32_ok s l h hl) ?_;unfold ofS;generalize A4 s l=r at hf
 by_cases h0:r.2=0
 rotate_left
 ·have e:(r.2 !=0)=true:=by simp[h0]
  simp(disch:=omega)only[go_sem,e,if_neg h0,wE,wsE];refine As _ ?_;refine .tup (Ai.AR ?_);simp(disch:=omega)only[go_sem]
  repeat'(with_reducible apply And.intro)
  all_goals(first|exact .AJ (by omega)|exact .agg (Ai.AR gI))
 have e:(r.2 !=0)=false:=by simp[h0]
 rw[if_pos h0];obtain⟨x,re⟩:=r;have hf:Few x:=hf;have hpl:=Gj hf;have hq:=hf.nq;simp(disch:=omega)only[go_sem,e];refine Aw 5 [([],[6]),([],[6]),([],[26]),([2],[25,27]),([],[])] fol ?_;refine gO ?_
 first|(refine Ae (f73_ok x hf) ?_)|(refine Av (f73_ok x hf) ?_)
 refine gO ?_
 by_cases h1:(Ap x).length=0
 ·have e1:(((Ap x).length:Int)==0)=true:=by simp[h1]
  simp(disch:=omega)only[go_sem,e1,if_pos (show (Ap x).length=0∨0<(IU x).length from .inl h1),wE,wsE];refine As _ ?_;refine .tup (Ai.AR ?_);simp(disch:=omega)only[go_sem]
  repeat'(with_reducible apply And.intro)
  all_goals(first|exact .AJ (by omega)|exact .agg (Ai.AR gI))
 have e1:(((Ap x).length:Int)==0)=false:=by simp[h1]
 simp(disch:=omega)only[go_sem,e1];refine Ae (f36_ok x hf) ?_
 by_cases h2:0<(IU x).length
 ·have e2:decide (0<((IU x).length:Int))=true:=decide_eq_true (by omega);simp(disch:=omega)only[go_sem,e2,if_pos (show (Ap x).length=0∨0<(IU x).length from .inr h2),wE,wsE];refine As _ ?_;refine .tup (Ai.AR ?_);simp(disch:=omega)only[go_sem]
  repeat'(with_reducible apply And.intro)
  all_goals(first|exact .AJ (by omega)|exact .agg (Ai.AR gI))
 have e2:decide (0<((IU x).length:Int))=false:=decide_eq_false (by omega);rw[if_neg (show ¬((Ap x).length=0∨0<(IU x).length) by omega)];simp(disch:=omega)only[go_sem,e2];generalize Ap x=ms at hpl h1;refine Ac (α:=Nat) (fun i=>⟨[(43,I i),(42,I ms.length),(41,AX ms),(4,.ptr 256 0),(6,.ptr 384 0),(8,.ptr 512 0)],[(256,wE.c),(384,x.c),(512,[AB x.Aa,Fe x.AE,AX ms,.sl (.own 4160 0) 6 ((Bv x.Aa (ms.take i)).map Cause.c)])]⟩) (fun i=>i≤(ms).length∧True) (fun i=>(ms).length-i) 0 ⟨by omega,trivial⟩ ?_ ?_
 ·refine Imp.Ar ?_ ?_
  all_goals(try simp(disch:=omega)only[go_sem])
  all_goals(try(repeat'(with_reducible apply And.intro)))
  all_goals(first|exact .AO (by omega)|exact .AJ (by omega)|exact .sl (by simp[wE,wsE,Bv])|exact .int (by simp[wE,wsE,Bv])|exact .eq (by simp[wE,wsE,Bv]))
 rintro i ⟨hi,hP⟩ J hJ;refine gO ?_;refine ⟨fun hlt=>?_,fun hge=>?_⟩;rotate_left;have hil:i=(ms).length:=by simp at hge;omega
 rotate_left;obtain⟨b,hb⟩:∃ b,(ms)[i]?=some b:=⟨_,gE (by simp at hlt;omega)⟩;have hbm:=mG hb;simp(disch:=omega)only[go_sem,gm,hb]
 ·obtain⟨o,rfl⟩:∃ o,o=i:=⟨i,rfl⟩;have hJo:=hJ;have hbo:=hb;have hlo:o<ms.length:=by simp at hlt;omega
  clear hJ hb hlt;obtain⟨p,rfl⟩:∃ p,p=b:=⟨b,rfl⟩;have n1:=IX x.Aa (ms.take o);have n2:(ms.take o).length≤20000:=by simp;omega
  have n3:(ms.take o).length*x.Aa.length≤20000*100:=Nat.mul_le_mul n2 hq;refine Ac (α:=Nat) (fun i=>⟨[(50,I i),(49,I x.Aa.length),(48,AB x.Aa),(43,I o),(42,I ms.length),(41,AX ms),(4,.ptr 256 0),(6,.ptr 384 0),(8,.ptr 512 0),(10,.ptr 640 0)],[(256,wE.c),(384,x.c),(512,[AB x.Aa,Fe x.AE,AX ms,.sl (.own 4160 0) 6 ((Bv x.Aa (ms.take o)++EG p (x.Aa.take i)).map Cause.c)]),(640,p.c)]⟩) (fun i=>i≤(x.Aa).length∧True) (fun i=>(x.Aa).length-i) 0 ⟨by omega,trivial⟩ ?_ ?_
  ·refine Imp.Ar ?_ ?_
   all_goals(try simp(disch:=omega)only[go_sem])
   all_goals(try(repeat'(with_reducible apply And.intro)))
   all_goals(first|exact .AO (by omega)|exact .AJ (by omega)|exact .sl (by simp[EG])|exact .int (by simp[EG])|exact .eq (by simp[EG]))
  rintro i ⟨hi,hP⟩ J hJ;refine gO ?_;refine ⟨fun hlt=>?_,fun hge=>?_⟩;rotate_left;have hil:i=(x.Aa).length:=by simp at hge;omega
  rotate_left;obtain⟨b,hb⟩:∃ b,(x.Aa)[i]?=some b:=⟨_,gE (by simp at hlt;omega)⟩;have hbm:=mG hb;simp(disch:=omega)only[go_sem,gm,hb]
  ·obtain⟨q1,q2⟩:=Qp (hf.aq b hbm);have n4:=Pj p (x.Aa.take i);have n5:(x.Aa.take i).length≤100:=by simp;omega
   have hbd:(Bv x.Aa (ms.take o)).length+(EG p (x.Aa.take i)).length+1≤4294967296:=by omega
   have nx:=TP (p:=p) hb;refine Ae (f90_ok b p q1 q2) ?_;cases hc:BU b p with
   |none =>
    rw[hc]at nx;simp(disch:=omega)only[go_sem,isSome_none,getD_none,cz];refine hJ _ (i+1) ⟨by simp at hlt;omega,trivial⟩ (by simp at hlt;omega) (Imp.Ar gI ?_);refine gO ?_;exact .sl (by rw[nx];simp)
   |some c =>
    rw[hc]at nx;simp(disch:=omega)only[go_sem,isSome_some,getD_some];refine hJ _ (i+1) ⟨by simp at hlt;omega,trivial⟩ (by simp at hlt;omega) (Imp.Ar gI ?_);refine gO ?_;exact .sl (by rw[nx];simp[Cause.c])
  ·subst hil;refine hJo _ (o+1) ⟨by omega,trivial⟩ (by omega) (Imp.Ar gI ?_);refine gO ?_;exact .sl (by rw[TQ hbo])
 ·subst hil;simp(disch:=omega)only[go_sem,tL];refine CL ⟨[],[],[4160]⟩ _ ?_;simp(disch:=omega)only[go_sem]
def EF(s:WS):Wit × Int:=ofS s (Db s).2
def f41_ok(s:WS)(h:Few s)(hl:(Db s).2.length≤1000000):Ad C0 41 [.agg s.c] [] (.tup [.agg (EF s).1.c,I (EF s).2]) []:=by
 refine Ad.go f41 ?_;unfold f41;refine gO ?_;refine Ae (f19_ok s h) ?_;refine gO ?_;refine Ae (f46_ok s (Db s).2 h hl) ?_;unfold EF;refine gO ?_;exact AQ _
abbrev Pl:=Ab × Bs
def PW(k:Pl):List Value:=[.int .i64 k.1.site,.int .i64 k.1.inc,.int .i64 k.1.num,.string (str k.2)]
def mpC:List Pl→List AV
 |[]=>[]
 | k::l=>.agg (vals (PW k))::B true::mpC l
@[go_sem] theorem dr:mpC []=[]:=rfl
def Ym:∀ l m,mpC (l++m)=mpC l++mpC m
 |[],m=>rfl
 | k::l,m=>by simp[mpC,Ym l m]
@[go_sem] theorem bt(S T:List Nat):∀ l,EC S T (mpC l)=mpC l
 |[]=>rfl
 | k::l=>by simp[mpC,EC,AV.kill,PW,vals,bt S T l]
@[go_sem] theorem dq(S:List Nat):∀ l,Cc S (mpC l)=mpC l
 |[]=>rfl
 | k::l=>by simp[mpC,Cc,AV.freeze,PW,vals,dq S l]
def Yh(a b:Pl):Bo [1,1,1,2] (PW a) (PW b)=some (decide (a=b)):=by
 obtain⟨⟨x,y,z⟩,n⟩:=a;obtain⟨⟨x',y',z'⟩,n'⟩:=b;simp only[PW,Bo,if_true,Option.map_some,zO,RI];refine Bool.eq_iff_iff.2 ?_;simp[and_assoc]
def L1(k:Pl):Ko true (.agg (vals (PW k)))=some (PW k):=by
 simp[Ko,vals,PW,Ew]
def QS(k:Pl):∀ l:List Pl,∃ r,Iw true [1,1,1,2] (PW k) (mpC l)=some r∧((k∈l∧∃ j,r=some (j,B true))∨(k∉l∧r=none))
 |[]=>⟨none,rfl,.inr ⟨by simp,rfl⟩⟩
 | k'::l=>by
  obtain⟨r,h1,h2⟩:=QS k l
  by_cases h:k=k'
  ·refine⟨some (0,B true),?_,.inl ⟨by simp[h],0,rfl⟩⟩;simp[mpC,Iw,L1,Yh,h]
  ·refine⟨r.map fun p=>(p.1+1,p.2),?_,?_⟩
   ·simp[mpC,Iw,L1,Yh,h,h1]
   ·rcases h2 with ⟨h3,j,rfl⟩|⟨h3,rfl⟩
    ·exact .inl ⟨by simp[h3],j+1,rfl⟩
    ·exact .inr ⟨by simp[h,h3],rfl⟩
def zM4:WM prog 4=some (B false):=by
 have h:zeroV prog 4=some (.bool false):=kR;simp[WM,h,Value.oneCell']
@[go_sem] theorem jI(l:List Pl)(p:Ab)(name:Bs):L2 prog 137 (mpC l) (.agg [.v (.int .i64 p.site),.v (.int .i64 p.inc),.v (.int .i64 p.num),.v (.string (str name))])=some (B (decide ((p,name)∈l))):=by
 have hk:=L1 (p,name);have he:=Yh (p,name) (p,name);obtain⟨r,h1,h2⟩:=QS (p,name) l;unfold L2;simp only[F.eE];rw[show (AV.agg [.v (.int .i64 p.site),.v (.int .i64 p.inc),.v (.int .i64 p.num),.v (.string (str name))])=.agg (vals (PW (p,name))) from rfl,hk];simp only[he,isSome_some,if_true,h1];rcases h2 with ⟨h3,j,rfl⟩|⟨h3,rfl⟩
 ·simp[h3]
 ·simp[h3,zM4]
def fA{l:List Pl}{p:Ab}{name:Bs}(h:(p,name)∉l):LZ prog 137 (mpC l) (.agg [.v (.int .i64 p.site),.v (.int .i64 p.inc),.v (.int .i64 p.num),.v (.string (str name))]) (B true)=some (mpC (l++[(p,name)])):=by
 have hk:=L1 (p,name);have he:=Yh (p,name) (p,name);obtain⟨r,h1,h2⟩:=QS (p,name) l;unfold LZ;simp only[F.eE];rw[show (AV.agg [.v (.int .i64 p.site),.v (.int .i64 p.inc),.v (.int .i64 p.num),.v (.string (str name))])=.agg (vals (PW (p,name))) from rfl,hk];simp only[he,isSome_some,if_true,h1];rcases h2 with ⟨h3,_⟩|⟨_,rfl⟩
 ·exact absurd h3 h
 ·rw[Ym];rfl
attribute [go_sem] nmM
def place(c:Cause):Pl:=(c.proc,c.name)
def l1(s:WS):List Pl→List Cause→Bool
 |_,[]=>true
 | seen,c::cs=>!decide (place c∈seen)&&HP s c&&l1 s (seen++[place c]) cs
def l2(all:List Pl)(cs:List Cause):Bool:=cs.all fun c=>!(decide (c.why=2)&&!decide ((c.members.headD ⟨0,0,0⟩,c.name)∈all))
def Lo(s:WS)(all:List Pl)(p:Ab):Bool:=match NO s p with
 |none=>false
 |some n=>QZ n.expr ((Ag n.expr).map fun a=>decide ((p,a.name)∈all))
def D6(w:Wit):Int :=
 if Bj w.state=true∧w.members=Ap w.state then
  if l1 w.state [] w.A2=true∧l2 (w.A2.map place) w.A2=true∧w.members.all (Lo w.state (w.A2.map place))=true then 0 else 17
 else 2
def VB{s:WS}:∀ {seen:List Pl} {cs:List Cause},l1 s seen cs=true→∀ c∈cs,HP s c=true
 |_,[],_,c,h=>by cases h
 | seen,d::cs,h,c,hc=>by
  simp only[l1,and_eq_true]at h;rcases List.mem_cons.1 hc with rfl|hc
  ·exact h.1.2
  ·exact VB h.2 c hc
def ZF{s:WS}{c:Cause}(h:HP s c=true)(hw:c.why=2):∃ x,c.members=[x]:=by
 unfold HP at h;split at h
 ·cases h
 ·rename_i q _;simp only[and_eq_true,zD]at h;obtain⟨⟨h1,h2⟩,h3⟩:=h;rw[hw]at h2;cases hk:(G4 q).findIdx? (fun x=>decide (x=c.proc)) with
  |none=>simp[BU,hk]at h1
  |some k =>
   cases k with
   | zero=>simp[BU,hk]at h2
   | succ k =>
    simp[BU,hk]at h3;exact⟨_,h3.symm⟩
def Qq{α:Type}{f:α→Bool}{l:List α}{i:Nat}{b:α}(hb:l[i]?=some b)(h:(l.take i).all f=true)(hf:f b=true):(l.take (i+1)).all f=true:=by
 rw[tA,hb,toList_some,List.all_append,h];simp[hf]
def TJ{α:Type}{f:α→Bool}{l:List α}{b:α}(hm:b∈l)(hf:f b=false):l.all f=false:=by
 rw[List.all_eq_false];exact⟨b,hm,by simp[hf]⟩
def f44_ok(w:Wit)(hw:Few w.state)(hml:w.members.length≤1000000)(hcl:w.A2.length≤1000000):Ad C0 44 [.agg w.c] [] (I (D6 w)) []:=by
 refine Ad.go f44 ?_;unfold f44;refine gO ?_;refine Aw 10 [([],[1]),([],[16]),([],[17]),([2],[18]),([2],[19]),([2],[1,20]),([2],[21,20]),([2],[1,20]),([2],[23,20]),([2],[24,20])] fol ?_;refine gO ?_
 first|(refine Ae (f54_ok w.state hw) ?_)|(refine Av (f54_ok w.state hw) ?_)
 cases hv:Bj w.state
 ·have e:D6 w=2:=by simp[D6,hv]
  simp(disch:=omega)only[go_sem,e];exact AQ _
 refine gO ?_
 first|(refine Ae (f73_ok w.state hw) ?_)|(refine Av (f73_ok w.state hw) ?_)
 refine gO ?_
 first|(refine Ae (f84_ok w.members (Ap w.state) hml) ?_)|(refine Av (f84_ok w.members (Ap w.state) hml) ?_)
 by_cases hmem:w.members=Ap w.state
 rotate_left
 ·have e:D6 w=2:=by simp[D6,hmem]
  simp(disch:=omega)only[go_sem,e,hmem,decide_false];exact AQ _
 simp(disch:=omega)only[go_sem,hmem,decide_true];rw[← hmem];have ev:D6 w=if l1 w.state [] w.A2=true∧l2 (w.A2.map place) w.A2=true∧w.members.all (Lo w.state (w.A2.map place))=true then 0 else 17:=by
  unfold D6;rw[if_pos ⟨hv,hmem⟩]
 refine Ac (α:=Nat) (fun i=>⟨[(33,I i),(32,I w.A2.length),(31,LL w.A2),(1,.ptr 64 0),(3,.mp 1918)],[(64,w.c),(1918,mpC ((w.A2.take i).map place))]⟩) (fun i=>i≤(w.A2).length∧l1 w.state [] w.A2=l1 w.state ((w.A2.take i).map place) (w.A2.drop i)) (fun i=>(w.A2).length-i) 0 ⟨by omega,(by simp)⟩ ?_ ?_
 ·refine Imp.Ar ?_ ?_
  all_goals(try simp(disch:=omega)only[go_sem,List.take_zero,List.map_nil,dr])
  all_goals(try(repeat'(with_reducible apply And.intro)))
  all_goals(first|exact .AO (by omega)|exact .AJ (by omega)|exact .sl (by simp[place])|exact .int (by simp[place])|exact .eq (by simp[place]))
 rintro i ⟨hi,hP⟩ J hJ;refine gO ?_;refine ⟨fun hlt=>?_,fun hge=>?_⟩;rotate_left;have hil:i=(w.A2).length:=by simp at hge;omega
 rotate_left;obtain⟨b,hb⟩:∃ b,(w.A2)[i]?=some b:=⟨_,gE (by simp at hlt;omega)⟩;have hbm:=mG hb;simp(disch:=omega)only[go_sem,gm,hb]
 ·have hd:w.A2.drop i=b::w.A2.drop (i+1):=by
   have hlt2:i<w.A2.length:=by simp at hlt;omega
   rw[List.drop_eq_getElem_cons hlt2];rw[gE hlt2]at hb;injection hb with hb
   rw[hb]
  rw[hd]at hP;simp only[l1]at hP;have hnext:(w.A2.take (i+1)).map place=(w.A2.take i).map place++[(b.proc,b.name)]:=by
   rw[tA,hb];simp[place]
  have hpl:place b=(b.proc,b.name):=rfl;cases hs:decide ((b.proc,b.name)∈(w.A2.take i).map place);rotate_left
  ·have e:D6 w=17:=by rw[ev,if_neg];rw[hP,hpl,hs];simp
   simp(disch:=omega)only[go_sem,hs,e];exact AQ _
  simp(disch:=omega)only[go_sem,hs];refine Ae (f85_ok w.state b hw) ?_;cases hr:HP w.state b
  ·have e:D6 w=17:=by rw[ev,if_neg];rw[hP,hr];simp
   simp(disch:=omega)only[go_sem,e];exact AQ _
  have hni:(b.proc,b.name)∉(w.A2.take i).map place:=by simpa using hs
  simp(disch:=omega)only[go_sem,fA hni];refine hJ _ (i+1) ⟨by simp at hlt;omega,by rw[hP,hpl,hs,hr,hnext];rfl⟩ (by simp at hlt;omega) (Imp.Ar gI ?_);simp(disch:=omega)only[go_sem,hnext]
 subst hil;rw[tL,List.drop_length]at hP;simp only[l1]at hP;simp(disch:=omega)only[go_sem,tL];have hright:=VB hP;clear hJ;generalize hall:w.A2.map place=all at ev;have ev2:D6 w=if l2 all w.A2=true∧w.members.all (Lo w.state all)=true then 0 else 17:=by
  rw[ev];simp only[hP,true_and]
 refine Ac (α:=Nat) (fun i=>⟨[(58,I i),(57,I w.A2.length),(56,LL w.A2),(1,.ptr 64 0),(3,.mp 1918)],[(64,w.c),(1918,mpC all)]⟩) (fun i=>i≤(w.A2).length∧l2 all (w.A2.take i)=true) (fun i=>(w.A2).length-i) 0 ⟨by omega,rfl⟩ ?_ ?_
 ·exact B0
 rintro i ⟨hi,hP⟩ J hJ;refine gO ?_;refine ⟨fun hlt=>?_,fun hge=>?_⟩;rotate_left;have hil:i=(w.A2).length:=by simp at hge;omega
 rotate_left;obtain⟨b,hb⟩:∃ b,(w.A2)[i]?=some b:=⟨_,gE (by simp at hlt;omega)⟩;have hbm:=mG hb;simp(disch:=omega)only[go_sem,gm,hb]
 ·by_cases hwy:b.why=2
  rotate_left
  ·have e1:(b.why==2)=false:=by simp[hwy]
   have hf:l2 all (w.A2.take (i+1))=true:=Qq hb hP (by simp[hwy]);refine Dg 32767 [(0,1,0),(1,2,1),(2,4,2),(3,8,4),(4,16,8),(5,32,8),(6,64,40),(7,128,72),(8,256,136),(9,512,8),(10,1024,520),(11,2048,1288),(12,4096,2072),(13,8192,4104),(14,16384,8200)] [0,1,3,7,15,31,47,527,63,543,111,559,1551,127,575,1567,239,623,1583,255,639,1599,495,751,1647,511,767,1663,1007,1775,1023,1791,2031,2047,4079,4095,8191,16383,32767] (fun m=>⟨sel m [(1,62,.ptr 512 4),(2,63,I b.why),(4,64,B false),(8,65,B false),(16384,76,B false)]++[(58,I i),(57,I w.A2.length),(56,LL w.A2),(1,.ptr 64 0),(3,.mp 1918),(8,.ptr 512 0)],[(64,w.c),(1918,mpC all),(512,b.c)]⟩) ?_ ?_ ?_ fol
   ·exact Imp.Ar gI gI
   ·simp (maxSteps:=100000000)only[Df,De,DY,DX,and_true,Nat.reduceDiv,Nat.reduceMod,Nat.reduceAnd,Nat.reduceEqDiff,reduceIte,true_and,and_false,false_and,and_self]
    repeat'(with_reducible refine And.intro ?_ ?_)
    all_goals simp(disch:=omega)only[go_sem,e1]
    all_goals exact Imp.Ar (by simp(disch:=omega)only[go_sem,e1]) gI
   ·simp(disch:=omega)only[go_sem];refine hJ _ (i+1) ⟨by simp at hlt;omega,hf⟩ (by simp at hlt;omega) AT
  ·obtain⟨x,hx⟩:=ZF (hright b hbm) hwy;have e1:(b.why==2)=true:=by simp[hwy]
   have hx0:b.members[0]?=some x:=by rw[hx];rfl
   have hxl:0<b.members.length:=by rw[hx];simp
   have hhd:b.members.headD ⟨0,0,0⟩=x:=by rw[hx];rfl
   refine Dg 32767 [(0,1,0),(1,2,1),(2,4,2),(3,8,4),(4,16,8),(5,32,8),(6,64,40),(7,128,72),(8,256,136),(9,512,8),(10,1024,520),(11,2048,1288),(12,4096,2072),(13,8192,4104),(14,16384,8200)] [0,1,3,7,15,31,47,527,63,543,111,559,1551,127,575,1567,239,623,1583,255,639,1599,495,751,1647,511,767,1663,1007,1775,1023,1791,2031,2047,4079,4095,8191,16383,32767] (fun m=>⟨sel m [(1,62,.ptr 512 4),(2,63,I b.why),(4,64,B true),(8,65,B true),(16,66,.mp 1918),(32,67,.ptr 512 5),(64,68,AX b.members),(128,69,.ep .no 0 x.c 0),(256,70,.agg x.c),(512,71,.ptr 512 3),(1024,72,.v (.string (str b.name))),(2048,73,.agg (x.c++[.v (.string (str b.name))])),(4096,74,B (decide ((x,b.name)∈all))),(8192,75,B (!decide ((x,b.name)∈all))),(16384,76,B (!decide ((x,b.name)∈all)))]++[(58,I i),(57,I w.A2.length),(56,LL w.A2),(1,.ptr 64 0),(3,.mp 1918),(8,.ptr 512 0)],[(64,w.c),(1918,mpC all),(512,b.c)]⟩) ?_ ?_ ?_ fol
   ·exact Imp.Ar gI gI
   ·simp (maxSteps:=100000000)only[Df,De,DY,DX,and_true,Nat.reduceDiv,Nat.reduceMod,Nat.reduceAnd,Nat.reduceEqDiff,reduceIte,true_and,and_false,false_and,and_self]
    repeat'(with_reducible refine And.intro ?_ ?_)
    all_goals simp(disch:=omega)only[go_sem,e1,gm,hx0]
    all_goals exact Imp.Ar (by simp(disch:=omega)only[go_sem,e1]) gI
   ·cases hin:decide ((x,b.name)∈all)
    ·have e:D6 w=17:=by
      rw[ev2,if_neg];have:l2 all w.A2=false:=TJ hbm (by rw[hhd,hin,hwy];rfl);simp[this]
     simp(disch:=omega)only[go_sem,e];exact AQ _
    ·have hf:l2 all (w.A2.take (i+1))=true:=Qq hb hP (by rw[hhd,hin];simp);refine gO ?_;refine hJ _ (i+1) ⟨by simp at hlt;omega,hf⟩ (by simp at hlt;omega) AT
 subst hil;rw[tL]at hP;have ev3:D6 w=if w.members.all (Lo w.state all)=true then 0 else 17:=by
  rw[ev2];simp only[hP,true_and]
 clear hJ;have hex:=N4 hv;refine Ac (α:=Nat) (fun i=>⟨[(81,I i),(80,I w.members.length),(79,AX w.members),(1,.ptr 64 0),(3,.mp 1918)],[(64,w.c),(1918,mpC all)]⟩) (fun i=>i≤(w.members).length∧(w.members.take i).all (Lo w.state all)=true) (fun i=>(w.members).length-i) 0 ⟨by omega,rfl⟩ ?_ ?_
 ·exact B0
 rintro i ⟨hi,hP⟩ J hJ;refine gO ?_;refine ⟨fun hlt=>?_,fun hge=>?_⟩;rotate_left;have hil:i=(w.members).length:=by simp at hge;omega
 rotate_left;obtain⟨b,hb⟩:∃ b,(w.members)[i]?=some b:=⟨_,gE (by simp at hlt;omega)⟩;have hbm:=mG hb;simp(disch:=omega)only[go_sem,gm,hb]
 ·refine Ae (f86_ok w.state b hw hex) ?_;cases hn:NO w.state b with
  |none =>
   have e:D6 w=17:=by
    rw[ev3,if_neg];rw[TJ hbm (by rw[Lo,hn])];simp
   simp(disch:=omega)only[go_sem,isSome_none,getD_none,e];exact AQ _
  |some n =>
   simp(disch:=omega)only[go_sem,isSome_some,getD_some];refine Ah (f87_ok n.expr) (by simp(disch:=omega)only[go_sem,Expr.BV]) rfl ?_;have hl:=CF n.expr;have hop:Lo w.state all b=QZ n.expr ((Ag n.expr).map fun a=>decide ((b,a.name)∈all)):=by rw[Lo,hn]
   generalize hA:Ag n.expr=A at hl hop;obtain⟨o,rfl⟩:∃ o,o=i:=⟨i,rfl⟩;have hJo:=hJ;have hbo:=hb;have hPo:=hP;have hlo:o<w.members.length:=by simp at hlt;omega
   clear hJ hb hlt hP;obtain⟨p,rfl⟩:∃ p,p=b:=⟨b,rfl⟩;refine gO ?_;refine Ac (α:=Nat) (fun i=>⟨[(98,I i),(97,I A.length),(96,BB A),(13,.sl (.own 7040 0) 1 ((A.take i).map fun a=>[B (decide ((p,a.name)∈all))])),(81,I o),(80,I w.members.length),(79,AX w.members),(1,.ptr 64 0),(3,.mp 1918),(10,.ptr 640 0),(11,.ptr 704 0)],[(64,w.c),(1918,mpC all),(640,p.c),(704,n.c)]⟩) (fun i=>i≤(A).length∧True) (fun i=>(A).length-i) 0 ⟨by omega,trivial⟩ ?_ ?_
   ·exact B0
   rintro i ⟨hi,hP⟩ J hJ;refine gO ?_;refine ⟨fun hlt=>?_,fun hge=>?_⟩;rotate_left;have hil:i=(A).length:=by simp at hge;omega
   rotate_left;obtain⟨b,hb⟩:∃ b,(A)[i]?=some b:=⟨_,gE (by simp at hlt;omega)⟩;have hbm:=mG hb;simp(disch:=omega)only[go_sem,gm,hb]
   ·have hbd:min i A.length+1≤4294967296:=by omega
    try simp(disch:=omega)only[go_sem,List.length_map,List.length_take]
    refine hJ _ (i+1) ⟨by simp at hlt;omega,trivial⟩ (by simp at hlt;omega) (Imp.Ar ?_ gI);refine gO ?_;exact .sl (by simp[tA,hb])
   ·subst hil;clear hJ;refine Dd [7040] (f88_ok n.expr (A.map fun a=>decide ((p,a.name)∈all))) ?_ rfl trivial ?_
    ·simp(disch:=omega)only[go_sem,tL,Expr.BV];exact .sl (by simp)
    cases hh:QZ n.expr (A.map fun a=>decide ((p,a.name)∈all))
    ·have e:D6 w=17:=by
      rw[ev3,if_neg];rw[TJ hbm (hop.trans hh)];simp
     simp(disch:=omega)only[go_sem,e];exact AQ _
    ·simp(disch:=omega)only[go_sem];refine hJo _ (o+1) ⟨by omega,Qq hbo hPo (hop.trans hh)⟩ (by omega) AT
 ·subst hil;rw[tL]at hP;have e:D6 w=0:=by rw[ev3,if_pos hP]
  simp(disch:=omega)only[go_sem,e];exact AQ _
def Ly(q:Queue):Queue:={ q with gen:=0,waits:=q.waits.map DQ }
def TI(a b:WS):Bool:=decide (a.Aa.map Ly=b.Aa.map Ly)&&B6 eqN a.AE b.AE
def Oo{α β:Type}[DecidableEq β]{f:α→α→Bool}{g:α→β}(h:∀ a b,f a b=decide (g a=g b)):∀ l m:List α,B6 f l m=decide (l.map g=m.map g)
 |[],[]=>by simp[B6]
 |[],_::_=>by simp[B6]
 |_::_,[]=>by simp[B6]
 | a::l,b::m=>by
  simp only[B6,List.map_cons,Oo h l m,h];refine Bool.eq_iff_iff.2 ?_;simp
def TH(a b:Queue):Gu a b=decide (Ly a=Ly b):=by
 have:=Oo (f:=fun a b=>decide (DQ a=DQ b)) (g:=DQ) (fun _ _=>rfl) a.waits b.waits;unfold Gu;rw[this];obtain⟨x1,x2,x3,x4,x5⟩:=a;obtain⟨y1,y2,y3,y4,y5⟩:=b;refine Bool.eq_iff_iff.2 ?_;simp[Ly,and_assoc]
def UO(a b:WS):TI a b=Mz a b:=by
 unfold TI Mz;rw[Oo TH]
def Z4{e:Expr}(he:Bb e=true):(Ag e).length≠0:=by
 have hp:=EA he;have h1:=Uq _ e (Nat.lt_succ_self _) [] hp;have hc:=Hz _ e (Nat.lt_succ_self _) [] hp;have ha:Ag e=(prop e []).2:=by unfold Ag;rw[if_pos he,hc]
 rw[ha];simpa using h1
def M6{q:Queue}{p:Ab}:(Aq q p).isSome=(BU q p).isSome:=by
 have h1:(Aq q p).isSome=(q.Ao++q.waits).any fun w=>decide (w.proc=p):=by
  unfold Aq;rw[Option.isSome_map];refine Bool.eq_iff_iff.2 ?_;rw[List.find?_isSome,List.any_eq_true]
 have h2:(BU q p).isSome=((G4 q).findIdx? (fun x=>decide (x=p))).isSome:=by
  unfold BU;split<;>rename_i h<;>simp[h]
 rw[h1,h2,List.findIdx?_isSome,G4,BN,List.any_map];rfl
def a7(s:WS):∀ (cs:List Cause) (seen:List Pl),l1 s seen cs=true↔∀ i c,cs[i]?=some c→place c∉seen++(cs.take i).map place∧HP s c=true
 |[],seen=>by simp[l1]
 | c::cs,seen=>by
  simp only[l1,and_eq_true,Bool.not_eq_true',decide_eq_false_iff_not,a7 s cs];constructor
  ·rintro⟨⟨h1,h2⟩,h3⟩ i d hd;cases i with
   | zero=>simp at hd;subst hd;simpa using ⟨h1,h2⟩
   | succ i =>
    have:=h3 i d (by simpa using hd);simpa [List.append_assoc]using this
  ·intro h;refine⟨by simpa using h 0 c rfl,fun i d hd=>?_⟩;have:=h (i+1) d (by simpa using hd);simpa [List.append_assoc]using this
def DV{q:Queue}{p:Ab}{d:Cause}(h:BU q p=some d):d.proc=p∧d.name=q.res.name:=by
 cases hk:(G4 q).findIdx? (fun x=>decide (x=p)) with
 |none=>simp[BU,hk]at h
 |some k=>cases k<;>(simp[BU,hk]at h;subst h;exact⟨rfl,rfl⟩)
end Go.Rd
