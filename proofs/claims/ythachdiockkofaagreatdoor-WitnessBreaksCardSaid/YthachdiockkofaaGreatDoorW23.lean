/- part 23 of the proof -/
import Derived.Test.YthachdiockkofaaGreatDoorW19
import Derived.Test.YthachdiockkofaaGreatDoorW20
import Derived.Test.YthachdiockkofaaGreatDoorW22
set_option linter.all false
open Go Go.Abs Go.Proofs
set_option maxRecDepth 100000
namespace Go.Rd
set_option maxHeartbeats 8000000
open List (map_cons map_nil take_add_one take_length)
open Bool (and_eq_true)
open Option (getD_none getD_some isSome_none isSome_some toList_some)
open Tryz
structure Wit where
 state:WS
 members:List Ae
 AJ:List Cause
@[reducible] def Ld(l:List Cause):AV:=.sl .no 6 (l.map Cause.c)
def Wit.c(w:Wit):List AV:=[Ay w.state.Aa,DU w.state.Ao,Ax w.members,Ld w.AJ]
attribute [go_sem] Wit.c
def wE:Wit:=⟨wsE,[],[]⟩
theorem Kh{q:Queue}(h:BC q≤100):q.An.length+q.waits.length≤1000000∧q.holds.length≤1000000:=by
 unfold BC BQ at h;omega
def He(s:WS)(c:Cause):Bool:=match s.Aa.find? (fun q=>q.res.name==c.name) with
 |none=>false
 |some q=>(A6 q c.proc).isSome&&decide (((A6 q c.proc).getD cz).why=c.why)&&decide (((A6 q c.proc).getD cz).members=c.members)
theorem PV{q:Queue}(h:BC q≤100)(p:Ae):((A6 q p).getD cz).members.length≤1000000:=by
 unfold A6;split
 ·simp[cz]
 ·simp only[getD_some,Bm];split
  ·have:=SK q.res p (IC q p) q.holds;have:=Kh h;omega
  ·simp
 ·simp
theorem f85_ok(s:WS)(c:Cause)(h:Few s):Ad C0 85 [.agg s.c,.agg c.c] [] (B (He s c)) []:=by
 have h1:=h.nq;refine Ad.go f85 ?_;unfold f85;refine gO ?_;refine Ab (α:=Nat) (fun i=>⟨[(12,I i),(11,I s.Aa.length),(10,Ay s.Aa),(3,.ptr 192 0)],[(192,c.c)]⟩) (fun i=>i≤(s.Aa).length∧(s.Aa.take i).find? (fun q=>q.res.name==c.name)=none) (fun i=>(s.Aa).length-i) 0 ⟨by omega,rfl⟩ ?_ ?_
 ·exact BB
 rintro i ⟨hi,hP⟩ J hJ;refine gO ?_;refine ⟨fun hlt=>?_,fun hge=>?_⟩;rotate_left;have hil:i=(s.Aa).length:=by simp at hge;omega
 rotate_left;obtain⟨b,hb⟩:∃ b,(s.Aa)[i]?=some b:=⟨_,gE (by simp at hlt;omega)⟩;have hbm:=mG hb;simp(disch:=omega)only[go_sem,gm,hb]
 ·obtain⟨q1,q2⟩:=Kh (h.aq b hbm);have ql:=PV (h.aq b hbm) c.proc
  by_cases hn:b.res.name=c.name
  ·have e1:(b.res.name==c.name)=true:=by simp[hn]
   have e:He s c=((A6 b c.proc).isSome&&decide (((A6 b c.proc).getD cz).why=c.why)&&decide (((A6 b c.proc).getD cz).members=c.members)):=by
    have:s.Aa.find? (fun q=>q.res.name==c.name)=some b:=GI hP hb e1;simp[He,this]
   have e2:(b.res.name !=c.name)=false:=by simp[hn]
   rw[e];simp(disch:=omega)only[go_sem,e1,e2,Bool.not_true];refine Ac (f90_ok b c.proc q1 q2) ?_;generalize (A6 b c.proc).getD cz=d at ql;cases hs:(A6 b c.proc).isSome
   ·simp(disch:=omega)only[go_sem];exact AE _
   refine gO ?_
   by_cases hw:d.why=c.why
   rotate_left
   ·have e3:(d.why==c.why)=false:=by simp[hw]
    simp(disch:=omega)only[go_sem,e3];refine Ap _ ?_;exact wb (by simp[hw])
   have e3:(d.why==c.why)=true:=by simp[hw]
   simp(disch:=omega)only[go_sem,e3];refine Ac (f84_ok d.members c.members ql) ?_;refine gO ?_;refine Ap _ ?_;exact wb (by simp[hw])
  ·have e1:(b.res.name==c.name)=false:=by simp[hn]
   have e2:(b.res.name !=c.name)=true:=by simp[hn]
   simp(disch:=omega)only[go_sem,e1,e2,Bool.not_false];refine hJ _ (i+1) ⟨by simp at hlt;omega,(by rw[BS hP hb];simp[e1])⟩ (by simp at hlt;omega) AR
 ·subst hil;rw[take_length]at hP;refine Ap _ ?_;exact wb (by simp[He,hP])
def Hq(w:Wit)(s:WS):Bool:=decide ((AP s w.members).2=0)&&Js (AP s w.members).1 w.state
theorem f45_ok(w:Wit)(s:WS)(hw:Few w.state)(h:Few s)(hm:w.members.length≤1000000):Ad C0 45 [.agg w.c,.agg s.c] [] (B (Hq w s)) []:=by
 refine Ad.go f45 ?_;unfold f45;refine gO ?_;refine Ac (f32_ok s w.members h hm) ?_;have hf:=FY h w.members;unfold Hq;generalize AP s w.members=r at hf
 by_cases h0:r.2=0
 ·have e:(r.2==0)=true:=by simp[h0]
  simp(disch:=omega)only[go_sem,e];refine Ac (f89_ok r.1 w.state hf hw) ?_;refine gO ?_;refine Ap _ ?_;exact wb (by simp[h0])
 ·have e:(r.2==0)=false:=by simp[h0]
  simp(disch:=omega)only[go_sem,e];refine Ap _ ?_;exact wb (by simp[h0])
@[go_sem] theorem bV:Ld []=.sl .no 6 []:=rfl
def Cs(p:Ae)(l:List Queue):List Cause:=l.filterMap fun q=>A6 q p
def A2(l:List Queue)(ms:List Ae):List Cause:=ms.flatMap fun p=>Cs p l
theorem MJ{p:Ae}{l:List Queue}{i:Nat}{b:Queue}(hb:l[i]?=some b):Cs p (l.take (i+1))=Cs p (l.take i)++(A6 b p).toList:=by
 unfold Cs;rw[take_add_one,hb,toList_some,List.filterMap_append];cases h:A6 b p<;>simp[h]
theorem Km(p:Ae)(l:List Queue):(Cs p l).length≤l.length:=List.length_filterMap_le _ _
theorem MK{l:List Queue}{ms:List Ae}{i:Nat}{p:Ae}(hb:ms[i]?=some p):A2 l (ms.take (i+1))=A2 l (ms.take i)++Cs p l:=by
 unfold A2;rw[take_add_one,hb,toList_some,List.flatMap_append];simp
theorem GO(l:List Queue):∀ ms:List Ae,(A2 l ms).length≤ms.length*l.length
 |[]=>by simp[A2]
 | p::ms=>by
  have h1:=GO l ms;have h2:=Km p l;unfold A2 at h1 ⊢;simp only[List.flatMap_cons,List.length_append,List.length_cons,Nat.add_mul,Nat.one_mul];omega
def ofS(s:WS)(l:List Ae):Wit × Int :=
 if (AP s l).2=0 then
  if (Ah (AP s l).1).length=0∨0<(D5 (AP s l).1).length then (wE,14)
  else (⟨(AP s l).1,Ah (AP s l).1,A2 (AP s l).1.Aa (Ah (AP s l).1)⟩,0)
 else (wE,(AP s l).2)
theorem f46_ok(s:WS)(l:List Ae)(h:Few s)(hl:l.length≤1000000):Ad C0 46 [.agg s.c,Ax l] [] (.tup [.agg (ofS s l).1.c,I (ofS s l).2]) []:=by
 have hf:=FY h l;refine Ad.go f46 ?_;unfold f46;refine gO ?_;refine Ac (f32_ok s l h hl) ?_;unfold ofS;generalize AP s l=r at hf
 by_cases h0:r.2=0
 rotate_left
 ·have e:(r.2 !=0)=true:=by simp[h0]
  simp(disch:=omega)only[go_sem,e,if_neg h0,wE,wsE];refine Ap _ ?_;refine .tup (Aj.AM ?_);simp(disch:=omega)only[go_sem]
  repeat'(with_reducible apply And.intro)
  all_goals(first|exact .Az (by omega)|exact .agg (Aj.AM gI))
 have e:(r.2 !=0)=false:=by simp[h0]
 rw[if_pos h0];obtain⟨x,re⟩:=r;have hf:Few x:=hf;have hpl:=Dy hf;have hq:=hf.nq;simp(disch:=omega)only[go_sem,e];refine Aq 5 [([],[6]),([],[6]),([],[26]),([2],[25,27]),([],[])] fol ?_;simp(disch:=omega)only[go_sem]
 first|(refine Ac (f73_ok x hf) ?_)|(refine Ar (f73_ok x hf) ?_)
 refine gO ?_
 by_cases h1:(Ah x).length=0
 ·have e1:(((Ah x).length:Int)==0)=true:=by simp[h1]
  simp(disch:=omega)only[go_sem,e1,if_pos (show (Ah x).length=0∨0<(D5 x).length from .inl h1),wE,wsE];refine Ap _ ?_;refine .tup (Aj.AM ?_);simp(disch:=omega)only[go_sem]
  repeat'(with_reducible apply And.intro)
  all_goals(first|exact .Az (by omega)|exact .agg (Aj.AM gI))
 have e1:(((Ah x).length:Int)==0)=false:=by simp[h1]
 simp(disch:=omega)only[go_sem,e1];refine Ac (f36_ok x hf) ?_
 by_cases h2:0<(D5 x).length
 ·have e2:decide (0<((D5 x).length:Int))=true:=decide_eq_true (by omega);simp(disch:=omega)only[go_sem,e2,if_pos (show (Ah x).length=0∨0<(D5 x).length from .inr h2),wE,wsE];refine Ap _ ?_;refine .tup (Aj.AM ?_);simp(disch:=omega)only[go_sem]
  repeat'(with_reducible apply And.intro)
  all_goals(first|exact .Az (by omega)|exact .agg (Aj.AM gI))
 have e2:decide (0<((D5 x).length:Int))=false:=decide_eq_false (by omega);rw[if_neg (show ¬((Ah x).length=0∨0<(D5 x).length) by omega)];simp(disch:=omega)only[go_sem,e2];generalize Ah x=ms at hpl h1;refine Ab (α:=Nat) (fun i=>⟨[(43,I i),(42,I ms.length),(41,Ax ms),(4,.ptr 256 0),(6,.ptr 384 0),(8,.ptr 512 0)],[(256,wE.c),(384,x.c),(512,[Ay x.Aa,DU x.Ao,Ax ms,.sl (.own 4160 0) 6 ((A2 x.Aa (ms.take i)).map Cause.c)])]⟩) (fun i=>i≤(ms).length∧True) (fun i=>(ms).length-i) 0 ⟨by omega,trivial⟩ ?_ ?_
 ·refine Imp.Am ?_ ?_
  all_goals(try simp(disch:=omega)only[go_sem])
  all_goals(try(repeat'(with_reducible apply And.intro)))
  all_goals(first|exact .AG (by omega)|exact .Az (by omega)|exact .sl (by simp[wE,wsE,A2])|exact .int (by simp[wE,wsE,A2])|exact .eq (by simp[wE,wsE,A2]))
 rintro i ⟨hi,hP⟩ J hJ;refine gO ?_;refine ⟨fun hlt=>?_,fun hge=>?_⟩;rotate_left;have hil:i=(ms).length:=by simp at hge;omega
 rotate_left;obtain⟨b,hb⟩:∃ b,(ms)[i]?=some b:=⟨_,gE (by simp at hlt;omega)⟩;have hbm:=mG hb;simp(disch:=omega)only[go_sem,gm,hb]
 ·obtain⟨o,rfl⟩:∃ o,o=i:=⟨i,rfl⟩;have hJo:=hJ;have hbo:=hb;have hlo:o<ms.length:=by simp at hlt;omega
  clear hJ hb hlt;obtain⟨p,rfl⟩:∃ p,p=b:=⟨b,rfl⟩;have n1:=GO x.Aa (ms.take o);have n2:(ms.take o).length≤20000:=by simp;omega
  have n3:(ms.take o).length*x.Aa.length≤20000*100:=Nat.mul_le_mul n2 hq;refine Ab (α:=Nat) (fun i=>⟨[(50,I i),(49,I x.Aa.length),(48,Ay x.Aa),(43,I o),(42,I ms.length),(41,Ax ms),(4,.ptr 256 0),(6,.ptr 384 0),(8,.ptr 512 0),(10,.ptr 640 0)],[(256,wE.c),(384,x.c),(512,[Ay x.Aa,DU x.Ao,Ax ms,.sl (.own 4160 0) 6 ((A2 x.Aa (ms.take o)++Cs p (x.Aa.take i)).map Cause.c)]),(640,p.c)]⟩) (fun i=>i≤(x.Aa).length∧True) (fun i=>(x.Aa).length-i) 0 ⟨by omega,trivial⟩ ?_ ?_
  ·refine Imp.Am ?_ ?_
   all_goals(try simp(disch:=omega)only[go_sem])
   all_goals(try(repeat'(with_reducible apply And.intro)))
   all_goals(first|exact .AG (by omega)|exact .Az (by omega)|exact .sl (by simp[Cs])|exact .int (by simp[Cs])|exact .eq (by simp[Cs]))
  rintro i ⟨hi,hP⟩ J hJ;refine gO ?_;refine ⟨fun hlt=>?_,fun hge=>?_⟩;rotate_left;have hil:i=(x.Aa).length:=by simp at hge;omega
  rotate_left;obtain⟨b,hb⟩:∃ b,(x.Aa)[i]?=some b:=⟨_,gE (by simp at hlt;omega)⟩;have hbm:=mG hb;simp(disch:=omega)only[go_sem,gm,hb]
  ·obtain⟨q1,q2⟩:=Kh (hf.aq b hbm);have n4:=Km p (x.Aa.take i);have n5:(x.Aa.take i).length≤100:=by simp;omega
   have hbd:(A2 x.Aa (ms.take o)).length+(Cs p (x.Aa.take i)).length+1≤4294967296:=by omega
   have nx:=MJ (p:=p) hb;refine Ac (f90_ok b p q1 q2) ?_;cases hc:A6 b p with
   |none =>
    rw[hc]at nx;simp(disch:=omega)only[go_sem,isSome_none,getD_none,cz];refine hJ _ (i+1) ⟨by simp at hlt;omega,trivial⟩ (by simp at hlt;omega) (Imp.Am gI ?_);refine gO ?_;exact .sl (by rw[nx];simp)
   |some c =>
    rw[hc]at nx;simp(disch:=omega)only[go_sem,isSome_some,getD_some];refine hJ _ (i+1) ⟨by simp at hlt;omega,trivial⟩ (by simp at hlt;omega) (Imp.Am gI ?_);refine gO ?_;exact .sl (by rw[nx];simp[Cause.c])
  ·subst hil;refine hJo _ (o+1) ⟨by omega,trivial⟩ (by omega) (Imp.Am gI ?_);refine gO ?_;exact .sl (by rw[MK hbo])
 ·subst hil;simp(disch:=omega)only[go_sem,take_length];refine Cf ⟨[],[],[4160]⟩ _ ?_;simp(disch:=omega)only[go_sem]
def Dl(s:WS):Wit × Int:=ofS s (Bp s).2
theorem f41_ok(s:WS)(h:Few s)(hl:(Bp s).2.length≤1000000):Ad C0 41 [.agg s.c] [] (.tup [.agg (Dl s).1.c,I (Dl s).2]) []:=by
 refine Ad.go f41 ?_;unfold f41;refine gO ?_;refine Ac (f19_ok s h) ?_;refine gO ?_;refine Ac (f46_ok s (Bp s).2 h hl) ?_;unfold Dl;refine gO ?_;exact AE _
abbrev Pl:=Ae × Bs
def Pg(k:Pl):List Value:=[.int .i64 k.1.site,.int .i64 k.1.inc,.int .i64 k.1.num,.string (str k.2)]
def mpC:List Pl→List AV
 |[]=>[]
 | k::l=>.agg (vals (Pg k))::B true::mpC l
@[go_sem] theorem bq:mpC []=[]:=rfl
theorem W4:∀ l m,mpC (l++m)=mpC l++mpC m
 |[],m=>rfl
 | k::l,m=>by simp[mpC,W4 l m]
@[go_sem] theorem ZH(S T:List Nat):∀ l,Ej S T (mpC l)=mpC l
 |[]=>rfl
 | k::l=>by simp[mpC,Ej,AV.kill,Pg,vals,ZH S T l]
@[go_sem] theorem bp(S:List Nat):∀ l,B9 S (mpC l)=mpC l
 |[]=>rfl
 | k::l=>by simp[mpC,B9,AV.freeze,Pg,vals,bp S l]
theorem W0(a b:Pl):Bq [1,1,1,2] (Pg a) (Pg b)=some (decide (a=b)):=by
 obtain⟨⟨x,y,z⟩,n⟩:=a;obtain⟨⟨x',y',z'⟩,n'⟩:=b;simp only[Pg,Bq,if_true,Option.map_some,Option.some.injEq,QZ];refine Bool.eq_iff_iff.2 ?_;simp[and_assoc]
theorem Lw(k:Pl):JK true (.agg (vals (Pg k)))=some (Pg k):=by
 simp[JK,vals,Pg,Ed]
theorem Qh(k:Pl):∀ l:List Pl,∃ r,HU true [1,1,1,2] (Pg k) (mpC l)=some r∧((k∈l∧∃ j,r=some (j,B true))∨(k∉l∧r=none))
 |[]=>⟨none,rfl,.inr ⟨by simp,rfl⟩⟩
 | k'::l=>by
  obtain⟨r,h1,h2⟩:=Qh k l
  by_cases h:k=k'
  ·refine⟨some (0,B true),?_,.inl ⟨by simp[h],0,rfl⟩⟩;simp[mpC,HU,Lw,W0,h]
  ·refine⟨r.map fun p=>(p.1+1,p.2),?_,?_⟩
   ·simp[mpC,HU,Lw,W0,h,h1]
   ·rcases h2 with ⟨h3,j,rfl⟩|⟨h3,rfl⟩
    ·exact .inl ⟨by simp[h3],j+1,rfl⟩
    ·exact .inr ⟨by simp[h,h3],rfl⟩
theorem zM4:Vv prog 4=some (B false):=by
 have h:zeroV prog 4=some (.bool false):=by kernel_rfl
 simp[Vv,h,Value.oneCell']
@[go_sem] theorem gd(l:List Pl)(p:Ae)(name:Bs):Lx prog 137 (mpC l) (.agg [.v (.int .i64 p.site),.v (.int .i64 p.inc),.v (.int .i64 p.num),.v (.string (str name))])=some (B (decide ((p,name)∈l))):=by
 have hk:=Lw (p,name);have he:=W0 (p,name) (p,name);obtain⟨r,h1,h2⟩:=Qh (p,name) l;unfold Lx;simp only[F.ck];rw[show (AV.agg [.v (.int .i64 p.site),.v (.int .i64 p.inc),.v (.int .i64 p.num),.v (.string (str name))])=.agg (vals (Pg (p,name))) from rfl,hk];simp only[he,isSome_some,if_true,h1];rcases h2 with ⟨h3,j,rfl⟩|⟨h3,rfl⟩
 ·simp[h3]
 ·simp[h3,zM4]
theorem cT{l:List Pl}{p:Ae}{name:Bs}(h:(p,name)∉l):Lu prog 137 (mpC l) (.agg [.v (.int .i64 p.site),.v (.int .i64 p.inc),.v (.int .i64 p.num),.v (.string (str name))]) (B true)=some (mpC (l++[(p,name)])):=by
 have hk:=Lw (p,name);have he:=W0 (p,name) (p,name);obtain⟨r,h1,h2⟩:=Qh (p,name) l;unfold Lu;simp only[F.ck];rw[show (AV.agg [.v (.int .i64 p.site),.v (.int .i64 p.inc),.v (.int .i64 p.num),.v (.string (str name))])=.agg (vals (Pg (p,name))) from rfl,hk];simp only[he,isSome_some,if_true,h1];rcases h2 with ⟨h3,_⟩|⟨_,rfl⟩
 ·exact absurd h3 h
 ·rw[W4];rfl
attribute [go_sem] nmM
def place(c:Cause):Pl:=(c.proc,c.name)
def l1(s:WS):List Pl→List Cause→Bool
 |_,[]=>true
 | seen,c::cs=>!decide (place c∈seen)&&He s c&&l1 s (seen++[place c]) cs
def l2(all:List Pl)(cs:List Cause):Bool:=cs.all fun c=>!(decide (c.why=2)&&!decide ((c.members.headD ⟨0,0,0⟩,c.name)∈all))
def KI(s:WS)(all:List Pl)(p:Ae):Bool:=match Nh s p with
 |none=>false
 |some n=>Qo n.expr ((Ag n.expr).map fun a=>decide ((p,a.name)∈all))
def DQ(w:Wit):Int :=
 if AD w.state=true∧w.members=Ah w.state then
  if l1 w.state [] w.AJ=true∧l2 (w.AJ.map place) w.AJ=true∧w.members.all (KI w.state (w.AJ.map place))=true then 0 else 17
 else 2
theorem Uz{s:WS}:∀ {seen:List Pl} {cs:List Cause},l1 s seen cs=true→∀ c∈cs,He s c=true
 |_,[],_,c,h=>by cases h
 | seen,d::cs,h,c,hc=>by
  simp only[l1,and_eq_true]at h;rcases List.mem_cons.1 hc with rfl|hc
  ·exact h.1.2
  ·exact Uz h.2 c hc
theorem Ym{s:WS}{c:Cause}(h:He s c=true)(hw:c.why=2):∃ x,c.members=[x]:=by
 unfold He at h;split at h
 ·cases h
 ·rename_i q _;simp only[and_eq_true,decide_eq_true_eq]at h;obtain⟨⟨h1,h2⟩,h3⟩:=h;rw[hw]at h2;cases hk:(CP q).findIdx? (fun x=>decide (x=c.proc)) with
  |none=>simp[A6,hk]at h1
  |some k =>
   cases k with
   | zero=>simp[A6,hk]at h2
   | succ k =>
    simp[A6,hk]at h3;exact⟨_,h3.symm⟩
theorem PJ{α:Type}{f:α→Bool}{l:List α}{i:Nat}{b:α}(hb:l[i]?=some b)(h:(l.take i).all f=true)(hf:f b=true):(l.take (i+1)).all f=true:=by
 rw[take_add_one,hb,toList_some,List.all_append,h];simp[hf]
theorem SL{α:Type}{f:α→Bool}{l:List α}{b:α}(hm:b∈l)(hf:f b=false):l.all f=false:=by
 rw[List.all_eq_false];exact⟨b,hm,by simp[hf]⟩
theorem f44_ok(w:Wit)(hw:Few w.state)(hml:w.members.length≤1000000)(hcl:w.AJ.length≤1000000):Ad C0 44 [.agg w.c] [] (I (DQ w)) []:=by
 refine Ad.go f44 ?_;unfold f44;refine gO ?_;refine Aq 10 [([],[1]),([],[16]),([],[17]),([2],[18]),([2],[19]),([2],[1,20]),([2],[21,20]),([2],[1,20]),([2],[23,20]),([2],[24,20])] fol ?_;simp(disch:=omega)only[go_sem]
 first|(refine Ac (f54_ok w.state hw) ?_)|(refine Ar (f54_ok w.state hw) ?_)
 cases hv:AD w.state
 ·have e:DQ w=2:=by simp[DQ,hv]
  simp(disch:=omega)only[go_sem,e];exact AE _
 simp(disch:=omega)only[go_sem]
 first|(refine Ac (f73_ok w.state hw) ?_)|(refine Ar (f73_ok w.state hw) ?_)
 simp(disch:=omega)only[go_sem]
 first|(refine Ac (f84_ok w.members (Ah w.state) hml) ?_)|(refine Ar (f84_ok w.members (Ah w.state) hml) ?_)
 by_cases hmem:w.members=Ah w.state
 rotate_left
 ·have e:DQ w=2:=by simp[DQ,hmem]
  simp(disch:=omega)only[go_sem,e,hmem,decide_false];exact AE _
 simp(disch:=omega)only[go_sem,hmem,decide_true];rw[← hmem];have ev:DQ w=if l1 w.state [] w.AJ=true∧l2 (w.AJ.map place) w.AJ=true∧w.members.all (KI w.state (w.AJ.map place))=true then 0 else 17:=by
  unfold DQ;rw[if_pos ⟨hv,hmem⟩]
 refine Ab (α:=Nat) (fun i=>⟨[(33,I i),(32,I w.AJ.length),(31,Ld w.AJ),(1,.ptr 64 0),(3,.mp 1918)],[(64,w.c),(1918,mpC ((w.AJ.take i).map place))]⟩) (fun i=>i≤(w.AJ).length∧l1 w.state [] w.AJ=l1 w.state ((w.AJ.take i).map place) (w.AJ.drop i)) (fun i=>(w.AJ).length-i) 0 ⟨by omega,(by simp)⟩ ?_ ?_
 ·refine Imp.Am ?_ ?_
  all_goals(try simp(disch:=omega)only[go_sem,List.take_zero,map_nil,bq])
  all_goals(try(repeat'(with_reducible apply And.intro)))
  all_goals(first|exact .AG (by omega)|exact .Az (by omega)|exact .sl (by simp[place])|exact .int (by simp[place])|exact .eq (by simp[place]))
 rintro i ⟨hi,hP⟩ J hJ;refine gO ?_;refine ⟨fun hlt=>?_,fun hge=>?_⟩;rotate_left;have hil:i=(w.AJ).length:=by simp at hge;omega
 rotate_left;obtain⟨b,hb⟩:∃ b,(w.AJ)[i]?=some b:=⟨_,gE (by simp at hlt;omega)⟩;have hbm:=mG hb;simp(disch:=omega)only[go_sem,gm,hb]
 ·have hd:w.AJ.drop i=b::w.AJ.drop (i+1):=by
   have hlt2:i<w.AJ.length:=by simp at hlt;omega
   rw[List.drop_eq_getElem_cons hlt2];rw[gE hlt2]at hb;injection hb with hb
   rw[hb]
  rw[hd]at hP;simp only[l1]at hP;have hnext:(w.AJ.take (i+1)).map place=(w.AJ.take i).map place++[(b.proc,b.name)]:=by
   rw[take_add_one,hb];simp[place]
  have hpl:place b=(b.proc,b.name):=rfl;cases hs:decide ((b.proc,b.name)∈(w.AJ.take i).map place);rotate_left
  ·have e:DQ w=17:=by rw[ev,if_neg];rw[hP,hpl,hs];simp
   simp(disch:=omega)only[go_sem,hs,e];exact AE _
  simp(disch:=omega)only[go_sem,hs];refine Ac (f85_ok w.state b hw) ?_;cases hr:He w.state b
  ·have e:DQ w=17:=by rw[ev,if_neg];rw[hP,hr];simp
   simp(disch:=omega)only[go_sem,e];exact AE _
  have hni:(b.proc,b.name)∉(w.AJ.take i).map place:=by simpa using hs
  simp(disch:=omega)only[go_sem,cT hni];refine hJ _ (i+1) ⟨by simp at hlt;omega,by rw[hP,hpl,hs,hr,hnext];rfl⟩ (by simp at hlt;omega) (Imp.Am gI ?_);simp(disch:=omega)only[go_sem,hnext]
 subst hil;rw[take_length,List.drop_length]at hP;simp only[l1]at hP;simp(disch:=omega)only[go_sem,take_length];have hright:=Uz hP;clear hJ;generalize hall:w.AJ.map place=all at ev;have ev2:DQ w=if l2 all w.AJ=true∧w.members.all (KI w.state all)=true then 0 else 17:=by
  rw[ev];simp only[hP,true_and]
 refine Ab (α:=Nat) (fun i=>⟨[(58,I i),(57,I w.AJ.length),(56,Ld w.AJ),(1,.ptr 64 0),(3,.mp 1918)],[(64,w.c),(1918,mpC all)]⟩) (fun i=>i≤(w.AJ).length∧l2 all (w.AJ.take i)=true) (fun i=>(w.AJ).length-i) 0 ⟨by omega,rfl⟩ ?_ ?_
 ·exact BB
 rintro i ⟨hi,hP⟩ J hJ;refine gO ?_;refine ⟨fun hlt=>?_,fun hge=>?_⟩;rotate_left;have hil:i=(w.AJ).length:=by simp at hge;omega
 rotate_left;obtain⟨b,hb⟩:∃ b,(w.AJ)[i]?=some b:=⟨_,gE (by simp at hlt;omega)⟩;have hbm:=mG hb;simp(disch:=omega)only[go_sem,gm,hb]
 ·by_cases hwy:b.why=2
  rotate_left
  ·have e1:(b.why==2)=false:=by simp[hwy]
   have hf:l2 all (w.AJ.take (i+1))=true:=PJ hb hP (by simp[hwy]);refine CA 32767 [(0,1,0),(1,2,1),(2,4,2),(3,8,4),(4,16,8),(5,32,8),(6,64,40),(7,128,72),(8,256,136),(9,512,8),(10,1024,520),(11,2048,1288),(12,4096,2072),(13,8192,4104),(14,16384,8200)] [0,1,3,7,15,31,47,527,63,543,111,559,1551,127,575,1567,239,623,1583,255,639,1599,495,751,1647,511,767,1663,1007,1775,1023,1791,2031,2047,4079,4095,8191,16383,32767] (fun m=>⟨sel m [(1,62,.ptr 512 4),(2,63,I b.why),(4,64,B false),(8,65,B false),(16384,76,B false)]++[(58,I i),(57,I w.AJ.length),(56,Ld w.AJ),(1,.ptr 64 0),(3,.mp 1918),(8,.ptr 512 0)],[(64,w.c),(1918,mpC all),(512,b.c)]⟩) ?_ ?_ ?_ fol
   ·exact Imp.Am gI gI
   ·simp (maxSteps:=100000000)only[Cz,Cy,Dj,Di,and_true,Nat.reduceDiv,Nat.reduceMod,Nat.reduceAnd,Nat.reduceEqDiff,reduceIte,true_and,and_false,false_and,and_self]
    repeat'(with_reducible refine And.intro ?_ ?_)
    all_goals simp(disch:=omega)only[go_sem,e1]
    all_goals exact Imp.Am (by simp(disch:=omega)only[go_sem,e1]) gI
   ·simp(disch:=omega)only[go_sem];refine hJ _ (i+1) ⟨by simp at hlt;omega,hf⟩ (by simp at hlt;omega) AR
  ·obtain⟨x,hx⟩:=Ym (hright b hbm) hwy;have e1:(b.why==2)=true:=by simp[hwy]
   have hx0:b.members[0]?=some x:=by rw[hx];rfl
   have hxl:0<b.members.length:=by rw[hx];simp
   have hhd:b.members.headD ⟨0,0,0⟩=x:=by rw[hx];rfl
   refine CA 32767 [(0,1,0),(1,2,1),(2,4,2),(3,8,4),(4,16,8),(5,32,8),(6,64,40),(7,128,72),(8,256,136),(9,512,8),(10,1024,520),(11,2048,1288),(12,4096,2072),(13,8192,4104),(14,16384,8200)] [0,1,3,7,15,31,47,527,63,543,111,559,1551,127,575,1567,239,623,1583,255,639,1599,495,751,1647,511,767,1663,1007,1775,1023,1791,2031,2047,4079,4095,8191,16383,32767] (fun m=>⟨sel m [(1,62,.ptr 512 4),(2,63,I b.why),(4,64,B true),(8,65,B true),(16,66,.mp 1918),(32,67,.ptr 512 5),(64,68,Ax b.members),(128,69,.ep .no 0 x.c 0),(256,70,.agg x.c),(512,71,.ptr 512 3),(1024,72,.v (.string (str b.name))),(2048,73,.agg (x.c++[.v (.string (str b.name))])),(4096,74,B (decide ((x,b.name)∈all))),(8192,75,B (!decide ((x,b.name)∈all))),(16384,76,B (!decide ((x,b.name)∈all)))]++[(58,I i),(57,I w.AJ.length),(56,Ld w.AJ),(1,.ptr 64 0),(3,.mp 1918),(8,.ptr 512 0)],[(64,w.c),(1918,mpC all),(512,b.c)]⟩) ?_ ?_ ?_ fol
   ·exact Imp.Am gI gI
   ·simp (maxSteps:=100000000)only[Cz,Cy,Dj,Di,and_true,Nat.reduceDiv,Nat.reduceMod,Nat.reduceAnd,Nat.reduceEqDiff,reduceIte,true_and,and_false,false_and,and_self]
    repeat'(with_reducible refine And.intro ?_ ?_)
    all_goals simp(disch:=omega)only[go_sem,e1,gm,hx0]
    all_goals exact Imp.Am (by simp(disch:=omega)only[go_sem,e1]) gI
   ·cases hin:decide ((x,b.name)∈all)
    ·have e:DQ w=17:=by
      rw[ev2,if_neg];have:l2 all w.AJ=false:=SL hbm (by rw[hhd,hin,hwy];rfl);simp[this]
     simp(disch:=omega)only[go_sem,e];exact AE _
    ·have hf:l2 all (w.AJ.take (i+1))=true:=PJ hb hP (by rw[hhd,hin];simp);refine gO ?_;refine hJ _ (i+1) ⟨by simp at hlt;omega,hf⟩ (by simp at hlt;omega) AR
 subst hil;rw[take_length]at hP;have ev3:DQ w=if w.members.all (KI w.state all)=true then 0 else 17:=by
  rw[ev2];simp only[hP,true_and]
 clear hJ;have hex:=JZ hv;refine Ab (α:=Nat) (fun i=>⟨[(81,I i),(80,I w.members.length),(79,Ax w.members),(1,.ptr 64 0),(3,.mp 1918)],[(64,w.c),(1918,mpC all)]⟩) (fun i=>i≤(w.members).length∧(w.members.take i).all (KI w.state all)=true) (fun i=>(w.members).length-i) 0 ⟨by omega,rfl⟩ ?_ ?_
 ·exact BB
 rintro i ⟨hi,hP⟩ J hJ;refine gO ?_;refine ⟨fun hlt=>?_,fun hge=>?_⟩;rotate_left;have hil:i=(w.members).length:=by simp at hge;omega
 rotate_left;obtain⟨b,hb⟩:∃ b,(w.members)[i]?=some b:=⟨_,gE (by simp at hlt;omega)⟩;have hbm:=mG hb;simp(disch:=omega)only[go_sem,gm,hb]
 ·refine Ac (f86_ok w.state b hw hex) ?_;cases hn:Nh w.state b with
  |none =>
   have e:DQ w=17:=by
    rw[ev3,if_neg];rw[SL hbm (by rw[KI,hn])];simp
   simp(disch:=omega)only[go_sem,isSome_none,getD_none,e];exact AE _
  |some n =>
   simp(disch:=omega)only[go_sem,isSome_some,getD_some];refine Ai (f87_ok n.expr) (by simp(disch:=omega)only[go_sem,Expr.By]) rfl ?_;have hl:=Cj n.expr;have hop:KI w.state all b=Qo n.expr ((Ag n.expr).map fun a=>decide ((b,a.name)∈all)):=by rw[KI,hn]
   generalize hA:Ag n.expr=A at hl hop;obtain⟨o,rfl⟩:∃ o,o=i:=⟨i,rfl⟩;have hJo:=hJ;have hbo:=hb;have hPo:=hP;have hlo:o<w.members.length:=by simp at hlt;omega
   clear hJ hb hlt hP;obtain⟨p,rfl⟩:∃ p,p=b:=⟨b,rfl⟩;refine gO ?_;refine Ab (α:=Nat) (fun i=>⟨[(98,I i),(97,I A.length),(96,Bv A),(13,.sl (.own 7040 0) 1 ((A.take i).map fun a=>[B (decide ((p,a.name)∈all))])),(81,I o),(80,I w.members.length),(79,Ax w.members),(1,.ptr 64 0),(3,.mp 1918),(10,.ptr 640 0),(11,.ptr 704 0)],[(64,w.c),(1918,mpC all),(640,p.c),(704,n.c)]⟩) (fun i=>i≤(A).length∧True) (fun i=>(A).length-i) 0 ⟨by omega,trivial⟩ ?_ ?_
   ·exact BB
   rintro i ⟨hi,hP⟩ J hJ;refine gO ?_;refine ⟨fun hlt=>?_,fun hge=>?_⟩;rotate_left;have hil:i=(A).length:=by simp at hge;omega
   rotate_left;obtain⟨b,hb⟩:∃ b,(A)[i]?=some b:=⟨_,gE (by simp at hlt;omega)⟩;have hbm:=mG hb;simp(disch:=omega)only[go_sem,gm,hb]
   ·have hbd:min i A.length+1≤4294967296:=by omega
    try simp(disch:=omega)only[go_sem,List.length_map,List.length_take]
    refine hJ _ (i+1) ⟨by simp at hlt;omega,trivial⟩ (by simp at hlt;omega) (Imp.Am ?_ gI);refine gO ?_;exact .sl (by simp[take_add_one,hb])
   ·subst hil;clear hJ;refine C2 [7040] (f88_ok n.expr (A.map fun a=>decide ((p,a.name)∈all))) ?_ rfl trivial ?_
    ·simp(disch:=omega)only[go_sem,take_length,Expr.By];exact .sl (by simp)
    cases hh:Qo n.expr (A.map fun a=>decide ((p,a.name)∈all))
    ·have e:DQ w=17:=by
      rw[ev3,if_neg];rw[SL hbm (hop.trans hh)];simp
     simp(disch:=omega)only[go_sem,e];exact AE _
    ·simp(disch:=omega)only[go_sem];refine hJo _ (o+1) ⟨by omega,PJ hbo hPo (hop.trans hh)⟩ (by omega) AR
 ·subst hil;rw[take_length]at hP;have e:DQ w=0:=by rw[ev3,if_pos hP]
  simp(disch:=omega)only[go_sem,e];exact AE _
theorem f213_ok(r:Res)(l:List AO)(p:Ae)(a:Amt)(hl:l.length≤1000000):Ad C0 213 [.agg r.c,AH l,.agg p.c,.agg a.c] [] (Ax (Bm r l p a)) []:=by
 refine Ad.go f213 ?_;unfold f213;refine gO ?_;refine Ac (f265_ok r l hl) ?_;cases h1:Ba r l
 ·have e:Bm r l p a=[]:=by simp[Bm,h1]
  simp(disch:=omega)only[go_sem,e];exact AE _
 refine gO ?_;refine Ac (f105_ok p) ?_;cases h2:p.ok
 ·have e:Bm r l p a=[]:=by simp[Bm,h2]
  simp(disch:=omega)only[go_sem,e];exact AE _
 refine gO ?_;refine Ac (f171_ok r a) ?_;cases h3:r.fits a
 ·have e:Bm r l p a=[]:=by simp[Bm,h3]
  simp(disch:=omega)only[go_sem,e];exact AE _
 refine gO ?_;refine Ac (f266_ok r l p a hl) ?_;cases h4:DP r l p a;rotate_left
 ·have e:Bm r l p a=[]:=by simp[Bm,h4]
  simp(disch:=omega)only[go_sem,e];exact AE _
 have e:Bm r l p a=agT r p a l:=by simp[Bm,h1,h2,h3,h4]
 have hk2:r.kind=1∨r.kind=2:=(Pb (by simp only[Ba,and_eq_true]at h1;exact h1.1.1.1)).imp And.left id;simp(disch:=omega)only[go_sem,e];refine Ab (α:=Nat) (fun i=>⟨[(10,I i),(1,AH l),(9,.sl (.own 4352 0) 3 ((agT r p a (l.take i)).map Ae.c)),(4,.ptr 256 0),(6,.ptr 384 0),(7,.ptr 448 0)],[(256,r.c),(384,p.c),(448,a.c)]⟩) (fun i=>i≤(l).length∧True) (fun i=>(l).length-i) 0 ⟨by omega,trivial⟩ ?_ ?_
 ·refine Imp.Am ?_ ?_
  all_goals(try simp(disch:=omega)only[go_sem])
  all_goals(try(repeat'(with_reducible apply And.intro)))
  all_goals(first|exact .AG (by omega)|exact .Az (by omega)|exact .sl (by simp[agT])|exact .int (by simp[agT])|exact .eq (by simp[agT]))
 rintro i ⟨hi,hP⟩ J hJ;refine gO ?_;refine ⟨fun hlt=>?_,fun hge=>?_⟩;rotate_left;have hil:i=(l).length:=by simp at hge;omega
 rotate_left;obtain⟨b,hb⟩:∃ b,(l)[i]?=some b:=⟨_,gE (by simp at hlt;omega)⟩;have hbm:=mG hb;have hlt2:i<(l).length:=by simp at hlt;omega
 refine Aq 6 [([],[1]),([],[10]),([],[39,40]),([],[41]),([],[42]),([],[6])] fol ?_;simp(disch:=omega)only[go_sem,gm,hb]
 ·have hag:=SK r p a (l.take i);have hbd:(agT r p a (l.take i)).length+1≤4294967296:=by simp at hag;omega
  have keep:Ez r p a b=true→((agT r p a (l.take i)).map Ae.c)=((agT r p a (l.take (i+1))).map Ae.c):=fun h=>by rw[Kg hb,h];simp
  have more:Ez r p a b=false→((agT r p a (l.take i)).map Ae.c)++[b.proc.c]=((agT r p a (l.take (i+1))).map Ae.c):=fun h=>by rw[Kg hb,h];simp
  refine⟨fun h=>?_,fun h=>?_⟩
  ·have hs:Ez r p a b=true:=by simp only[Ez,h,Bool.true_or]
   refine hJ _ (i+1) ⟨by omega,trivial⟩ (by omega) (Imp.Am ?_ gI);refine gO ?_;exact .sl (keep hs)
  ·refine Aq 12 [([],[4]),([],[46]),([],[47]),([],[48]),([],[4,49]),([],[1,49]),([],[10,49]),([],[51,52,49]),([],[53,49]),([],[54,49]),([],[7,49]),([],[55,56,49])] fol ?_;rcases hk2 with hk|hk
   ·have e2:(r.kind==2)=false:=by simp[hk]
    simp(disch:=omega)only[go_sem,e2,gm,hb];refine Ai (f267_ok r [b.amt,a] (by simp)) ?_ rfl ?_
    ·simp(disch:=omega)only[go_sem,map_cons,map_nil];exact .full
    simp(disch:=omega)only[go_sem,gm,hb];cases hcp:r.compat [b.amt,a]
    ·have hs:Ez r p a b=false:=by simp only[Ez,h,hcp,Bool.and_false,Bool.or_false]
     simp(disch:=omega)only[go_sem,gm,hb];refine hJ _ (i+1) ⟨by omega,trivial⟩ (by omega) (Imp.Am ?_ gI);refine gO ?_;exact .sl (by rw[← more hs];simp[Ae.c])
    ·have hs:Ez r p a b=true:=by simp only[Ez,h,hk,hcp,decide_true,Bool.and_true,Bool.or_true]
     simp(disch:=omega)only[go_sem,gm,hb];refine hJ _ (i+1) ⟨by omega,trivial⟩ (by omega) (Imp.Am ?_ gI);refine gO ?_;exact .sl (keep hs)
   ·have e2:(r.kind==2)=true:=by simp[hk]
    have e3:decide (r.kind=1)=false:=decide_eq_false (by omega);have hs:Ez r p a b=false:=by simp only[Ez,h,e3,Bool.false_and,Bool.or_false]
    simp(disch:=omega)only[go_sem,e2,gm,hb];refine hJ _ (i+1) ⟨by omega,trivial⟩ (by omega) (Imp.Am ?_ gI);refine gO ?_;exact .sl (by rw[← more hs];simp[Ae.c])
 ·subst hil;refine Cf ⟨[],[],[4352]⟩ _ ?_;simp(disch:=omega)only[go_sem,take_length]
theorem f138_ok(q:Queue)(p:Ae)(hal:BC q≤100)(hs:(A6 q p).isSome=true):Ad C0 138 [.agg q.c,.agg p.c] [] (.agg ((A6 q p).getD cz).c) []:=by
 obtain⟨q1,q2⟩:=Kh hal;obtain⟨q3,q4,q5⟩:=Bb hal;have hol:(CP q).length≤1000000:=by simpa [CP,Bt]using q1
 refine Ad.go f138 ?_;unfold f138;refine gO ?_;refine Ac (f208_ok q q1) ?_;simp(disch:=omega)only[go_sem,show Bt (q.An++q.waits)=CP q from rfl];cases hf:(CP q).findIdx? (fun x=>decide (x=p)) with
 |none=>simp[A6,hf]at hs
 |some k =>
  obtain⟨k1,k2,k3⟩:=List.findIdx?_eq_some_iff_getElem.1 hf;have hk:(CP q)[k]?=some p:=by rw[gE k1];simpa using k2
  have e0:decide (0<((CP q).length:Int))=true:=decide_eq_true (by omega);have hz:0<(CP q).length:=by omega
  refine Aq 8 [([],[6]),([],[17]),([],[18]),([],[19]),([],[6,20]),([],[21,20]),([],[22,20]),([],[3,20])] fol ?_;cases k with
  | zero =>
   have e:A6 q p=some ⟨p,q.res.name,1,Bm q.res q.holds p (IC q p)⟩:=by simp[A6,hf]
   simp(disch:=omega)only[go_sem,e0,gm,hk];refine Ac (f98_ok q p q4 q5) ?_;simp(disch:=omega)only[go_sem,show (As q p).getD ⟨0,0⟩=IC q p from rfl];refine Ac (f213_ok q.res q.holds p (IC q p) q2) ?_;simp(disch:=omega)only[go_sem,e,getD_some];exact AE _
  | succ k =>
   obtain⟨x,hx⟩:∃ x,(CP q)[k]?=some x:=⟨_,gE (by omega)⟩;have e:A6 q p=some ⟨p,q.res.name,2,[x]⟩:=by simp[A6,hf,hx]
   obtain⟨y,hy⟩:∃ y,(CP q)[0]?=some y:=⟨_,gE (by omega)⟩;have hyp:decide (y=p)=false:=by
    have:=k3 0 (by omega);rw[gE (by omega)]at hy;injection hy with hy
    rw[hy]at this;simpa using this
   simp(disch:=omega)only[go_sem,e0,gm,hy,hyp];refine Ab (α:=Nat) (fun i=>⟨[(9,I i),(6,Ax (CP q)),(5,.ptr 320 0),(2,.ptr 128 0),(3,.ptr 192 0),(4,.ptr 256 0)],[(128,q.c),(192,p.c),(256,cz.c),(320,(⟨p,q.res.name,0,[]⟩:Cause).c)]⟩) (fun i=>1≤i∧i≤k+1) (fun i=>k+1-i) 1 (by omega) ?_ ?_
   ·refine Imp.Am ?_ ?_
    ·exact gI
    ·simp(disch:=omega)only[go_sem,cz]
   rintro i ⟨hi1,hi2⟩ J hJ;have e1:decide ((i:Int)<((CP q).length:Int))=true:=decide_eq_true (by omega);obtain⟨z,hz2⟩:∃ z,(CP q)[i]?=some z:=⟨_,gE (by omega)⟩;have hil:i<(CP q).length:=by omega
   simp(disch:=omega)only[go_sem,e1];refine Aq 5 [([],[6]),([],[9]),([],[49,50]),([],[51]),([],[3])] fol ?_;simp(disch:=omega)only[go_sem,gm,hz2]
   by_cases hik:i=k+1
   ·subst hik;have hzp:z=p:=by rw[hk]at hz2;exact(Option.some.inj hz2).symm
    subst hzp;have ek:((k:Int)+1-1)=(k:Int):=by omega
    have hkl:k<(CP q).length:=by omega
    simp(disch:=omega)only[go_sem,decide_true];refine CA 1023 [(0,1,0),(1,2,0),(2,4,2),(3,8,5),(4,16,8),(5,32,16),(6,64,0),(7,128,64),(8,256,255),(9,512,511)] [0,1,2,64,3,65,6,66,192,7,67,193,70,194,15,71,195,198,31,79,199,63,95,207,127,223,255,511,1023] (fun m=>⟨sel m [(1,55,Ax (CP q)),(2,56,I ((k:Int)+1)),(4,57,I k),(8,58,.ep .no k x.c 0),(16,59,.agg x.c),(32,60,.sl (.own 3840 0) 3 [x.c]),(64,61,.ptr 320 4),(256,62,.ptr 320 5)]++[(9,I ((k:Int)+1)),(6,Ax (CP q)),(5,.ptr 320 0),(4,.ptr 256 0)],[(256,cz.c),(320,[.v (.int .i64 z.site),.v (.int .i64 z.inc),.v (.int .i64 z.num),.v (.string (str q.res.name)),(if m / 128%2=1 then I 2 else I 0),(if m / 512%2=1 then .sl (.own 3840 0) 3 [x.c] else .sl .no 3 [])])]⟩) ?_ ?_ ?_ fol
    ·exact Imp.Am gI gI
    ·simp (maxSteps:=100000000)only[Cz,Cy,Dj,Di,and_true,Nat.reduceDiv,Nat.reduceMod,Nat.reduceAnd,Nat.reduceEqDiff,reduceIte,true_and,and_false,false_and,and_self]
     repeat'(with_reducible refine And.intro ?_ ?_)
     all_goals simp(disch:=omega)only[go_sem,ek,gm,hx]
     all_goals exact Imp.Am gI gI
    ·simp(disch:=omega)only[go_sem,e,getD_some];refine Cf ⟨[],[],[3840]⟩ _ ?_;refine gO ?_;exact .eq (by simp[Ae.c])
   ·have hzp:decide (z=p)=false:=by
     have:=k3 i (by omega);rw[gE hil]at hz2;injection hz2 with hz2
     rw[hz2]at this;simpa using this
    simp(disch:=omega)only[go_sem,hzp];refine hJ _ (i+1) ⟨by omega,by omega⟩ (by omega) AR
def F6(q:Queue):Queue:={ q with gen:=0,waits:=q.waits.map DH }
def VC(a b:WS):Bool:=decide (a.Aa.map F6=b.Aa.map F6)&&BL eqN a.Ao b.Ao
theorem Lk{α β:Type}[DecidableEq β]{f:α→α→Bool}{g:α→β}(h:∀ a b,f a b=decide (g a=g b)):∀ l m:List α,BL f l m=decide (l.map g=m.map g)
 |[],[]=>by simp[BL]
 |[],_::_=>by simp[BL]
 |_::_,[]=>by simp[BL]
 | a::l,b::m=>by
  simp only[BL,map_cons,Lk h l m,h];refine Bool.eq_iff_iff.2 ?_;simp
theorem MA(a b:Queue):FT a b=decide (F6 a=F6 b):=by
 have:=Lk (f:=fun a b=>decide (DH a=DH b)) (g:=DH) (fun _ _=>rfl) a.waits b.waits;unfold FT;rw[this];obtain⟨x1,x2,x3,x4,x5⟩:=a;obtain⟨y1,y2,y3,y4,y5⟩:=b;refine Bool.eq_iff_iff.2 ?_;simp[F6,and_assoc]
theorem YJ(a b:WS):VC a b=Js a b:=by
 unfold VC Js;rw[Lk MA]
theorem TV{e:Expr}(he:A4 e=true):(Ag e).length≠0:=by
 have hp:=Eh he;have h1:=To _ e (Nat.lt_succ_self _) [] hp;have hc:=G1 _ e (Nat.lt_succ_self _) [] hp;have ha:Ag e=(prop e []).2:=by unfold Ag;rw[if_pos he,hc]
 rw[ha];simpa using h1
theorem GF{q:Queue}{p:Ae}:(As q p).isSome=(A6 q p).isSome:=by
 have h1:(As q p).isSome=(q.An++q.waits).any fun w=>decide (w.proc=p):=by
  unfold As;rw[Option.isSome_map];refine Bool.eq_iff_iff.2 ?_;rw[List.find?_isSome,List.any_eq_true]
 have h2:(A6 q p).isSome=((CP q).findIdx? (fun x=>decide (x=p))).isSome:=by
  unfold A6;split<;>rename_i h<;>simp[h]
 rw[h1,h2,List.findIdx?_isSome,CP,Bt,List.any_map];rfl
theorem Zu(s:WS):∀ (cs:List Cause) (seen:List Pl),l1 s seen cs=true↔∀ i c,cs[i]?=some c→place c∉seen++(cs.take i).map place∧He s c=true
 |[],seen=>by simp[l1]
 | c::cs,seen=>by
  simp only[l1,and_eq_true,Bool.not_eq_true',decide_eq_false_iff_not,Zu s cs];constructor
  ·rintro⟨⟨h1,h2⟩,h3⟩ i d hd;cases i with
   | zero=>simp at hd;subst hd;simpa using ⟨h1,h2⟩
   | succ i =>
    have:=h3 i d (by simpa using hd);simpa [List.append_assoc]using this
  ·intro h;refine⟨by simpa using h 0 c rfl,fun i d hd=>?_⟩;have:=h (i+1) d (by simpa using hd);simpa [List.append_assoc]using this
theorem CT{q:Queue}{p:Ae}{d:Cause}(h:A6 q p=some d):d.proc=p∧d.name=q.res.name:=by
 cases hk:(CP q).findIdx? (fun x=>decide (x=p)) with
 |none=>simp[A6,hk]at h
 |some k=>cases k<;>(simp[A6,hk]at h;subst h;exact⟨rfl,rfl⟩)
end Go.Rd
