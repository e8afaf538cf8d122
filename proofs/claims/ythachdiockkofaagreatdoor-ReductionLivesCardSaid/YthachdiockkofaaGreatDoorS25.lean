/- part 25 of the proof -/
import Derived.Test.YthachdiockkofaaGreatDoorS24
set_option linter.all false
open Go Go.Abs Go.Proofs
set_option maxRecDepth 100000
namespace Go.Rd
set_option maxHeartbeats 8000000
open List (map_nil map_set mem_map take_add_one take_length)
open Bool (and_eq_true false_eq_true)
open Option (isSome_none)
open Nat (le_trans)
open Tryz
theorem LC{α:Type}:∀ {l:List α} {i:Nat} {z:α},l[i]?=some z→l.set i z=l
 |[],_,_,h=>by simp at h
 | a::l,0,z,h=>by simp at h;simp[h]
 | a::l,i+1,z,h=>by
  simp only[List.set_cons_succ];rw[LC (by simpa using h)]
theorem Tj{q:Queue}(p:Proc)(hv:valid q=true):Ok p q (BJ p q).1:=by
 unfold BJ;cases hq:LF q p
 ·exact .refl hv
 simp only[if_true];have hs:=((Bm q).1 hv).1;unfold E9;simp only[hv,if_true];have hm:Br (A6 q) p=true:=by
  have:p∈A6 q:=by
   rw[DJ];unfold LF at hq;rcases(by simpa using hq:(Aj q p).isSome=true∨(Ak q.holds p).zero=false) with h|h
   ·unfold Aj at h;simp only[Option.isSome_map,List.find?_isSome,List.mem_append,decide_eq_true_eq]at h;obtain⟨w,h1|h1,h2⟩:=h
    ·exact .inr (.inl ⟨w,h1,h2⟩)
    ·exact .inr (.inr ⟨w,h1,h2⟩)
   ·exact .inl (HG h)
  simpa [Br]using this
 rw[hm];simp only[if_true];exact Jq (HM hs p) rfl (fun x hx=>.inl ((P9 q p x).1 hx).1) (fun y hy=>⟨Vp hy,(Ep hy:Ak (BK q.holds p ⟨0,0⟩) y=Ak q.holds y)⟩)
theorem Q8(t:List Queue):Cd t=true↔t.length≤8∧(∀ q∈t,valid q=true)∧∀ i,i+1<t.length→BF (t.getD i q0).res.name (t.getD (i+1) q0).res.name=true:=by
 unfold Cd;simp only[and_eq_true,decide_eq_true_eq,Cx,BN,Bool.or_eq_true];constructor
 ·rintro⟨h1,h2⟩;refine⟨h1,fun q hq=>?_,fun i hi=>?_⟩
  ·obtain⟨i,hi⟩:=List.getElem?_of_mem hq;exact(h2 i q hi).1
  ·have hg:t[i+1]?=some (t[i+1]):=gE hi;have:=(h2 (i+1) _ hg).2;simp only[Nat.add_sub_cancel]at this;rw[show t.getD (i+1) q0=t[i+1] by simp[List.getD,hg]];rcases this with h|h
   ·omega
   ·exact h
 ·rintro⟨h1,h2,h3⟩;refine⟨h1,fun i q hq=>⟨h2 q (mG hq),?_⟩⟩;cases i with
  | zero=>exact .inl rfl
  | succ i =>
   have:=h3 i (Ae hq);rw[show t.getD (i+1) q0=q by simp[List.getD,hq]]at this;exact .inr this
theorem U4{t t':List Queue}(h:t'.map (·.res)=t.map (·.res))(i:Nat):(t'.getD i q0).res=(t.getD i q0).res:=by
 have:=congrArg (fun l=>l[i]?) h;simp only[gm]at this;simp only[List.getD];cases h1:t'[i]?<;>cases h2:t[i]?<;>rw[h1,h2]at this<;>simp at this ⊢
 exact this
theorem C4(t:List Queue)(x:Proc):x∈Ar t↔∃ q∈t,inQ q x:=by
 unfold Ar;rw[HI,List.mem_flatMap];constructor
 ·rintro⟨q,h1,h2⟩;exact⟨q,h1,(DJ q x).1 h2⟩
 ·rintro⟨q,h1,h2⟩;exact⟨q,h1,(DJ q x).2 h2⟩
theorem IT(t:List Queue):(Ar t).Nodup:=Lf (DT _)
structure Ck(t:List Queue):Prop where
 n:t.length≤8
 val:∀ q∈t,valid q=true
 ord:∀ i,i+1<t.length→BF (t.getD i q0).res.name (t.getD (i+1) q0).res.name=true
 pr:(Ar t).length≤8
theorem Dx(t:List Queue):Gi t=true↔Ck t:=by
 unfold Gi;simp only[and_eq_true,decide_eq_true_eq,Q8];exact⟨fun⟨⟨a,b,c⟩,d⟩=>⟨a,b,c,d⟩,fun h=>⟨⟨h.n,h.val,h.ord⟩,h.pr⟩⟩
theorem Xd{t t':List Queue}(h:Ck t)(hr:t'.map (·.res)=t.map (·.res))(hv:∀ q∈t',valid q=true)(hp:(Ar t').length≤8):Ck t' where
 n:=by have:=congrArg List.length hr;simp at this;have:=h.n;omega
 val:=hv
 ord:=fun i hi=>by
  have:=congrArg List.length hr;simp at this;rw[U4 hr,U4 hr];exact h.ord i (by omega)
 pr:=hp
theorem Cm{t:List Queue}(h:Ck t):CU t:=by
 refine⟨by have:=h.n;omega,fun q hq=>?_⟩;have hs:=((Bm q).1 (h.val q hq)).1;have a:=((CJ _ _).1 hs.holds).2.1;have b:=((Bk q).1 hs.convs).1;have c:=((B7 _).1 ((A8 q).1 hs.waits).1).1;unfold BA Bq;omega
structure EO(p:Proc)(t t':List Queue):Prop where
 tab:Ck t'
 res:t'.map (·.res)=t.map (·.res)
 other:∀ y,y≠p→∀ L:Bs→Amt,(∀ q∈t,Kq q y (L q.res.name))→∀ q∈t',Kq q y (L q.res.name)
theorem EO.refl{p:Proc}{t:List Queue}(h:Ck t):EO p t t:=⟨h,rfl,fun _ _ _ hk=>hk⟩
theorem EO.trans{p:Proc}{t t' t'':List Queue}(h:EO p t t')(h':EO p t' t''):EO p t t'' :=
 ⟨h'.tab,h'.res.trans h.res,fun y hy L hk=>h'.other y hy L (h.other y hy L hk)⟩
theorem Xb{t:List Queue}{i:Nat}{q q':Queue}(hq:t[i]?=some q)(hr:q'.res=q.res):(t.set i q').map (·.res)=t.map (·.res):=by
 rw[map_set,hr];exact LC (by simp[hq])
theorem Ct{t:List Queue}{i:Nat}{q q' x:Queue}(h:x∈t.set i q'):x=q'∨∃ j,j≠i∧t[j]?=some x:=by
 obtain⟨j,hj⟩:=List.getElem?_of_mem h;rw[List.getElem?_set]at hj;split at hj
 ·split at hj
  ·exact .inl (Option.some.inj hj).symm
  ·cases hj
 ·rename_i hne;exact .inr ⟨j,fun e=>hne e.symm,hj⟩
theorem Ob{t t':List Queue}(h:∀ x,x∈Ar t'→x∈Ar t)(hp:(Ar t).length≤8):(Ar t').length≤8 :=
 le_trans (CE _ _ (IT t') h) hp
theorem LD{p:Proc}{t:List Queue}{i:Nat}{q q':Queue}(h:Ck t)(hq:t[i]?=some q)(hs:Ok p q q')(hp:(∀ x,inQ q' x→inQ q x)∨p∈Ar t∨(Ar t).length<8):EO p t (t.set i q'):=by
 have hqm:=mG hq;have hin:∀ x,x∈Ar (t.set i q')→x∈Ar t∨(x=p∧¬ ∀ x,inQ q' x→inQ q x):=fun x hx=>by
  rw[C4]at hx;obtain⟨y,hy,hyx⟩:=hx;rcases Ct (q:=q) hy with rfl|⟨j,_,hj⟩
  ·by_cases ha:∀ x,inQ y x→inQ q x
   ·exact .inl ((C4 t x).2 ⟨q,hqm,ha x hyx⟩)
   ·rcases hs.inp x hyx with hb|hb
    ·exact .inl ((C4 t x).2 ⟨q,hqm,hb⟩)
    ·exact .inr ⟨hb,ha⟩
  ·exact .inl ((C4 t x).2 ⟨y,mG hj,hyx⟩)
 refine⟨Xd h (Xb hq hs.res) (fun x hx=>?_) ?_,Xb hq hs.res,fun y hy L hk x hx=>?_⟩
 ·rcases Ct (q:=q) hx with rfl|⟨j,_,hj⟩
  ·exact hs.val
  ·exact h.val x (mG hj)
 ·rcases hp with hp|hp|hp
  ·exact Ob (fun x hx=>(hin x hx).elim id fun hx=>absurd hp hx.2) h.pr
  ·exact Ob (fun x hx=>(hin x hx).elim id fun hx=>hx.1▸hp) h.pr
  ·have:=CE (Ar (t.set i q')) (p::Ar t) (IT _) fun x hx=>(hin x hx).elim (fun hx=>by simp[hx]) fun hx=>by simp[hx.1]
   simp at this;omega
 ·rcases Ct (q:=q) hx with rfl|⟨j,_,hj⟩
  ·have:=hs.other y (L q.res.name) hy (hk q hqm);rw[hs.res];exact this
  ·exact hk x (mG hj)
theorem GP(n:Bs)(h:BF n n=true):False:=by
 rw[JT]at h;cases h
theorem Pp{t:List Queue}(h:Ck t):∀ d i,i+d+1<t.length→BF (t.getD i q0).res.name (t.getD (i+d+1) q0).res.name=true
 | 0,i,hi=>h.ord i hi
 | d+1,i,hi=>G3 (Pp h d i (by omega)) (h.ord (i+d+1) (by omega))
theorem DZ{t:List Queue}(h:Ck t){i j:Nat}{q q':Queue}(hi:t[i]?=some q)(hj:t[j]?=some q')(hn:q.res.name=q'.res.name):i=j:=by
 have hli:=Ae hi;have hlj:=Ae hj;have ei:t.getD i q0=q:=by simp[List.getD,hi]
 have ej:t.getD j q0=q':=by simp[List.getD,hj]
 rcases Nat.lt_trichotomy i j with hlt|rfl|hlt
 ·obtain⟨d,rfl⟩:∃ d,j=i+d+1:=⟨j-i-1,by omega⟩;have:=Pp h d i hlj;rw[ei,ej,hn]at this;exact(GP _ this).elim
 ·rfl
 ·obtain⟨d,rfl⟩:∃ d,i=j+d+1:=⟨i-j-1,by omega⟩;have:=Pp h d j hli;rw[ei,ej,hn]at this;exact(GP _ this).elim
theorem MO{t:List Queue}(h:Ck t){i:Nat}{q:Queue}(hi:t[i]?=some q):By t q.res.name=some i:=by
 unfold By;rw[List.findIdx?_eq_some_iff_getElem];refine⟨Ae hi,by simp[get_eq hi],fun j hj=>?_⟩;have hlt:=Ae hi;have hg:t[j]?=some (t[j]):=gE (by omega);simp only[Bool.not_eq_true,beq_eq_false_iff_ne];intro e;have:=DZ h hg hi e;omega
theorem HE{t t':List Queue}(h:t'.map (·.res)=t.map (·.res))(n:Bs):By t' n=By t n:=by
 have h1:∀ l:List Queue,By l n=(l.map (·.res)).findIdx? fun r=>r.name==n:=fun l=>by
  unfold By;rw[List.findIdx?_map];rfl
 rw[h1,h1,h]
theorem SI{t:List Queue}{p:Proc}{name:Bs}{k:Nat}{q:Queue}(h:Ck t)(hf:By t name=some k)(hq:t[k]?=some q)(hw:(Aj q p).isSome=true) :
 ∃ q',(BZ t p name).1=t.set k q'∧EO p t (t.set k q')∧q'.res=q.res∧Aj q' p=none∧Ak q'.holds p=Ak q.holds p:=by
 have hg:t.getD k q0=q:=by simp[List.getD,hq]
 obtain⟨h0,h1,h2,h3⟩:=JF (h.val q (mG hq)) hw;refine⟨(A3 q p).1,?_,LD h hq h1 (.inl fun x hx=>?_),h1.res,h2,h3⟩
 ·simp only[BZ,(Dx t).2 h,hf,hg,h0];rfl
 ·have hv:=h.val q (mG hq);have e:(A3 q p).1=El (DA q p):=by simp[A3,hv,hw]
  rw[e,NI]at hx;exact Qa hx
theorem aV{q:Queue}{p x:Proc}{a:Amt}(hz:(Ak q.holds p).zero=false)(h:inQ (H6 q p a) x):inQ q x:=by
 rcases SX h with h|rfl
 ·exact h
 ·exact .inl (HG hz)
theorem G6{t:List Queue}{p:Proc}{a:Atom}{k:Nat}{q:Queue}(h:Ck t)(hf:By t a.name=some k)(hq:t[k]?=some q)(hw:Aj q p=none)(hz:(Ak q.holds p).zero=false)(hc:q.res.covers (Ak q.holds p) a.amt=true) :
 ∃ q',(AO t p a).1=t.set k q'∧EO p t (t.set k q')∧q'.res=q.res∧Aj q' p=none∧Ak q'.holds p=a.amt:=by
 have hg:t.getD k q0=q:=by simp[List.getD,hq]
 have hv:=h.val q (mG hq);obtain⟨h0,h1,h2,h3⟩:=G5 hv hz hw hc;refine⟨(AN q p a.amt).1,?_,LD h hq h1 (.inl fun x hx=>?_),h1.res,h2,h3⟩
 ·simp only[AO,(Dx t).2 h,hf,hg,h0];rfl
 ·revert hx;unfold AN;simp only[hv,hz,hw,hc,isSome_none,Bool.not_true,false_eq_true,if_false];split
  ·exact id
  ·intro hx;rw[NI]at hx;exact aV hz hx
theorem TS{t:List Queue}{p:Proc}{a:Atom}{prio:Int}(h:Ck t)(L:Bs→Amt)(hk:∀ q∈t,q.res.name=a.name→Ak q.holds p=L q.res.name) :
 (Dp t p a prio).1=[]∨∃ k q q',By t a.name=some k∧t[k]?=some q∧q.res.name=a.name∧(Dp t p a prio).1=t.set k q'∧EO p t (t.set k q')∧q'.res=q.res∧Kq q' p (L q.res.name):=by
 unfold Dp;simp only[(Dx t).2 h,Bool.not_true,false_eq_true,if_false];cases hf:By t a.name with
 |none=>exact .inl rfl
 |some k =>
  obtain⟨hlt,q,hq,hn⟩:=CH hf;have hg:t.getD k q0=q:=by simp[List.getD,hq]
  simp only[hg];split
  ·exact .inl rfl
  rename_i h8;split
  ·exact .inl rfl
  rename_i h0;have h0:(AJ q p a.amt prio).2.2=0:=by simpa using h0
  obtain⟨h1,h2⟩:=Oy (hk q (mG hq) hn) h0;refine .inr ⟨k,q,(AJ q p a.amt prio).1,rfl,hq,hn,rfl,LD h hq h1 ?_,h1.res,h2⟩
  by_cases hm:p∈Ar t
  ·exact .inr (.inl hm)
  ·refine .inr (.inr ?_);have hp:Br (Ar t) p=false:=by simp[Br,hm]
   rw[hp]at h8;have:=h.pr;simp at h8;omega
theorem Tk{t:List Queue}(p:Proc)(h:Ck t):EO p t (Bu t p).1:=by
 have e:(Bu t p).1=t.map fun q=>(BJ p q).1:=by simp[Bu,(Dx t).2 h]
 rw[e];have hs:=fun q hq=>Tj p (h.val q hq)
 have hr:(t.map fun q=>(BJ p q).1).map (·.res)=t.map (·.res):=by
  rw[List.map_map];exact List.map_congr_left fun q hq=>(hs q hq).res
 refine⟨Xd h hr (fun x hx=>?_) (Ob (t:=t) (fun x hx=>?_) h.pr),hr,fun y hy L hk x hx=>?_⟩
 ·obtain⟨q,hq,rfl⟩:=mem_map.1 hx;exact(hs q hq).val
 ·rw[C4]at hx ⊢;obtain⟨y,hy,hyx⟩:=hx;obtain⟨q,hq,rfl⟩:=mem_map.1 hy;refine⟨q,hq,?_⟩;revert hyx;unfold BJ;cases hh:LF q p
  ·exact id
  ·simp only[if_true];unfold E9;simp only[h.val q hq,if_true];split
   ·intro hyx;rw[NI]at hyx;exact((P9 q p x).1 hyx).1
   ·intro hyx;rcases hyx with ⟨_,hm,_⟩|⟨_,hm,_⟩|⟨_,hm,_⟩<;>simp[q0]at hm
 ·obtain⟨q,hq,rfl⟩:=mem_map.1 hx;rw[(hs q hq).res];exact(hs q hq).other y _ hy (hk q hq)
def e0:Expr:=.mk 0 a0 []
def C6:Req:=⟨e0,0,0⟩
def PZ(e:Expr):Bool:=e.k==0&&decide (e.atom=a0)&&decide (e.kids.length=0)
def Ra(r:Req):Bool:=PZ r.expr&&r.prio==0&&r.limit==0
theorem cK(e:Expr):Ac C0 137 [.agg e.c,.agg e0.c] [] (B (PZ e)) []:=by
 refine Ac.lens f137 fun hlen=>?_
 simp only[Fz,lens,Expr.FF,List.length_map,and_true,true_and]at hlen;refine Ac.go f137 ?_;unfold f137;have k1:e0.k=0:=rfl;have k2:e0.atom=a0:=rfl;have k3:e0.kids=[]:=rfl;have ez:(e.atom.name==[]&&(e.atom.amt.mode==0&&e.atom.amt.units==0))=decide (e.atom=a0):=SG e.atom
 by_cases h1:e.k=0
 rotate_left
 ·have h1':(e.k !=0)=true:=by simp[h1]
  simp(disch:=omega)only[go_sem,k1,k2,k3,a0,map_nil,h1',Bool.not_false,Bool.not_true];refine Ap _ ?_;exact wb (by simp[PZ,h1])
 have h1':(e.k !=0)=false:=by simp[h1]
 by_cases h2:e.atom=a0
 rotate_left
 ·rw[decide_eq_false h2]at ez;simp(disch:=omega)only[go_sem,k1,k2,k3,a0,map_nil,h1',ez,Bool.not_false,Bool.not_true];refine Ap _ ?_;exact wb (by simp[PZ,h2])
 rw[decide_eq_true h2]at ez
 by_cases h3:e.kids.length=0
 rotate_left
 ·have h3':((e.kids.length:Int) !=0)=true:=by simp only[bne_iff_ne,ne_eq];omega
  simp(disch:=omega)only[go_sem,k1,k2,k3,a0,map_nil,h1',ez,h3',Bool.not_false,Bool.not_true];refine Ap _ ?_;exact wb (by simp[PZ,h3])
 have h3':((e.kids.length:Int) !=0)=false:=by simp[h3]
 simp(disch:=omega)only[go_sem,k1,k2,k3,a0,map_nil,h1',ez,h3',Bool.not_false,Bool.not_true];refine Aa (α:=Nat) (fun i=>⟨[(5,I i),(2,.ptr 128 0)],[(128,e.c)]⟩) (fun i=>i≤(e.kids).length∧True) (fun i=>(e.kids).length-i) 0 ⟨by omega,trivial⟩ ?_ ?_
 ·exact Ca
 rintro i ⟨hi,hP⟩ J hJ;refine gO ?_;refine ⟨fun hlt=>?_,fun hge=>?_⟩;rotate_left;have hil:i=(e.kids).length:=by simp at hge;omega
 rotate_left;obtain⟨b,hb⟩:∃ b,(e.kids)[i]?=some b:=⟨_,gE (by simp at hlt;omega)⟩;have hbm:=mG hb;have hlt2:i<(e.kids).length:=by simp at hlt;omega
 ·omega
 ·refine Ap _ ?_;exact wb (by simp[PZ,h1,h2,h3])
theorem cL(r:Req):Ac C0 172 [.agg r.c,.agg C6.c] [] (B (Ra r)) []:=by
 have k1:C6.expr=e0:=rfl;have k4:C6.prio=0:=rfl;have k5:C6.limit=0:=rfl;refine Ac.go f172 ?_;unfold f172;simp(disch:=omega)only[go_sem,k1,k4,k5];refine Ab (cK r.expr) ?_;cases h1:PZ r.expr
 ·simp(disch:=omega)only[go_sem];refine Ap _ ?_;exact wb (by simp[Ra,h1])
 simp(disch:=omega)only[go_sem,k4,k5];cases h2:(r.prio==0)
 ·simp(disch:=omega)only[go_sem,h2];refine Ap _ ?_;exact wb (by simp[Ra,h1,h2])
 simp(disch:=omega)only[go_sem,h2];refine Ap _ ?_;exact wb (by simp only[Ra,h1,h2];rfl)
def Gd(r:Req):Bool:=A5 r.expr&&decide (0≤r.prio)&&decide (r.prio≤7)&&decide (0≤r.limit)&&decide (r.limit≤1000)
theorem f176_ok(r:Req):Ac C0 176 [.agg r.c] [] (B (Gd r)) []:=by
 refine Ac.go f176 ?_;unfold f176;refine gO ?_;refine Af (f106_ok r.expr) (by simp(disch:=omega)only[go_sem,Expr.FF]) rfl ?_;cases h1:A5 r.expr
 ·simp(disch:=omega)only[go_sem];refine Ap _ ?_;exact wb (by simp[Gd,h1])
 simp(disch:=omega)only[go_sem]
 repeat'(with_reducible refine And.intro (fun h=>?_) (fun h=>?_))
 all_goals(refine B0 _ ?_)
 all_goals(try simp(disch:=omega)only[go_sem])
 all_goals(first|refine wb ?_|refine wi ?_|refine .eq ?_)
 all_goals(first|(simp_all[Gd,h1]<;>omega)|(refine Bool.eq_iff_iff.2 ?_;simp_all[Gd,h1]<;>omega))
def HW(l:List Res)(i:Nat)(r:Res):Bool:=Gq r&&(decide (i=0)||BF (l.getD (i-1) r0).name r.name)
def GV(l:List Res):Bool:=decide (l.length≤8)&&BO (HW l) l
theorem f168_ok(l:List Res):Ac C0 168 [EU l] [] (B (GV l)) []:=by
 refine Ac.go f168 ?_;unfold f168
 by_cases hq:8<l.length
 ·have e1:(8<(l.length:Int))=True:=eq_true (by omega);have e:GV l=false:=by simp[GV];omega
  simp(disch:=omega)only[go_sem,e1];refine Ap _ ?_;exact wb (by simp[e])
 have e1:(8<(l.length:Int))=False:=eq_false (by omega);simp(disch:=omega)only[go_sem,e1,decide_false];refine Aa (α:=Nat) (fun i=>⟨[(3,I i),(0,EU l)],[]⟩) (fun i=>i≤(l).length∧BO (HW l) (l.take i)=true) (fun i=>(l).length-i) 0 ⟨by omega,rfl⟩ ?_ ?_
 ·exact Ca
 rintro i ⟨hi,hP⟩ J hJ;refine gO ?_;refine ⟨fun hlt=>?_,fun hge=>?_⟩;rotate_left;have hil:i=(l).length:=by simp at hge;omega
 rotate_left;obtain⟨b,hb⟩:∃ b,(l)[i]?=some b:=⟨_,gE (by simp at hlt;omega)⟩;have hbm:=mG hb;have hlt2:i<(l).length:=by simp at hlt;omega
 refine Aq 21 [([],[0]),([],[3]),([],[13,14]),([],[15]),([],[16]),([4],[17]),([4],[18]),([4],[3,19]),([4],[20,19]),([4],[21,19]),([4],[0,22]),([4],[3,22]),([4],[24,22]),([4],[23,25,22]),([4],[26,22]),([4],[27,22]),([4],[0,22]),([4],[3,22]),([4],[29,30,22]),([4],[31,22]),([4],[32,22])] fol ?_;simp(disch:=omega)only[go_sem,gm,hb]
 ·have bad:HW l i b=false→GV l=false:=fun h=>by simp only[GV,Bj hb h,Bool.and_false]
  have good:HW l i b=true→BO (HW l) (l.take (i+1))=true:=fun h=>by rw[B4 hb,hP,h];rfl
  first|(refine Ab (f246_ok b) ?_)|(refine Al (f246_ok b) ?_)
  have hv':(Bp b.name&&b.shaped&&between b.home 0 3)=Gq b:=rfl;rw[hv'];cases hv:Gq b
  ·simp(disch:=omega)only[go_sem];refine Ap _ ?_;exact wb (by rw[bad (by simp[HW,hv])])
  by_cases hi0:i=0
  ·subst hi0;refine gO ?_;refine hJ _ 1 ⟨by simp at hlt;omega,good (by simp[HW,hv])⟩ (by simp at hlt;omega) AK
  ·have hi1:(0<(i:Int))=True:=eq_true (by omega);have hi2:((i:Int)-1)=((i-1:Nat):Int):=by omega
   obtain⟨a,ha'⟩:∃ a,l[i-1]?=some a:=⟨_,gE (by simp at hlt;omega)⟩;have had:l.getD (i-1) r0=a:=by simp[List.getD,ha']
   simp(disch:=omega)only[go_sem,hi1,hi2,gm,ha',hb];refine And.intro (fun hh=>?_) (fun hh=>?_)
   ·refine Ap _ ?_;exact wb (by rw[bad (by simp only[HW,had,hv];simp[hi0];simpa [BF]using hh)])
   ·refine hJ _ (i+1) ⟨by simp at hlt;omega,good (by simp only[HW,had,hv];simp[hi0];simpa [BF]using hh)⟩ (by simp at hlt;omega) AK
 subst hil;rw[take_length]at hP;have hqs:GV l=true:=by simp[GV,hP];omega
 refine Ap _ ?_;exact wb (by rw[hqs])
def FK(l:List Res)(a:Atom):Int:=if !GV l then 2 else match OH l a.name with
 |none=>10
 |some r=>if r.fits a.amt then 0 else 12
theorem f252_ok(l:List Res)(a:Atom):Ac C0 252 [EU l,.agg a.c] [] (I (FK l a)) []:=by
 refine Ac.go f252 ?_;unfold f252;refine gO ?_;refine Ab (f168_ok l) ?_;cases h1:GV l
 ·simp(disch:=omega)only[go_sem,Bool.not_false];refine Ap _ ?_;exact wi (by simp[FK,h1])
 simp(disch:=omega)only[go_sem,Bool.not_true];refine Ab (f288_ok l a.name) ?_;cases hf:OH l a.name with
 |none =>
  simp(disch:=omega)only[go_sem,isSome_none,Option.getD_none,r0];refine Ap _ ?_;exact wi (by simp[FK,h1,hf])
 |some r =>
  simp(disch:=omega)only[go_sem,Option.isSome_some,Option.getD_some];refine Ab (f171_ok r a.amt) ?_;cases h2:r.fits a.amt
  ·simp(disch:=omega)only[go_sem,Bool.not_false];refine Ap _ ?_;exact wi (by simp[FK,h1,hf,h2])
  ·simp(disch:=omega)only[go_sem,Bool.not_true];refine Ap _ ?_;exact wi (by simp[FK,h1,hf,h2])
def Ge(l:List Res):List Atom→Int
 |[]=>0
 | a::az=>if FK l a=0 then Ge l az else FK l a
def BY(l:List Res)(e:Expr):Int:=if A5 e then Ge l (Ad e) else 1
theorem f177_ok(l:List Res)(e:Expr):Ac C0 177 [EU l,.agg e.c] [] (I (BY l e)) []:=by
 refine Ac.go f177 ?_;unfold f177;refine gO ?_;refine Ab (f150_ok e) ?_;cases h1:A5 e
 ·simp(disch:=omega)only[go_sem,Bool.not_false];refine Ap _ ?_;exact wi (by simp[BY,h1])
 simp(disch:=omega)only[go_sem,Bool.not_true];have e1:BY l e=Ge l (Ad e):=by simp[BY,h1]
 rw[e1];have hal:(Ad e).length≤1000000:=by have:=CS e;omega
 generalize Ad e=az at hal;refine Aa (α:=Nat) (fun i=>⟨[(7,I i),(5,Bn az),(0,EU l)],[]⟩) (fun i=>i≤(az).length∧Ge l az=Ge l (az.drop i)) (fun i=>(az).length-i) 0 ⟨by omega,rfl⟩ ?_ ?_
 ·exact Ca
 rintro i ⟨hi,hP⟩ J hJ;refine gO ?_;refine ⟨fun hlt=>?_,fun hge=>?_⟩;rotate_left;have hil:i=(az).length:=by simp at hge;omega
 rotate_left;obtain⟨b,hb⟩:∃ b,(az)[i]?=some b:=⟨_,gE (by simp at hlt;omega)⟩;have hbm:=mG hb;have hlt2:i<(az).length:=by simp at hlt;omega
 ·have hd:az.drop i=b::az.drop (i+1):=by rw[List.drop_eq_getElem_cons hlt2,get_eq hb]
  simp(disch:=omega)only[go_sem,gm,hb];refine Ab (f252_ok l b) ?_;cases hz:(FK l b !=0)
  ·simp(disch:=omega)only[go_sem,hz];refine hJ _ (i+1) ⟨by simp at hlt;omega,(by rw[hP,hd];simp only[Ge];rw[if_pos (by simpa using hz)])⟩ (by simp at hlt;omega) AK
  ·simp(disch:=omega)only[go_sem,hz];refine Ap _ ?_;exact wi (by rw[hP,hd];simp only[Ge];rw[if_neg (by simpa using hz)])
 ·subst hil;refine Ap _ ?_;exact wi (by rw[hP,List.drop_length];rfl)
def FH(G:List Bool)(i:Nat):List Bool:=G.take i++List.replicate (G.length-i) false
theorem RB{G:List Bool}{i:Nat}(h:i≤G.length):(FH G i).length=G.length:=by simp[FH];omega
theorem RA{G:List Bool}{i:Nat}(h:i<G.length):(FH G i)[i]?=some false:=by
 unfold FH;rw[List.getElem?_append_right (by simp;omega),List.getElem?_replicate];simp;omega
theorem RC{G:List Bool}{i:Nat}{b:Bool}(hb:G[i]?=some b):(FH G i).set i b=FH G (i+1):=by
 have hi:=Ae hb;unfold FH;rw[List.set_append_right _ _ (by simp;omega)];simp only[List.length_take,Nat.min_eq_left (Nat.le_of_lt hi),Nat.sub_self];rw[show G.length-i=(G.length-(i+1))+1 by omega,List.replicate_succ,List.set_cons_zero,take_add_one,hb];simp
theorem Rz(G:List Bool):FH G G.length=G:=by simp[FH]
def CK(l:List Pcs)(p:Proc):Int:=match l.findIdx? (fun x=>decide (x.proc=p)) with|some i=>i|none=>-1
theorem f69_ok(l:List Pcs)(p:Proc):Ac C0 69 [bw l,.agg p.c] [] (I (CK l p)) []:=by
 refine Ac.lens f69 fun hlen=>?_
 simp only[Fz,lens,List.length_map,and_true,true_and]at hlen;refine Ac.go f69 ?_;unfold f69;refine gO ?_;refine Aa (α:=Nat) (fun i=>⟨[(5,I i),(0,bw l),(3,.ptr 192 0)],[(192,p.c)]⟩) (fun i=>i≤(l).length∧(l.take i).find? (fun x=>decide (x.proc=p))=none) (fun i=>(l).length-i) 0 ⟨by omega,rfl⟩ ?_ ?_
 ·exact Ca
 rintro i ⟨hi,hP⟩ J hJ;refine gO ?_;refine ⟨fun hlt=>?_,fun hge=>?_⟩;rotate_left;have hil:i=(l).length:=by simp at hge;omega
 rotate_left;obtain⟨b,hb⟩:∃ b,(l)[i]?=some b:=⟨_,gE (by simp at hlt;omega)⟩;have hbm:=mG hb;have hlt2:i<(l).length:=by simp at hlt;omega
 refine Aq 6 [([],[0]),([],[5]),([],[12,13]),([],[14]),([],[15]),([],[3])] fol ?_;simp(disch:=omega)only[go_sem,gm,hb]
 ·refine⟨fun h=>?_,fun h=>?_⟩
  ·have e:CK l p=i:=by unfold CK;rw[F9 hP b hb (by simpa using h)]
   simp(disch:=omega)only[go_sem,e];exact AH _
  ·refine hJ _ (i+1) ⟨by simp at hlt;omega,(by rw[BU hP hb];simp at h;simp[h])⟩ (by simp at hlt;omega) AK
 ·subst hil;rw[take_length]at hP;have e:CK l p = -1:=by
   have:l.findIdx? (fun x=>decide (x.proc=p))=none:=by
    rw[List.findIdx?_eq_none_iff];rw[List.find?_eq_none]at hP;intro x hx;simpa using hP x hx
   unfold CK;rw[this]
  simp(disch:=omega)only[go_sem,e];exact AH _
def B6(t:List Queue):List Res:=t.map (·.res)
theorem f178_ok(t:List Queue)(h:t.length≤1000000):Ac C0 178 [Ay t] [] (EU (B6 t)) []:=by
 refine Ac.go f178 ?_;unfold f178;refine gO ?_;refine Aa (α:=Nat) (fun i=>⟨[(4,I i),(3,.sl (.own 1152 0) 4 ((B6 (t.take i)).map Res.c)),(0,Ay t)],[]⟩) (fun i=>i≤(t).length∧True) (fun i=>(t).length-i) 0 ⟨by omega,trivial⟩ ?_ ?_
 ·refine Imp.weak ?_ ?_
  all_goals(try simp(disch:=omega)only[go_sem])
  all_goals(try(repeat'(with_reducible apply And.intro)))
  all_goals(first|exact .AA (by omega)|exact .Az (by omega)|exact .sl (by simp[B6])|exact .int (by simp[B6])|exact .eq (by simp[B6]))
 rintro i ⟨hi,hP⟩ J hJ;refine gO ?_;refine ⟨fun hlt=>?_,fun hge=>?_⟩;rotate_left;have hil:i=(t).length:=by simp at hge;omega
 rotate_left;obtain⟨b,hb⟩:∃ b,(t)[i]?=some b:=⟨_,gE (by simp at hlt;omega)⟩;have hbm:=mG hb;have hlt2:i<(t).length:=by simp at hlt;omega
 ·have hbd:(B6 (t.take i)).length+1≤4294967296:=by simp[B6];omega
  simp(disch:=omega)only[go_sem,gm,hb];refine hJ _ (i+1) ⟨by simp at hlt;omega,trivial⟩ (by simp at hlt;omega) (Imp.weak ?_ ?_)
  all_goals(try simp(disch:=omega)only[go_sem])
  all_goals(try(repeat'(with_reducible apply And.intro)))
  all_goals(first|exact .AA (by omega)|exact .Az (by omega)|exact .sl (by simp[B6,take_add_one,hb,Res.c])|exact .int (by simp[B6,take_add_one,hb,Res.c])|exact .eq (by simp[B6,take_add_one,hb,Res.c]))
 ·subst hil;rw[take_length];refine CT ⟨[],[],[1152]⟩ _ ?_;simp(disch:=omega)only[go_sem]
def GA(t:List Queue)(p:Proc)(a:Atom):Bool:=match By t a.name with
 |none=>false
 |some k=>(t.getD k q0).res.covers (Ak (t.getD k q0).holds p) a.amt
def AU(t:List Queue)(p:Proc)(e:Expr):List Bool:=(Ad e).map (GA t p)
theorem f179_ok(t:List Queue)(p:Proc)(e:Expr)(h:CU t):Ac C0 179 [Ay t,.agg p.c,.agg e.c] [] (It (AU t p e)) []:=by
 have hn:=h.n;have hal:=CS e;refine Ac.go f179 ?_;unfold f179;refine gO ?_;refine Af (f93_ok e) (by simp(disch:=omega)only[go_sem,Expr.FF]) rfl ?_;refine gO ?_;have hgl:(AU t p e).length=(Ad e).length:=by simp[AU]
 refine Aa (α:=Nat) (fun i=>⟨[(9,I i),(0,Ay t),(4,.ptr 256 0),(7,Bn (Ad e)),(8,.sl (.own 960 0) 1 ((FH (AU t p e) i).map fun b=>[B b]))],[(256,p.c)]⟩) (fun i=>i≤((Ad e)).length∧True) (fun i=>((Ad e)).length-i) 0 ⟨by omega,trivial⟩ ?_ ?_
 ·refine Imp.weak ?_ ?_
  all_goals(try simp(disch:=omega)only[go_sem])
  all_goals(try(repeat'(with_reducible apply And.intro)))
  all_goals(first|exact .AA (by omega)|exact .Az (by omega)|exact .sl (by simp[FH,AU])|exact .int (by simp[FH,AU])|exact .eq (by simp[FH,AU]))
 rintro i ⟨hi,hP⟩ J hJ;refine gO ?_;refine ⟨fun hlt=>?_,fun hge=>?_⟩;rotate_left;have hil:i=((Ad e)).length:=by simp at hge;omega
 rotate_left;obtain⟨b,hb⟩:∃ b,((Ad e))[i]?=some b:=⟨_,gE (by simp at hlt;omega)⟩;have hbm:=mG hb;have hlt2:i<((Ad e)).length:=by simp at hlt;omega
 ·have hfl:=RB (G:=AU t p e) (i:=i) (by omega);have hfg:=RA (G:=AU t p e) (i:=i) (by omega);have hgi:(AU t p e)[i]?=some (GA t p b):=by simp[AU,hb]
  have hfs:=RC hgi;generalize FH (AU t p e) i=M at hfl hfg hfs ⊢;simp(disch:=omega)only[go_sem,gm,hb];refine Ab (I6 t b.name (by omega)) ?_;cases hf:By t b.name with
  |none =>
   have eg:GA t p b=false:=by simp[GA,hf]
   rw[eg]at hfs;have hMs:M.set i false=M:=by
    apply List.ext_getElem?;intro j;rw[List.getElem?_set];split
    ·rename_i hij;subst hij;rw[if_pos (by omega),hfg]
    ·rfl
   rw[hMs]at hfs;simp(disch:=omega)only[go_sem,atI];refine hJ _ (i+1) ⟨by omega,trivial⟩ (by omega) (Imp.weak ?_ gI);refine gO ?_;exact .sl (by rw[← hfs])
  |some k =>
   obtain⟨hk,q,hq,_⟩:=CH hf;have eg:GA t p b=q.res.covers (Ak q.holds p) b.amt:=by simp[GA,hf,List.getD,hq]
   rw[eg]at hfs;obtain⟨q1,q2,q3⟩:=Bw (h.q q (mG hq));simp(disch:=omega)only[go_sem,atI,eq_true (show (0:Int)≤(k:Int) by omega),decide_true];refine Aq 19 [([],[8]),([],[9]),([],[0]),([],[10]),([],[33,34]),([],[35]),([],[36]),([],[0]),([],[10]),([],[38,39]),([],[40]),([],[4]),([],[41,42]),([],[7]),([],[9]),([],[44,45]),([],[46]),([],[47]),([12],[37,43,48])] fol ?_;simp(disch:=omega)only[go_sem,gm,hb,hq]
   first|(refine Ab (f163_ok q p q1) ?_)|(refine Al (f163_ok q p q1) ?_)
   simp(disch:=omega)only[go_sem,gm,hb,hq]
   first|(refine Ab (f253_ok q.res (Ak q.holds p) b.amt) ?_)|(refine Al (f253_ok q.res (Ak q.holds p) b.amt) ?_)
   simp(disch:=omega)only[go_sem,gm,hfg];refine hJ _ (i+1) ⟨by omega,trivial⟩ (by omega) (Imp.weak ?_ gI);refine gO ?_;exact .sl (by rw[← hfs,map_set])
 ·subst hil;have e3:FH (AU t p e) (Ad e).length=AU t p e:=by rw[← hgl,Rz]
  rw[e3];refine CT ⟨[],[],[960]⟩ _ ?_;simp(disch:=omega)only[go_sem]
def Cc(q:Queue)(x:Pcs):List Atom→Bool
 |[]=>decide (Ak q.holds x.proc=Ai x.led.entries q.res.name)&&!(Aj q x.proc).isSome
 | a::az=>if a.name !=q.res.name then Cc q x az else if q.res.covers (Ai x.led.entries q.res.name) a.amt then Cc q x az
  else if !(Aj q x.proc).isSome then decide (Ak q.holds x.proc=CC q.res (Ai x.led.entries q.res.name) a.amt)
  else if q.waits.any (fun w=>decide (w.proc=x.proc)&&w.prio !=x.req.prio) then false
  else decide (Ak q.holds x.proc=Ai x.led.entries q.res.name)&&decide ((Aj q x.proc).getD ⟨0,0⟩=CC q.res (Ai x.led.entries q.res.name) a.amt)
theorem f180_ok(q:Queue)(x:Pcs)(az:List Atom)(h:BA q≤100)(ha:az.length≤1000000):Ac C0 180 [.agg q.c,.agg x.c,Bn az] [] (B (Cc q x az)) []:=by
 obtain⟨q1,q2,q3⟩:=Bw h;refine Ac.go f180 ?_;unfold f180;refine gO ?_;refine Ab (f190_ok x.led.entries q.res.name) ?_;refine gO ?_;refine Ab (f163_ok q x.proc q1) ?_;refine gO ?_;refine Ab (f98_ok q x.proc q2 q3) ?_;refine gO ?_;refine Aa (α:=Nat) (fun i=>⟨[(11,I i),(2,Bn az),(3,.ptr 192 0),(4,.ptr 256 0),(7,.ptr 448 0),(8,.ptr 512 0),(9,.ptr 576 0),(10,B (Aj q x.proc).isSome)],[(192,q.c),(256,x.c),(448,(Ai x.led.entries q.res.name).c),(512,(Ak q.holds x.proc).c),(576,((Aj q x.proc).getD ⟨0,0⟩).c)]⟩) (fun i=>i≤(az).length∧Cc q x az=Cc q x (az.drop i)) (fun i=>(az).length-i) 0 ⟨by omega,rfl⟩ ?_ ?_
 ·exact Ca
 rintro i ⟨hi,hP⟩ J hJ;refine gO ?_;refine ⟨fun hlt=>?_,fun hge=>?_⟩;rotate_left;have hil:i=(az).length:=by simp at hge;omega
 rotate_left;obtain⟨b,hb⟩:∃ b,(az)[i]?=some b:=⟨_,gE (by simp at hlt;omega)⟩;have hbm:=mG hb;have hlt2:i<(az).length:=by simp at hlt;omega
 ·have hd:az.drop i=b::az.drop (i+1):=by rw[List.drop_eq_getElem_cons hlt2,get_eq hb]
  rw[hd]at hP;simp only[Cc]at hP;simp(disch:=omega)only[go_sem,gm,hb];cases hn:(b.name==q.res.name)
  ·have h1:(b.name !=q.res.name)=true:=by simp[bne,hn]
   rw[h1,if_pos rfl]at hP;simp(disch:=omega)only[go_sem,h1,hn,Bool.not_false];refine hJ _ (i+1) ⟨by simp at hlt;omega,hP⟩ (by simp at hlt;omega) AK
  have h1:(b.name !=q.res.name)=false:=by simp[bne,hn]
  rw[h1]at hP;simp only[false_eq_true,if_false]at hP;simp(disch:=omega)only[go_sem,h1,hn,Bool.not_true];refine Ab (f253_ok q.res (Ai x.led.entries q.res.name) b.amt) ?_;cases h2:q.res.covers (Ai x.led.entries q.res.name) b.amt;rotate_left
  ·rw[h2,if_pos rfl]at hP;refine gO ?_;refine hJ _ (i+1) ⟨by simp at hlt;omega,hP⟩ (by simp at hlt;omega) AK
  rw[h2]at hP;simp only[false_eq_true,if_false]at hP;refine gO ?_;refine Ab (f254_ok q.res (Ai x.led.entries q.res.name) b.amt) ?_;cases h3:(Aj q x.proc).isSome
  ·rw[h3]at hP;simp only[Bool.not_false,if_true]at hP;simp(disch:=omega)only[go_sem,Bool.not_false];refine Ap _ ?_;exact wb hP.symm
  rw[h3]at hP;simp only[Bool.not_true,false_eq_true,if_false]at hP;simp(disch:=omega)only[go_sem,Bool.not_true];obtain⟨o,rfl⟩:∃ o,o=i:=⟨i,rfl⟩;obtain⟨bo,rfl⟩:∃ bo,bo=b:=⟨b,rfl⟩;have hPo:=hP;clear hJ hb hlt hlt2;have anyN:∀ (i:Nat) (w:Wait),q.waits[i]?=some w→(q.waits.take (i+1)).any (fun w=>decide (w.proc=x.proc)&&w.prio !=x.req.prio)=((q.waits.take i).any (fun w=>decide (w.proc=x.proc)&&w.prio !=x.req.prio)||(decide (w.proc=x.proc)&&w.prio !=x.req.prio)):=fun i w hw=>by
   rw[take_add_one,hw];simp
  have anyT:∀ (w:Wait),w∈q.waits→(decide (w.proc=x.proc)&&w.prio !=x.req.prio)=true→q.waits.any (fun w=>decide (w.proc=x.proc)&&w.prio !=x.req.prio)=true:=fun w hw hc=>List.any_eq_true.2 ⟨w,hw,hc⟩
  refine Aa (α:=Nat) (fun i=>⟨[(14,I i),(3,.ptr 192 0),(4,.ptr 256 0),(7,.ptr 448 0),(8,.ptr 512 0),(9,.ptr 576 0),(13,.ptr 832 0)],[(192,q.c),(256,x.c),(448,(Ai x.led.entries q.res.name).c),(512,(Ak q.holds x.proc).c),(576,((Aj q x.proc).getD ⟨0,0⟩).c),(832,(CC q.res (Ai x.led.entries q.res.name) bo.amt).c)]⟩) (fun i=>i≤(q.waits).length∧(q.waits.take i).any (fun w=>decide (w.proc=x.proc)&&w.prio !=x.req.prio)=false) (fun i=>(q.waits).length-i) 0 ⟨by omega,rfl⟩ ?_ ?_
  ·exact Ca
  rintro i ⟨hi,hP⟩ J hJ;refine gO ?_;refine ⟨fun hlt=>?_,fun hge=>?_⟩;rotate_left;have hil:i=(q.waits).length:=by simp at hge;omega
  rotate_left;obtain⟨b,hb⟩:∃ b,(q.waits)[i]?=some b:=⟨_,gE (by simp at hlt;omega)⟩;have hbm:=mG hb;have hlt2:i<(q.waits).length:=by simp at hlt;omega
  ·refine Aq 19 [([],[3]),([],[75]),([],[14]),([],[76,77]),([],[78]),([],[79]),([],[4]),([],[81]),([],[80,82]),([],[83]),([],[3,84]),([],[85,84]),([],[14,84]),([],[86,87,84]),([],[88,84]),([],[89,84]),([],[4,84]),([],[91,84]),([],[92,84])] fol ?_;cases c1:decide (b.proc=x.proc)
   ·simp(disch:=omega)only[go_sem,gm,hb,c1];refine hJ _ (i+1) ⟨by simp at hlt;omega,(by rw[anyN i b hb,hP,c1];rfl)⟩ (by simp at hlt;omega) AK
   cases c2:(b.prio !=x.req.prio)
   ·simp(disch:=omega)only[go_sem,gm,hb,c1,c2];refine hJ _ (i+1) ⟨by simp at hlt;omega,(by rw[anyN i b hb,hP,c1,c2];rfl)⟩ (by simp at hlt;omega) AK
   ·simp(disch:=omega)only[go_sem,gm,hb,c1,c2];refine Ap _ ?_;exact wb (by rw[hPo,if_pos (anyT b hbm (by rw[c1,c2];rfl))])
  ·subst hil;rw[take_length]at hP;rw[hP]at hPo;simp only[false_eq_true,if_false]at hPo;cases c1:decide (Ak q.holds x.proc=Ai x.led.entries q.res.name)
   ·simp(disch:=omega)only[go_sem,c1];refine Ap _ ?_;exact wb (by rw[hPo,c1];rfl)
   ·simp(disch:=omega)only[go_sem,c1];refine Ap _ ?_;exact wb (by rw[hPo,c1];rfl)
 ·subst hil;rw[List.drop_length]at hP;simp only[Cc]at hP;cases h1:decide (Ak q.holds x.proc=Ai x.led.entries q.res.name)
  ·simp(disch:=omega)only[go_sem,h1];refine Ap _ ?_;exact wb (by rw[hP,h1];rfl)
  ·simp(disch:=omega)only[go_sem,h1];refine Ap _ ?_;exact wb (by rw[hP,h1];rfl)
def Er(l:Ledger):List Atom:=(BH l.entries).filterMap fun n=>if (Ai l.entries n).mode==0&&(Ai l.entries n).units==0 then none else some ⟨n,Ai l.entries n⟩
theorem Zc{α β:Type}{f:α→Option β}{l:List α}{i:Nat}{b:α}(hb:l[i]?=some b):(l.take (i+1)).filterMap f=(l.take i).filterMap f++(f b).toList:=by
 rw[take_add_one,hb,List.filterMap_append];cases h:f b<;>simp[h]
theorem Lv(l:List Entry):(BH l).length≤l.length:=by
 have:=Mk (l:=l) l.length (Nat.le_refl _)
 rwa [take_length]at this
theorem f170_ok(l:Ledger)(hl:l.entries.length≤1000000):Ac C0 170 [.agg l.c] [] (Bn (Er l)) []:=by
 have hnl:=Lv l.entries;refine Ac.go f170 ?_;unfold f170;refine gO ?_;refine Ab (f249_ok l.entries hl) ?_;refine gO ?_;unfold Er;generalize BH l.entries=ns at hnl;refine Aa (α:=Nat) (fun i=>⟨[(5,I i),(3,.sl (.own 2176 0) 3 (((ns.take i).filterMap fun n=>if (Ai l.entries n).mode==0&&(Ai l.entries n).units==0 then none else some (⟨n,Ai l.entries n⟩:Atom)).map Atom.c)),(4,Z5 ns),(1,.ptr 64 0)],[(64,l.c)]⟩) (fun i=>i≤(ns).length∧True) (fun i=>(ns).length-i) 0 ⟨by omega,trivial⟩ ?_ ?_
 ·exact Ca
 rintro i ⟨hi,hP⟩ J hJ;refine gO ?_;refine ⟨fun hlt=>?_,fun hge=>?_⟩;rotate_left;have hil:i=(ns).length:=by simp at hge;omega
 rotate_left;obtain⟨b,hb⟩:∃ b,(ns)[i]?=some b:=⟨_,gE (by simp at hlt;omega)⟩;have hbm:=mG hb;have hlt2:i<(ns).length:=by simp at hlt;omega
 ·have hx:=Zc (f:=fun n=>if (Ai l.entries n).mode==0&&(Ai l.entries n).units==0 then none else some (⟨n,Ai l.entries n⟩:Atom)) hb;have hlen:((ns.take i).filterMap fun n=>if (Ai l.entries n).mode==0&&(Ai l.entries n).units==0 then none else some (⟨n,Ai l.entries n⟩:Atom)).length≤ns.length:=le_trans (List.length_filterMap_le _ _) (by simp;omega);generalize (ns.take i).filterMap (fun n=>if (Ai l.entries n).mode==0&&(Ai l.entries n).units==0 then none else some (⟨n,Ai l.entries n⟩:Atom))=L at hx hlen ⊢;have hbd:L.length+1≤4294967296:=by omega
  refine Aq 8 [([],[1]),([],[16]),([],[4]),([],[5]),([],[18,19]),([],[20]),([],[17,21]),([],[])] fol ?_;simp(disch:=omega)only[go_sem,gm,hb]
  first|(refine Ab (f190_ok l.entries b) ?_)|(refine Al (f190_ok l.entries b) ?_)
  refine gO ?_;cases hz:((Ai l.entries b).mode==0&&(Ai l.entries b).units==0)
  ·simp(disch:=omega)only[go_sem,hz,Bool.not_false];refine Aq 8 [([],[3]),([],[4]),([],[5]),([],[27,28]),([],[29]),([],[6]),([],[30,31]),([],[32])] fol ?_;simp(disch:=omega)only[go_sem,gm,hb];rw[hz]at hx;refine hJ _ (i+1) ⟨by omega,trivial⟩ (by omega) (Imp.weak ?_ ?_)
   all_goals(try simp(disch:=omega)only[go_sem])
   exact .sl (by rw[hx];simp[Atom.c])
  ·simp(disch:=omega)only[go_sem,hz,Bool.not_true];rw[hz]at hx;refine hJ _ (i+1) ⟨by omega,trivial⟩ (by omega) (Imp.weak ?_ ?_)
   all_goals(try simp(disch:=omega)only[go_sem])
   exact .sl (by rw[hx];simp)
 ·subst hil;rw[take_length];refine CT ⟨[],[],[2176]⟩ _ ?_;simp(disch:=omega)only[go_sem]
def Ka(l:Ledger)(label:Int):Option (Nat × Nat):=if label=0 then some (0,0) else match l.saves.findIdx? (fun s=>s.label==label) with
 |some i=>some ((l.saves.getD i s0).pos.toNat,i+1)
 |none=>none
def MI(l:Ledger)(at_ n:Nat):Ledger:=⟨l.entries.take at_,l.saves.take n⟩
def IK(l:Ledger)(at_:Nat):List Atom:=(BH (l.entries.drop at_)).map fun n=>⟨n,Ai (l.entries.take at_) n⟩
def Bb(l:Ledger)(label:Int):Ledger × List Atom × Int:=if !AP l then (Cv,[],2) else match Ka l label with
 |none=>(Cv,[],10)
 |some (a,n)=>(MI l a n,IK l a,0)
theorem Ri{α:Type}{f:Nat→α→Bool}{l:List α}{i:Nat}{b:α}(h:BO f l=true)(hb:l[i]?=some b):f i b=true:=by
 cases hf:f i b
 ·rw[Bj hb hf]at h;cases h
 ·rfl
@[go_sem] theorem aK:DX []=.sl .no 5 []:=rfl
@[go_sem] theorem di:Mr []=.sl .no 2 []:=rfl
@[go_sem] theorem fy:bw []=.sl .no 16 []:=rfl
@[go_sem] theorem eJ:T8 []=.sl .no 7 []:=rfl
theorem Ld{l:Ledger}(h:AP l=true){i:Nat}{s:Save}(hs:l.saves[i]?=some s):0≤s.pos∧s.pos≤(l.entries.length:Int):=by
 simp only[AP,and_eq_true]at h;have:=Ri h.2 hs;simp only[Ee,and_eq_true,decide_eq_true_eq]at this;omega
theorem f195_ok(l:Ledger)(label:Int):Ac C0 195 [.agg l.c,I label] [] (.tup [.agg (Bb l label).1.c,Bn (Bb l label).2.1,I (Bb l label).2.2]) []:=by
 refine Ac.go f195 ?_;unfold f195;refine gO ?_;refine Ab (f169_ok l) ?_;cases hv:AP l
 ·have e:Bb l label=(Cv,[],2):=by simp[Bb,hv]
  simp(disch:=omega)only[go_sem,Bool.not_false,e,Cv,map_nil];exact Fb _
 have hel:l.entries.length≤72∧l.saves.length≤4:=by simp only[AP,and_eq_true,decide_eq_true_eq]at hv;omega
 have hcase:(Ka l label=none∧label≠0∧I7 l.saves label<0)∨(label=0∧Ka l label=some (0,0))∨(∃ i s,label≠0∧I7 l.saves label=((i:Nat):Int)∧l.saves[i]?=some s∧Ka l label=some (s.pos.toNat,i+1)):=by
  unfold Ka I7
  by_cases h0:label=0
  ·exact .inr (.inl ⟨h0,by simp[h0]⟩)
  ·cases hf:l.saves.findIdx? (fun s=>s.label==label) with
   |none=>exact .inl ⟨by simp[h0],h0,by simp⟩
   |some i =>
    have hi:=(List.findIdx?_eq_some_iff_getElem.1 hf).1;exact .inr (.inr ⟨i,l.saves[i],h0,rfl,gE hi,by simp[h0,List.getD,gE hi]⟩)
 rcases hcase with ⟨h1,h0,h2⟩|hcase
 ·have e:Bb l label=(Cv,[],10):=by simp[Bb,hv,h1]
  have e0:(label !=0)=true:=by simpa using h0
  simp(disch:=omega)only[go_sem,Bool.not_true,e0];refine Ab (f194_ok l.saves label) ?_;simp(disch:=omega)only[go_sem,eq_true h2,decide_true,e,Cv,map_nil];exact Fb _
 have hget:∃ a n,a≤l.entries.length∧n≤l.saves.length∧Bb l label=(MI l a n,IK l a,0)∧Ka l label=some (a,n):=by
  rcases hcase with ⟨h0,h1⟩|⟨i,s,h0,h1,h2,h3⟩
  ·exact⟨0,0,by omega,by omega,by simp[Bb,hv,h1],h1⟩
  ·have:=Ld hv h2;have:=Ae h2;exact⟨s.pos.toNat,i+1,by omega,by omega,by simp[Bb,hv,h3],h3⟩
 obtain⟨a,n,ha,hn,e,hbk⟩:=hget;rw[e];rcases hcase with ⟨h0,h1⟩|⟨i,s,h0,h1,h2,h3⟩
 all_goals first
  |(have e0:(label !=0)=true:=by simpa using h0
    have hpos:=Ld hv h2;rw[h3]at hbk;have hi1:(i:Int)+1=((i+1:Nat):Int):=by omega
    have hps:s.pos=((s.pos.toNat:Nat):Int):=by omega
    obtain⟨ha2,hn2⟩:s.pos.toNat=a∧i+1=n:=by simpa using hbk
    simp(disch:=omega)only[go_sem,Bool.not_true,e0];refine Ab (f194_ok l.saves label) ?_;simp(disch:=omega)only[go_sem,h1,eq_false (show ¬ ((i:Int)<0) by omega),decide_false,gm,h2])
  |(have e0:(label !=0)=false:=by simp[h0]
    rw[h1]at hbk;obtain⟨ha2,hn2⟩:0=a∧0=n:=by simpa using hbk
    simp(disch:=omega)only[go_sem,Bool.not_true,e0])
 all_goals
  refine DW (st':=⟨[(7,I (a:Int)),(8,I (n:Int)),(2,.ptr 128 0),(4,.ptr 256 0)],[(128,l.c),(256,Cv.c)]⟩) (Imp.weak ?_ ?_) ?_
  ·simp(disch:=omega)only[go_sem];exact⟨.int (by omega),.int (by omega)⟩
  ·simp(disch:=omega)only[go_sem,Cv]
  have hdr:(l.entries.drop a).take (l.entries.length-a)=l.entries.drop a:=List.take_of_length_le (by simp);refine Aq 14 [([],[]),([],[2]),([],[36]),([],[7]),([],[37,38]),([],[35,39]),([],[]),([],[2]),([],[42]),([],[8]),([],[43,44]),([],[41,45]),([],[40,46]),([],[])] fol ?_;refine gO ?_;refine Af (f249_ok (l.entries.drop a) (by simp;omega)) (by simp(disch:=omega)only[go_sem,hdr]) rfl ?_;have hnl:=Lv (l.entries.drop a);have hdl:(l.entries.drop a).length≤72:=by simp;omega
  refine gO ?_;unfold IK;generalize BH (l.entries.drop a)=ns at hnl ⊢;refine Aa (α:=Nat) (fun i=>⟨[(13,I i),(11,.sl (.own 4672 0) 3 (((ns.take i).map fun n=>(⟨n,Ai (l.entries.take a) n⟩:Atom)).map Atom.c)),(12,Z5 ns),(10,.ptr 640 0),(4,.ptr 256 0)],[(640,(MI l a n).c),(256,Cv.c)]⟩) (fun i=>i≤(ns).length∧True) (fun i=>(ns).length-i) 0 ⟨by omega,trivial⟩ ?_ ?_
  ·refine Imp.weak ?_ ?_
   all_goals(try simp(disch:=omega)only[go_sem,MI,Cv])
   all_goals(try(repeat'(with_reducible apply And.intro)))
   all_goals(first|exact .AA (by omega)|exact .Az (by omega)|exact .sl (by simp[MI,Cv])|exact .int (by simp[MI,Cv])|exact .eq (by simp[MI,Cv]))
  rintro i ⟨hi,hP⟩ J hJ;refine gO ?_;refine ⟨fun hlt=>?_,fun hge=>?_⟩;rotate_left;have hil:i=(ns).length:=by simp at hge;omega
  rotate_left;obtain⟨b,hb⟩:∃ b,(ns)[i]?=some b:=⟨_,gE (by simp at hlt;omega)⟩;have hbm:=mG hb;have hlt2:i<(ns).length:=by simp at hlt;omega
  ·refine Aq 14 [([],[11]),([],[12]),([],[13]),([],[60,61]),([],[62]),([],[10]),([],[64]),([],[12]),([],[13]),([],[66,67]),([],[68]),([],[65,69]),([11],[63,70]),([11],[71])] fol ?_;have hbd:((ns.take i).map fun n=>(⟨n,Ai (l.entries.take a) n⟩:Atom)).length+1≤4294967296:=by simp;omega
   simp(disch:=omega)only[go_sem,gm,hb,MI]
   first|(refine Ab (f190_ok (l.entries.take a) b) ?_)|(refine Al (f190_ok (l.entries.take a) b) ?_)
   simp(disch:=omega)only[go_sem,gm,hb];refine hJ _ (i+1) ⟨by omega,trivial⟩ (by omega) (Imp.weak ?_ ?_)
   ·simp(disch:=omega)only[go_sem];exact .sl (by simp[take_add_one,hb,Atom.c])
   ·simp(disch:=omega)only[go_sem,MI,Cv]
  ·subst hil;rw[take_length];refine CT ⟨[],[],[4672]⟩ _ ?_;refine gO ?_;exact .eq (by simp[Ledger.c])
def FO(t:List Queue)(a:Atom):Bool:=match By t a.name with
 |none=>false
 |some k=>(t.getD k q0).res.fits a.amt
def Ea(x:Pcs):Bool:=x.proc.ok&&decide (1≤x.cost)&&decide (x.cost≤1000)&&AP x.led&&decide (0≤x.gen)&&decide (x.gen≤1073741824)
def GC(t:List Queue)(x:Pcs):Bool:=Ra x.req&&x.since==0&&decide (Er x.led=F8 t x.proc)&&((DP t x.proc).length:Int)==0
def FD(now:Int)(t:List Queue)(x:Pcs):Bool:=Gd x.req&&BY (B6 t) x.req.expr==0&&decide (0≤x.since)&&decide (x.since≤now)&&(x.req.limit==0||decide (now<x.since+x.req.limit))&&!EI x.req.expr (AU t x.proc x.req.expr)&&t.all (fun q=>Cc q x (Ad x.req.expr))
def D3(now:Int)(t:List Queue)(x:Pcs):Bool:=Ea x&&(Er x.led).all (FO t)&&(if x.waiting then FD now t x else GC t x)
theorem XX(l:Ledger)(h:AP l=true):(Er l).length≤72:=by
 have h1:=Lv l.entries;have h2:l.entries.length≤72:=by simp only[AP,and_eq_true,decide_eq_true_eq]at h;omega
 exact le_trans (List.length_filterMap_le _ _) (by omega)
theorem f116_ok(c:Cen)(x:Pcs)(h:CU c.queues)(hnow:c.now≤1073741824):Ac C0 116 [.agg c.c,.agg x.c] [] (B (D3 c.now c.queues x)) []:=by
 have hn:=h.n;have bad:Ea x=false→D3 c.now c.queues x=false:=fun e=>by simp[D3,e]
 refine Ac.go f116 ?_;unfold f116;refine gO ?_;refine Ab (f105_ok x.proc) ?_;cases h1:x.proc.ok
 ·simp(disch:=omega)only[go_sem,Bool.not_false];refine Ap _ ?_;exact wb (by rw[bad (by simp[Ea,h1])])
 simp(disch:=omega)only[go_sem,Bool.not_true]
 by_cases h2:x.cost<1
 ·simp(disch:=omega)only[go_sem,eq_true h2,decide_true];refine Ap _ ?_;exact wb (by rw[bad (by simp[Ea];omega)])
 by_cases h3:1000<x.cost
 ·simp(disch:=omega)only[go_sem,eq_false h2,eq_true h3,decide_true,decide_false];refine Ap _ ?_;exact wb (by rw[bad (by simp[Ea];omega)])
 simp(disch:=omega)only[go_sem,eq_false h2,eq_false h3,decide_false];refine Ab (f169_ok x.led) ?_;cases h4:AP x.led
 ·simp(disch:=omega)only[go_sem,Bool.not_false];refine Ap _ ?_;exact wb (by rw[bad (by simp[Ea,h4])])
 simp(disch:=omega)only[go_sem,Bool.not_true]
 by_cases h5:x.gen<0
 ·simp(disch:=omega)only[go_sem,eq_true h5,decide_true];refine Ap _ ?_;exact wb (by rw[bad (by simp[Ea];omega)])
 by_cases h6:1073741824<x.gen
 ·simp(disch:=omega)only[go_sem,eq_false h5,eq_true h6,decide_true,decide_false];refine Ap _ ?_;exact wb (by rw[bad (by simp[Ea];omega)])
 have hhd:Ea x=true:=by simp[Ea,h1,h4];omega
 have hhl:=XX x.led h4;have hel:x.led.entries.length≤72:=by simp only[AP,and_eq_true,decide_eq_true_eq]at h4;omega
 simp(disch:=omega)only[go_sem,eq_false h5,eq_false h6,decide_false];refine Ab (f170_ok x.led (by omega)) ?_;refine gO ?_;have hpo:D3 c.now c.queues x=((Er x.led).all (FO c.queues)&&(if x.waiting then FD c.now c.queues x else GC c.queues x)):=by simp[D3,hhd]
 rw[hpo];refine Aa (α:=Nat) (fun i=>⟨[(6,I i),(2,.ptr 128 0),(3,.ptr 192 0),(5,Bn (Er x.led))],[(128,c.c),(192,x.c)]⟩) (fun i=>i≤((Er x.led)).length∧((Er x.led).take i).all (FO c.queues)=true) (fun i=>((Er x.led)).length-i) 0 ⟨by omega,rfl⟩ ?_ ?_
 ·exact Ca
 rintro i ⟨hi,hP⟩ J hJ;refine gO ?_;refine ⟨fun hlt=>?_,fun hge=>?_⟩;rotate_left;have hil:i=((Er x.led)).length:=by simp at hge;omega
 rotate_left;obtain⟨b,hb⟩:∃ b,((Er x.led))[i]?=some b:=⟨_,gE (by simp at hlt;omega)⟩;have hbm:=mG hb;have hlt2:i<((Er x.led)).length:=by simp at hlt;omega
 ·have bad2:FO c.queues b=false→(Er x.led).all (FO c.queues)=false:=fun e=>List.all_eq_false.2 ⟨b,hbm,by simp[e]⟩
  refine Aq 7 [([],[2]),([],[50]),([],[5]),([],[6]),([],[52,53]),([],[54]),([],[55])] fol ?_;simp(disch:=omega)only[go_sem,gm,hb]
  first|(refine Ab (I6 c.queues b.name (by omega)) ?_)|(refine Al (I6 c.queues b.name (by omega)) ?_)
  refine gO ?_;cases hf:By c.queues b.name with
  |none =>
   refine Aq 14 [([],[7]),([],[58]),([],[59]),([],[2,60]),([],[61,60]),([],[7,60]),([],[62,63,60]),([],[64,60]),([],[65,60]),([],[5,60]),([],[6,60]),([],[67,68,60]),([],[69,60]),([],[70,60])] fol ?_;simp(disch:=omega)only[go_sem,atI];refine Ap _ ?_;exact wb (by rw[bad2 (by simp[FO,hf])];rfl)
  |some k =>
   obtain⟨hk,q,hq,_⟩:=CH hf;have eg:FO c.queues b=q.res.fits b.amt:=by simp[FO,hf,List.getD,hq]
   refine Aq 14 [([],[7]),([],[58]),([],[59]),([],[2,60]),([],[61,60]),([],[7,60]),([],[62,63,60]),([],[64,60]),([],[65,60]),([],[5,60]),([],[6,60]),([],[67,68,60]),([],[69,60]),([],[70,60])] fol ?_;simp(disch:=omega)only[go_sem,atI,eq_false (show ¬ ((k:Int)<0) by omega),decide_false,gm,hq,hb]
   first|(refine Ab (f171_ok q.res b.amt) ?_)|(refine Al (f171_ok q.res b.amt) ?_)
   cases h7:q.res.fits b.amt
   ·simp(disch:=omega)only[go_sem,Bool.not_false];refine Ap _ ?_;exact wb (by rw[bad2 (eg.trans h7)];rfl)
   ·simp(disch:=omega)only[go_sem,Bool.not_true];refine hJ _ (i+1) ⟨by simp at hlt;omega,(by rw[take_add_one,hb,List.all_append,hP];simp[eg,h7])⟩ (by simp at hlt;omega) AK
 subst hil;rw[take_length]at hP;rw[hP,Bool.true_and];clear hJ hi hge;cases hw:x.waiting
 ·simp only[false_eq_true,if_false];simp(disch:=omega)only[go_sem,hw,Bool.not_false];refine Af (cL x.req) (by simp(disch:=omega)only[go_sem,C6,e0,a0,Expr.k,Expr.atom,Expr.kids];exact .agg (Ah.AE gI)) rfl ?_;cases c1:Ra x.req
  ·simp(disch:=omega)only[go_sem];refine Ap _ ?_;exact wb (by simp[GC,c1])
  cases c2:(x.since==0)
  ·simp(disch:=omega)only[go_sem,c2];refine Ap _ ?_;exact wb (by simp[GC,c2])
  simp(disch:=omega)only[go_sem,c2];refine Ab (f174_ok c.queues x.proc h) ?_;refine gO ?_;refine Ab (f173_ok (Er x.led) (F8 c.queues x.proc)) ?_;cases c3:decide (Er x.led=F8 c.queues x.proc)
  ·simp(disch:=omega)only[go_sem];refine Ap _ ?_;exact wb (by simp only[GC,c1,c2,c3];rfl)
  refine gO ?_;refine Ab (f175_ok c.queues x.proc h) ?_;refine gO ?_;refine Ap _ ?_;exact wb (by simp only[GC,c1,c2,c3];simp)
 ·simp only[if_true];simp(disch:=omega)only[go_sem,hw,Bool.not_true];refine Aq 49 [([],[8]),([],[107]),([1],[108]),([1],[109]),([1],[2,110]),([1],[111,110]),([1],[112,110]),([1],[8,110]),([1],[114,110]),([1,6],[113,115,110]),([1,6,9],[116,110]),([1,6,9],[110,117]),([1,6,9],[118]),([1,6,9],[3,119]),([1,6,9],[120,119]),([1,6,9],[121,119]),([1,6,9],[119,122]),([1,6,9],[123]),([1,6,9],[3,124]),([1,6,9],[125,124]),([1,6,9],[2,124]),([1,6,9],[127,124]),([1,6,9],[126,128,124]),([1,6,9],[124,129]),([1,6,9],[130]),([1,6,9],[8,131]),([1,6,9],[132,131]),([1,6,9],[133,131]),([1,6,9],[134,131]),([1,6,9],[3,135]),([1,6,9],[136,135]),([1,6,9],[8,135]),([1,6,9],[138,135]),([1,6,9],[137,139,135]),([1,6,9],[2,135]),([1,6,9],[141,135]),([1,6,9],[140,142,135]),([1,6,9],[135,143,131]),([1,6,9],[131,144]),([1,6,9],[145]),([1,6,9],[8,146]),([1,6,9],[147,146]),([1,6,9],[2,146]),([1,6,9],[149,146]),([1,6,9],[3,146]),([1,6,9],[151,146]),([1,6,9],[8,146]),([1,6,9],[153,146]),([1,6,9],[150,152,154,146])] fol ?_;simp(disch:=omega)only[go_sem]
  first|(refine Ab (f176_ok x.req) ?_)|(refine Al (f176_ok x.req) ?_)
  cases d1:Gd x.req
  ·simp(disch:=omega)only[go_sem,Bool.not_false];refine Ap _ ?_;exact wb (by simp[FD,d1])
  have hlim:0≤x.req.limit∧x.req.limit≤1000:=by simp only[Gd,and_eq_true,decide_eq_true_eq]at d1;omega
  have hex:A5 x.req.expr=true:=by simp only[Gd,and_eq_true]at d1;exact d1.1.1.1.1
  simp(disch:=omega)only[go_sem,Bool.not_true]
  first|(refine Ab (f178_ok c.queues (by omega)) ?_)|(refine Al (f178_ok c.queues (by omega)) ?_)
  simp(disch:=omega)only[go_sem]
  first|(refine Ab (f177_ok (B6 c.queues) x.req.expr) ?_)|(refine Al (f177_ok (B6 c.queues) x.req.expr) ?_)
  by_cases d2:BY (B6 c.queues) x.req.expr=0
  rotate_left
  ·have d2':(BY (B6 c.queues) x.req.expr !=0)=true:=by simpa using d2
   simp(disch:=omega)only[go_sem,d2'];refine Ap _ ?_;exact wb (by simp[FD,d2])
  have d2':(BY (B6 c.queues) x.req.expr !=0)=false:=by simp[d2]
  simp(disch:=omega)only[go_sem,d2']
  by_cases d3:x.since<0
  ·simp(disch:=omega)only[go_sem,eq_true d3,decide_true];refine Ap _ ?_;exact wb (by simp[FD,show ¬ (0≤x.since) by omega])
  by_cases d4:c.now<x.since
  ·simp(disch:=omega)only[go_sem,eq_false d3,eq_true d4,decide_true,decide_false];refine Ap _ ?_;exact wb (by simp[FD,show ¬ (x.since≤c.now) by omega])
  simp(disch:=omega)only[go_sem,eq_false d3,eq_false d4,decide_false];have base:FD c.now c.queues x=((x.req.limit==0||decide (c.now<x.since+x.req.limit))&&!EI x.req.expr (AU c.queues x.proc x.req.expr)&&c.queues.all (fun q=>Cc q x (Ad x.req.expr))):=by
   simp[FD,d1,d2,show 0≤x.since by omega,show x.since≤c.now by omega,Bool.and_assoc]
  rw[base];have hcase:(x.req.limit≠0∧x.since+x.req.limit≤c.now)∨x.req.limit=0∨(x.req.limit≠0∧c.now<x.since+x.req.limit):=by omega
  rcases hcase with ⟨d5,d6⟩|hcase
  ·have d5':(x.req.limit !=0)=true:=by simpa using d5
   simp(disch:=omega)only[go_sem,d5',eq_true d6,decide_true];refine Ap _ ?_;exact wb (by simp[d5];omega)
  have ok:(x.req.limit==0||decide (c.now<x.since+x.req.limit))=true:=by
   rcases hcase with d5|⟨d5,d6⟩
   ·simp[d5]
   ·simp[d6]
  rw[ok,Bool.true_and];rcases hcase with d5|⟨d5,d6⟩
  all_goals first
   |(have d5':(x.req.limit !=0)=true:=by simpa using d5
     simp(disch:=omega)only[go_sem,d5',eq_false (show ¬ (x.since+x.req.limit≤c.now) by omega),decide_false])
   |(have d5':(x.req.limit !=0)=false:=by simp[d5]
     simp(disch:=omega)only[go_sem,d5'])
  all_goals
   first|(refine Ab (f179_ok c.queues x.proc x.req.expr h) ?_)|(refine Al (f179_ok c.queues x.proc x.req.expr h) ?_)
   simp(disch:=omega)only[go_sem]
   first|(refine Ab (f160_ok x.req.expr (AU c.queues x.proc x.req.expr) hex) ?_)|(refine Al (f160_ok x.req.expr (AU c.queues x.proc x.req.expr) hex) ?_)
   cases d7:EI x.req.expr (AU c.queues x.proc x.req.expr);rotate_left
   ·simp(disch:=omega)only[go_sem];refine B0 _ ?_;simp(disch:=omega)only[go_sem]
    all_goals exact wb (by simp)
   refine gO ?_;refine Ab (f93_ok x.req.expr) ?_;have hal:=CS x.req.expr;refine gO ?_;refine Aa (α:=Nat) (fun i=>⟨[(10,I i),(9,Bn (Ad x.req.expr)),(2,.ptr 128 0),(3,.ptr 192 0)],[(128,c.c),(192,x.c)]⟩) (fun i=>i≤(c.queues).length∧(c.queues.take i).all (fun q=>Cc q x (Ad x.req.expr))=true) (fun i=>(c.queues).length-i) 0 ⟨by omega,rfl⟩ ?_ ?_
   ·refine Imp.weak ?_ ?_
    all_goals(try simp(disch:=omega)only[go_sem])
    all_goals(try(repeat'(with_reducible apply And.intro)))
    all_goals(first|exact .AA (by omega)|exact .Az (by omega)|exact .sl (by simp[hw])|exact .int (by simp[hw])|exact .eq (by simp[hw]))
   rintro i ⟨hi,hP⟩ J hJ;refine gO ?_;refine ⟨fun hlt=>?_,fun hge=>?_⟩;rotate_left;have hil:i=(c.queues).length:=by simp at hge;omega
   rotate_left;obtain⟨b,hb⟩:∃ b,(c.queues)[i]?=some b:=⟨_,gE (by simp at hlt;omega)⟩;have hbm:=mG hb;have hlt2:i<(c.queues).length:=by simp at hlt;omega
   ·refine Aq 7 [([],[2]),([],[168]),([],[10]),([],[169,170]),([],[171]),([],[3]),([],[9])] fol ?_;simp(disch:=omega)only[go_sem,gm,hb]
    first|(refine Ab (f180_ok b x (Ad x.req.expr) (h.q b hbm) (by omega)) ?_)|(refine Al (f180_ok b x (Ad x.req.expr) (h.q b hbm) (by omega)) ?_)
    cases d8:Cc b x (Ad x.req.expr)
    ·simp(disch:=omega)only[go_sem,Bool.not_false];refine Ap _ ?_;exact wb (by rw[List.all_eq_false.2 ⟨b,hbm,by simp[d8]⟩])
    ·simp(disch:=omega)only[go_sem,Bool.not_true];refine hJ _ (i+1) ⟨by simp at hlt;omega,(by rw[take_add_one,hb,List.all_append,hP];simp[d8])⟩ (by simp at hlt;omega) AK
   ·subst hil;rw[take_length]at hP;refine Ap _ ?_;exact wb (by rw[hP])
end Go.Rd
