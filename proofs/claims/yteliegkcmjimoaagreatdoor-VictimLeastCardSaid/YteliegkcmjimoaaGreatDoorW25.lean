/- part 25 of the proof -/
import Derived.Test.YteliegkcmjimoaaGreatDoorW24
set_option linter.all false
open Go Go.Abs Go.Proofs
set_option maxRecDepth 100000
namespace Go.Rd
set_option maxHeartbeats 8000000
open List (map_set mem_map take_add_one take_length)
open Bool (and_eq_true false_eq_true)
open Nat (le_trans)
open Tryz
theorem PX{α:Type}:∀ {l:List α} {i:Nat} {z:α},l[i]?=some z->l.set i z=l
 |[],_,_,h=>by grind
 | a::l,0,z,h=>by grind
 | a::l,i+1,z,h=>by
  simp only[List.set_cons_succ];rw[PX (by simpa using h)]
def bP{q:Queue}(p:Ac)(hv:valid q=true):TF p q (CN p q).1:=by
 unfold CN;cases hq:OH q p
 ·exact .refl hv
 simp;have hs:=((BN q).1 hv).1;unfold Ge;simp[hv];have hm:Br (BU q) p=true:=by
  have:p∈BU q:=by
   rw[Ew];unfold OH at hq;rcases(by grind:(Ar q p).isSome=true\/(Am q.holds p).zero=false) with h|h
   ·unfold Ar at h;simp only[Option.isSome_map,List.find?_isSome,List.mem_append,decide_eq_true_eq]at h;obtain⟨w,h1|h1,h2⟩:=h
    ·exact .inr (.inl ⟨w,h1,h2⟩)
    ·exact .inr (.inr ⟨w,h1,h2⟩)
   ·exact .inl (Kl h)
  simpa [Br]using this
 rw[hm];simp;exact MI (MD hs p) rfl (λx hx=>.inl ((WK q p x).1 hx).1) (λy hy=>⟨fU hy,(FY hy:Am (CO q.holds p ⟨0,0⟩) y=Am q.holds y)⟩)
def Yf(t:List Queue):C5 t=true↔t.length<=8/\(∀ q∈t,valid q=true)/\∀ i,i+1<t.length->BD (t.getD i q0).res.name (t.getD (i+1) q0).res.name=true:=by
 unfold C5;simp only[and_eq_true,decide_eq_true_eq,CY,CQ,Bool.or_eq_true];constructor
 ·grind[List.getElem?_of_mem]
 grind
def fg{t t':List Queue}(h:t'.map (·.res)=t.map (·.res))(i:Nat):(t'.getD i q0).res=(t.getD i q0).res:=by
 have:=congrArg (λl=>l[i]?) h;simp at this;simp;cases h1:t'[i]?<;>cases h2:t[i]?<;>rw[h1,h2]at this<;>simp at this ⊢
 exact this
theorem En(t:List Queue)(x:Ac):x∈AM t↔∃ q∈t,JY q x:=by grind[AM,Mn,Ew]
def LM(t:List Queue):(AM t).Nodup:=IL (Fk _)
structure DI(t:List Queue):Prop where
 n:t.length<=8
 val:∀ q∈t,valid q=true
 ord:∀ i,i+1<t.length->BD (t.getD i q0).res.name (t.getD (i+1) q0).res.name=true
 pr:(AM t).length<=8
theorem EO(t:List Queue):IH t=true↔DI t:=by
 unfold IH;simp only[and_eq_true,decide_eq_true_eq,Yf];exact⟨fun⟨⟨a,b,c⟩,d⟩=>⟨a,b,c,d⟩,λh=>⟨⟨h.n,h.val,h.ord⟩,h.pr⟩⟩
def mw{t t':List Queue}(h:DI t)(hr:t'.map (·.res)=t.map (·.res))(hv:∀ q∈t',valid q=true)(hp:(AM t').length<=8):DI t' where
 n:=by have:=congrArg List.length hr;simp at this;have:=h.n;omega
 val:=hv
 ord:=λi hi=>by
  have:=congrArg List.length hr;simp at this;rw[fg hr,fg hr];exact h.ord i (by omega)
 pr:=hp
theorem Dx{t:List Queue}(h:DI t):Fa t:=by
 refine⟨by have:=h.n;omega,λq hq=>?_⟩;have hs:=((BN q).1 (h.val q hq)).1;have a:=((Dk _ _).1 hs.holds).2.1;have b:=((Cf q).1 hs.As).1;have c:=((CS _).1 ((BX q).1 hs.waits).1).1;unfold BS B7;omega
structure Gi(p:Ac)(t t':List Queue):Prop where
 tab:DI t'
 res:t'.map (·.res)=t.map (·.res)
 other:∀ y,y≠p->∀ L:Bs->BR,(∀ q∈t,Kq q y (L q.res.name))->∀ q∈t',Kq q y (L q.res.name)
def Gi.refl{p:Ac}{t:List Queue}(h:DI t):Gi p t t:=⟨h,rfl,λ_ _ _ hk=>hk⟩
def Gi.trans{p:Ac}{t t' t'':List Queue}(h:Gi p t t')(h':Gi p t' t''):Gi p t t'' :=
 ⟨h'.tab,h'.res.trans h.res,λy hy L hk=>h'.other y hy L (h.other y hy L hk)⟩
def mu{t:List Queue}{i:Nat}{q q':Queue}(hq:t[i]?=some q)(hr:q'.res=q.res):(t.set i q').map (·.res)=t.map (·.res):=by grind[map_set,PX]
def D6{t:List Queue}{i:Nat}{q q' x:Queue}(h:x∈t.set i q'):x=q'\/∃ j,j≠i/\t[j]?=some x:=by grind[List.getElem?_of_mem]
def Ts{t t':List Queue}(h:∀ x,x∈AM t'->x∈AM t)(hp:(AM t).length<=8):(AM t').length<=8 :=
 le_trans (BP _ _ (LM t') h) hp
def PY{p:Ac}{t:List Queue}{i:Nat}{q q':Queue}(h:DI t)(hq:t[i]?=some q)(hs:TF p q q')(hp:(∀ x,JY q' x->JY q x)\/p∈AM t\/(AM t).length<8):Gi p t (t.set i q'):=by
 have UQ:=mG hq;have Hf:∀ x,x∈AM (t.set i q')->x∈AM t\/(x=p/\¬ ∀ x,JY q' x->JY q x):=λx hx=>by
  rw[En]at hx;obtain⟨y,hy,X4⟩:=hx;rcases D6 (q:=q) hy with rfl|⟨j,_,hj⟩
  ·by_cases ha:∀ x,JY y x->JY q x
   ·grind[En]
   ·rcases hs.sa x X4 with hb|hb<;>grind[En]
  grind[En]
 refine⟨mw h (mu hq hs.res) (λx hx=>?_) ?_,mu hq hs.res,λy hy L hk x hx=>?_⟩
 ·rcases D6 (q:=q) hx with rfl|⟨j,_,hj⟩
  ·exact hs.val
  ·exact h.val x (mG hj)
 ·rcases hp with hp|hp|hp
  ·exact Ts (λx hx=>(Hf x hx).elim id λhx=>absurd hp hx.2) h.pr
  ·exact Ts (λx hx=>(Hf x hx).elim id λhx=>hx.1▸hp) h.pr
  ·have:=BP (AM (t.set i q')) (p::AM t) (LM _) λx hx=>(Hf x hx).elim (λhx=>by grind) λhx=>by grind
   simp at this;omega
 ·rcases D6 (q:=q) hx with rfl|⟨j,_,hj⟩
  ·have:=hs.other y (L q.res.name) hy (hk q UQ);rw[hs.res];exact this
  grind
def Hk(n:Bs)(h:BD n n=true):False:=by grind[Ij]
def VA{t:List Queue}(h:DI t):∀ d i,i+d+1<t.length->BD (t.getD i q0).res.name (t.getD (i+d+1) q0).res.name=true
 | 0,i,hi=>h.ord i hi
 | d+1,i,hi=>GL (VA h d i (by omega)) (h.ord (i+d+1) (by omega))
theorem F1{t:List Queue}(h:DI t){i j:Nat}{q q':Queue}(hi:t[i]?=some q)(hj:t[j]?=some q')(hn:q.res.name=q'.res.name):i=j:=by
 have hli:=Au hi;have hlj:=Au hj;have ei:t.getD i q0=q:=by grind
 have ej:t.getD j q0=q':=by grind
 rcases Nat.lt_trichotomy i j with AP|rfl|AP
 ·obtain⟨d,rfl⟩:∃ d,j=i+d+1:=⟨j-i-1,by omega⟩;have:=VA h d i hlj;rw[ei,ej,hn]at this;exact(Hk _ this).elim
 ·rfl
 ·obtain⟨d,rfl⟩:∃ d,i=j+d+1:=⟨i-j-1,by omega⟩;have:=VA h d j hli;rw[ei,ej,hn]at this;exact(Hk _ this).elim
theorem Wr{t:List Queue}(h:DI t){i:Nat}{q:Queue}(hi:t[i]?=some q):CG t q.res.name=some i:=by
 unfold CG;rw[List.findIdx?_eq_some_iff_getElem];refine⟨Au hi,by grind,λj hj=>?_⟩;have AP:=Au hi;have hg:t[j]?=some (t[j]):=gE (by omega);simp only[Bool.not_eq_true,beq_eq_false_iff_ne];intro e;grind[F1]
theorem Kj{t t':List Queue}(h:t'.map (·.res)=t.map (·.res))(n:Bs):CG t' n=CG t n:=by
 have h1:∀ l:List Queue,CG l n=(l.map (·.res)).findIdx? λr=>r.name==n:=λl=>by
  unfold CG;rw[List.findIdx?_map];rfl
 rw[h1,h1,h]
def ak{t:List Queue}{p:Ac}{name:Bs}{k:Nat}{q:Queue}(h:DI t)(hf:CG t name=some k)(hq:t[k]?=some q)(hw:(Ar q p).isSome=true) :
 ∃ q',(Du t p name).1=t.set k q'/\Gi p t (t.set k q')/\q'.res=q.res/\Ar q' p=none/\Am q'.holds p=Am q.holds p:=by
 have hg:t.getD k q0=q:=by grind
 obtain⟨h0,h1,h2,h3⟩:=H6 (h.val q (mG hq)) hw;refine⟨(Bd q p).1,?_,PY h hq h1 (.inl λx hx=>?_),h1.res,h2,h3⟩
 ·grind[Du,EO]
 grind[Bd,SL,WL]
theorem xw{q:Queue}{p x:Ac}{a:BR}(hz:(Am q.holds p).zero=false)(h:JY (Hc q p a) x):JY q x:=by
 rcases bw h with h|rfl
 ·exact h
 ·exact .inl (Kl hz)
def Jv{t:List Queue}{p:Ac}{a:Atom}{k:Nat}{q:Queue}(h:DI t)(hf:CG t a.name=some k)(hq:t[k]?=some q)(hw:Ar q p=none)(hz:(Am q.holds p).zero=false)(hc:q.res.covers (Am q.holds p) a.AH=true) :
 ∃ q',(BH t p a).1=t.set k q'/\Gi p t (t.set k q')/\q'.res=q.res/\Ar q' p=none/\Am q'.holds p=a.AH:=by
 have hg:t.getD k q0=q:=by grind
 have hv:=h.val q (mG hq);obtain⟨h0,h1,h2,h3⟩:=HQ hv hz hw hc;refine⟨(AD q p a.AH).1,?_,PY h hq h1 (.inl λx hx=>?_),h1.res,h2,h3⟩
 ·grind[BH,EO]
 ·revert hx;unfold AD;simp only[hv,hz,hw,hc,Option.isSome_none,Bool.not_true,false_eq_true,if_false];grind[SL,xw]
def cV{t:List Queue}{p:Ac}{a:Atom}{prio:Int}(h:DI t)(L:Bs->BR)(hk:∀ q∈t,q.res.name=a.name->Am q.holds p=L q.res.name) :
 (EK t p a prio).1=[]\/∃ k q q',CG t a.name=some k/\t[k]?=some q/\q.res.name=a.name/\(EK t p a prio).1=t.set k q'/\Gi p t (t.set k q')/\q'.res=q.res/\Kq q' p (L q.res.name):=by
 unfold EK;simp only[(EO t).2 h,Bool.not_true,false_eq_true,if_false];cases hf:CG t a.name with
 |none=>grind
 |some k =>
  obtain⟨AP,q,hq,hn⟩:=D2 hf;have hg:t.getD k q0=q:=by grind
  simp only[hg];split
  ·exact .inl rfl
  rename_i h8;split
  ·exact .inl rfl
  rename_i h0;have h0:(BA q p a.AH prio).2.2=0:=by grind
  obtain⟨h1,h2⟩:=TW (hk q (mG hq) hn) h0;refine .inr ⟨k,q,(BA q p a.AH prio).1,rfl,hq,hn,rfl,PY h hq h1 ?_,h1.res,h2⟩
  by_cases hm:p∈AM t
  ·grind
  ·refine .inr (.inr ?_);have hp:Br (AM t) p=false:=by simp[Br,hm]
   rw[hp]at h8;have:=h.pr;simp at h8;omega
def bQ{t:List Queue}(p:Ac)(h:DI t):Gi p t (Cy t p).1:=by
 have e:(Cy t p).1=t.map λq=>(CN p q).1:=by grind[Cy,EO]
 rw[e];have hs:=λq hq=>bP p (h.val q hq)
 have hr:(t.map λq=>(CN p q).1).map (·.res)=t.map (·.res):=by
  rw[List.map_map];exact List.map_congr_left λq hq=>(hs q hq).res
 refine⟨mw h hr (λx hx=>?_) (Ts (t:=t) (λx hx=>?_) h.pr),hr,λy hy L hk x hx=>?_⟩
 ·obtain⟨q,hq,rfl⟩:=mem_map.1 hx;exact(hs q hq).val
 ·rw[En]at hx ⊢;obtain⟨y,hy,X4⟩:=hx;obtain⟨q,hq,rfl⟩:=mem_map.1 hy;refine⟨q,hq,?_⟩;revert X4;unfold CN;cases hh:OH q p
  ·grind
  ·simp;unfold Ge;simp[h.val q hq];split
   ·grind[SL,WK]
   ·intro X4;rcases X4 with ⟨_,hm,_⟩|⟨_,hm,_⟩|⟨_,hm,_⟩<;>simp[q0]at hm
 ·obtain⟨q,hq,rfl⟩:=mem_map.1 hx;rw[(hs q hq).res];exact(hs q hq).other y _ hy (hk q hq)
def e0:Expr:=.mk 0 a0 []
def Fc:ca:=⟨e0,0,0⟩
def Wj(e:Expr):Bool:=e.k==0&&decide (e.atom=a0)&&decide (e.kids.length=0)
def Yh(r:ca):Bool:=Wj r.expr&&r.prio==0&&r.CP==0
def Aan(e:Expr):Ad C0 215 [.agg e.c,.agg e0.c] [] (B (Wj e)) []:=by
 refine Ad.lens f215 λhlen=>?_
 simp[FZ,lens,Expr.Dg,List.length_map,and_true,true_and]at hlen;refine Ad.go f215 ?_;unfold f215;have k1:e0.k=0:=rfl;have k2:e0.atom=a0:=rfl;have k3:e0.kids=[]:=rfl;have ez:(e.atom.name==[]&&(e.atom.AH.mode==0&&e.atom.AH.AG==0))=decide (e.atom=a0):=ah e.atom
 by_cases h1:e.k=0
 rotate_left
 ·have wY:(e.k !=0)=true:=by grind
  simp only[go_sem,k1,k2,k3,a0,wY];refine Al _ ?_;exact wb (by simp[Wj,h1])
 have wY:(e.k !=0)=false:=by grind
 by_cases h2:e.atom=a0
 rotate_left
 ·rw[decide_eq_false h2]at ez;simp only[go_sem,k1,k2,k3,a0,wY,ez];refine Al _ ?_;exact wb (by simp[Wj,h2])
 rw[decide_eq_true h2]at ez
 by_cases h3:e.kids.length=0
 rotate_left
 ·have lH:((e.kids.length:Int) !=0)=true:=by grind
  simp only[go_sem,k1,k2,k3,a0,wY,ez,lH];refine Al _ ?_;exact wb (by simp[Wj,h3])
 have lH:((e.kids.length:Int) !=0)=false:=by grind
 simp only[go_sem,k1,k2,k3,a0,wY,ez,lH];refine AF (e.kids) (λi=>⟨[(5,I i),(2,.ptr 128 0)],[(128,e.c)]⟩) (λi=>True) trivial ?_ ?_
 ·exact Ce
 rintro i ⟨hi,hP⟩ J hJ;refine gO ?_;refine Bo hi (λAP b hb Cg AX=>?_) λBa=>?_
 ·omega
 ·refine Al _ ?_;exact wb (by grind[Wj])
def Aal(r:ca):Ad C0 161 [.agg r.c,.agg Fc.c] [] (B (Yh r)) []:=by
 have k1:Fc.expr=e0:=rfl;have k4:Fc.prio=0:=rfl;have k5:Fc.CP=0:=rfl;refine Ad.go f161 ?_;unfold f161;refine gS ?_;refine Ab (Aan r.expr) ?_;cases h1:Wj r.expr
 ·refine gO ?_;refine Al _ ?_;exact wb (by simp[Yh,h1])
 refine gO ?_;cases h2:(r.prio==0)
 ·refine gO ?_;refine Al _ ?_;exact wb (by grind[Yh])
 refine gO ?_;refine Al _ ?_;exact wb (by grind[Yh])
def Hm(r:ca):Bool:=BM r.expr&&decide (0<=r.prio)&&decide (r.prio<=7)&&decide (0<=r.CP)&&decide (r.CP<=1000)
def Vf(r:ca):Ad C0 137 [.agg r.c] [] (B (Hm r)) []:=by
 refine Ad.go f137 ?_;unfold f137;refine gO ?_;refine Ai (im r.expr) (by exact gI) rfl ?_;cases h1:BM r.expr
 ·refine gO ?_;refine Al _ ?_;exact wb (by simp[Hm,h1])
 refine gO ?_
 repeat'(with_reducible refine And.intro (λh=>?_) (λh=>?_))
 all_goals(refine CT _ ?_)
 all_goals(try simp(disch:=omega)only[go_sem])
 all_goals(first|refine wb ?_|refine wi ?_|refine .eq ?_)
 all_goals(first|grind[Hm]|(refine Bool.eq_iff_iff.2 ?_;simp_all[Hm,h1]<;>omega))
def KB(l:List BE)(i:Nat)(r:BE):Bool:=Is r&&(decide (i=0)||BD (l.getD (i-1) r0).name r.name)
def Jm(l:List BE):Bool:=decide (l.length<=8)&&Cu (KB l) l
def kA(l:List BE):Ad C0 171 [GO l] [] (B (Jm l)) []:=by
 refine Ad.go f171 ?_;unfold f171
 by_cases hq:8<l.length
 ·have e1:(8<(l.length:Int))=True:=eq_true (by omega);have e:Jm l=false:=by grind[Jm]
  simp only[go_sem,e1];refine Al _ ?_;exact wb (by simp[e])
 have e1:(8<(l.length:Int))=False:=eq_false (by omega);refine gS ?_;refine AF (l) (λi=>⟨[(3,I i),(0,GO l)],[]⟩) (λi=>Cu (KB l) (l.take i)=true) rfl ?_ ?_
 ·exact Ce
 rintro i ⟨hi,hP⟩ J hJ;refine gO ?_;refine Bo hi (λAP b hb Cg AX=>?_) λBa=>?_
 refine Ay 21 [([],[0]),([],[3]),([],[13,14]),([],[15]),([],[16]),([4],[17]),([4],[18]),([4],[3,19]),([4],[20,19]),([4],[21,19]),([4],[0,22]),([4],[3,22]),([4],[24,22]),([4],[23,25,22]),([4],[26,22]),([4],[27,22]),([4],[0,22]),([4],[3,22]),([4],[29,30,22]),([4],[31,22]),([4],[32,22])] B6 ?_;simp(disch:=omega)only[go_sem,gm,hb]
 ·have bad:KB l i b=false->Jm l=false:=λh=>by simp[Jm,B5 hb h,Bool.and_false]
  have FM:KB l i b=true->Cu (KB l) (l.take (i+1))=true:=λh=>by grind[CB]
  first|(refine Ab (RB b) ?_)|(refine Ax (RB b) ?_)
  have Vs:(B9 b.name&&b.shaped&&A7 b.home 0 3)=Is b:=rfl;rw[Vs];cases hv:Is b
  ·refine gO ?_;refine Al _ ?_;exact wb (by grind[KB])
  by_cases QI:i=0
  ·subst QI;refine gO ?_;refine hJ _ 1 ⟨by omega,FM (by simp[KB,hv])⟩ (by omega) AK
  ·have QJ:(0<(i:Int))=True:=eq_true (by omega);have NP:((i:Int)-1)=((i-1:Nat):Int):=by omega
   obtain⟨a,NZ⟩:∃ a,l[i-1]?=some a:=⟨_,gE (by omega)⟩;have UK:l.getD (i-1) r0=a:=by grind
   simp(disch:=omega)only[go_sem,QJ,NP,NZ,hb];refine And.intro (λhh=>?_) (λhh=>?_)
   ·refine Al _ ?_;exact wb (by grind[KB,BD])
   ·refine hJ _ (i+1) ⟨by omega,FM (by grind[KB,BD])⟩ (by omega) AK
 subst Ba;rw[take_length]at hP;have lM:Jm l=true:=by grind[Jm]
 refine Al _ ?_;exact wb (by rw[lM])
def Hn(l:List BE)(a:Atom):Int:=if !Jm l then 2 else match T7 l a.name with
 |none=>10
 |some r=>if r.fits a.AH then 0 else 12
def vY(l:List BE)(a:Atom):Ad C0 216 [GO l,.agg a.c] [] (I (Hn l a)) []:=by
 refine Ad.go f216 ?_;unfold f216;refine gO ?_;refine Ab (kA l) ?_;cases h1:Jm l
 ·refine gO ?_;refine Al _ ?_;exact wi (by simp[Hn,h1])
 refine gO ?_;refine Ab (wu l a.name) ?_;cases hf:T7 l a.name with
 |none =>
  simp only[go_sem,r0];refine Al _ ?_;exact wi (by grind[Hn])
 |some r =>
  refine gO ?_;refine Ab (Hp r a.AH) ?_;cases h2:r.fits a.AH
  ·refine gO ?_;refine Al _ ?_;exact wi (by grind[Hn])
  ·refine gO ?_;refine Al _ ?_;exact wi (by grind[Hn])
def It(l:List BE):List Atom->Int
 |[]=>0
 | a::az=>if Hn l a=0 then It l az else Hn l a
def C6(l:List BE)(e:Expr):Int:=if BM e then It l (Ah e) else 1
theorem Vg(l:List BE)(e:Expr):Ad C0 165 [GO l,.agg e.c] [] (I (C6 l e)) []:=by
 refine Ad.go f165 ?_;unfold f165;refine gO ?_;refine Ab (Rx e) ?_;cases h1:BM e
 ·refine gO ?_;refine Al _ ?_;exact wi (by simp[C6,h1])
 refine gO ?_;have e1:C6 l e=It l (Ah e):=by simp[C6,h1]
 rw[e1];have QG:(Ah e).length<=1000000:=by grind[Dt]
 generalize Ah e=az at QG;refine AF (az) (λi=>⟨[(7,I i),(5,BG az),(0,GO l)],[]⟩) (λi=>It l az=It l (az.drop i)) rfl ?_ ?_
 ·exact Ce
 rintro i ⟨hi,hP⟩ J hJ;refine gO ?_;refine Bo hi (λAP b hb Cg AX=>?_) λBa=>?_
 ·have hd:az.drop i=b::az.drop (i+1):=by grind[List.drop_eq_getElem_cons]
  simp only[go_sem,hb];refine Ab (vY l b) ?_;cases hz:(Hn l b !=0)
  ·simp(disch:=omega)only[go_sem,hz];refine hJ _ (i+1) ⟨by omega,(by simp_all[It])⟩ (by omega) AK
  ·simp only[go_sem,hz];refine Al _ ?_;exact wi (by simp_all[It])
 ·subst Ba;refine Al _ ?_;exact wi (by rw[hP,List.drop_length];rfl)
def Jq(G:List Bool)(i:Nat):List Bool:=G.take i++List.replicate (G.length-i) false
def YM{G:List Bool}{i:Nat}(h:i<=G.length):(Jq G i).length=G.length:=by simp[Jq];omega
def YL{G:List Bool}{i:Nat}(h:i<G.length):(Jq G i)[i]?=some false:=by
 unfold Jq;rw[List.getElem?_append_right (by simp;omega),List.getElem?_replicate];simp;omega
def YN{G:List Bool}{i:Nat}{b:Bool}(hb:G[i]?=some b):(Jq G i).set i b=Jq G (i+1):=by
 have hi:=Au hb;unfold Jq;rw[List.set_append_right _ _ (by simp;omega)];simp only[List.length_take,Nat.min_eq_left (Nat.le_of_lt hi),Nat.sub_self];rw[show G.length-i=(G.length-(i+1))+1 by omega,List.replicate_succ,List.set_cons_zero,take_add_one,hb];simp
theorem YK(G:List Bool):Jq G G.length=G:=by simp[Jq]
def E4(l:List Bu)(p:Ac):Int:=match l.findIdx? (λx=>decide (x.proc=p)) with|some i=>i|none=>-1
def Vd(l:List Bu)(p:Ac):Ad C0 112 [xZ l,.agg p.c] [] (I (E4 l p)) []:=by
 refine Ad.lens f112 λhlen=>?_
 simp only[FZ,lens,List.length_map,and_true,true_and]at hlen;refine Ad.go f112 ?_;unfold f112;refine gO ?_;refine AF (l) (λi=>⟨[(5,I i),(0,xZ l),(3,.ptr 192 0)],[(192,p.c)]⟩) (λi=>(l.take i).find? (λx=>decide (x.proc=p))=none) rfl ?_ ?_
 ·exact Ce
 rintro i ⟨hi,hP⟩ J hJ;refine gO ?_;refine Bo hi (λAP b hb Cg AX=>?_) λBa=>?_
 refine Ay 6 [([],[0]),([],[5]),([],[12,13]),([],[14]),([],[15]),([],[3])] B6 ?_;simp(disch:=omega)only[go_sem,gm,hb]
 ·refine⟨λh=>?_,λh=>?_⟩
  ·have e:E4 l p=i:=by unfold E4;rw[Hj hP b hb (by simpa using h)]
   simp(disch:=omega)only[go_sem,e];exact AQ _
  ·refine hJ _ (i+1) ⟨by omega,(by rw[Cp hP hb];simp at h;simp[h])⟩ (by omega) AK
 ·subst Ba;rw[take_length]at hP;have e:E4 l p = -1:=by
   have:l.findIdx? (λx=>decide (x.proc=p))=none:=by
    rw[List.findIdx?_eq_none_iff];rw[List.find?_eq_none]at hP;intro x hx;simpa using hP x hx
   unfold E4;rw[this]
  simp(disch:=omega)only[go_sem,e];exact AQ _
def FB(t:List Queue):List BE:=t.map (·.res)
def Vh(t:List Queue)(h:t.length<=1000000):Ad C0 166 [AN t] [] (GO (FB t)) []:=by
 refine Ad.go f166 ?_;unfold f166;refine gO ?_;refine AF (t) (λi=>⟨[(4,I i),(3,.sl (.own 1152 0) 4 ((FB (t.take i)).map BE.c)),(0,AN t)],[]⟩) (λi=>True) trivial ?_ ?_
 ·refine AT.Aq ?_ ?_
  all_goals(try simp(disch:=omega)only[go_sem])
  all_goals(try(repeat'(with_reducible apply And.intro)))
  all_goals(first|exact .Cr (by omega)|exact .A8 (by omega)|exact .sl (by simp[FB])|exact .int (by simp[FB])|exact .eq (by simp[FB]))
 rintro i ⟨hi,hP⟩ J hJ;refine gO ?_;refine Bo hi (λAP b hb Cg AX=>?_) λBa=>?_
 ·have ID:(FB (t.take i)).length+1<=4294967296:=by simp[FB];omega
  simp(disch:=omega)only[go_sem,gm,hb];refine hJ _ (i+1) ⟨by omega,trivial⟩ (by omega) (AT.Aq ?_ ?_)
  all_goals(try simp(disch:=omega)only[go_sem])
  all_goals(try(repeat'(with_reducible apply And.intro)))
  all_goals(first|exact .Cr (by omega)|exact .A8 (by omega)|exact .sl (by simp[FB,take_add_one,hb,BE.c])|exact .int (by simp[FB,take_add_one,hb,BE.c])|exact .eq (by simp[FB,take_add_one,hb,BE.c]))
 ·subst Ba;rw[take_length];refine CU ⟨[],[],[1152]⟩ _ ?_;simp(disch:=omega)only[go_sem]
def QF(t:List Queue)(p:Ac)(a:Atom):Bool:=match CG t a.name with
 |none=>false
 |some k=>(t.getD k q0).res.covers (Am (t.getD k q0).holds p) a.AH
def BY(t:List Queue)(p:Ac)(e:Expr):List Bool:=(Ah e).map (QF t p)
def Pz(t:List Queue)(p:Ac)(e:Expr)(h:Fa t):Ad C0 167 [AN t,.agg p.c,.agg e.c] [] (KA (BY t p e)) []:=by
 have hn:=h.n;have QG:=Dt e;refine Ad.go f167 ?_;unfold f167;refine gO ?_;refine Ai (M7 e) (by simp(disch:=omega)only[go_sem,Expr.Dg]) rfl ?_;refine gO ?_;have WE:(BY t p e).length=(Ah e).length:=by simp[BY]
 refine AF ((Ah e)) (λi=>⟨[(9,I i),(0,AN t),(4,.ptr 256 0),(7,BG (Ah e)),(8,.sl (.own 960 0) 1 ((Jq (BY t p e) i).map λb=>[B b]))],[(256,p.c)]⟩) (λi=>True) trivial ?_ ?_
 ·refine AT.Aq ?_ ?_
  all_goals(try simp(disch:=omega)only[go_sem])
  all_goals(try(repeat'(with_reducible apply And.intro)))
  all_goals(first|exact .Cr (by omega)|exact .A8 (by omega)|exact .sl (by simp[Jq,BY])|exact .int (by simp[Jq,BY])|exact .eq (by simp[Jq,BY]))
 rintro i ⟨hi,hP⟩ J hJ;refine gO ?_;refine Bo hi (λAP b hb Cg AX=>?_) λBa=>?_
 ·have Me:=YM (G:=BY t p e) (i:=i) (by omega);have uw:=YL (G:=BY t p e) (i:=i) (by omega);have hgi:(BY t p e)[i]?=some (QF t p b):=by simp[BY,hb]
  have Su:=YN hgi;generalize Jq (BY t p e) i=M at Me uw Su ⊢;simp(disch:=omega)only[go_sem,gm,hb];refine Ab (IT t b.name (by omega)) ?_;cases hf:CG t b.name with
  |none =>
   have eg:QF t p b=false:=by simp[QF,hf]
   rw[eg]at Su;have hMs:M.set i false=M:=by
    apply List.ext_getElem?;intro j;rw[List.getElem?_set];split
    ·rename_i UN;subst UN;rw[if_pos (by omega),uw]
    ·rfl
   rw[hMs]at Su;simp(disch:=omega)only[go_sem,XZ];refine hJ _ (i+1) ⟨by omega,trivial⟩ (by omega) (AT.Aq ?_ gI);refine gO ?_;exact .sl (by rw[<- Su])
  |some k =>
   obtain⟨hk,q,hq,_⟩:=D2 hf;have eg:QF t p b=q.res.covers (Am q.holds p) b.AH:=by simp[QF,hf,List.getD,hq]
   rw[eg]at Su;obtain⟨q1,q2,q3⟩:=Bt (h.q q (mG hq));simp(disch:=omega)only[go_sem,XZ,eq_true (show (0:Int)<=(k:Int) by omega),decide_true];refine Ay 19 [([],[8]),([],[9]),([],[0]),([],[10]),([],[33,34]),([],[35]),([],[36]),([],[0]),([],[10]),([],[38,39]),([],[40]),([],[4]),([],[41,42]),([],[7]),([],[9]),([],[44,45]),([],[46]),([],[47]),([12],[37,43,48])] B6 ?_;simp(disch:=omega)only[go_sem,gm,hb,hq]
   first|(refine Ab (E0 q p q1) ?_)|(refine Ax (E0 q p q1) ?_)
   simp(disch:=omega)only[go_sem,gm,hb,hq]
   first|(refine Ab (KH q.res (Am q.holds p) b.AH) ?_)|(refine Ax (KH q.res (Am q.holds p) b.AH) ?_)
   simp(disch:=omega)only[go_sem,gm,uw];refine hJ _ (i+1) ⟨by omega,trivial⟩ (by omega) (AT.Aq ?_ gI);refine gO ?_;exact .sl (by rw[<- Su,map_set])
 ·subst Ba;have e3:Jq (BY t p e) (Ah e).length=BY t p e:=by rw[<- WE,YK]
  rw[e3];refine CU ⟨[],[],[960]⟩ _ ?_;simp(disch:=omega)only[go_sem]
def DE(q:Queue)(x:Bu):List Atom->Bool
 |[]=>decide (Am q.holds x.proc=An x.AB.entries q.res.name)&&!(Ar q x.proc).isSome
 | a::az=>if a.name !=q.res.name then DE q x az else if q.res.covers (An x.AB.entries q.res.name) a.AH then DE q x az
  else if !(Ar q x.proc).isSome then decide (Am q.holds x.proc=D4 q.res (An x.AB.entries q.res.name) a.AH)
  else if q.waits.any (λw=>decide (w.proc=x.proc)&&w.prio !=x.Bk.prio) then false
  else decide (Am q.holds x.proc=An x.AB.entries q.res.name)&&decide ((Ar q x.proc).getD ⟨0,0⟩=D4 q.res (An x.AB.entries q.res.name) a.AH)
theorem kz(q:Queue)(x:Bu)(az:List Atom)(h:BS q<=100)(ha:az.length<=1000000):Ad C0 169 [.agg q.c,.agg x.c,BG az] [] (B (DE q x az)) []:=by
 obtain⟨q1,q2,q3⟩:=Bt h;refine Ad.go f169 ?_;unfold f169;refine gO ?_;refine Ab (Ib x.AB.entries q.res.name) ?_;refine gO ?_;refine Ab (E0 q x.proc q1) ?_;refine gO ?_;refine Ab (Nc q x.proc q2 q3) ?_;refine gO ?_;refine AF (az) (λi=>⟨[(11,I i),(2,BG az),(3,.ptr 192 0),(4,.ptr 256 0),(7,.ptr 448 0),(8,.ptr 512 0),(9,.ptr 576 0),(10,B (Ar q x.proc).isSome)],[(192,q.c),(256,x.c),(448,(An x.AB.entries q.res.name).c),(512,(Am q.holds x.proc).c),(576,((Ar q x.proc).getD ⟨0,0⟩).c)]⟩) (λi=>DE q x az=DE q x (az.drop i)) rfl ?_ ?_
 ·exact Ce
 rintro i ⟨hi,hP⟩ J hJ;refine gO ?_;refine Bo hi (λAP b hb Cg AX=>?_) λBa=>?_
 ·have hd:az.drop i=b::az.drop (i+1):=by rw[List.drop_eq_getElem_cons AX,get_eq hb]
  rw[hd]at hP;simp only[DE]at hP;simp(disch:=omega)only[go_sem,gm,hb];cases hn:(b.name==q.res.name)
  ·have h1:(b.name !=q.res.name)=true:=by simp[bne,hn]
   rw[h1,if_pos rfl]at hP;simp(disch:=omega)only[go_sem,h1,hn,Bool.not_false];refine hJ _ (i+1) ⟨by omega,hP⟩ (by omega) AK
  have h1:(b.name !=q.res.name)=false:=by simp[bne,hn]
  rw[h1]at hP;simp only[false_eq_true,if_false]at hP;simp(disch:=omega)only[go_sem,h1,hn,Bool.not_true];refine Ab (KH q.res (An x.AB.entries q.res.name) b.AH) ?_;cases h2:q.res.covers (An x.AB.entries q.res.name) b.AH;rotate_left
  ·rw[h2,if_pos rfl]at hP;refine gO ?_;refine hJ _ (i+1) ⟨by omega,hP⟩ (by omega) AK
  rw[h2]at hP;simp only[false_eq_true,if_false]at hP;refine gO ?_;refine Ab (aN q.res (An x.AB.entries q.res.name) b.AH) ?_;cases h3:(Ar q x.proc).isSome
  ·rw[h3]at hP;simp only[Bool.not_false,if_true]at hP;simp(disch:=omega)only[go_sem,Bool.not_false];refine Al _ ?_;exact wb hP.symm
  rw[h3]at hP;simp only[Bool.not_true,false_eq_true,if_false]at hP;simp(disch:=omega)only[go_sem,Bool.not_true];obtain⟨o,rfl⟩:∃ o,o=i:=⟨i,rfl⟩;obtain⟨bo,rfl⟩:∃ bo,bo=b:=⟨b,rfl⟩;have sI:=hP;clear hJ hb AP AX;have AdO:∀ (i:Nat) (w:Bh),q.waits[i]?=some w->(q.waits.take (i+1)).any (λw=>decide (w.proc=x.proc)&&w.prio !=x.Bk.prio)=((q.waits.take i).any (λw=>decide (w.proc=x.proc)&&w.prio !=x.Bk.prio)||(decide (w.proc=x.proc)&&w.prio !=x.Bk.prio)):=λi w hw=>by rw[take_add_one,hw];simp
  have AgV:∀ (w:Bh),w∈q.waits->(decide (w.proc=x.proc)&&w.prio !=x.Bk.prio)=true->q.waits.any (λw=>decide (w.proc=x.proc)&&w.prio !=x.Bk.prio)=true:=λw hw hc=>List.any_eq_true.2 ⟨w,hw,hc⟩
  refine AF (q.waits) (λi=>⟨[(14,I i),(3,.ptr 192 0),(4,.ptr 256 0),(7,.ptr 448 0),(8,.ptr 512 0),(9,.ptr 576 0),(13,.ptr 832 0)],[(192,q.c),(256,x.c),(448,(An x.AB.entries q.res.name).c),(512,(Am q.holds x.proc).c),(576,((Ar q x.proc).getD ⟨0,0⟩).c),(832,(D4 q.res (An x.AB.entries q.res.name) bo.AH).c)]⟩) (λi=>(q.waits.take i).any (λw=>decide (w.proc=x.proc)&&w.prio !=x.Bk.prio)=false) rfl ?_ ?_
  ·exact Ce
  rintro i ⟨hi,hP⟩ J hJ;refine gO ?_;refine Bo hi (λAP b hb Cg AX=>?_) λBa=>?_
  ·refine Ay 19 [([],[3]),([],[75]),([],[14]),([],[76,77]),([],[78]),([],[79]),([],[4]),([],[81]),([],[80,82]),([],[83]),([],[3,84]),([],[85,84]),([],[14,84]),([],[86,87,84]),([],[88,84]),([],[89,84]),([],[4,84]),([],[91,84]),([],[92,84])] B6 ?_;cases c1:decide (b.proc=x.proc)
   ·simp(disch:=omega)only[go_sem,gm,hb,c1];refine hJ _ (i+1) ⟨by omega,(by rw[AdO i b hb,hP,c1];rfl)⟩ (by omega) AK
   cases c2:(b.prio !=x.Bk.prio)
   ·simp(disch:=omega)only[go_sem,gm,hb,c1,c2];refine hJ _ (i+1) ⟨by omega,(by rw[AdO i b hb,hP,c1,c2];rfl)⟩ (by omega) AK
   ·simp(disch:=omega)only[go_sem,gm,hb,c1,c2];refine Al _ ?_;exact wb (by rw[sI,if_pos (AgV b Cg (by rw[c1,c2];rfl))])
  ·subst Ba;rw[take_length]at hP;rw[hP]at sI;simp only[false_eq_true,if_false]at sI;cases c1:decide (Am q.holds x.proc=An x.AB.entries q.res.name)
   ·simp(disch:=omega)only[go_sem,c1];refine Al _ ?_;exact wb (by rw[sI,c1];rfl)
   ·simp(disch:=omega)only[go_sem,c1];refine Al _ ?_;exact wb (by rw[sI,c1];rfl)
 ·subst Ba;rw[List.drop_length]at hP;simp only[DE]at hP;cases h1:decide (Am q.holds x.proc=An x.AB.entries q.res.name)
  ·simp(disch:=omega)only[go_sem,h1];refine Al _ ?_;exact wb (by rw[hP,h1];rfl)
  ·simp(disch:=omega)only[go_sem,h1];refine Al _ ?_;exact wb (by rw[hP,h1];rfl)
def Hi(l:Ledger):List Atom:=(Dc l.entries).filterMap λn=>if (An l.entries n).mode==0&&(An l.entries n).AG==0 then none else some ⟨n,An l.entries n⟩
def rm{α β:Type}{f:α->Option β}{l:List α}{i:Nat}{b:α}(hb:l[i]?=some b):(l.take (i+1)).filterMap f=(l.take i).filterMap f++(f b).toList:=by grind[take_add_one]
def PL(l:List Entry):(Dc l).length<=l.length:=by
 have:=QP (l:=l) l.length (Nat.le_refl _)
 rwa [take_length]at this
def vC(l:Ledger)(hl:l.entries.length<=1000000):Ad C0 159 [.agg l.c] [] (BG (Hi l)) []:=by
 have pI:=PL l.entries;refine Ad.go f159 ?_;unfold f159;refine gO ?_;refine Ab (aM l.entries hl) (gO ?_);unfold Hi;generalize Dc l.entries=ns at pI;refine AF (ns) (λi=>⟨[(5,I i),(3,.sl (.own 2176 0) 3 (((ns.take i).filterMap λn=>if (An l.entries n).mode==0&&(An l.entries n).AG==0 then none else some (⟨n,An l.entries n⟩:Atom)).map Atom.c)),(4,MK ns),(1,.ptr 64 0)],[(64,l.c)]⟩) (λi=>True) trivial ?_ ?_
 ·exact Ce
 rintro i ⟨hi,hP⟩ J hJ;refine gO ?_;refine Bo hi (λAP b hb Cg AX=>?_) λBa=>?_
 ·have hx:=rm (f:=λn=>if (An l.entries n).mode==0&&(An l.entries n).AG==0 then none else some (⟨n,An l.entries n⟩:Atom)) hb;have hlen:((ns.take i).filterMap λn=>if (An l.entries n).mode==0&&(An l.entries n).AG==0 then none else some (⟨n,An l.entries n⟩:Atom)).length<=ns.length:=le_trans (List.length_filterMap_le _ _) (by grind);generalize (ns.take i).filterMap (λn=>if (An l.entries n).mode==0&&(An l.entries n).AG==0 then none else some (⟨n,An l.entries n⟩:Atom))=L at hx hlen ⊢;have ID:L.length+1<=4294967296:=by omega
  refine Ay 8 [([],[1]),([],[16]),([],[4]),([],[5]),([],[18,19]),([],[20]),([],[17,21]),([],[])] B6 ?_;simp only[go_sem,hb]
  first|(refine Ab (Ib l.entries b) ?_)|(refine Ax (Ib l.entries b) ?_)
  refine gO ?_;cases hz:((An l.entries b).mode==0&&(An l.entries b).AG==0)
  ·refine gO ?_;refine Ay 8 [([],[3]),([],[4]),([],[5]),([],[27,28]),([],[29]),([],[6]),([],[30,31]),([],[32])] B6 ?_;simp(disch:=omega)only[go_sem,hb];rw[hz]at hx;refine hJ _ (i+1) ⟨by omega,trivial⟩ (by omega) (AT.Aq ?_ ?_)
   all_goals(try simp(disch:=omega)only[go_sem])
   exact .sl (by grind[Atom.c])
  ·refine gO ?_;rw[hz]at hx;refine hJ _ (i+1) ⟨by omega,trivial⟩ (by omega) (AT.Aq ?_ ?_)
   all_goals(try simp(disch:=omega)only[go_sem])
   exact .sl (by grind)
 ·subst Ba;rw[take_length];refine CU ⟨[],[],[2176]⟩ _ ?_;exact gI
def Oj(l:Ledger)(label:Int):Option (Nat × Nat):=if label=0 then some (0,0) else match l.AA.findIdx? (λs=>s.label==label) with
 |some i=>some ((l.AA.getD i s0).pos.toNat,i+1)
 |none=>none
def PZ(l:Ledger)(at_ n:Nat):Ledger:=⟨l.entries.take at_,l.AA.take n⟩
def MN(l:Ledger)(at_:Nat):List Atom:=(Dc (l.entries.drop at_)).map λn=>⟨n,An (l.entries.take at_) n⟩
def BQ(l:Ledger)(label:Int):Ledger × List Atom × Int:=if !Bx l then (CI,[],2) else match Oj l label with
 |none=>(CI,[],10)
 |some (a,n)=>(PZ l a n,MN l a,0)
def Yl{α:Type}{f:Nat->α->Bool}{l:List α}{i:Nat}{b:α}(h:Cu f l=true)(hb:l[i]?=some b):f i b=true:=by grind[B5]
@[go_sem] theorem vf:Et []=.sl .no 5 []:=rfl
@[go_sem] theorem Ach:NA []=.sl .no 2 []:=rfl
@[go_sem] theorem Afy:xZ []=.sl .no 16 []:=rfl
@[go_sem] theorem Aed:dh []=.sl .no 7 []:=rfl
theorem Pg{l:Ledger}(h:Bx l=true){i:Nat}{s:Save}(hs:l.AA[i]?=some s):0<=s.pos/\s.pos<=(l.entries.length:Int):=by
 simp only[Bx,and_eq_true]at h;have:=Yl h.2 hs;simp only[FQ,and_eq_true,decide_eq_true_eq]at this;omega
def kf(l:Ledger)(label:Int):Ad C0 138 [.agg l.c,I label] [] (.BC [.agg (BQ l label).1.c,BG (BQ l label).2.1,I (BQ l label).2.2]) []:=by
 refine Ad.go f138 ?_;unfold f138;refine gO ?_;refine Ab (M6 l) ?_;cases hv:Bx l
 ·have e:BQ l label=(CI,[],2):=by simp[BQ,hv]
  simp only[go_sem,e,CI];exact Gw _
 have nW:l.entries.length<=72/\l.AA.length<=4:=by simp_all[Bx]
 have Lp:(Oj l label=none/\label≠0/\L5 l.AA label<0)\/(label=0/\Oj l label=some (0,0))\/(∃ i s,label≠0/\L5 l.AA label=((i:Nat):Int)/\l.AA[i]?=some s/\Oj l label=some (s.pos.toNat,i+1)):=by
  unfold Oj L5
  by_cases h0:label=0
  ·grind
  ·cases hf:l.AA.findIdx? (λs=>s.label==label) with
   |none=>grind
   |some i =>
    have hi:=(List.findIdx?_eq_some_iff_getElem.1 hf).1;exact .inr (.inr ⟨i,l.AA[i],h0,rfl,gE hi,by grind⟩)
 rcases Lp with ⟨h1,h0,h2⟩|Lp
 ·have e:BQ l label=(CI,[],10):=by grind[BQ]
  have e0:(label !=0)=true:=by grind
  simp only[go_sem,e0];refine Ab (M8 l.AA label) ?_;simp only[go_sem,eq_true h2,e,CI];exact Gw _
 have S5:∃ a n,a<=l.entries.length/\n<=l.AA.length/\BQ l label=(PZ l a n,MN l a,0)/\Oj l label=some (a,n):=by
  rcases Lp with ⟨h0,h1⟩|⟨i,s,h0,h1,h2,h3⟩
  ·grind[BQ]
  ·have:=Pg hv h2;have:=Au h2;exact⟨s.pos.toNat,i+1,by omega,by omega,by grind[BQ],h3⟩
 obtain⟨a,n,ha,hn,e,hbk⟩:=S5;rw[e];rcases Lp with ⟨h0,h1⟩|⟨i,s,h0,h1,h2,h3⟩
 all_goals first
  |(have e0:(label !=0)=true:=by simpa using h0
    have S7:=Pg hv h2;rw[h3]at hbk;obtain⟨ur,Y4⟩:s.pos.toNat=a/\i+1=n:=by grind
    refine gS ?_;refine Ab (M8 l.AA label) ?_;simp(disch:=omega)only[go_sem,h1,eq_false (show ¬ ((i:Int)<0) by omega),h2])
  |(have e0:(label !=0)=false:=by grind
    rw[h1]at hbk;obtain⟨ur,Y4⟩:0=a/\0=n:=by grind
    simp only[go_sem,e0])
 all_goals
  refine Ep (st':=⟨[(7,I (a:Int)),(8,I (n:Int)),(2,.ptr 128 0),(4,.ptr 256 0)],[(128,l.c),(256,CI.c)]⟩) (AT.Aq ?_ ?_) ?_
  ·simp(disch:=omega)only[go_sem];exact⟨.int (by omega),.int (by omega)⟩
  ·simp(disch:=omega)only[go_sem,CI]
  have bf:(l.entries.drop a).take (l.entries.length-a)=l.entries.drop a:=List.take_of_length_le (by simp);refine Ay 14 [([],[]),([],[2]),([],[36]),([],[7]),([],[37,38]),([],[35,39]),([],[]),([],[2]),([],[42]),([],[8]),([],[43,44]),([],[41,45]),([],[40,46]),([],[])] B6 (gO ?_);refine Ai (aM (l.entries.drop a) (by grind)) (by simp(disch:=omega)only[go_sem,bf]) rfl ?_;have pI:=PL (l.entries.drop a);have ud:(l.entries.drop a).length<=72:=by grind
  refine gO ?_;unfold MN;generalize Dc (l.entries.drop a)=ns at pI ⊢;refine AF (ns) (λi=>⟨[(13,I i),(11,.sl (.own 4672 0) 3 (((ns.take i).map λn=>(⟨n,An (l.entries.take a) n⟩:Atom)).map Atom.c)),(12,MK ns),(10,.ptr 640 0),(4,.ptr 256 0)],[(640,(PZ l a n).c),(256,CI.c)]⟩) (λi=>True) trivial ?_ ?_
  ·refine AT.Aq ?_ ?_
   all_goals(try simp(disch:=omega)only[go_sem,PZ,CI])
   all_goals(try(repeat'(with_reducible apply And.intro)))
   all_goals(first|exact .Cr (by omega)|exact .A8 (by omega)|exact .sl (by simp[PZ,CI])|exact .int (by simp[PZ,CI])|exact .eq (by simp[PZ,CI]))
  rintro i ⟨hi,hP⟩ J hJ;refine gO ?_;refine Bo hi (λAP b hb Cg AX=>?_) λBa=>?_
  ·refine Ay 14 [([],[11]),([],[12]),([],[13]),([],[60,61]),([],[62]),([],[10]),([],[64]),([],[12]),([],[13]),([],[66,67]),([],[68]),([],[65,69]),([11],[63,70]),([11],[71])] B6 ?_;have ID:((ns.take i).map λn=>(⟨n,An (l.entries.take a) n⟩:Atom)).length+1<=4294967296:=by grind
   simp(disch:=omega)only[go_sem,gm,hb,PZ]
   first|(refine Ab (Ib (l.entries.take a) b) ?_)|(refine Ax (Ib (l.entries.take a) b) ?_)
   simp(disch:=omega)only[go_sem];refine hJ _ (i+1) ⟨by omega,trivial⟩ (by omega) (AT.Aq ?_ ?_)
   ·simp(disch:=omega)only[go_sem];exact .sl (by simp[take_add_one,hb,Atom.c])
   ·simp(disch:=omega)only[go_sem,PZ,CI]
  ·subst Ba;rw[take_length];refine CU ⟨[],[],[4672]⟩ _ ?_;refine gO ?_;exact .eq (by grind)
def Hr(t:List Queue)(a:Atom):Bool:=match CG t a.name with
 |none=>false
 |some k=>(t.getD k q0).res.fits a.AH
def E2(x:Bu):Bool:=x.proc.ok&&decide (1<=x.cost)&&decide (x.cost<=1000)&&Bx x.AB&&decide (0<=x.gen)&&decide (x.gen<=1073741824)
def IV(t:List Queue)(x:Bu):Bool:=Yh x.Bk&&x.since==0&&decide (Hi x.AB=Jt t x.proc)&&((GY t x.proc).length:Int)==0
def He(now:Int)(t:List Queue)(x:Bu):Bool:=Hm x.Bk&&C6 (FB t) x.Bk.expr==0&&decide (0<=x.since)&&decide (x.since<=now)&&(x.Bk.CP==0||decide (now<x.since+x.Bk.CP))&&!Gc x.Bk.expr (BY t x.proc x.Bk.expr)&&t.all (λq=>DE q x (Ah x.Bk.expr))
def Fu(now:Int)(t:List Queue)(x:Bu):Bool:=E2 x&&(Hi x.AB).all (Hr t)&&(if x.waiting then He now t x else IV t x)
def oc(l:Ledger)(h:Bx l=true):(Hi l).length<=72:=by
 have h1:=PL l.entries;have h2:l.entries.length<=72:=by simp_all[Bx]
 exact le_trans (List.length_filterMap_le _ _) (by omega)
def j8(c:Hw)(x:Bu)(h:Fa c.Aa)(rM:c.now<=1073741824):Ad C0 113 [.agg c.c,.agg x.c] [] (B (Fu c.now c.Aa x)) []:=by
 have hn:=h.n;have bad:E2 x=false->Fu c.now c.Aa x=false:=λe=>by simp[Fu,e]
 refine Ad.go f113 ?_;unfold f113;refine gO ?_;refine Ab (KI x.proc) ?_;cases h1:x.proc.ok
 ·refine gO ?_;refine Al _ ?_;exact wb (by grind[E2])
 refine gO ?_
 by_cases h2:x.cost<1
 ·refine gS ?_;refine Al _ ?_;exact wb (by grind[E2])
 by_cases h3:1000<x.cost
 ·refine gS ?_;refine Al _ ?_;exact wb (by grind[E2])
 refine gS ?_;refine Ab (M6 x.AB) ?_;cases h4:Bx x.AB
 ·refine gO ?_;refine Al _ ?_;exact wb (by grind[E2])
 refine gO ?_
 by_cases h5:x.gen<0
 ·refine gS ?_;refine Al _ ?_;exact wb (by grind[E2])
 by_cases h6:1073741824<x.gen
 ·refine gS ?_;refine Al _ ?_;exact wb (by grind[E2])
 have hhd:E2 x=true:=by grind[E2]
 have hhl:=oc x.AB h4;have nW:x.AB.entries.length<=72:=by simp_all[Bx]
 refine gS ?_;refine Ab (vC x.AB (by omega)) (gO ?_);have hpo:Fu c.now c.Aa x=((Hi x.AB).all (Hr c.Aa)&&(if x.waiting then He c.now c.Aa x else IV c.Aa x)):=by grind[Fu]
 rw[hpo];refine AF ((Hi x.AB)) (λi=>⟨[(6,I i),(2,.ptr 128 0),(3,.ptr 192 0),(5,BG (Hi x.AB))],[(128,c.c),(192,x.c)]⟩) (λi=>((Hi x.AB).take i).all (Hr c.Aa)=true) rfl ?_ ?_
 ·exact Ce
 rintro i ⟨hi,hP⟩ J hJ;refine gO ?_;refine Bo hi (λAP b hb Cg AX=>?_) λBa=>?_
 ·have AkH:Hr c.Aa b=false->(Hi x.AB).all (Hr c.Aa)=false:=λe=>List.all_eq_false.2 ⟨b,Cg,by simp[e]⟩
  refine Ay 7 [([],[2]),([],[50]),([],[5]),([],[6]),([],[52,53]),([],[54]),([],[55])] B6 ?_;simp only[go_sem,hb]
  first|(refine Ab (IT c.Aa b.name (by omega)) ?_)|(refine Ax (IT c.Aa b.name (by omega)) ?_)
  refine gO ?_;cases hf:CG c.Aa b.name with
  |none =>
   refine Ay 14 [([],[7]),([],[58]),([],[59]),([],[2,60]),([],[61,60]),([],[7,60]),([],[62,63,60]),([],[64,60]),([],[65,60]),([],[5,60]),([],[6,60]),([],[67,68,60]),([],[69,60]),([],[70,60])] B6 ?_;simp only[go_sem,XZ];refine Al _ ?_;exact wb (by grind[Hr])
  |some k =>
   obtain⟨hk,q,hq,_⟩:=D2 hf;have eg:Hr c.Aa b=q.res.fits b.AH:=by grind[Hr]
   refine Ay 14 [([],[7]),([],[58]),([],[59]),([],[2,60]),([],[61,60]),([],[7,60]),([],[62,63,60]),([],[64,60]),([],[65,60]),([],[5,60]),([],[6,60]),([],[67,68,60]),([],[69,60]),([],[70,60])] B6 ?_;simp only[go_sem,XZ,eq_false (show ¬ ((k:Int)<0) by omega),hq,hb]
   first|(refine Ab (Hp q.res b.AH) ?_)|(refine Ax (Hp q.res b.AH) ?_)
   cases h7:q.res.fits b.AH
   ·refine gO ?_;refine Al _ ?_;exact wb (by grind)
   ·refine gO ?_;refine hJ _ (i+1) ⟨by omega,(by grind[take_add_one])⟩ (by omega) AK
 subst Ba;rw[take_length]at hP;rw[hP,Bool.true_and];clear hJ hi;cases hw:x.waiting
 ·simp only[false_eq_true,if_false];refine gO ?_;refine Ai (Aal x.Bk) (by simp only[go_sem,Fc,e0,a0,Expr.k,Expr.atom,Expr.kids];exact .agg (Ae.AJ gI)) rfl ?_;cases c1:Yh x.Bk
  ·refine gO ?_;refine Al _ ?_;exact wb (by simp[IV,c1])
  cases c2:(x.since==0)
  ·refine gS ?_;refine Al _ ?_;exact wb (by simp[IV,c2])
  refine gS ?_;refine Ab (vE c.Aa x.proc h) (gO ?_);refine Ab (vD (Hi x.AB) (Jt c.Aa x.proc)) ?_;cases c3:decide (Hi x.AB=Jt c.Aa x.proc)
  ·refine gO ?_;refine Al _ ?_;exact wb (by grind[IV])
  refine gO ?_;refine Ab (vF c.Aa x.proc h) ?_;refine gO ?_;refine Al _ ?_;exact wb (by grind[IV])
 ·simp only[if_true];refine gO ?_;refine Ay 49 [([],[8]),([],[107]),([1],[108]),([1],[109]),([1],[2,110]),([1],[111,110]),([1],[112,110]),([1],[8,110]),([1],[114,110]),([1,6],[113,115,110]),([1,6,9],[116,110]),([1,6,9],[110,117]),([1,6,9],[118]),([1,6,9],[3,119]),([1,6,9],[120,119]),([1,6,9],[121,119]),([1,6,9],[119,122]),([1,6,9],[123]),([1,6,9],[3,124]),([1,6,9],[125,124]),([1,6,9],[2,124]),([1,6,9],[127,124]),([1,6,9],[126,128,124]),([1,6,9],[124,129]),([1,6,9],[130]),([1,6,9],[8,131]),([1,6,9],[132,131]),([1,6,9],[133,131]),([1,6,9],[134,131]),([1,6,9],[3,135]),([1,6,9],[136,135]),([1,6,9],[8,135]),([1,6,9],[138,135]),([1,6,9],[137,139,135]),([1,6,9],[2,135]),([1,6,9],[141,135]),([1,6,9],[140,142,135]),([1,6,9],[135,143,131]),([1,6,9],[131,144]),([1,6,9],[145]),([1,6,9],[8,146]),([1,6,9],[147,146]),([1,6,9],[2,146]),([1,6,9],[149,146]),([1,6,9],[3,146]),([1,6,9],[151,146]),([1,6,9],[8,146]),([1,6,9],[153,146]),([1,6,9],[150,152,154,146])] B6 (gO ?_)
  first|(refine Ab (Vf x.Bk) ?_)|(refine Ax (Vf x.Bk) ?_)
  cases d1:Hm x.Bk
  ·refine gO ?_;refine Al _ ?_;exact wb (by simp[He,d1])
  have AlD:0<=x.Bk.CP/\x.Bk.CP<=1000:=by simp_all[Hm]
  have hex:BM x.Bk.expr=true:=by simp_all[Hm]
  refine gO ?_
  first|(refine Ab (Vh c.Aa (by omega)) ?_)|(refine Ax (Vh c.Aa (by omega)) ?_)
  refine gO ?_
  first|(refine Ab (Vg (FB c.Aa) x.Bk.expr) ?_)|(refine Ax (Vg (FB c.Aa) x.Bk.expr) ?_)
  by_cases d2:C6 (FB c.Aa) x.Bk.expr=0
  rotate_left
  ·have d2':(C6 (FB c.Aa) x.Bk.expr !=0)=true:=by grind
   refine gS ?_;refine Al _ ?_;exact wb (by simp[He,d2])
  have d2':(C6 (FB c.Aa) x.Bk.expr !=0)=false:=by grind
  simp only[go_sem,d2']
  by_cases d3:x.since<0
  ·simp only[go_sem,eq_true d3];refine Al _ ?_;exact wb (by grind[He])
  by_cases d4:c.now<x.since
  ·simp only[go_sem,eq_false d3,eq_true d4];refine Al _ ?_;exact wb (by grind[He])
  simp(disch:=omega)only[go_sem,eq_false d3,eq_false d4];have base:He c.now c.Aa x=((x.Bk.CP==0||decide (c.now<x.since+x.Bk.CP))&&!Gc x.Bk.expr (BY c.Aa x.proc x.Bk.expr)&&c.Aa.all (λq=>DE q x (Ah x.Bk.expr))):=by grind[He]
  rw[base];have Lp:(x.Bk.CP≠0/\x.since+x.Bk.CP<=c.now)\/x.Bk.CP=0\/(x.Bk.CP≠0/\c.now<x.since+x.Bk.CP):=by omega
  rcases Lp with ⟨d5,d6⟩|Lp
  ·have rF:(x.Bk.CP !=0)=true:=by grind
   simp only[go_sem,rF,eq_true d6];refine Al _ ?_;exact wb (by grind)
  have ok:(x.Bk.CP==0||decide (c.now<x.since+x.Bk.CP))=true:=by grind
  rw[ok,Bool.true_and];rcases Lp with d5|⟨d5,d6⟩
  all_goals first
   |(have rF:(x.Bk.CP !=0)=true:=by simpa using d5
     simp only[go_sem,rF,eq_false (show ¬ (x.since+x.Bk.CP<=c.now) by omega)])
   |(have rF:(x.Bk.CP !=0)=false:=by grind
     simp only[go_sem,rF])
  all_goals
   first|(refine Ab (Pz c.Aa x.proc x.Bk.expr h) ?_)|(refine Ax (Pz c.Aa x.proc x.Bk.expr h) ?_)
   refine gO ?_
   first|(refine Ab (Py x.Bk.expr (BY c.Aa x.proc x.Bk.expr) hex) ?_)|(refine Ax (Py x.Bk.expr (BY c.Aa x.proc x.Bk.expr) hex) ?_)
   cases d7:Gc x.Bk.expr (BY c.Aa x.proc x.Bk.expr);rotate_left
   ·simp(disch:=omega)only[go_sem];refine CT _ ?_;simp(disch:=omega)only[go_sem]
    all_goals exact wb (by simp)
   refine gO ?_;refine Ab (M7 x.Bk.expr) ?_;have QG:=Dt x.Bk.expr;refine gO ?_;refine AF (c.Aa) (λi=>⟨[(10,I i),(9,BG (Ah x.Bk.expr)),(2,.ptr 128 0),(3,.ptr 192 0)],[(128,c.c),(192,x.c)]⟩) (λi=>(c.Aa.take i).all (λq=>DE q x (Ah x.Bk.expr))=true) rfl ?_ ?_
   ·exact Gd
   rintro i ⟨hi,hP⟩ J hJ;refine gO ?_;refine Bo hi (λAP b hb Cg AX=>?_) λBa=>?_
   ·refine Ay 7 [([],[2]),([],[168]),([],[10]),([],[169,170]),([],[171]),([],[3]),([],[9])] B6 ?_;simp(disch:=omega)only[go_sem,gm,hb]
    first|(refine Ab (kz b x (Ah x.Bk.expr) (h.q b Cg) (by omega)) ?_)|(refine Ax (kz b x (Ah x.Bk.expr) (h.q b Cg) (by omega)) ?_)
    cases d8:DE b x (Ah x.Bk.expr)
    ·simp(disch:=omega)only[go_sem,Bool.not_false];refine Al _ ?_;exact wb (by grind)
    ·simp(disch:=omega)only[go_sem,Bool.not_true];refine hJ _ (i+1) ⟨by omega,(by grind[take_add_one])⟩ (by omega) AK
   ·subst Ba;rw[take_length]at hP;refine Al _ ?_;exact wb (by rw[hP])
end Go.Rd
