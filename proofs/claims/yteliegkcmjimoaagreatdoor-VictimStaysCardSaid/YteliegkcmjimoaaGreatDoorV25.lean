/- part 25 of the proof -/
import Derived.Test.YteliegkcmjimoaaGreatDoorV24
set_option linter.all false
open Go Go.Abs Go.Proofs
set_option maxRecDepth 100000
namespace Go.Rd
set_option maxHeartbeats 8000000
open List (map_nil map_set mem_map take_add_one take_length)
open Bool (and_eq_true false_eq_true)
open Option (isSome_none)
open Nat (le_trans)
open Tryz
def WG{α:Type}:∀ {l:List α} {i:Nat} {z:α},l[i]?=some z->l.set i z=l
 |[],_,_,h=>by simp at h
 | a::l,0,z,h=>by simp at h;simp[h]
 | a::l,i+1,z,h=>by
  simp only[List.set_cons_succ];rw[WG (by simpa using h)]
def Yc{q:Queue}(p:Ad)(hv:valid q=true):Rp p q (Dh p q).1:=by
 unfold Dh;cases hq:TS q p
 ·exact .refl hv
 simp only[if_true];have hs:=((Ck q).1 hv).1;unfold FN;simp only[hv,if_true];have hm:BL (B6 q) p=true:=by
  have:p∈B6 q:=by
   rw[ES];unfold TS at hq;rcases(by simpa using hq:(Ar q p).isSome=true\/(Ap q.holds p).zero=false) with h|h
   ·unfold Ar at h;simp only[Option.isSome_map,List.find?_isSome,List.mem_append,decide_eq_true_eq]at h;obtain⟨w,h1|h1,h2⟩:=h
    ·exact .inr (.inl ⟨w,h1,h2⟩)
    ·exact .inr (.inr ⟨w,h1,h2⟩)
   ·exact .inl (Nx h)
  simpa [BL]using this
 rw[hm];simp only[if_true];exact K3 (KZ hs p) rfl (λx hx=>.inl ((ca q p x).1 hx).1) (λy hy=>⟨mC hy,(FH hy:Ap (Cs q.holds p ⟨0,0⟩) y=Ap q.holds y)⟩)
def Vk(t:List Queue):CC t=true↔t.length<=8/\(∀ q∈t,valid q=true)/\∀ i,i+1<t.length->DJ (t.getD i q0).res.name (t.getD (i+1) q0).res.name=true:=by
 unfold CC;simp only[and_eq_true,decide_eq_true_eq,FV,Cq,Bool.or_eq_true];constructor
 ·rintro⟨h1,h2⟩;refine⟨h1,λq hq=>?_,λi hi=>?_⟩
  ·obtain⟨i,hi⟩:=List.getElem?_of_mem hq;exact(h2 i q hi).1
  ·have hg:t[i+1]?=some (t[i+1]):=gE hi;have:=(h2 (i+1) _ hg).2;simp only[Nat.add_sub_cancel]at this;rw[show t.getD (i+1) q0=t[i+1] by simp[List.getD,hg]];rcases this with h|h
   ·omega
   ·exact h
 ·rintro⟨h1,h2,h3⟩;refine⟨h1,λi q hq=>⟨h2 q (mG hq),?_⟩⟩;cases i with
  | zero=>exact .inl rfl
  | succ i =>
   have:=h3 i (Ay hq);rw[show t.getD (i+1) q0=q by simp[List.getD,hq]]at this;exact .inr this
def av{t t':List Queue}(h:t'.map (·.res)=t.map (·.res))(i:Nat):(t'.getD i q0).res=(t.getD i q0).res:=by
 have:=congrArg (λl=>l[i]?) h;simp only[gm]at this;simp only[List.getD];cases h1:t'[i]?<;>cases h2:t[i]?<;>rw[h1,h2]at this<;>simp at this ⊢
 exact this
def Ib(t:List Queue)(x:Ad):x∈AT t↔∃ q∈t,Kc q x:=by
 unfold AT;rw[IZ,List.mem_flatMap];constructor
 ·rintro⟨q,h1,h2⟩;exact⟨q,h1,(ES q x).1 h2⟩
 ·rintro⟨q,h1,h2⟩;exact⟨q,h1,(ES q x).2 h2⟩
def N5(t:List Queue):(AT t).Nodup:=IU (E7 _)
structure FA(t:List Queue):Prop where
 n:t.length<=8
 val:∀ q∈t,valid q=true
 ord:∀ i,i+1<t.length->DJ (t.getD i q0).res.name (t.getD (i+1) q0).res.name=true
 pr:(AT t).length<=8
def I2(t:List Queue):Ik t=true↔FA t:=by
 unfold Ik;simp only[and_eq_true,decide_eq_true_eq,Vk];exact⟨fun⟨⟨a,b,c⟩,d⟩=>⟨a,b,c,d⟩,λh=>⟨⟨h.n,h.val,h.ord⟩,h.pr⟩⟩
def fo{t t':List Queue}(h:FA t)(hr:t'.map (·.res)=t.map (·.res))(hv:∀ q∈t',valid q=true)(hp:(AT t').length<=8):FA t' where
 n:=by have:=congrArg List.length hr;simp at this;have:=h.n;omega
 val:=hv
 ord:=λi hi=>by
  have:=congrArg List.length hr;simp at this;rw[av hr,av hr];exact h.ord i (by omega)
 pr:=hp
def Dx{t:List Queue}(h:FA t):Ei t:=by
 refine⟨by have:=h.n;omega,λq hq=>?_⟩;have hs:=((Ck q).1 (h.val q hq)).1;have a:=((D6 _ _).1 hs.holds).2.1;have b:=((B1 q).1 hs.Ak).1;have c:=((CQ _).1 ((BT q).1 hs.waits).1).1;unfold BC BJ;omega
structure GL(p:Ad)(t t':List Queue):Prop where
 tab:FA t'
 res:t'.map (·.res)=t.map (·.res)
 other:∀ y,y≠p->∀ L:Bs->BO,(∀ q∈t,Kq q y (L q.res.name))->∀ q∈t',Kq q y (L q.res.name)
def GL.refl{p:Ad}{t:List Queue}(h:FA t):GL p t t:=⟨h,rfl,λ_ _ _ hk=>hk⟩
def GL.trans{p:Ad}{t t' t'':List Queue}(h:GL p t t')(h':GL p t' t''):GL p t t'' :=
 ⟨h'.tab,h'.res.trans h.res,λy hy L hk=>h'.other y hy L (h.other y hy L hk)⟩
def fj{t:List Queue}{i:Nat}{q q':Queue}(hq:t[i]?=some q)(hr:q'.res=q.res):(t.set i q').map (·.res)=t.map (·.res):=by
 rw[map_set,hr];exact WG (by simp[hq])
def EL{t:List Queue}{i:Nat}{q q' x:Queue}(h:x∈t.set i q'):x=q'\/∃ j,j≠i/\t[j]?=some x:=by
 obtain⟨j,hj⟩:=List.getElem?_of_mem h;rw[List.getElem?_set]at hj;split at hj
 ·split at hj
  ·exact .inl (Option.some.inj hj).symm
  ·cases hj
 ·rename_i Ca;exact .inr ⟨j,λe=>Ca e.symm,hj⟩
def Re{t t':List Queue}(h:∀ x,x∈AT t'->x∈AT t)(hp:(AT t).length<=8):(AT t').length<=8 :=
 le_trans (Dg _ _ (N5 t') h) hp
def Rj{p:Ad}{t:List Queue}{i:Nat}{q q':Queue}(h:FA t)(hq:t[i]?=some q)(hs:Rp p q q')(hp:(∀ x,Kc q' x->Kc q x)\/p∈AT t\/(AT t).length<8):GL p t (t.set i q'):=by
 have uw:=mG hq;have HT:∀ x,x∈AT (t.set i q')->x∈AT t\/(x=p/\¬ ∀ x,Kc q' x->Kc q x):=λx hx=>by
  rw[Ib]at hx;obtain⟨y,hy,iV⟩:=hx;rcases EL (q:=q) hy with rfl|⟨j,_,hj⟩
  ·by_cases ha:∀ x,Kc y x->Kc q x
   ·exact .inl ((Ib t x).2 ⟨q,uw,ha x iV⟩)
   ·rcases hs.pT x iV with hb|hb
    ·exact .inl ((Ib t x).2 ⟨q,uw,hb⟩)
    ·exact .inr ⟨hb,ha⟩
  ·exact .inl ((Ib t x).2 ⟨y,mG hj,iV⟩)
 refine⟨fo h (fj hq hs.res) (λx hx=>?_) ?_,fj hq hs.res,λy hy L hk x hx=>?_⟩
 ·rcases EL (q:=q) hx with rfl|⟨j,_,hj⟩
  ·exact hs.val
  ·exact h.val x (mG hj)
 ·rcases hp with hp|hp|hp
  ·exact Re (λx hx=>(HT x hx).elim id λhx=>absurd hp hx.2) h.pr
  ·exact Re (λx hx=>(HT x hx).elim id λhx=>hx.1▸hp) h.pr
  ·have:=Dg (AT (t.set i q')) (p::AT t) (N5 _) λx hx=>(HT x hx).elim (λhx=>by simp[hx]) λhx=>by simp[hx.1]
   simp at this;omega
 ·rcases EL (q:=q) hx with rfl|⟨j,_,hj⟩
  ·have:=hs.other y (L q.res.name) hy (hk q uw);rw[hs.res];exact this
  ·exact hk x (mG hj)
def N0(n:Bs)(h:DJ n n=true):False:=by
 rw[P0]at h;cases h
def Ya{t:List Queue}(h:FA t):∀ d i,i+d+1<t.length->DJ (t.getD i q0).res.name (t.getD (i+d+1) q0).res.name=true
 | 0,i,hi=>h.ord i hi
 | d+1,i,hi=>R1 (Ya h d i (by omega)) (h.ord (i+d+1) (by omega))
def MN{t:List Queue}(h:FA t){i j:Nat}{q q':Queue}(hi:t[i]?=some q)(hj:t[j]?=some q')(hn:q.res.name=q'.res.name):i=j:=by
 have vV:=Ay hi;have hlj:=Ay hj;have ei:t.getD i q0=q:=by simp[List.getD,hi]
 have ej:t.getD j q0=q':=by simp[List.getD,hj]
 rcases Nat.lt_trichotomy i j with Au|rfl|Au
 ·obtain⟨d,rfl⟩:∃ d,j=i+d+1:=⟨j-i-1,by omega⟩;have:=Ya h d i hlj;rw[ei,ej,hn]at this;exact(N0 _ this).elim
 ·rfl
 ·obtain⟨d,rfl⟩:∃ d,i=j+d+1:=⟨i-j-1,by omega⟩;have:=Ya h d j vV;rw[ei,ej,hn]at this;exact(N0 _ this).elim
def Zi{t:List Queue}(h:FA t){i:Nat}{q:Queue}(hi:t[i]?=some q):CA t q.res.name=some i:=by
 unfold CA;rw[List.findIdx?_eq_some_iff_getElem];refine⟨Ay hi,by simp[get_eq hi],λj hj=>?_⟩;have Au:=Ay hi;have hg:t[j]?=some (t[j]):=gE (by omega);simp only[Bool.not_eq_true,beq_eq_false_iff_ne];intro e;have:=MN h hg hi e;omega
def Ky{t t':List Queue}(h:t'.map (·.res)=t.map (·.res))(n:Bs):CA t' n=CA t n:=by
 have h1:∀ l:List Queue,CA l n=(l.map (·.res)).findIdx? λr=>r.name==n:=λl=>by
  unfold CA;rw[List.findIdx?_map];rfl
 rw[h1,h1,h]
def Xa{t:List Queue}{p:Ad}{name:Bs}{k:Nat}{q:Queue}(h:FA t)(hf:CA t name=some k)(hq:t[k]?=some q)(hw:(Ar q p).isSome=true) :
 ∃ q',(Dd t p name).1=t.set k q'/\GL p t (t.set k q')/\q'.res=q.res/\Ar q' p=none/\Ap q'.holds p=Ap q.holds p:=by
 have hg:t.getD k q0=q:=by simp[List.getD,hq]
 obtain⟨h0,h1,h2,h3⟩:=Pb (h.val q (mG hq)) hw;refine⟨(Bb q p).1,?_,Rj h hq h1 (.inl λx hx=>?_),h1.res,h2,h3⟩
 ·simp only[Dd,(I2 t).2 h,hf,hg,h0];rfl
 ·have hv:=h.val q (mG hq);have e:(Bb q p).1=DA (CF q p):=by simp[Bb,hv,hw]
  rw[e,Tz]at hx;exact T3 hx
def pS{q:Queue}{p x:Ad}{a:BO}(hz:(Ap q.holds p).zero=false)(h:Kc (FJ q p a) x):Kc q x:=by
 rcases XW h with h|rfl
 ·exact h
 ·exact .inl (Nx hz)
def ML{t:List Queue}{p:Ad}{a:Atom}{k:Nat}{q:Queue}(h:FA t)(hf:CA t a.name=some k)(hq:t[k]?=some q)(hw:Ar q p=none)(hz:(Ap q.holds p).zero=false)(hc:q.res.covers (Ap q.holds p) a.AN=true) :
 ∃ q',(BB t p a).1=t.set k q'/\GL p t (t.set k q')/\q'.res=q.res/\Ar q' p=none/\Ap q'.holds p=a.AN:=by
 have hg:t.getD k q0=q:=by simp[List.getD,hq]
 have hv:=h.val q (mG hq);obtain⟨h0,h1,h2,h3⟩:=ZO hv hz hw hc;refine⟨(AO q p a.AN).1,?_,Rj h hq h1 (.inl λx hx=>?_),h1.res,h2,h3⟩
 ·simp only[BB,(I2 t).2 h,hf,hg,h0];rfl
 ·revert hx;unfold AO;simp only[hv,hz,hw,hc,isSome_none,Bool.not_true,false_eq_true,if_false];split
  ·exact id
  ·intro hx;rw[Tz]at hx;exact pS hz hx
def Y1{t:List Queue}{p:Ad}{a:Atom}{prio:Int}(h:FA t)(L:Bs->BO)(hk:∀ q∈t,q.res.name=a.name->Ap q.holds p=L q.res.name) :
 (Et t p a prio).1=[]\/∃ k q q',CA t a.name=some k/\t[k]?=some q/\q.res.name=a.name/\(Et t p a prio).1=t.set k q'/\GL p t (t.set k q')/\q'.res=q.res/\Kq q' p (L q.res.name):=by
 unfold Et;simp only[(I2 t).2 h,Bool.not_true,false_eq_true,if_false];cases hf:CA t a.name with
 |none=>exact .inl rfl
 |some k =>
  obtain⟨Au,q,hq,hn⟩:=DB hf;have hg:t.getD k q0=q:=by simp[List.getD,hq]
  simp only[hg];split
  ·exact .inl rfl
  rename_i h8;split
  ·exact .inl rfl
  rename_i h0;have h0:(BV q p a.AN prio).2.2=0:=by simpa using h0
  obtain⟨h1,h2⟩:=Y0 (hk q (mG hq) hn) h0;refine .inr ⟨k,q,(BV q p a.AN prio).1,rfl,hq,hn,rfl,Rj h hq h1 ?_,h1.res,h2⟩
  by_cases hm:p∈AT t
  ·exact .inr (.inl hm)
  ·refine .inr (.inr ?_);have hp:BL (AT t) p=false:=by simp[BL,hm]
   rw[hp]at h8;have:=h.pr;simp at h8;omega
def Yd{t:List Queue}(p:Ad)(h:FA t):GL p t (Cy t p).1:=by
 have e:(Cy t p).1=t.map λq=>(Dh p q).1:=by simp[Cy,(I2 t).2 h]
 rw[e];have hs:=λq hq=>Yc p (h.val q hq)
 have hr:(t.map λq=>(Dh p q).1).map (·.res)=t.map (·.res):=by
  rw[List.map_map];exact List.map_congr_left λq hq=>(hs q hq).res
 refine⟨fo h hr (λx hx=>?_) (Re (t:=t) (λx hx=>?_) h.pr),hr,λy hy L hk x hx=>?_⟩
 ·obtain⟨q,hq,rfl⟩:=mem_map.1 hx;exact(hs q hq).val
 ·rw[Ib]at hx ⊢;obtain⟨y,hy,iV⟩:=hx;obtain⟨q,hq,rfl⟩:=mem_map.1 hy;refine⟨q,hq,?_⟩;revert iV;unfold Dh;cases hh:TS q p
  ·exact id
  ·simp only[if_true];unfold FN;simp only[h.val q hq,if_true];split
   ·intro iV;rw[Tz]at iV;exact((ca q p x).1 iV).1
   ·intro iV;rcases iV with ⟨_,hm,_⟩|⟨_,hm,_⟩|⟨_,hm,_⟩<;>simp[q0]at hm
 ·obtain⟨q,hq,rfl⟩:=mem_map.1 hx;rw[(hs q hq).res];exact(hs q hq).other y _ hy (hk q hq)
def e0:Expr:=.mk 0 a0 []
def Eg:aY:=⟨e0,0,0⟩
def TD(e:Expr):Bool:=e.k==0&&decide (e.atom=a0)&&decide (e.kids.length=0)
def ik(r:aY):Bool:=TD r.expr&&r.prio==0&&r.DK==0
def sU(e:Expr):Ac C0 215 [.agg e.c,.agg e0.c] [] (B (TD e)) []:=by
 refine Ac.lens f215 λhlen=>?_
 simp only[E0,lens,Expr.Cf,List.length_map,and_true,true_and]at hlen;refine Ac.go f215 ?_;unfold f215;have k1:e0.k=0:=rfl;have k2:e0.atom=a0:=rfl;have k3:e0.kids=[]:=rfl;have ez:(e.atom.name==[]&&(e.atom.AN.mode==0&&e.atom.AN.Ax==0))=decide (e.atom=a0):=W7 e.atom
 by_cases h1:e.k=0
 rotate_left
 ·have ku:(e.k !=0)=true:=by simp[h1]
  simp(disch:=omega)only[go_sem,k1,k2,k3,a0,map_nil,ku,Bool.not_false,Bool.not_true];refine Aj _ ?_;exact wb (by simp[TD,h1])
 have ku:(e.k !=0)=false:=by simp[h1]
 by_cases h2:e.atom=a0
 rotate_left
 ·rw[decide_eq_false h2]at ez;simp(disch:=omega)only[go_sem,k1,k2,k3,a0,map_nil,ku,ez,Bool.not_false,Bool.not_true];refine Aj _ ?_;exact wb (by simp[TD,h2])
 rw[decide_eq_true h2]at ez
 by_cases h3:e.kids.length=0
 rotate_left
 ·have UP:((e.kids.length:Int) !=0)=true:=by simp only[bne_iff_ne,ne_eq];omega
  simp(disch:=omega)only[go_sem,k1,k2,k3,a0,map_nil,ku,ez,UP,Bool.not_false,Bool.not_true];refine Aj _ ?_;exact wb (by simp[TD,h3])
 have UP:((e.kids.length:Int) !=0)=false:=by simp[h3]
 simp(disch:=omega)only[go_sem,k1,k2,k3,a0,map_nil,ku,ez,UP,Bool.not_false,Bool.not_true];refine AH (e.kids) (λi=>⟨[(5,I i),(2,.ptr 128 0)],[(128,e.c)]⟩) (λi=>True) trivial ?_ ?_
 ·exact B9
 rintro i ⟨hi,hP⟩ J hJ;refine gO ?_;refine Bp hi (λAu b hb Cc AR=>?_) λBf=>?_
 ·omega
 ·refine Aj _ ?_;exact wb (by simp[TD,h1,h2,h3])
theorem sT(r:aY):Ac C0 161 [.agg r.c,.agg Eg.c] [] (B (ik r)) []:=by
 have k1:Eg.expr=e0:=rfl;have k4:Eg.prio=0:=rfl;have k5:Eg.DK=0:=rfl;refine Ac.go f161 ?_;unfold f161;simp(disch:=omega)only[go_sem,k1,k4,k5];refine Ab (sU r.expr) ?_;cases h1:TD r.expr
 ·simp(disch:=omega)only[go_sem];refine Aj _ ?_;exact wb (by simp[ik,h1])
 simp(disch:=omega)only[go_sem,k4,k5];cases h2:(r.prio==0)
 ·simp(disch:=omega)only[go_sem,h2];refine Aj _ ?_;exact wb (by simp[ik,h1,h2])
 simp(disch:=omega)only[go_sem,h2];refine Aj _ ?_;exact wb (by simp only[ik,h1,h2];rfl)
def JS(r:aY):Bool:=BA r.expr&&decide (0<=r.prio)&&decide (r.prio<=7)&&decide (0<=r.DK)&&decide (r.DK<=1000)
def Xq(r:aY):Ac C0 137 [.agg r.c] [] (B (JS r)) []:=by
 refine Ac.go f137 ?_;unfold f137;refine gO ?_;refine Ag (bJ r.expr) (by simp(disch:=omega)only[go_sem,Expr.Cf]) rfl ?_;cases h1:BA r.expr
 ·simp(disch:=omega)only[go_sem];refine Aj _ ?_;exact wb (by simp[JS,h1])
 simp(disch:=omega)only[go_sem]
 repeat'(with_reducible refine And.intro (λh=>?_) (λh=>?_))
 all_goals(refine CD _ ?_)
 all_goals(try simp(disch:=omega)only[go_sem])
 all_goals(first|refine wb ?_|refine wi ?_|refine .eq ?_)
 all_goals(first|(simp_all[JS,h1]<;>omega)|(refine Bool.eq_iff_iff.2 ?_;simp_all[JS,h1]<;>omega))
def Lf(l:List Bo)(i:Nat)(r:Bo):Bool:=N6 r&&(decide (i=0)||DJ (l.getD (i-1) r0).name r.name)
def Mk(l:List Bo):Bool:=decide (l.length<=8)&&Ci (Lf l) l
def dz(l:List Bo):Ac C0 171 [FO l] [] (B (Mk l)) []:=by
 refine Ac.go f171 ?_;unfold f171
 by_cases hq:8<l.length
 ·have e1:(8<(l.length:Int))=True:=eq_true (by omega);have e:Mk l=false:=by simp[Mk];omega
  simp(disch:=omega)only[go_sem,e1];refine Aj _ ?_;exact wb (by simp[e])
 have e1:(8<(l.length:Int))=False:=eq_false (by omega);simp(disch:=omega)only[go_sem,e1,decide_false];refine AH (l) (λi=>⟨[(3,I i),(0,FO l)],[]⟩) (λi=>Ci (Lf l) (l.take i)=true) rfl ?_ ?_
 ·exact B9
 rintro i ⟨hi,hP⟩ J hJ;refine gO ?_;refine Bp hi (λAu b hb Cc AR=>?_) λBf=>?_
 refine Av 21 [([],[0]),([],[3]),([],[13,14]),([],[15]),([],[16]),([4],[17]),([4],[18]),([4],[3,19]),([4],[20,19]),([4],[21,19]),([4],[0,22]),([4],[3,22]),([4],[24,22]),([4],[23,25,22]),([4],[26,22]),([4],[27,22]),([4],[0,22]),([4],[3,22]),([4],[29,30,22]),([4],[31,22]),([4],[32,22])] B7 ?_;simp(disch:=omega)only[go_sem,gm,hb]
 ·have bad:Lf l i b=false->Mk l=false:=λh=>by simp only[Mk,BM hb h,Bool.and_false]
  have Fv:Lf l i b=true->Ci (Lf l) (l.take (i+1))=true:=λh=>by rw[Cl hb,hP,h];rfl
  first|(refine Ab (Px b) ?_)|(refine Aq (Px b) ?_)
  have L8:(C9 b.name&&b.shaped&&AL b.home 0 3)=N6 b:=rfl;rw[L8];cases hv:N6 b
  ·simp(disch:=omega)only[go_sem];refine Aj _ ?_;exact wb (by rw[bad (by simp[Lf,hv])])
  by_cases NO:i=0
  ·subst NO;refine gO ?_;refine hJ _ 1 ⟨by omega,Fv (by simp[Lf,hv])⟩ (by omega) AS
  ·have PJ:(0<(i:Int))=True:=eq_true (by omega);have Lu:((i:Int)-1)=((i-1:Nat):Int):=by omega
   obtain⟨a,ME⟩:∃ a,l[i-1]?=some a:=⟨_,gE (by omega)⟩;have PH:l.getD (i-1) r0=a:=by simp[List.getD,ME]
   simp(disch:=omega)only[go_sem,PJ,Lu,gm,ME,hb];refine And.intro (λhh=>?_) (λhh=>?_)
   ·refine Aj _ ?_;exact wb (by rw[bad (by simp only[Lf,PH,hv];simp[NO];simpa [DJ]using hh)])
   ·refine hJ _ (i+1) ⟨by omega,Fv (by simp only[Lf,PH,hv];simp[NO];simpa [DJ]using hh)⟩ (by omega) AS
 subst Bf;rw[take_length]at hP;have Yu:Mk l=true:=by simp[Mk,hP];omega
 refine Aj _ ?_;exact wb (by rw[Yu])
def Gm(l:List Bo)(a:Atom):Int:=if !Mk l then 2 else match RM l a.name with
 |none=>10
 |some r=>if r.fits a.AN then 0 else 12
def oq(l:List Bo)(a:Atom):Ac C0 216 [FO l,.agg a.c] [] (I (Gm l a)) []:=by
 refine Ac.go f216 ?_;unfold f216;refine gO ?_;refine Ab (dz l) ?_;cases h1:Mk l
 ·simp(disch:=omega)only[go_sem,Bool.not_false];refine Aj _ ?_;exact wi (by simp[Gm,h1])
 simp(disch:=omega)only[go_sem,Bool.not_true];refine Ab (oJ l a.name) ?_;cases hf:RM l a.name with
 |none =>
  simp(disch:=omega)only[go_sem,isSome_none,Option.getD_none,r0];refine Aj _ ?_;exact wi (by simp[Gm,h1,hf])
 |some r =>
  simp(disch:=omega)only[go_sem,Option.isSome_some,Option.getD_some];refine Ab (Gp r a.AN) ?_;cases h2:r.fits a.AN
  ·simp(disch:=omega)only[go_sem,Bool.not_false];refine Aj _ ?_;exact wi (by simp[Gm,h1,hf,h2])
  ·simp(disch:=omega)only[go_sem,Bool.not_true];refine Aj _ ?_;exact wi (by simp[Gm,h1,hf,h2])
def Hi(l:List Bo):List Atom->Int
 |[]=>0
 | a::az=>if Gm l a=0 then Hi l az else Gm l a
def Dp(l:List Bo)(e:Expr):Int:=if BA e then Hi l (Al e) else 1
theorem SG(l:List Bo)(e:Expr):Ac C0 165 [FO l,.agg e.c] [] (I (Dp l e)) []:=by
 refine Ac.go f165 ?_;unfold f165;refine gO ?_;refine Ab (Pt e) ?_;cases h1:BA e
 ·simp(disch:=omega)only[go_sem,Bool.not_false];refine Aj _ ?_;exact wi (by simp[Dp,h1])
 simp(disch:=omega)only[go_sem,Bool.not_true];have e1:Dp l e=Hi l (Al e):=by simp[Dp,h1]
 rw[e1];have SQ:(Al e).length<=1000000:=by have:=C3 e;omega
 generalize Al e=az at SQ;refine AH (az) (λi=>⟨[(7,I i),(5,BN az),(0,FO l)],[]⟩) (λi=>Hi l az=Hi l (az.drop i)) rfl ?_ ?_
 ·exact B9
 rintro i ⟨hi,hP⟩ J hJ;refine gO ?_;refine Bp hi (λAu b hb Cc AR=>?_) λBf=>?_
 ·have hd:az.drop i=b::az.drop (i+1):=by rw[List.drop_eq_getElem_cons AR,get_eq hb]
  simp(disch:=omega)only[go_sem,gm,hb];refine Ab (oq l b) ?_;cases hz:(Gm l b !=0)
  ·simp(disch:=omega)only[go_sem,hz];refine hJ _ (i+1) ⟨by omega,(by rw[hP,hd];simp only[Hi];rw[if_pos (by simpa using hz)])⟩ (by omega) AS
  ·simp(disch:=omega)only[go_sem,hz];refine Aj _ ?_;exact wi (by rw[hP,hd];simp only[Hi];rw[if_neg (by simpa using hz)])
 ·subst Bf;refine Aj _ ?_;exact wi (by rw[hP,List.drop_length];rfl)
def Gj(G:List Bool)(i:Nat):List Bool:=G.take i++List.replicate (G.length-i) false
def VN{G:List Bool}{i:Nat}(h:i<=G.length):(Gj G i).length=G.length:=by simp[Gj];omega
def VM{G:List Bool}{i:Nat}(h:i<G.length):(Gj G i)[i]?=some false:=by
 unfold Gj;rw[List.getElem?_append_right (by simp;omega),List.getElem?_replicate];simp;omega
def VO{G:List Bool}{i:Nat}{b:Bool}(hb:G[i]?=some b):(Gj G i).set i b=Gj G (i+1):=by
 have hi:=Ay hb;unfold Gj;rw[List.set_append_right _ _ (by simp;omega)];simp only[List.length_take,Nat.min_eq_left (Nat.le_of_lt hi),Nat.sub_self];rw[show G.length-i=(G.length-(i+1))+1 by omega,List.replicate_succ,List.set_cons_zero,take_add_one,hb];simp
def VL(G:List Bool):Gj G G.length=G:=by simp[Gj]
def GC(l:List Cd)(p:Ad):Int:=match l.findIdx? (λx=>decide (x.proc=p)) with|some i=>i|none=>-1
def SE(l:List Cd)(p:Ad):Ac C0 112 [qx l,.agg p.c] [] (I (GC l p)) []:=by
 refine Ac.lens f112 λhlen=>?_
 simp only[E0,lens,List.length_map,and_true,true_and]at hlen;refine Ac.go f112 ?_;unfold f112;refine gO ?_;refine AH (l) (λi=>⟨[(5,I i),(0,qx l),(3,.ptr 192 0)],[(192,p.c)]⟩) (λi=>(l.take i).find? (λx=>decide (x.proc=p))=none) rfl ?_ ?_
 ·exact B9
 rintro i ⟨hi,hP⟩ J hJ;refine gO ?_;refine Bp hi (λAu b hb Cc AR=>?_) λBf=>?_
 refine Av 6 [([],[0]),([],[5]),([],[12,13]),([],[14]),([],[15]),([],[3])] B7 ?_;simp(disch:=omega)only[go_sem,gm,hb]
 ·refine⟨λh=>?_,λh=>?_⟩
  ·have e:GC l p=i:=by unfold GC;rw[Gk hP b hb (by simpa using h)]
   simp(disch:=omega)only[go_sem,e];exact AM _
  ·refine hJ _ (i+1) ⟨by omega,(by rw[B4 hP hb];simp at h;simp[h])⟩ (by omega) AS
 ·subst Bf;rw[take_length]at hP;have e:GC l p = -1:=by
   have:l.findIdx? (λx=>decide (x.proc=p))=none:=by
    rw[List.findIdx?_eq_none_iff];rw[List.find?_eq_none]at hP;intro x hx;simpa using hP x hx
   unfold GC;rw[this]
  simp(disch:=omega)only[go_sem,e];exact AM _
def Hq(t:List Queue):List Bo:=t.map (·.res)
def SH(t:List Queue)(h:t.length<=1000000):Ac C0 166 [AW t] [] (FO (Hq t)) []:=by
 refine Ac.go f166 ?_;unfold f166;refine gO ?_;refine AH (t) (λi=>⟨[(4,I i),(3,.sl (.own 1152 0) 4 ((Hq (t.take i)).map Bo.c)),(0,AW t)],[]⟩) (λi=>True) trivial ?_ ?_
 ·refine AQ.An ?_ ?_
  all_goals(try simp(disch:=omega)only[go_sem])
  all_goals(try(repeat'(with_reducible apply And.intro)))
  all_goals(first|exact .AU (by omega)|exact .AD (by omega)|exact .sl (by simp[Hq])|exact .int (by simp[Hq])|exact .eq (by simp[Hq]))
 rintro i ⟨hi,hP⟩ J hJ;refine gO ?_;refine Bp hi (λAu b hb Cc AR=>?_) λBf=>?_
 ·have IY:(Hq (t.take i)).length+1<=4294967296:=by simp[Hq];omega
  simp(disch:=omega)only[go_sem,gm,hb];refine hJ _ (i+1) ⟨by omega,trivial⟩ (by omega) (AQ.An ?_ ?_)
  all_goals(try simp(disch:=omega)only[go_sem])
  all_goals(try(repeat'(with_reducible apply And.intro)))
  all_goals(first|exact .AU (by omega)|exact .AD (by omega)|exact .sl (by simp[Hq,take_add_one,hb,Bo.c])|exact .int (by simp[Hq,take_add_one,hb,Bo.c])|exact .eq (by simp[Hq,take_add_one,hb,Bo.c]))
 ·subst Bf;rw[take_length];refine CK ⟨[],[],[1152]⟩ _ ?_;simp(disch:=omega)only[go_sem]
def QQ(t:List Queue)(p:Ad)(a:Atom):Bool:=match CA t a.name with
 |none=>false
 |some k=>(t.getD k q0).res.covers (Ap (t.getD k q0).holds p) a.AN
def BY(t:List Queue)(p:Ad)(e:Expr):List Bool:=(Al e).map (QQ t p)
def Ns(t:List Queue)(p:Ad)(e:Expr)(h:Ei t):Ac C0 167 [AW t,.agg p.c,.agg e.c] [] (Jb (BY t p e)) []:=by
 have hn:=h.n;have SQ:=C3 e;refine Ac.go f167 ?_;unfold f167;refine gO ?_;refine Ag (Nt e) (by simp(disch:=omega)only[go_sem,Expr.Cf]) rfl ?_;refine gO ?_;have TW:(BY t p e).length=(Al e).length:=by simp[BY]
 refine AH ((Al e)) (λi=>⟨[(9,I i),(0,AW t),(4,.ptr 256 0),(7,BN (Al e)),(8,.sl (.own 960 0) 1 ((Gj (BY t p e) i).map λb=>[B b]))],[(256,p.c)]⟩) (λi=>True) trivial ?_ ?_
 ·refine AQ.An ?_ ?_
  all_goals(try simp(disch:=omega)only[go_sem])
  all_goals(try(repeat'(with_reducible apply And.intro)))
  all_goals(first|exact .AU (by omega)|exact .AD (by omega)|exact .sl (by simp[Gj,BY])|exact .int (by simp[Gj,BY])|exact .eq (by simp[Gj,BY]))
 rintro i ⟨hi,hP⟩ J hJ;refine gO ?_;refine Bp hi (λAu b hb Cc AR=>?_) λBf=>?_
 ·have NW:=VN (G:=BY t p e) (i:=i) (by omega);have mN:=VM (G:=BY t p e) (i:=i) (by omega);have hgi:(BY t p e)[i]?=some (QQ t p b):=by simp[BY,hb]
  have NX:=VO hgi;generalize Gj (BY t p e) i=M at NW mN NX ⊢;simp(disch:=omega)only[go_sem,gm,hb];refine Ab (HE t b.name (by omega)) ?_;cases hf:CA t b.name with
  |none =>
   have eg:QQ t p b=false:=by simp[QQ,hf]
   rw[eg]at NX;have hMs:M.set i false=M:=by
    apply List.ext_getElem?;intro j;rw[List.getElem?_set];split
    ·rename_i Sg;subst Sg;rw[if_pos (by omega),mN]
    ·rfl
   rw[hMs]at NX;simp(disch:=omega)only[go_sem,UY];refine hJ _ (i+1) ⟨by omega,trivial⟩ (by omega) (AQ.An ?_ gI);refine gO ?_;exact .sl (by rw[<- NX])
  |some k =>
   obtain⟨hk,q,hq,_⟩:=DB hf;have eg:QQ t p b=q.res.covers (Ap q.holds p) b.AN:=by simp[QQ,hf,List.getD,hq]
   rw[eg]at NX;obtain⟨q1,q2,q3⟩:=Bv (h.q q (mG hq));simp(disch:=omega)only[go_sem,UY,eq_true (show (0:Int)<=(k:Int) by omega),decide_true];refine Av 19 [([],[8]),([],[9]),([],[0]),([],[10]),([],[33,34]),([],[35]),([],[36]),([],[0]),([],[10]),([],[38,39]),([],[40]),([],[4]),([],[41,42]),([],[7]),([],[9]),([],[44,45]),([],[46]),([],[47]),([12],[37,43,48])] B7 ?_;simp(disch:=omega)only[go_sem,gm,hb,hq]
   first|(refine Ab (EP q p q1) ?_)|(refine Aq (EP q p q1) ?_)
   simp(disch:=omega)only[go_sem,gm,hb,hq]
   first|(refine Ab (Ln q.res (Ap q.holds p) b.AN) ?_)|(refine Aq (Ln q.res (Ap q.holds p) b.AN) ?_)
   simp(disch:=omega)only[go_sem,gm,mN];refine hJ _ (i+1) ⟨by omega,trivial⟩ (by omega) (AQ.An ?_ gI);refine gO ?_;exact .sl (by rw[<- NX,map_set])
 ·subst Bf;have e3:Gj (BY t p e) (Al e).length=BY t p e:=by rw[<- TW,VL]
  rw[e3];refine CK ⟨[],[],[960]⟩ _ ?_;simp(disch:=omega)only[go_sem]
def Hw(q:Queue)(x:Cd):List Atom->Bool
 |[]=>decide (Ap q.holds x.proc=AE x.By.entries q.res.name)&&!(Ar q x.proc).isSome
 | a::az=>if a.name !=q.res.name then Hw q x az else if q.res.covers (AE x.By.entries q.res.name) a.AN then Hw q x az
  else if !(Ar q x.proc).isSome then decide (Ap q.holds x.proc=Fo q.res (AE x.By.entries q.res.name) a.AN)
  else if q.waits.any (λw=>decide (w.proc=x.proc)&&w.prio !=x.BQ.prio) then false
  else decide (Ap q.holds x.proc=AE x.By.entries q.res.name)&&decide ((Ar q x.proc).getD ⟨0,0⟩=Fo q.res (AE x.By.entries q.res.name) a.AN)
theorem dy(q:Queue)(x:Cd)(az:List Atom)(h:BC q<=100)(ha:az.length<=1000000):Ac C0 169 [.agg q.c,.agg x.c,BN az] [] (B (Hw q x az)) []:=by
 obtain⟨q1,q2,q3⟩:=Bv h;refine Ac.go f169 ?_;unfold f169;refine gO ?_;refine Ab (HS x.By.entries q.res.name) ?_;refine gO ?_;refine Ab (EP q x.proc q1) ?_;refine gO ?_;refine Ab (Mt q x.proc q2 q3) ?_;refine gO ?_;refine AH (az) (λi=>⟨[(11,I i),(2,BN az),(3,.ptr 192 0),(4,.ptr 256 0),(7,.ptr 448 0),(8,.ptr 512 0),(9,.ptr 576 0),(10,B (Ar q x.proc).isSome)],[(192,q.c),(256,x.c),(448,(AE x.By.entries q.res.name).c),(512,(Ap q.holds x.proc).c),(576,((Ar q x.proc).getD ⟨0,0⟩).c)]⟩) (λi=>Hw q x az=Hw q x (az.drop i)) rfl ?_ ?_
 ·exact B9
 rintro i ⟨hi,hP⟩ J hJ;refine gO ?_;refine Bp hi (λAu b hb Cc AR=>?_) λBf=>?_
 ·have hd:az.drop i=b::az.drop (i+1):=by rw[List.drop_eq_getElem_cons AR,get_eq hb]
  rw[hd]at hP;simp only[Hw]at hP;simp(disch:=omega)only[go_sem,gm,hb];cases hn:(b.name==q.res.name)
  ·have h1:(b.name !=q.res.name)=true:=by simp[bne,hn]
   rw[h1,if_pos rfl]at hP;simp(disch:=omega)only[go_sem,h1,hn,Bool.not_false];refine hJ _ (i+1) ⟨by omega,hP⟩ (by omega) AS
  have h1:(b.name !=q.res.name)=false:=by simp[bne,hn]
  rw[h1]at hP;simp only[false_eq_true,if_false]at hP;simp(disch:=omega)only[go_sem,h1,hn,Bool.not_true];refine Ab (Ln q.res (AE x.By.entries q.res.name) b.AN) ?_;cases h2:q.res.covers (AE x.By.entries q.res.name) b.AN;rotate_left
  ·rw[h2,if_pos rfl]at hP;refine gO ?_;refine hJ _ (i+1) ⟨by omega,hP⟩ (by omega) AS
  rw[h2]at hP;simp only[false_eq_true,if_false]at hP;refine gO ?_;refine Ab (Xw q.res (AE x.By.entries q.res.name) b.AN) ?_;cases h3:(Ar q x.proc).isSome
  ·rw[h3]at hP;simp only[Bool.not_false,if_true]at hP;simp(disch:=omega)only[go_sem,Bool.not_false];refine Aj _ ?_;exact wb hP.symm
  rw[h3]at hP;simp only[Bool.not_true,false_eq_true,if_false]at hP;simp(disch:=omega)only[go_sem,Bool.not_true];obtain⟨o,rfl⟩:∃ o,o=i:=⟨i,rfl⟩;obtain⟨bo,rfl⟩:∃ bo,bo=b:=⟨b,rfl⟩;have xA:=hP;clear hJ hb Au AR;have wS:∀ (i:Nat) (w:Ba),q.waits[i]?=some w->(q.waits.take (i+1)).any (λw=>decide (w.proc=x.proc)&&w.prio !=x.BQ.prio)=((q.waits.take i).any (λw=>decide (w.proc=x.proc)&&w.prio !=x.BQ.prio)||(decide (w.proc=x.proc)&&w.prio !=x.BQ.prio)):=λi w hw=>by
   rw[take_add_one,hw];simp
  have Aam:∀ (w:Ba),w∈q.waits->(decide (w.proc=x.proc)&&w.prio !=x.BQ.prio)=true->q.waits.any (λw=>decide (w.proc=x.proc)&&w.prio !=x.BQ.prio)=true:=λw hw hc=>List.any_eq_true.2 ⟨w,hw,hc⟩
  refine AH (q.waits) (λi=>⟨[(14,I i),(3,.ptr 192 0),(4,.ptr 256 0),(7,.ptr 448 0),(8,.ptr 512 0),(9,.ptr 576 0),(13,.ptr 832 0)],[(192,q.c),(256,x.c),(448,(AE x.By.entries q.res.name).c),(512,(Ap q.holds x.proc).c),(576,((Ar q x.proc).getD ⟨0,0⟩).c),(832,(Fo q.res (AE x.By.entries q.res.name) bo.AN).c)]⟩) (λi=>(q.waits.take i).any (λw=>decide (w.proc=x.proc)&&w.prio !=x.BQ.prio)=false) rfl ?_ ?_
  ·exact B9
  rintro i ⟨hi,hP⟩ J hJ;refine gO ?_;refine Bp hi (λAu b hb Cc AR=>?_) λBf=>?_
  ·refine Av 19 [([],[3]),([],[75]),([],[14]),([],[76,77]),([],[78]),([],[79]),([],[4]),([],[81]),([],[80,82]),([],[83]),([],[3,84]),([],[85,84]),([],[14,84]),([],[86,87,84]),([],[88,84]),([],[89,84]),([],[4,84]),([],[91,84]),([],[92,84])] B7 ?_;cases c1:decide (b.proc=x.proc)
   ·simp(disch:=omega)only[go_sem,gm,hb,c1];refine hJ _ (i+1) ⟨by omega,(by rw[wS i b hb,hP,c1];rfl)⟩ (by omega) AS
   cases c2:(b.prio !=x.BQ.prio)
   ·simp(disch:=omega)only[go_sem,gm,hb,c1,c2];refine hJ _ (i+1) ⟨by omega,(by rw[wS i b hb,hP,c1,c2];rfl)⟩ (by omega) AS
   ·simp(disch:=omega)only[go_sem,gm,hb,c1,c2];refine Aj _ ?_;exact wb (by rw[xA,if_pos (Aam b Cc (by rw[c1,c2];rfl))])
  ·subst Bf;rw[take_length]at hP;rw[hP]at xA;simp only[false_eq_true,if_false]at xA;cases c1:decide (Ap q.holds x.proc=AE x.By.entries q.res.name)
   ·simp(disch:=omega)only[go_sem,c1];refine Aj _ ?_;exact wb (by rw[xA,c1];rfl)
   ·simp(disch:=omega)only[go_sem,c1];refine Aj _ ?_;exact wb (by rw[xA,c1];rfl)
 ·subst Bf;rw[List.drop_length]at hP;simp only[Hw]at hP;cases h1:decide (Ap q.holds x.proc=AE x.By.entries q.res.name)
  ·simp(disch:=omega)only[go_sem,h1];refine Aj _ ?_;exact wb (by rw[hP,h1];rfl)
  ·simp(disch:=omega)only[go_sem,h1];refine Aj _ ?_;exact wb (by rw[hP,h1];rfl)
def H7(l:Ledger):List Atom:=(Dy l.entries).filterMap λn=>if (AE l.entries n).mode==0&&(AE l.entries n).Ax==0 then none else some ⟨n,AE l.entries n⟩
def kg{α β:Type}{f:α->Option β}{l:List α}{i:Nat}{b:α}(hb:l[i]?=some b):(l.take (i+1)).filterMap f=(l.take i).filterMap f++(f b).toList:=by
 rw[take_add_one,hb,List.filterMap_append];cases h:f b<;>simp[h]
def NF(l:List Entry):(Dy l).length<=l.length:=by
 have:=ON (l:=l) l.length (Nat.le_refl _)
 rwa [take_length]at this
def nS(l:Ledger)(hl:l.entries.length<=1000000):Ac C0 159 [.agg l.c] [] (BN (H7 l)) []:=by
 have uj:=NF l.entries;refine Ac.go f159 ?_;unfold f159;refine gO ?_;refine Ab (Xv l.entries hl) ?_;refine gO ?_;unfold H7;generalize Dy l.entries=ns at uj;refine AH (ns) (λi=>⟨[(5,I i),(3,.sl (.own 2176 0) 3 (((ns.take i).filterMap λn=>if (AE l.entries n).mode==0&&(AE l.entries n).Ax==0 then none else some (⟨n,AE l.entries n⟩:Atom)).map Atom.c)),(4,mu ns),(1,.ptr 64 0)],[(64,l.c)]⟩) (λi=>True) trivial ?_ ?_
 ·exact B9
 rintro i ⟨hi,hP⟩ J hJ;refine gO ?_;refine Bp hi (λAu b hb Cc AR=>?_) λBf=>?_
 ·have hx:=kg (f:=λn=>if (AE l.entries n).mode==0&&(AE l.entries n).Ax==0 then none else some (⟨n,AE l.entries n⟩:Atom)) hb;have hlen:((ns.take i).filterMap λn=>if (AE l.entries n).mode==0&&(AE l.entries n).Ax==0 then none else some (⟨n,AE l.entries n⟩:Atom)).length<=ns.length:=le_trans (List.length_filterMap_le _ _) (by simp;omega);generalize (ns.take i).filterMap (λn=>if (AE l.entries n).mode==0&&(AE l.entries n).Ax==0 then none else some (⟨n,AE l.entries n⟩:Atom))=L at hx hlen ⊢;have IY:L.length+1<=4294967296:=by omega
  refine Av 8 [([],[1]),([],[16]),([],[4]),([],[5]),([],[18,19]),([],[20]),([],[17,21]),([],[])] B7 ?_;simp(disch:=omega)only[go_sem,gm,hb]
  first|(refine Ab (HS l.entries b) ?_)|(refine Aq (HS l.entries b) ?_)
  refine gO ?_;cases hz:((AE l.entries b).mode==0&&(AE l.entries b).Ax==0)
  ·simp(disch:=omega)only[go_sem,hz,Bool.not_false];refine Av 8 [([],[3]),([],[4]),([],[5]),([],[27,28]),([],[29]),([],[6]),([],[30,31]),([],[32])] B7 ?_;simp(disch:=omega)only[go_sem,gm,hb];rw[hz]at hx;refine hJ _ (i+1) ⟨by omega,trivial⟩ (by omega) (AQ.An ?_ ?_)
   all_goals(try simp(disch:=omega)only[go_sem])
   exact .sl (by rw[hx];simp[Atom.c])
  ·simp(disch:=omega)only[go_sem,hz,Bool.not_true];rw[hz]at hx;refine hJ _ (i+1) ⟨by omega,trivial⟩ (by omega) (AQ.An ?_ ?_)
   all_goals(try simp(disch:=omega)only[go_sem])
   exact .sl (by rw[hx];simp)
 ·subst Bf;rw[take_length];refine CK ⟨[],[],[2176]⟩ _ ?_;simp(disch:=omega)only[go_sem]
def Ru(l:Ledger)(label:Int):Option (Nat × Nat):=if label=0 then some (0,0) else match l.Bn.findIdx? (λs=>s.label==label) with
 |some i=>some ((l.Bn.getD i s0).pos.toNat,i+1)
 |none=>none
def U1(l:Ledger)(at_ n:Nat):Ledger:=⟨l.entries.take at_,l.Bn.take n⟩
def UM(l:Ledger)(at_:Nat):List Atom:=(Dy (l.entries.drop at_)).map λn=>⟨n,AE (l.entries.take at_) n⟩
def CT(l:Ledger)(label:Int):Ledger × List Atom × Int:=if !BF l then (Df,[],2) else match Ru l label with
 |none=>(Df,[],10)
 |some (a,n)=>(U1 l a n,UM l a,0)
theorem Vt{α:Type}{f:Nat->α->Bool}{l:List α}{i:Nat}{b:α}(h:Ci f l=true)(hb:l[i]?=some b):f i b=true:=by
 cases hf:f i b
 ·rw[BM hb hf]at h;cases h
 ·rfl
@[go_sem] theorem nw:Ew []=.sl .no 5 []:=rfl
@[go_sem] theorem vj:OS []=.sl .no 2 []:=rfl
@[go_sem] theorem yU:qx []=.sl .no 16 []:=rfl
@[go_sem] theorem xg:Zf []=.sl .no 7 []:=rfl
theorem Nb{l:Ledger}(h:BF l=true){i:Nat}{s:Save}(hs:l.Bn[i]?=some s):0<=s.pos/\s.pos<=(l.entries.length:Int):=by
 simp only[BF,and_eq_true]at h;have:=Vt h.2 hs;simp only[F4,and_eq_true,decide_eq_true_eq]at this;omega
def nL(l:Ledger)(label:Int):Ac C0 138 [.agg l.c,I label] [] (.Bl [.agg (CT l label).1.c,BN (CT l label).2.1,I (CT l label).2.2]) []:=by
 refine Ac.go f138 ?_;unfold f138;refine gO ?_;refine Ab (No l) ?_;cases hv:BF l
 ·have e:CT l label=(Df,[],2):=by simp[CT,hv]
  simp(disch:=omega)only[go_sem,Bool.not_false,e,Df,map_nil];exact Fy _
 have a6:l.entries.length<=72/\l.Bn.length<=4:=by simp only[BF,and_eq_true,decide_eq_true_eq]at hv;omega
 have Jf:(Ru l label=none/\label≠0/\Mv l.Bn label<0)\/(label=0/\Ru l label=some (0,0))\/(∃ i s,label≠0/\Mv l.Bn label=((i:Nat):Int)/\l.Bn[i]?=some s/\Ru l label=some (s.pos.toNat,i+1)):=by
  unfold Ru Mv
  by_cases h0:label=0
  ·exact .inr (.inl ⟨h0,by simp[h0]⟩)
  ·cases hf:l.Bn.findIdx? (λs=>s.label==label) with
   |none=>exact .inl ⟨by simp[h0],h0,by simp⟩
   |some i =>
    have hi:=(List.findIdx?_eq_some_iff_getElem.1 hf).1;exact .inr (.inr ⟨i,l.Bn[i],h0,rfl,gE hi,by simp[h0,List.getD,gE hi]⟩)
 rcases Jf with ⟨h1,h0,h2⟩|Jf
 ·have e:CT l label=(Df,[],10):=by simp[CT,hv,h1]
  have e0:(label !=0)=true:=by simpa using h0
  simp(disch:=omega)only[go_sem,Bool.not_true,e0];refine Ab (Lj l.Bn label) ?_;simp(disch:=omega)only[go_sem,eq_true h2,decide_true,e,Df,map_nil];exact Fy _
 have Jw:∃ a n,a<=l.entries.length/\n<=l.Bn.length/\CT l label=(U1 l a n,UM l a,0)/\Ru l label=some (a,n):=by
  rcases Jf with ⟨h0,h1⟩|⟨i,s,h0,h1,h2,h3⟩
  ·exact⟨0,0,by omega,by omega,by simp[CT,hv,h1],h1⟩
  ·have:=Nb hv h2;have:=Ay h2;exact⟨s.pos.toNat,i+1,by omega,by omega,by simp[CT,hv,h3],h3⟩
 obtain⟨a,n,ha,hn,e,zz⟩:=Jw;rw[e];rcases Jf with ⟨h0,h1⟩|⟨i,s,h0,h1,h2,h3⟩
 all_goals first
  |(have e0:(label !=0)=true:=by simpa using h0
    have XS:=Nb hv h2;rw[h3]at zz;have PJ:(i:Int)+1=((i+1:Nat):Int):=by omega
    have Vf:s.pos=((s.pos.toNat:Nat):Int):=by omega
    obtain⟨rk,bX⟩:s.pos.toNat=a/\i+1=n:=by simpa using zz
    simp(disch:=omega)only[go_sem,Bool.not_true,e0];refine Ab (Lj l.Bn label) ?_;simp(disch:=omega)only[go_sem,h1,eq_false (show ¬ ((i:Int)<0) by omega),decide_false,gm,h2])
  |(have e0:(label !=0)=false:=by simp[h0]
    rw[h1]at zz;obtain⟨rk,bX⟩:0=a/\0=n:=by simpa using zz
    simp(disch:=omega)only[go_sem,Bool.not_true,e0])
 all_goals
  refine D4 (st':=⟨[(7,I (a:Int)),(8,I (n:Int)),(2,.ptr 128 0),(4,.ptr 256 0)],[(128,l.c),(256,Df.c)]⟩) (AQ.An ?_ ?_) ?_
  ·simp(disch:=omega)only[go_sem];exact⟨.int (by omega),.int (by omega)⟩
  ·simp(disch:=omega)only[go_sem,Df]
  have XN:(l.entries.drop a).take (l.entries.length-a)=l.entries.drop a:=List.take_of_length_le (by simp);refine Av 14 [([],[]),([],[2]),([],[36]),([],[7]),([],[37,38]),([],[35,39]),([],[]),([],[2]),([],[42]),([],[8]),([],[43,44]),([],[41,45]),([],[40,46]),([],[])] B7 ?_;refine gO ?_;refine Ag (Xv (l.entries.drop a) (by simp;omega)) (by simp(disch:=omega)only[go_sem,XN]) rfl ?_;have uj:=NF (l.entries.drop a);have xM:(l.entries.drop a).length<=72:=by simp;omega
  refine gO ?_;unfold UM;generalize Dy (l.entries.drop a)=ns at uj ⊢;refine AH (ns) (λi=>⟨[(13,I i),(11,.sl (.own 4672 0) 3 (((ns.take i).map λn=>(⟨n,AE (l.entries.take a) n⟩:Atom)).map Atom.c)),(12,mu ns),(10,.ptr 640 0),(4,.ptr 256 0)],[(640,(U1 l a n).c),(256,Df.c)]⟩) (λi=>True) trivial ?_ ?_
  ·refine AQ.An ?_ ?_
   all_goals(try simp(disch:=omega)only[go_sem,U1,Df])
   all_goals(try(repeat'(with_reducible apply And.intro)))
   all_goals(first|exact .AU (by omega)|exact .AD (by omega)|exact .sl (by simp[U1,Df])|exact .int (by simp[U1,Df])|exact .eq (by simp[U1,Df]))
  rintro i ⟨hi,hP⟩ J hJ;refine gO ?_;refine Bp hi (λAu b hb Cc AR=>?_) λBf=>?_
  ·refine Av 14 [([],[11]),([],[12]),([],[13]),([],[60,61]),([],[62]),([],[10]),([],[64]),([],[12]),([],[13]),([],[66,67]),([],[68]),([],[65,69]),([11],[63,70]),([11],[71])] B7 ?_;have IY:((ns.take i).map λn=>(⟨n,AE (l.entries.take a) n⟩:Atom)).length+1<=4294967296:=by simp;omega
   simp(disch:=omega)only[go_sem,gm,hb,U1]
   first|(refine Ab (HS (l.entries.take a) b) ?_)|(refine Aq (HS (l.entries.take a) b) ?_)
   simp(disch:=omega)only[go_sem,gm,hb];refine hJ _ (i+1) ⟨by omega,trivial⟩ (by omega) (AQ.An ?_ ?_)
   ·simp(disch:=omega)only[go_sem];exact .sl (by simp[take_add_one,hb,Atom.c])
   ·simp(disch:=omega)only[go_sem,U1,Df]
  ·subst Bf;rw[take_length];refine CK ⟨[],[],[4672]⟩ _ ?_;refine gO ?_;exact .eq (by simp[Ledger.c])
def G8(t:List Queue)(a:Atom):Bool:=match CA t a.name with
 |none=>false
 |some k=>(t.getD k q0).res.fits a.AN
def Iw(x:Cd):Bool:=x.proc.ok&&decide (1<=x.cost)&&decide (x.cost<=1000)&&BF x.By&&decide (0<=x.gen)&&decide (x.gen<=1073741824)
def Lv(t:List Queue)(x:Cd):Bool:=ik x.BQ&&x.since==0&&decide (H7 x.By=IA t x.proc)&&((Fj t x.proc).length:Int)==0
def Kg(now:Int)(t:List Queue)(x:Cd):Bool:=JS x.BQ&&Dp (Hq t) x.BQ.expr==0&&decide (0<=x.since)&&decide (x.since<=now)&&(x.BQ.DK==0||decide (now<x.since+x.BQ.DK))&&!Ff x.BQ.expr (BY t x.proc x.BQ.expr)&&t.all (λq=>Hw q x (Al x.BQ.expr))
def GS(now:Int)(t:List Queue)(x:Cd):Bool:=Iw x&&(H7 x.By).all (G8 t)&&(if x.waiting then Kg now t x else Lv t x)
def gJ(l:Ledger)(h:BF l=true):(H7 l).length<=72:=by
 have h1:=NF l.entries;have h2:l.entries.length<=72:=by simp only[BF,and_eq_true,decide_eq_true_eq]at h;omega
 exact le_trans (List.length_filterMap_le _ _) (by omega)
def dh(c:Qt)(x:Cd)(h:Ei c.Aa)(x9:c.now<=1073741824):Ac C0 113 [.agg c.c,.agg x.c] [] (B (GS c.now c.Aa x)) []:=by
 have hn:=h.n;have bad:Iw x=false->GS c.now c.Aa x=false:=λe=>by simp[GS,e]
 refine Ac.go f113 ?_;unfold f113;refine gO ?_;refine Ab (Lo x.proc) ?_;cases h1:x.proc.ok
 ·simp(disch:=omega)only[go_sem,Bool.not_false];refine Aj _ ?_;exact wb (by rw[bad (by simp[Iw,h1])])
 simp(disch:=omega)only[go_sem,Bool.not_true]
 by_cases h2:x.cost<1
 ·simp(disch:=omega)only[go_sem,eq_true h2,decide_true];refine Aj _ ?_;exact wb (by rw[bad (by simp[Iw];omega)])
 by_cases h3:1000<x.cost
 ·simp(disch:=omega)only[go_sem,eq_false h2,eq_true h3,decide_true,decide_false];refine Aj _ ?_;exact wb (by rw[bad (by simp[Iw];omega)])
 simp(disch:=omega)only[go_sem,eq_false h2,eq_false h3,decide_false];refine Ab (No x.By) ?_;cases h4:BF x.By
 ·simp(disch:=omega)only[go_sem,Bool.not_false];refine Aj _ ?_;exact wb (by rw[bad (by simp[Iw,h4])])
 simp(disch:=omega)only[go_sem,Bool.not_true]
 by_cases h5:x.gen<0
 ·simp(disch:=omega)only[go_sem,eq_true h5,decide_true];refine Aj _ ?_;exact wb (by rw[bad (by simp[Iw];omega)])
 by_cases h6:1073741824<x.gen
 ·simp(disch:=omega)only[go_sem,eq_false h5,eq_true h6,decide_true,decide_false];refine Aj _ ?_;exact wb (by rw[bad (by simp[Iw];omega)])
 have hhd:Iw x=true:=by simp[Iw,h1,h4];omega
 have hhl:=gJ x.By h4;have a6:x.By.entries.length<=72:=by simp only[BF,and_eq_true,decide_eq_true_eq]at h4;omega
 simp(disch:=omega)only[go_sem,eq_false h5,eq_false h6,decide_false];refine Ab (nS x.By (by omega)) ?_;refine gO ?_;have hpo:GS c.now c.Aa x=((H7 x.By).all (G8 c.Aa)&&(if x.waiting then Kg c.now c.Aa x else Lv c.Aa x)):=by simp[GS,hhd]
 rw[hpo];refine AH ((H7 x.By)) (λi=>⟨[(6,I i),(2,.ptr 128 0),(3,.ptr 192 0),(5,BN (H7 x.By))],[(128,c.c),(192,x.c)]⟩) (λi=>((H7 x.By).take i).all (G8 c.Aa)=true) rfl ?_ ?_
 ·exact B9
 rintro i ⟨hi,hP⟩ J hJ;refine gO ?_;refine Bp hi (λAu b hb Cc AR=>?_) λBf=>?_
 ·have wV:G8 c.Aa b=false->(H7 x.By).all (G8 c.Aa)=false:=λe=>List.all_eq_false.2 ⟨b,Cc,by simp[e]⟩
  refine Av 7 [([],[2]),([],[50]),([],[5]),([],[6]),([],[52,53]),([],[54]),([],[55])] B7 ?_;simp(disch:=omega)only[go_sem,gm,hb]
  first|(refine Ab (HE c.Aa b.name (by omega)) ?_)|(refine Aq (HE c.Aa b.name (by omega)) ?_)
  refine gO ?_;cases hf:CA c.Aa b.name with
  |none =>
   refine Av 14 [([],[7]),([],[58]),([],[59]),([],[2,60]),([],[61,60]),([],[7,60]),([],[62,63,60]),([],[64,60]),([],[65,60]),([],[5,60]),([],[6,60]),([],[67,68,60]),([],[69,60]),([],[70,60])] B7 ?_;simp(disch:=omega)only[go_sem,UY];refine Aj _ ?_;exact wb (by rw[wV (by simp[G8,hf])];rfl)
  |some k =>
   obtain⟨hk,q,hq,_⟩:=DB hf;have eg:G8 c.Aa b=q.res.fits b.AN:=by simp[G8,hf,List.getD,hq]
   refine Av 14 [([],[7]),([],[58]),([],[59]),([],[2,60]),([],[61,60]),([],[7,60]),([],[62,63,60]),([],[64,60]),([],[65,60]),([],[5,60]),([],[6,60]),([],[67,68,60]),([],[69,60]),([],[70,60])] B7 ?_;simp(disch:=omega)only[go_sem,UY,eq_false (show ¬ ((k:Int)<0) by omega),decide_false,gm,hq,hb]
   first|(refine Ab (Gp q.res b.AN) ?_)|(refine Aq (Gp q.res b.AN) ?_)
   cases h7:q.res.fits b.AN
   ·simp(disch:=omega)only[go_sem,Bool.not_false];refine Aj _ ?_;exact wb (by rw[wV (eg.trans h7)];rfl)
   ·simp(disch:=omega)only[go_sem,Bool.not_true];refine hJ _ (i+1) ⟨by omega,(by rw[take_add_one,hb,List.all_append,hP];simp[eg,h7])⟩ (by omega) AS
 subst Bf;rw[take_length]at hP;rw[hP,Bool.true_and];clear hJ hi;cases hw:x.waiting
 ·simp only[false_eq_true,if_false];simp(disch:=omega)only[go_sem,hw,Bool.not_false];refine Ag (sT x.BQ) (by simp(disch:=omega)only[go_sem,Eg,e0,a0,Expr.k,Expr.atom,Expr.kids];exact .agg (Af.AI gI)) rfl ?_;cases c1:ik x.BQ
  ·simp(disch:=omega)only[go_sem];refine Aj _ ?_;exact wb (by simp[Lv,c1])
  cases c2:(x.since==0)
  ·simp(disch:=omega)only[go_sem,c2];refine Aj _ ?_;exact wb (by simp[Lv,c2])
  simp(disch:=omega)only[go_sem,c2];refine Ab (nU c.Aa x.proc h) ?_;refine gO ?_;refine Ab (nT (H7 x.By) (IA c.Aa x.proc)) ?_;cases c3:decide (H7 x.By=IA c.Aa x.proc)
  ·simp(disch:=omega)only[go_sem];refine Aj _ ?_;exact wb (by simp only[Lv,c1,c2,c3];rfl)
  refine gO ?_;refine Ab (nV c.Aa x.proc h) ?_;refine gO ?_;refine Aj _ ?_;exact wb (by simp only[Lv,c1,c2,c3];simp)
 ·simp only[if_true];simp(disch:=omega)only[go_sem,hw,Bool.not_true];refine Av 49 [([],[8]),([],[107]),([1],[108]),([1],[109]),([1],[2,110]),([1],[111,110]),([1],[112,110]),([1],[8,110]),([1],[114,110]),([1,6],[113,115,110]),([1,6,9],[116,110]),([1,6,9],[110,117]),([1,6,9],[118]),([1,6,9],[3,119]),([1,6,9],[120,119]),([1,6,9],[121,119]),([1,6,9],[119,122]),([1,6,9],[123]),([1,6,9],[3,124]),([1,6,9],[125,124]),([1,6,9],[2,124]),([1,6,9],[127,124]),([1,6,9],[126,128,124]),([1,6,9],[124,129]),([1,6,9],[130]),([1,6,9],[8,131]),([1,6,9],[132,131]),([1,6,9],[133,131]),([1,6,9],[134,131]),([1,6,9],[3,135]),([1,6,9],[136,135]),([1,6,9],[8,135]),([1,6,9],[138,135]),([1,6,9],[137,139,135]),([1,6,9],[2,135]),([1,6,9],[141,135]),([1,6,9],[140,142,135]),([1,6,9],[135,143,131]),([1,6,9],[131,144]),([1,6,9],[145]),([1,6,9],[8,146]),([1,6,9],[147,146]),([1,6,9],[2,146]),([1,6,9],[149,146]),([1,6,9],[3,146]),([1,6,9],[151,146]),([1,6,9],[8,146]),([1,6,9],[153,146]),([1,6,9],[150,152,154,146])] B7 ?_;refine gO ?_
  first|(refine Ab (Xq x.BQ) ?_)|(refine Aq (Xq x.BQ) ?_)
  cases d1:JS x.BQ
  ·simp(disch:=omega)only[go_sem,Bool.not_false];refine Aj _ ?_;exact wb (by simp[Kg,d1])
  have Aey:0<=x.BQ.DK/\x.BQ.DK<=1000:=by simp only[JS,and_eq_true,decide_eq_true_eq]at d1;omega
  have hex:BA x.BQ.expr=true:=by simp only[JS,and_eq_true]at d1;exact d1.1.1.1.1
  simp(disch:=omega)only[go_sem,Bool.not_true]
  first|(refine Ab (SH c.Aa (by omega)) ?_)|(refine Aq (SH c.Aa (by omega)) ?_)
  refine gO ?_
  first|(refine Ab (SG (Hq c.Aa) x.BQ.expr) ?_)|(refine Aq (SG (Hq c.Aa) x.BQ.expr) ?_)
  by_cases d2:Dp (Hq c.Aa) x.BQ.expr=0
  rotate_left
  ·have d2':(Dp (Hq c.Aa) x.BQ.expr !=0)=true:=by simpa using d2
   simp(disch:=omega)only[go_sem,d2'];refine Aj _ ?_;exact wb (by simp[Kg,d2])
  have d2':(Dp (Hq c.Aa) x.BQ.expr !=0)=false:=by simp[d2]
  simp(disch:=omega)only[go_sem,d2']
  by_cases d3:x.since<0
  ·simp(disch:=omega)only[go_sem,eq_true d3,decide_true];refine Aj _ ?_;exact wb (by simp[Kg,show ¬ (0<=x.since) by omega])
  by_cases d4:c.now<x.since
  ·simp(disch:=omega)only[go_sem,eq_false d3,eq_true d4,decide_true,decide_false];refine Aj _ ?_;exact wb (by simp[Kg,show ¬ (x.since<=c.now) by omega])
  simp(disch:=omega)only[go_sem,eq_false d3,eq_false d4,decide_false];have base:Kg c.now c.Aa x=((x.BQ.DK==0||decide (c.now<x.since+x.BQ.DK))&&!Ff x.BQ.expr (BY c.Aa x.proc x.BQ.expr)&&c.Aa.all (λq=>Hw q x (Al x.BQ.expr))):=by
   simp[Kg,d1,d2,show 0<=x.since by omega,show x.since<=c.now by omega,Bool.and_assoc]
  rw[base];have Jf:(x.BQ.DK≠0/\x.since+x.BQ.DK<=c.now)\/x.BQ.DK=0\/(x.BQ.DK≠0/\c.now<x.since+x.BQ.DK):=by omega
  rcases Jf with ⟨d5,d6⟩|Jf
  ·have xc:(x.BQ.DK !=0)=true:=by simpa using d5
   simp(disch:=omega)only[go_sem,xc,eq_true d6,decide_true];refine Aj _ ?_;exact wb (by simp[d5];omega)
  have ok:(x.BQ.DK==0||decide (c.now<x.since+x.BQ.DK))=true:=by
   rcases Jf with d5|⟨d5,d6⟩
   ·simp[d5]
   ·simp[d6]
  rw[ok,Bool.true_and];rcases Jf with d5|⟨d5,d6⟩
  all_goals first
   |(have xc:(x.BQ.DK !=0)=true:=by simpa using d5
     simp(disch:=omega)only[go_sem,xc,eq_false (show ¬ (x.since+x.BQ.DK<=c.now) by omega),decide_false])
   |(have xc:(x.BQ.DK !=0)=false:=by simp[d5]
     simp(disch:=omega)only[go_sem,xc])
  all_goals
   first|(refine Ab (Ns c.Aa x.proc x.BQ.expr h) ?_)|(refine Aq (Ns c.Aa x.proc x.BQ.expr h) ?_)
   refine gO ?_
   first|(refine Ab (Nr x.BQ.expr (BY c.Aa x.proc x.BQ.expr) hex) ?_)|(refine Aq (Nr x.BQ.expr (BY c.Aa x.proc x.BQ.expr) hex) ?_)
   cases d7:Ff x.BQ.expr (BY c.Aa x.proc x.BQ.expr);rotate_left
   ·simp(disch:=omega)only[go_sem];refine CD _ ?_;simp(disch:=omega)only[go_sem]
    all_goals exact wb (by simp)
   refine gO ?_;refine Ab (Nt x.BQ.expr) ?_;have SQ:=C3 x.BQ.expr;refine gO ?_;refine AH (c.Aa) (λi=>⟨[(10,I i),(9,BN (Al x.BQ.expr)),(2,.ptr 128 0),(3,.ptr 192 0)],[(128,c.c),(192,x.c)]⟩) (λi=>(c.Aa.take i).all (λq=>Hw q x (Al x.BQ.expr))=true) rfl ?_ ?_
   ·refine AQ.An ?_ ?_
    all_goals(try simp(disch:=omega)only[go_sem])
    all_goals(try(repeat'(with_reducible apply And.intro)))
    all_goals(first|exact .AU (by omega)|exact .AD (by omega)|exact .sl (by simp[hw])|exact .int (by simp[hw])|exact .eq (by simp[hw]))
   rintro i ⟨hi,hP⟩ J hJ;refine gO ?_;refine Bp hi (λAu b hb Cc AR=>?_) λBf=>?_
   ·refine Av 7 [([],[2]),([],[168]),([],[10]),([],[169,170]),([],[171]),([],[3]),([],[9])] B7 ?_;simp(disch:=omega)only[go_sem,gm,hb]
    first|(refine Ab (dy b x (Al x.BQ.expr) (h.q b Cc) (by omega)) ?_)|(refine Aq (dy b x (Al x.BQ.expr) (h.q b Cc) (by omega)) ?_)
    cases d8:Hw b x (Al x.BQ.expr)
    ·simp(disch:=omega)only[go_sem,Bool.not_false];refine Aj _ ?_;exact wb (by rw[List.all_eq_false.2 ⟨b,Cc,by simp[d8]⟩])
    ·simp(disch:=omega)only[go_sem,Bool.not_true];refine hJ _ (i+1) ⟨by omega,(by rw[take_add_one,hb,List.all_append,hP];simp[d8])⟩ (by omega) AS
   ·subst Bf;rw[take_length]at hP;refine Aj _ ?_;exact wb (by rw[hP])
end Go.Rd
