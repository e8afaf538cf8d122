/- part 12 of the proof -/
import Derived.Test.YteliegkcmjimoaaGreatDoorX11
set_option linter.all false
open Go Go.Abs Go.Proofs
set_option maxRecDepth 100000
namespace Go.Rd
set_option maxHeartbeats 8000000
open List (length_map map_nil map_set mem_append mem_cons mem_singleton pairwise_append take_add_one take_length)
open Nat (lt_succ_self)
open Tryz
def kr(q:Queue)(h1:q.holds.length<=1000000)(h2:q.waits.length<=1000000):Ad C0 151 [.agg q.c] [] (B (valid q)) []:=by
 refine Ad.go f151 ?_;unfold f151;refine gO ?_;refine Ab (aI q h1 h2) ?_;cases hs:sound q
 ·refine gO ?_;refine Al _ ?_;exact wb (by simp[valid,hs])
 refine gO ?_;refine Ab (kK q) ?_;cases hh:BZ q with
 |none =>
  refine gO ?_;refine Al _ ?_;exact wb (by grind[valid])
 |some w =>
  refine gO ?_;refine Ab (vX q.res q.holds w.proc w.AH h1) (gO ?_);refine Al _ ?_;exact wb (by grind[valid])
def Pu(q:Queue)(h1:q.holds.length<=1000000)(h2:q.waits.length<=1000000):Ad C0 101 [.agg q.c] [] (B (valid q)) []:=by
 refine Ad.go f101 ?_;unfold f101;refine gO ?_;refine Ab (aI q h1 h2) ?_;cases hs:sound q
 ·refine gO ?_;refine Al _ ?_;exact wb (by simp[valid,hs])
 refine gO ?_;refine Ab (kr q h1 h2) (gO ?_);exact AQ _
def ZO{q:Queue}(h:Sound q):BS q<=16:=by
 have h':=(Kr q).2 h;simp only[sound,Fe,Fi,Bool.and_eq_true,decide_eq_true_eq]at h';unfold BS B7;omega
def cD(q:Queue):Queue × List A9:=if sound q then Co q else (q0,[])
def vB(q:Queue)(h1:q.holds.length<=1000000)(h2:q.As.length<=1000000)(h3:q.waits.length<=1000000):Ad C0 152 [.agg q.c] [] (.BC [.agg (cD q).1.c,Bg (cD q).2]) []:=by
 refine Ad.go f152 ?_;unfold f152;refine gO ?_;refine Ab (aI q h1 h3) ?_;cases hs:sound q
 ·have e:cD q=(q0,[]):=by simp[cD,hs]
  simp only[go_sem,e,q0];refine Al _ ?_;refine .BC (Ae.AJ ?_);refine gO ?_
  repeat'(with_reducible apply And.intro)
  all_goals(first|exact .A8 (by omega)|exact .agg (Ae.AJ gI))
 have e:cD q=Co q:=by simp[cD,hs]
 rw[e];refine gO ?_;refine Ab (SP q h1 h2 h3) (gO ?_);refine Ao (α:=Queue × List A9) (λx=>⟨[(1,.ptr 64 0),(2,.ptr 128 0),(4,.sl (.own 3072 0) 5 (x.2.map A9.c))],[(64,x.1.c),(128,q0.c)]⟩) (λx=>x.2.length+B7 x.1=B7 q/\Sound x.1/\(Co x.1).1=(Co q).1/\x.2++(Co x.1).2=(Co q).2) (λx=>B7 x.1) (q,[]) ⟨by simp,(Kr q).1 hs,rfl,rfl⟩ ?_ ?_
 ·refine AT.Aq ?_ ?_
  ·exact gI
  ·simp only[go_sem,q0]
 rintro⟨s,hs⟩ ⟨i1,i2,i3,i4⟩ J hJ
 replace i1:hs.length+B7 s=B7 q:=i1
 replace i2:Sound s:=i2
 replace i3:(Co s).1=(Co q).1:=i3
 replace i4:hs++(Co s).2=(Co q).2:=i4
 rw[Kx s]at i3 i4;have gr:=ZO i2;have hlen:s.holds.length<=1000000/\s.waits.length<=1000000/\s.As.length<=1000000:=by grind[BS,B7]
 refine gO ?_;refine Ab (kr s hlen.1 hlen.2.1) ?_;have r6:valid s=(match BZ s with|some w=>!F3 s.res s.holds w.proc w.AH|none=>true):=by grind[Kr,valid]
 cases hh:BZ s with
 |none =>
  simp only[hh]at i3 i4 r6;simp only[go_sem,r6];refine AY ⟨[],[],[3072]⟩ _ (by(try simp only[go_sem,Cx,Gv])<;>rfl) ⟨rfl,rfl⟩ (by grind) ?_ trivial;simp only[go_sem,<- i3,<- i4]
 |some w =>
  simp[hh]at i3 i4 r6;have Hb:=Km hh;cases hr:F3 s.res s.holds w.proc w.AH
  ·simp only[hr,Bool.false_eq_true,if_false,Bool.not_false]at i3 i4 r6;simp only[go_sem,r6];refine AY ⟨[],[],[3072]⟩ _ (by(try simp only[go_sem,Cx,Gv])<;>rfl) ⟨rfl,rfl⟩ (by grind) ?_ trivial;simp only[go_sem,<- i3,<- i4]
  simp[hr]at i3 i4 r6;have step:∀ st',AT ⟨C0,[]⟩ st' ⟨[(1,.ptr 64 0),(2,.ptr 128 0),(4,.sl (.own 3072 0) 5 ((hs++[A9.mk w.proc w.AH]).map A9.c))],[(64,(DH s w).c),(128,q0.c)]⟩->J st':=λst' h =>
   hJ st' (DH s w,hs++[A9.mk w.proc w.AH]) ⟨by simp;omega,ME i2 hh hr,i3,by rw[<- i4];simp⟩ (by simp;omega) h
  have hbound:hs.length+1<=4294967296:=by unfold B7 at i1;omega
  refine gS ?_;refine Ab (kK s) ?_;cases hc:s.As with
  | cons a l =>
   have hp:DH s w = { s with holds:=CO s.holds w.proc w.AH,As:=l }:=by grind[DH]
   rw[hp]at step;have z1:(0<(l.length:Int)+1)=True:=eq_true (by omega);have z2:(l.map Bh.c).take (l.length+1-1)=l.map Bh.c:=List.take_of_length_le (by simp);refine gS ?_;refine Ab (Pv s.holds w.proc w.AH hlen.1) ?_;simp(disch:=omega)only[go_sem];refine step _ (AT.Aq ?_ ?_)
   ·refine gO ?_;exact .sl (by simp[A9.c])
   ·exact gI
  | nil =>
   have hp:DH s w = { s with holds:=CO s.holds w.proc w.AH,waits:=s.waits.drop 1 }:=by grind[DH]
   rw[hp]at step;have hw:1<=s.waits.length:=by unfold B7 at Hb;rw[hc]at Hb;simp at Hb;omega
   have z2:((s.waits.map Bh.c).drop 1).take (s.waits.length-1)=(s.waits.drop 1).map Bh.c:=by grind[List.map_drop,List.take_of_length_le]
   refine gS ?_;refine Ab (Pv s.holds w.proc w.AH hlen.1) ?_;simp(disch:=omega)only[go_sem];refine step _ (AT.Aq ?_ ?_)
   ·refine gO ?_;exact .sl (by simp[A9.c])
   ·exact gC
def Rt(q:Queue)(hs:Sound q)(h1:q.holds.length<=1000000)(h2:q.As.length<=1000000)(h3:q.waits.length<=1000000):Ad C0 103 [.agg q.c] [] (.BC [.agg (Ee q).c,Bg (Co q).2,I 0]) []:=by
 refine Ad.go f103 ?_;unfold f103;refine gO ?_;refine Ab (vB q h1 h2 h3) ?_;have e:cD q=Co q:=by grind[cD,Kr]
 have eg:(Co q).1.gen=q.gen:=(U2 q).2;rw[e];refine gO ?_;refine Ab (aJ q.gen) ?_;refine gO ?_;refine Al _ ?_;simp only[go_sem,Ee,eg]
def yP{q:Queue}(h:valid q=true)(p:Ac):OH q p=Br (BU q) p:=by
 have hs:=((BN q).1 h).1;have hz:∀ x∈q.holds,x.AH.zero=false:=λx hx=>by
  have br:=(Kr q).2 hs;simp only[sound,Bool.and_eq_true]at br;have:=(Dk q.res q.holds).1 (by grind);exact Jb (this.2.2.1 x hx).2
 have e1:Br (BU q) p=true↔JY q p:=by grind[Ew,Br]
 have e2:OH q p=true↔JY q p:=by
  unfold OH JY Ar;rw[Bool.or_eq_true,Option.isSome_map,List.find?_isSome];grind[Kl,Am]
 exact Bool.eq_iff_iff.2 (e2.trans e1.symm)
def j7(q:Queue)(p:Ac)(h:BS q<=100):Ad C0 110 [.agg q.c,.agg p.c] [] (.BC [.agg (Ge q p).1.c,Bg (Ge q p).2.1,I (Ge q p).2.2]) []:=by
 obtain⟨h1,h2,h3⟩:=Bt h;refine Ad.go f110 ?_;unfold f110;refine gO ?_;refine Ab (Pu q h1 h3) ?_;cases hv:valid q
 ·have e:Ge q p=(q0,[],2):=by simp[Ge,hv]
  simp only[go_sem,e,q0];refine Al _ ?_;refine .BC (Ae.AJ ?_);refine gO ?_
  repeat'(with_reducible apply And.intro)
  all_goals(first|exact .A8 (by omega)|exact .agg (Ae.AJ gI))
 refine gO ?_;refine Ab (Vc q p (by omega)) ?_;rw[yP hv p];cases hp:Br (BU q) p
 ·have e:Ge q p=(q0,[],10):=by grind[Ge]
  simp only[go_sem,e,q0];refine Al _ ?_;refine .BC (Ae.AJ ?_);refine gO ?_
  repeat'(with_reducible apply And.intro)
  all_goals(first|exact .A8 (by omega)|exact .agg (Ae.AJ gI))
 have e:Ge q p=(Ee (B8 q p),(Co (B8 q p)).2,0):=by grind[Ge]
 rw[e];refine gO ?_;refine Ab (SP q h1 h2 h3) ?_;refine gO ?_;refine Ab (Pv q.holds p ⟨0,0⟩ h1) ?_;refine gO ?_;refine Ab (Va q.As p h2) ?_;refine gO ?_;refine Ab (Va q.waits p h3) ?_;refine gO ?_;have ha:=jW q p;obtain⟨g1,g2,g3⟩:=Bt (q:=B8 q p) (by omega);refine Ai (Rt (B8 q p) (MD ((BN q).1 hv).1 p) g1 g2 g3) (by simp only[go_sem,B8]) rfl ?_;refine gO ?_;exact AQ _
mutual
def EI:Expr->Int->Int × Int
 |.mk _ _ kids,lv=>if 4<lv\/24<kids.length then (25,0) else Gp kids lv 1 0
def Gp:List Expr->Int->Int->Int->Int × Int
 |[],_,n,m=>(n,m+1)
 | e::l,lv,n,m=>if 24<n+(EI e (lv+1)).1 then (25,0) else Gp l lv (n+(EI e (lv+1)).1) (max m (EI e (lv+1)).2)
end
theorem I4(e:Expr)(lv:Int):EI e lv=if 4<lv\/24<e.kids.length then (25,0) else Gp e.kids lv 1 0:=by cases e;simp only[EI];rfl
def sbd(lv:Int)(x:Int × Int):Prop:=1<=x.1/\x.1<=25/\0<=x.2/\x.2<=5-lv
def fB(lv:Int)(h1:1<=lv)(h4:lv<=4):∀ (l:List Expr) (n m:Int),(∀ e∈l,sbd (lv+1) (EI e (lv+1)))->1<=n->n<=24->0<=m->m<=4-lv->sbd lv (Gp l lv n m)
 |[],n,m,_,hn,Y4,hd,cj=>by simp only[Gp,sbd];omega
 | e::l,n,m,hk,hn,Y4,hd,cj=>by
  obtain⟨b1,b2,b3,b4⟩:=hk e (by simp);simp only[Gp];split
  ·simp only[sbd];omega
  ·exact fB lv h1 h4 l _ _ (λe' he=>hk e' (by simp[he])) (by omega) (by omega) (by omega) (by omega)
def MC:∀ (N:Nat) (e:Expr),SizeOf.sizeOf e<N->∀ lv:Int,1<=lv->lv<=5->sbd lv (EI e lv)
 | 0,_,h,_,_,_=>by omega
 | N+1,e,h,lv,h1,h5=>by
  rw[I4];split
  ·simp only[sbd];omega
  ·rename_i hc;exact fB lv h1 (by omega) _ _ _ (λe' he=>MC N e' (by have:=EM he;omega) _ (by omega) (by omega)) (by omega) (by omega) (by omega) (by omega)
def aR:∀ (N:Nat) (e:Expr),SizeOf.sizeOf e<N->∀ lv:Int,1<=lv->lv<=5 ->
 Ad C0 251 [.agg e.c,I lv] [] (.BC [I (EI e lv).1,I (EI e lv).2]) []
 | 0,_,h,_,_,_=>by omega
 | N+1,e,h,lv,h1,h5=>by
  refine Ad.lens f251 λhlen=>?_
  simp only[FZ,lens,Expr.Dg,length_map,and_true,true_and]at hlen;refine Ad.go f251 ?_;unfold f251
  by_cases hc:4<lv\/24<e.kids.length
  ·have em:EI e lv=(25,0):=by rw[I4,if_pos hc]
   simp(disch:=omega)only[go_sem,em]
   repeat'(with_reducible refine And.intro (λh=>?_) (λh=>?_))
   all_goals(try(exfalso;simp_all;omega))
   all_goals(refine CT _ ?_)
   all_goals simp(disch:=omega)only[go_sem]
  have em:EI e lv=Gp e.kids lv 1 0:=by rw[I4,if_neg hc]
  have cg:(4<lv)=False:=by simp;omega
  have ba:(24<(e.kids.length:Int))=False:=by simp;omega
  simp(disch:=omega)only[go_sem,em,cg,ba,decide_false];refine Ao (α:=Nat × Int × Int) (λq=>⟨[(8,I q.1),(1,I lv),(2,.ptr 128 0),(6,I q.2.1),(7,I q.2.2)],[(128,e.c)]⟩)
   (λq=>q.1<=e.kids.length/\1<=q.2.1/\q.2.1<=24/\0<=q.2.2/\q.2.2<=4-lv/\Gp (e.kids.drop q.1) lv q.2.1 q.2.2=Gp e.kids lv 1 0) (λq=>e.kids.length-q.1) (0,1,0) ⟨by simp,by simp,by simp,by simp,by simp;omega,by simp⟩ ?_ ?_
  ·refine AT.Aq ?_ ?_
   ·exact gI
   ·exact gI
  rintro⟨i,n,m⟩ ⟨hi,uD,hm,hd0,hd,hr⟩ J hJ
  replace hi:i<=e.kids.length:=hi
  replace uD:1<=n:=uD
  replace hm:n<=24:=hm
  replace hd0:0<=m:=hd0
  replace hd:m<=4-lv:=hd
  replace hr:Gp (e.kids.drop i) lv n m=Gp e.kids lv 1 0:=hr
  refine gO ?_;refine ⟨λAP=>?_,λJX=>?_⟩
  ·have H0:i<e.kids.length:=by simp at AP;omega
   have hb:e.kids[i]?=some e.kids[i]:=gE H0;have Hb:=EM (List.getElem_mem H0);have bf:e.kids.drop i=e.kids[i]::e.kids.drop (i+1):=List.drop_eq_getElem_cons H0;generalize e.kids[i]=b at hb Hb bf;rw[bf]at hr;simp only[Gp]at hr;simp(disch:=omega)only[go_sem,gm,hb]
   first|(refine Ab (aR N b (by omega) (lv+1) (by omega) (by omega)) ?_)|(refine Ax (aR N b (by omega) (lv+1) (by omega) (by omega)) ?_)
   obtain⟨b1,b2,b3,b4⟩:=MC N b (by omega) (lv+1) (by omega) (by omega);generalize EI b (lv+1)=x at hr b1 b2 b3 b4
   by_cases nK:24<n+x.1
   ·have d24:(24<n+x.1)=True:=eq_true nK;rw[if_pos nK]at hr;simp(disch:=omega)only[go_sem,d24]
    repeat'(with_reducible refine And.intro (λh=>?_) (λh=>?_))
    all_goals(refine CT _ ?_)
    all_goals simp(disch:=omega)only[go_sem,<- hr]
   ·have d24:(24<n+x.1)=False:=eq_false nK;rw[if_neg nK]at hr;simp(disch:=omega)only[go_sem,d24,decide_false]
    by_cases dC:m<x.2
    ·have e1:max m x.2=x.2:=by omega
     have d1:(m<x.2)=True:=eq_true dC;rw[e1]at hr;simp(disch:=omega)only[go_sem,d1];refine hJ _ (i+1,n+x.1,x.2) ⟨by simp;omega,by simp;omega,by simp;omega,by simp;omega,by simp;omega,hr⟩ (by simp;omega) (AT.Aq ?_ ?_)
     ·exact gI
     ·exact gI
    ·have e1:max m x.2=m:=by omega
     have d1:(m<x.2)=False:=eq_false dC;rw[e1]at hr;simp(disch:=omega)only[go_sem,d1,decide_false];refine hJ _ (i+1,n+x.1,m) ⟨by simp;omega,by simp;omega,by simp;omega,by simp;omega,by simp;omega,hr⟩ (by simp;omega) (AT.Aq ?_ ?_)
     ·exact gI
     ·exact gI
  ·have Ba:i=e.kids.length:=by simp at JX;omega
   subst Ba;rw[List.drop_length]at hr;simp only[Gp]at hr;simp(disch:=omega)only[go_sem,<- hr];exact AQ _
def Ip(e:Expr):Int:=if 24<(EI e 1).1 then 0 else (EI e 1).1
def vT(e:Expr):Ad C0 193 [.agg e.c] [] (I (Ip e)) []:=by
 refine Ad.go f193 ?_;unfold f193;refine gO ?_;refine Ab (aR _ e (lt_succ_self _) 1 (by omega) (by omega)) ?_
 by_cases nK:24<(EI e 1).1
 ·have d24:(24<(EI e 1).1)=True:=eq_true nK;have en:Ip e=0:=by simp[Ip,nK]
  simp(disch:=omega)only[go_sem,d24,en];exact AQ _
 ·have d24:(24<(EI e 1).1)=False:=eq_false nK;have en:Ip e=(EI e 1).1:=by simp[Ip,nK]
  simp(disch:=omega)only[go_sem,d24,en,decide_false];exact AQ _
mutual
def Iz:Expr->List Atom->List Atom × Bool
 |.mk k a kids,l=>if kids.length=0 then (if k=0/\MZ a=true then (Fl l a,true) else (l,false))
  else if k<1\/(kids.length:Int)<k\/a≠a0 then (l,false) else J5 kids l
def J5:List Expr->List Atom->List Atom × Bool
 |[],l=>(l,true)
 | e::es,l=>if (Iz e l).2=true then J5 es (Iz e l).1 else (l,false)
end
theorem Kw(e:Expr)(l:List Atom):Iz e l=if e.kids.length=0 then (if e.k=0/\MZ e.atom=true then (Fl l e.atom,true) else (l,false))
 else if e.k<1\/(e.kids.length:Int)<e.k\/e.atom≠a0 then (l,false) else J5 e.kids l:=by
 cases e;simp only[Iz];rfl
mutual
def uX:Expr->Nat
 |.mk _ _ kids=>1+V2 kids
def V2:List Expr->Nat
 |[]=>0
 | e::l=>uX e+V2 l
end
theorem au(e:Expr):uX e=1+V2 e.kids:=by cases e;simp only[uX];rfl
@[reducible] def mH(x:List Atom × Bool):AV:=if x.2 then .BC [DY 1 x.1,B true] else .BC [.undef,B false]
theorem mN(l:List Atom)(a:Atom):(Fl l a).length<=l.length+1:=by grind[Fl]
def cB:∀ (es:List Expr) (l:List Atom),(∀ e∈es,∀ l,(Iz e l).1.length<=l.length+uX e)->(J5 es l).1.length<=l.length+V2 es
 |[],l,_=>by simp[J5]
 | e::es,l,h=>by
  have h1:=h e (by simp) l;have h2:=cB es (Iz e l).1 λe' he=>h e' (by simp[he])
  simp only[J5,V2];split
  ·omega
  ·simp only;omega
def VK:∀ (N:Nat) (e:Expr),SizeOf.sizeOf e<N->∀ l:List Atom,(Iz e l).1.length<=l.length+uX e
 | 0,_,h,_=>by omega
 | N+1,e,h,l=>by
  rw[Kw,au];split
  ·grind[mN]
  ·split
   ·grind
   ·have:=cB e.kids l λe' he l'=>VK N e' (by have:=EM he;omega) l'
    omega
def kE:∀ (N:Nat) (e:Expr),SizeOf.sizeOf e<N->∀ l:List Atom,l.length+uX e<=1000000 ->
 Ad C0 194 [DY 0 l,.agg e.c] [] (mH (Iz e l)) []
 | 0,_,h,_,_=>by omega
 | N+1,e,h,l,hl=>by
  refine Ad.lens f194 λhlen=>?_
  simp[FZ,lens,Expr.Dg,length_map,and_true,true_and]at hlen;have hc0:=au e;refine Ad.go f194 ?_;unfold f194
  by_cases hk:e.kids.length=0
  ·have e1:((e.kids.length:Int)==0)=true:=by grind
   by_cases S1:e.k=0/\MZ e.atom=true
   rotate_left
   ·have ep:Iz e l=(l,false):=by rw[Kw,if_pos hk,if_neg S1]
    have ev:mH (Iz e l)=.BC [.undef,B false]:=by grind
    rw[ev];simp only[go_sem,e1]
    repeat'(first
     |(with_reducible refine And.intro (λh=>?_) (λh=>?_))
     |((with_reducible show Bi _ _ 90 _ _ _);refine Ai (Ox e.atom.name) ?_ rfl ?_;(focus(exact gI;done));try refine gO ?_)
     |((with_reducible show Bn _ _ 90 _ _ _ _ _ _ _);refine AO ⟨⟨[],[],[]⟩,[],[]⟩ (Ox e.atom.name) ?_ rfl rfl trivial (.inl rfl) ?_;(focus(simp(disch:=omega)only[go_sem];done));try simp(disch:=omega)only[go_sem])
     |((with_reducible show Bi _ _ 91 _ _ _);refine Ai (Wp e.atom.AH) ?_ rfl ?_;(focus(exact gI;done));try refine gO ?_)
     |((with_reducible show Bn _ _ 91 _ _ _ _ _ _ _);refine AO ⟨⟨[],[],[]⟩,[],[]⟩ (Wp e.atom.AH) ?_ rfl rfl trivial (.inl rfl) ?_;(focus(simp(disch:=omega)only[go_sem];done));try simp(disch:=omega)only[go_sem]))
    all_goals(first
     |(refine CU ⟨[(0,1)],[],[]⟩ _ ?_;simp(disch:=omega)only[go_sem];exact .BC (Ae.AJ gI))
     |(exfalso;grind[MZ]))
   ·have ep:Iz e l=(Fl l e.atom,true):=by simp_all[Kw]
    have ev:mH (Iz e l)=.BC [DY 1 (Fl l e.atom),B true]:=by grind
    rw[ev];have ha:(B9 e.atom.name&&(Il.fits e.atom.AH||Ir.fits e.atom.AH))=true:=S1.2;have ha1:B9 e.atom.name=true:=by grind
    have ur:(Il.fits e.atom.AH||Ir.fits e.atom.AH)=true:=by grind
    simp only[go_sem,e1];refine And.intro (λ_=>?_) (λh=>?_);rotate_left
    ·exfalso;grind
    refine Ab (Ox e.atom.name) ?_;simp only[go_sem,ha1];refine Ab (Wp e.atom.AH) ?_;simp only[go_sem,ur];refine AF (l) (λi=>⟨[(6,I i),(0,DY 0 l),(3,.ptr 192 0)],[(192,e.c)]⟩) (λi=>e.atom∉l.take i) ((by simp)) ?_ ?_
    ·exact Ce
    rintro i ⟨hi,hP⟩ J hJ;refine gO ?_;refine Bo hi (λAP b hb Cg AX=>?_) λBa=>?_
    refine Ay 6 [([],[0]),([],[6]),([],[38,39]),([],[40]),([],[3]),([],[42])] B6 ?_;simp(disch:=omega)only[go_sem,gm,hb]
    ·refine⟨λh=>?_,λh=>?_⟩
     ·have w8:b=e.atom:=by grind
      have e3:Fl l e.atom=l:=by simp_all[Fl]
      simp only[go_sem,e3];refine CU ⟨[(0,1)],[],[]⟩ _ ?_;exact gI
     ·have w8:b≠e.atom:=by grind
      refine hJ _ (i+1) ⟨by omega,(by grind[take_add_one])⟩ (by omega) AK
    ·subst Ba;rw[take_length]at hP;have e3:Fl l e.atom=l++[e.atom]:=by simp_all[Fl]
     simp only[go_sem,e3];refine CU ⟨[(3200,1)],[],[]⟩ _ (gO ?_);exact .BC (Ae.AJ (by refine gO ?_;exact .sl (by simp[Atom.c])))
  have e1:((e.kids.length:Int)==0)=false:=by grind
  have ez:(e.atom.name==[]&&(e.atom.AH.mode==0&&e.atom.AH.AG==0))=decide (e.atom=a0):=ah e.atom
  by_cases S1:e.k<1\/(e.kids.length:Int)<e.k\/e.atom≠a0
  ·have ep:Iz e l=(l,false):=by rw[Kw,if_neg hk,if_pos S1]
   have ev:mH (Iz e l)=.BC [.undef,B false]:=by grind
   rw[ev];refine gS ?_
   repeat'(with_reducible refine And.intro (λh=>?_) (λh=>?_))
   all_goals(try(exfalso;simp_all;omega))
   all_goals(refine CU ⟨[(0,1)],[],[]⟩ _ ?_)
   all_goals simp(disch:=omega)only[go_sem]
   all_goals exact .BC (Ae.AJ gI)
  have ep:Iz e l=J5 e.kids l:=by simp_all[Kw,if_neg]
  have b1:(e.k<1)=False:=by grind
  have b2:((e.kids.length:Int)<e.k)=False:=by grind
  have b3:e.atom=a0:=by grind
  have ez':(e.atom.name==[]&&(e.atom.AH.mode==0&&e.atom.AH.AG==0))=true:=by grind
  rw[ep];simp only[go_sem,e1,ez',b1,b2];refine Ao (α:=Nat × List Atom) (λq=>⟨[(7,I q.1),(0,DY 5376 q.2),(3,.ptr 192 0)],[(192,e.c)]⟩)
   (λq=>q.1<=e.kids.length/\q.2.length+V2 (e.kids.drop q.1)<=1000000/\J5 (e.kids.drop q.1) q.2=J5 e.kids l) (λq=>e.kids.length-q.1) (0,l) ⟨by simp,by grind,by simp⟩ ?_ ?_
  ·refine AT.CX ⟨[(0,5376)],[(192,192)],[]⟩ ⟨rfl,rfl⟩ (by grind) ?_ ?_
   ·exact gI
   ·exact gI
  rintro⟨i,m⟩ ⟨hi,hm,hr⟩ J hJ
  replace hi:i<=e.kids.length:=hi
  replace hm:m.length+V2 (e.kids.drop i)<=1000000:=hm
  replace hr:J5 (e.kids.drop i) m=J5 e.kids l:=hr
  refine gO ?_;refine ⟨λAP=>?_,λJX=>?_⟩
  ·have H0:i<e.kids.length:=by grind
   have hb:e.kids[i]?=some e.kids[i]:=gE H0;have Hb:=EM (List.getElem_mem H0);have bf:e.kids.drop i=e.kids[i]::e.kids.drop (i+1):=List.drop_eq_getElem_cons H0;generalize e.kids[i]=b at hb Hb bf;rw[bf]at hr hm;simp[J5]at hr;simp[V2]at hm;have hbl:=VK _ b (lt_succ_self _) m;have KN:=kE N b (by omega) m (by omega);simp only[go_sem,hb];generalize Iz b m=x at hr hbl KN;obtain⟨x1,x2⟩:=x;cases x2
   ·simp at hr;have ev:mH (J5 e.kids l)=.BC [.undef,B false]:=by grind
    rw[ev];refine By ⟨⟨[(5376,0)],[],[]⟩,[(1,5377)],[]⟩ (show Ad C0 194 [DY 0 m,.agg b.c] [] (.BC [.undef,B false]) [] from KN) gI rfl gI (.inl rfl) (gO ?_);exact AQ _
   ·simp at hr;refine By ⟨⟨[(5376,0)],[],[]⟩,[(1,5377)],[]⟩ (show Ad C0 194 [DY 0 m,.agg b.c] [] (.BC [DY 1 x1,B true]) [] from KN) gI rfl gI (.inl rfl) (gO ?_);refine hJ _ (i+1,x1) ⟨by omega,by grind,hr⟩ (by omega) (AT.CX ⟨[(5377,5376)],[(192,192)],[]⟩ ⟨rfl,rfl⟩ (by grind) ?_ ?_)
    ·exact gI
    ·exact gI
  ·have Ba:i=e.kids.length:=by grind
   subst Ba;rw[List.drop_length]at hr;simp[J5]at hr;have ev:mH (J5 e.kids l)=.BC [DY 1 m,B true]:=by grind
   rw[ev];refine CU ⟨[(5376,1)],[],[]⟩ _ ?_;exact gI
def fC{lv:Int}(h1:0<=lv)(h4:lv<=4):∀ (l:List Expr) (n m:Int),n<=24->n<=(Gp l lv n m).1
 |[],n,m,_=>by simp[Gp]
 | e::l,n,m,hn=>by
  have b:=MC _ e (lt_succ_self _) (lv+1) (by omega) (by omega);simp only[Gp];split
  ·simp only;omega
  ·have:=fC h1 h4 l (n+(EI e (lv+1)).1) (max m (EI e (lv+1)).2) (by omega);have:=b.1;omega
def msC(e:Expr)(lv:Int):Prop:=∀ n:Int,0<=n->n<=24->((meas e lv n).1≠0->EI e lv=((meas e lv n).2-n,(meas e lv n).1))/\((meas e lv n).1=0->24<n+(EI e lv).1)
def W7{lv:Int}(h1:1<=lv)(h4:lv<=4):∀ (l:List Expr) (n0 n m:Int),(∀ e∈l,msC e (lv+1))->1<=n->0<=n0->n0+n<=24->0<=m ->
 ((Gk l lv (n0+n) m).1≠0->Gp l lv n m=((Gk l lv (n0+n) m).2-n0,(Gk l lv (n0+n) m).1))/\((Gk l lv (n0+n) m).1=0->24<n0+(Gp l lv n m).1)
 |[],n0,n,m,_,_,_,_,hm=>by grind[Gk,Gp]
 | e::l,n0,n,m,hk,a1,a2,a3,hm=>by
  obtain⟨k1,k2⟩:=hk e (by simp) (n0+n) (by omega) a3;have b:=PK _ e (lt_succ_self _) (lv+1) (n0+n) (by omega) (by omega) (by omega) a3;simp only[Gk,Gp]
  by_cases hz:(meas e (lv+1) (n0+n)).1=0
  ·have nK:=k2 hz;rw[if_pos hz];refine⟨λh=>absurd rfl h,λ_=>?_⟩;split
   ·omega
   ·have:=fC (by omega) h4 l (n+(EI e (lv+1)).1) (max m (EI e (lv+1)).2) (by omega);omega
  ·have hs:=k1 hz;have hb:=b.2.2.2.2 hz;have hb0:=b.1;have JX:=Vz _ e (lt_succ_self _) (lv+1) (n0+n);rw[if_neg hz,hs];simp only;have e1:n+((meas e (lv+1) (n0+n)).2-(n0+n))=(meas e (lv+1) (n0+n)).2-n0:=by omega
   rw[e1,if_neg (by omega)];have ih:=W7 h1 h4 l n0 ((meas e (lv+1) (n0+n)).2-n0) (max m (meas e (lv+1) (n0+n)).1) (λe' he=>hk e' (by grind)) (by omega) a2 (by omega) (by omega);have e2:n0+((meas e (lv+1) (n0+n)).2-n0)=(meas e (lv+1) (n0+n)).2:=by omega
   rw[e2]at ih;exact ih
def Zp:∀ (N:Nat) (e:Expr),SizeOf.sizeOf e<N->∀ lv:Int,1<=lv->lv<=5->msC e lv
 | 0,_,h,_,_,_=>by omega
 | N+1,e,h,lv,h1,h5=>by
  intro n hn0 hn;have sb:=MC _ e (lt_succ_self _) lv h1 h5;rw[Ml]
  by_cases hc:4<lv\/24<n+1
  ·rw[if_pos hc];refine⟨λh=>absurd rfl h,λ_=>?_⟩
   by_cases h4:4<lv
   ·rw[I4,if_pos (.inl h4)];omega
   ·have:=sb.1;omega
  ·rw[if_neg hc];have hL:=W7 h1 (by omega) e.kids n 1 0 (λe' he=>Zp N e' (by have:=EM he;omega) _ (by omega) (by omega)) (by omega) hn0 (by omega) (by omega)
   by_cases nK:24<e.kids.length
   ·rw[I4,if_pos (.inr nK)];refine⟨λh=>?_,λ_=>by omega⟩;have:=W6 e.kids (n+1) 0 h (by omega) (by omega) λe' _ n' k1 k2 k3=>⟨Vz _ e' (lt_succ_self _) _ _,(PK _ e' (lt_succ_self _) (lv+1) n' (by omega) (by omega) k1 k2).2.2.2.2 k3⟩
    omega
   ·rw[I4,if_neg (by omega)];exact hL
def OX(e:Expr):Ip e=0↔depth e=0:=by
 have h:=Zp _ e (lt_succ_self _) 1 (by omega) (by omega) 0 (by omega) (by omega);have b:=PK _ e (lt_succ_self _) 1 0 (by omega) (by omega) (by omega) (by omega);have sb:=(MC _ e (lt_succ_self _) 1 (by omega) (by omega)).1;unfold Ip depth
 by_cases hz:(meas e 1 0).1=0
 ·have:=h.2 hz;rw[if_pos (by omega)];simp[hz]
 ·have h1:=h.1 hz;have h2:=b.2.2.2.2 hz;have h3:(EI e 1).1=(meas e 1 0).2:=by grind
  rw[if_neg (by omega)];constructor
  ·omega
  omega
def ZL{lv:Int}:∀ (l:List Expr) (n m:Int),(∀ e∈l,(EI e (lv+1)).1<=24->(uX e:Int)=(EI e (lv+1)).1)->1<=lv->lv<=4->0<=n->n<=24->(Gp l lv n m).1<=24->n+(V2 l:Int)=(Gp l lv n m).1
 |[],n,m,_,_,_,_,_,_=>by simp[Gp,V2]
 | e::l,n,m,hk,h1,h4,hn,Y4,h=>by
  have b:=MC _ e (lt_succ_self _) (lv+1) (by omega) (by omega);simp only[Gp,V2]at h ⊢;split at h
  ·simp at h
  ·rename_i AP;rw[if_neg AP];have b1:=b.1;have:=hk e (by simp) (by omega);have ih:=ZL l _ _ (λe' he=>hk e' (by grind)) h1 h4 (by omega) (by omega) h;rw[<- ih];omega
def ZK:∀ (N:Nat) (e:Expr),SizeOf.sizeOf e<N->∀ lv:Int,1<=lv->lv<=5->(EI e lv).1<=24->(uX e:Int)=(EI e lv).1
 | 0,_,h,_,_,_,_=>by omega
 | N+1,e,h,lv,h1,h5,hs=>by
  rw[I4]at hs ⊢;split at hs
  ·omega
  ·rename_i hc;rw[if_neg hc,au];have:=ZL e.kids 1 0 (λe' he br=>ZK N e' (by have:=EM he;omega) _ (by omega) (by omega) br) h1 (by omega) (by omega) (by omega) hs;rw[<- this];omega
def oJ{e:Expr}(h:Ip e≠0):uX e<=24:=by
 unfold Ip at h
 by_cases nK:24<(EI e 1).1
 ·omega
 ·have:=ZK _ e (lt_succ_self _) 1 (by omega) (by omega) (by omega);omega
def Ma(l:List Atom):Prop:=l.length<=8/\l.Pairwise λa b=>a.name≠b.name
def dx{l m:List Atom}(h:l <+: m)(hg:Ma m):Ma l:=⟨Nat.le_trans h.length_le hg.1,hg.2.sublist h.sublist⟩
def Re(l:List Atom)(a:Atom):l <+: Fl l a:=by grind[Fl]
def Of:∀ (es:List Expr) (l:List Atom),(∀ e∈es,∀ l,(Iz e l).2=true->l <+: (Iz e l).1)->(J5 es l).2=true->l <+: (J5 es l).1
 |[],l,_,_=>by simp[J5]
 | e::es,l,hk,h=>by
  simp[J5]at h ⊢;split at h
  ·rename_i ht;rw[if_pos ht];exact List.IsPrefix.trans (hk e (by simp) l ht) (Of es _ (λe' he=>hk e' (by simp[he])) h)
  grind
def TG:∀ (N:Nat) (e:Expr),SizeOf.sizeOf e<N->∀ l,(Iz e l).2=true->l <+: (Iz e l).1
 | 0,_,h,_,_=>by omega
 | N+1,e,h,l,ht=>by
  rw[Kw]at ht ⊢;split at ht
  ·rename_i h0;rw[if_pos h0];split at ht<;>simp_all[Re]
  ·rename_i h0;rw[if_neg h0];split at ht
   ·grind
   ·rename_i h1;rw[if_neg h1];exact Of _ _ (λe' he l'=>TG N e' (by have:=EM he;omega) l') ht
def paC(e:Expr):Prop:=∀ l,Ma l->((prop e l).1=true->Iz e l=((prop e l).2,true)/\Ma (prop e l).2)/\((prop e l).1=false->(Iz e l).2=true->¬ Ma (Iz e l).1)
def ZB:∀ (es:List Expr),(∀ e∈es,paC e)->∀ l,Ma l->((C4 es l).1=true->J5 es l=((C4 es l).2,true)/\Ma (C4 es l).2)/\((C4 es l).1=false->(J5 es l).2=true->¬ Ma (J5 es l).1)
 |[],_,l,hg=>by simp[C4,J5,hg]
 | e::es,hk,l,hg=>by
  obtain⟨k1,k2⟩:=hk e (by simp) l hg;simp[C4,J5];cases hp:(prop e l).1
  ·simp;cases ha:(Iz e l).2
   ·simp
   ·intro ht yU;simp at ht yU;have h1:=k2 hp ha;exact h1 (dx (Of es _ (λe' he l'=>TG _ e' (lt_succ_self _) l') ht) yU)
  simp_all[ZB]
def xY{l:List Atom}(h:l.Pairwise λa b=>a.name≠b.name){a b:Atom}(ha:a∈l)(hb:b∈l)(hn:a.name=b.name):a=b:=by induction l<;>grind[List.pairwise_cons]
def Xp:∀ (N:Nat) (e:Expr),SizeOf.sizeOf e<N->paC e
 | 0,_,h=>by omega
 | N+1,e,h=>by
  intro l hg;rw[EW,Kw]
  by_cases h0:e.kids.length=0
  ·rw[if_pos h0,if_pos h0]
   by_cases h1:e.k=0/\MZ e.atom=true
   ·rw[if_pos h1,if_pos h1];simp only;unfold Gl;cases hf:l.find? (pF e.atom) with
    |some b =>
     have hb:=List.mem_of_find?_eq_some hf;have hh:=List.find?_some hf
     by_cases LP:e.atom=b
     ·have:Fl l e.atom=l:=by simp_all[Fl]
      rw[this];simp[LP,hg]
     ·simp[LP];have Gj:e.atom.name=b.name:=by grind[pF]
      intro yU;have N8:b∈Fl l e.atom:=(Re l e.atom).subset hb;have NZ:e.atom∈Fl l e.atom:=by grind[Fl]
      exact LP (xY yU.2 NZ N8 Gj)
    |none =>
     have Y5:∀ x∈l,e.atom≠x/\e.atom.name≠x.name:=by grind[pF]
     have hm:e.atom∉l:=λhx=>(Y5 _ hx).1 rfl
     have hE:Fl l e.atom=l++[e.atom]:=by simp_all[Fl]
     rw[hE]
     by_cases h8:l.length=8
     ·simp[h8];intro yU;have:=yU.1;simp at this;omega
     ·simp[h8];refine⟨by have:=hg.1;simp;omega,?_⟩;rw[pairwise_append];refine⟨hg.2,by simp,λa ha b hb=>?_⟩;grind
   grind
  ·rw[if_neg h0,if_neg h0]
   by_cases h1:e.k<1\/(e.kids.length:Int)<e.k\/e.atom≠a0
   ·grind
   ·rw[if_neg h1,if_neg h1];exact ZB e.kids (λe' he=>Xp N e' (by have:=EM he;omega)) l hg
def Ace{e:Expr}(h:BM e=true):Ip e≠0/\Iz e []=(Ah e,true)/\Ma (Ah e):=by
 have hp:=GC h;have hk:=(Xp _ e (lt_succ_self _) [] ⟨by simp,by simp⟩).1 hp;have hc:=KY _ e (lt_succ_self _) [] hp;have ha:Ah e=(prop e []).2:=by simp_all[Ah]
 rw[ha];refine⟨?_,hk⟩;simp_all[OX,BM]
def x5{e:Expr}(h:BM e=false)(hn:Ip e≠0)(ha:(Iz e []).2=true):¬ Ma (Iz e []).1:=by
 have hk:=(Xp _ e (lt_succ_self _) [] ⟨by simp,by simp⟩).2;rw[Ne,OX]at hn;refine hk ?_ ha;grind[BM]
def Rx(e:Expr):Ad C0 134 [.agg e.c] [] (.BC [BG (Ah e),B (BM e)]) []:=by
 refine Ad.go f134 ?_;unfold f134;refine gO ?_;refine Ab (vT e) ?_;have bad:BM e=false->Ah e=[]:=λh=>by simp[Ah,h]
 by_cases hn:Ip e=0
 ·have e0:(Ip e==0)=true:=by simp[hn]
  have hx:BM e=false:=by simp[BM,(OX e).1 hn]
  simp(disch:=omega)only[go_sem,e0,hx,bad hx];exact Gw _
 have e0:(Ip e==0)=false:=by simp[hn]
 have hc:=oJ hn;have hl:=VK _ e (lt_succ_self _) [];have KN:=kE _ e (lt_succ_self _) [] (by simp;omega);have CC:=@Ace e;have S1:=@x5 e;simp(disch:=omega)only[go_sem,e0];generalize Iz e []=x at hl KN CC S1;obtain⟨m,ok⟩:=x;cases ok
 ·have hx:BM e=false:=by
   cases h:BM e
   ·rfl
   ·have:=(CC h).2.1;simp at this
  refine By ⟨⟨[],[],[]⟩,[(1,832)],[]⟩ (show Ad C0 194 [DY 0 [],.agg e.c] [] (.BC [.undef,B false]) [] from KN) (by simp(disch:=omega)only[go_sem,map_nil];exact .Cr (by omega)) rfl gI (.inl rfl) ?_;simp(disch:=omega)only[go_sem,hx,bad hx];exact Gw _
 simp only[List.length_nil]at hl;refine By ⟨⟨[],[],[]⟩,[(1,832)],[]⟩ (show Ad C0 194 [DY 0 [],.agg e.c] [] (.BC [DY 1 m,B true]) [] from KN) (by simp(disch:=omega)only[go_sem,map_nil];exact .Cr (by omega)) rfl gI (.inl rfl) ?_;have Ss:BM e=false->¬ Ma m:=λh=>S1 h hn rfl
 have hng:¬ Ma m->BM e=false:=λh=>by
  cases hx:BM e
  ·rfl
  ·have h2:=CC hx;have:m=Ah e:=by have:=h2.2.1;simp at this;exact this
   exact absurd (this▸h2.2.2) h
 by_cases h8:8<m.length
 ·have d8:(8<(m.length:Int))=True:=by simp;omega
  have hx:BM e=false:=hng λh=>by have:=h.1;omega
  simp(disch:=omega)only[go_sem,d8,hx,bad hx];exact Gw _
 have d8:(8<(m.length:Int))=False:=by simp;omega
 simp(disch:=omega)only[go_sem,d8,decide_false];refine Ao (α:=Nat) (λi=>⟨[(6,I i),(4,DY 832 m)],[]⟩) (λi=>i<=m.length/\(m.take i).Pairwise λa b=>a.name≠b.name) (λi=>m.length-i) 0 ⟨by omega,by simp⟩ ?_ ?_
 ·refine AT.Aq ?_ ?_
  ·exact gI
  ·exact gI
 rintro i ⟨hi,hP⟩ J hJ;refine gO ?_;refine ⟨λAP=>?_,λJX=>?_⟩;rotate_left
 ·have Ba:i=m.length:=by simp at JX;omega
  subst Ba;rw[take_length]at hP;have hg:Ma m:=⟨by omega,hP⟩;have hx:BM e=true:=by
   cases h:BM e
   ·exact absurd hg (Ss h)
   ·rfl
  have hm:m=Ah e:=by have:=(CC hx).2.1;simp at this;exact this
  simp(disch:=omega)only[go_sem,hx,<- hm];refine CU ⟨[],[],[832]⟩ _ ?_;simp(disch:=omega)only[go_sem,hm]
 obtain⟨b,hb⟩:∃ b,m[i]?=some b:=⟨_,gE (by simp at AP;omega)⟩;have AX:i<m.length:=by simp at AP;omega
 refine Ao (α:=Nat) (λj=>⟨[(7,I j),(6,I i),(4,DY 832 m)],[]⟩) (λj=>j<=i/\∀ x∈m.take j,x.name≠b.name) (λj=>i-j) 0 ⟨by omega,by simp⟩ ?_ ?_
 ·refine AT.Aq ?_ ?_
  ·exact gI
  ·exact gI
 rintro j ⟨hj,hQ⟩ K hK;refine gO ?_;refine And.intro (λH0=>?_) (λAhC=>?_);rotate_left
 ·have gh:j=i:=by simp at AhC;omega
  subst gh;refine hJ _ (j+1) ⟨by omega,?_⟩ (by omega) (AT.Aq ?_ ?_)
  ·rw[take_add_one,hb,pairwise_append];exact⟨hP,by simp,λa ha c hc=>by simp at hc;rw[hc];exact hQ a ha⟩
  ·exact gI
  ·exact gI
 ·have hjl:j<i:=by simp at H0;omega
  obtain⟨c,X6⟩:∃ c,m[j]?=some c:=⟨_,gE (by omega)⟩;refine Ay 10 [([],[4]),([],[6]),([],[34,35]),([],[36]),([],[37]),([],[4]),([],[7]),([],[39,40]),([],[41]),([],[42])] B6 ?_;simp(disch:=omega)only[go_sem,gm,hb,X6]
  by_cases CZ:b.name=c.name
  ·have e9:(b.name==c.name)=true:=by simp[CZ]
   have hx:BM e=false:=hng λh=>by
    have:=List.pairwise_iff_getElem.1 h.2 j i (by omega) AX hjl;rw[gE (by omega)]at hb X6;simp at hb X6;rw[hb,X6]at this;exact this CZ.symm
   simp(disch:=omega)only[go_sem,e9,hx,bad hx];exact Gw _
  ·have e9:(b.name==c.name)=false:=by simp[CZ]
   simp(disch:=omega)only[go_sem,e9];refine hK _ (j+1) ⟨by omega,?_⟩ (by omega) AK;intro x hx;rw[take_add_one,X6]at hx;simp only[Option.toList,mem_append,mem_singleton]at hx;rcases hx with hx|hx
   ·exact hQ x hx
   ·rw[hx];exact λh=>CZ h.symm
def im(e:Expr):Ad C0 83 [.agg e.c] [] (B (BM e)) []:=by
 refine Ad.go f83 ?_;unfold f83;refine gO ?_;refine Ab (Rx e) ?_;refine gO ?_;exact AQ _
def M7(e:Expr):Ad C0 168 [.agg e.c] [] (BG (Ah e)) []:=by
 refine Ad.go f168 ?_;unfold f168;refine gO ?_;refine Ab (Rx e) ?_;refine gO ?_;exact AQ _
def wR(l:List Ac)(hl:l.length<=1000000):Ad C0 99 [AL l] [] (O2 0 (NU l)) []:=by
 refine Ad.go f99 ?_;unfold f99;refine gO ?_;refine Ao (α:=Nat × List Ac) (λx=>⟨[(4,I x.1),(3,.sl (.own 1728 0) 3 (x.2.map Ac.c)),(0,AL l)],[]⟩) (λx=>x.1<=l.length/\x.2.length<=x.1/\K9 x.2/\∀ p,p∈x.2↔p∈l.take x.1) (λx=>l.length-x.1) (0,[]) ⟨by simp,by simp,by simp[K9],by simp⟩ ?_ ?_
 ·refine AT.Aq ?_ ?_
  ·simp(disch:=omega)only[go_sem,map_nil]
  ·exact gI
 rintro⟨i,out⟩ ⟨hi,oa,S0,Ha⟩ J hJ
 replace hi:i<=l.length:=hi
 replace oa:out.length<=i:=oa
 replace S0:K9 out:=S0
 replace Ha:∀ p,p∈out↔p∈l.take i:=Ha
 refine gO ?_;refine ⟨λAP=>?_,λJX=>?_⟩
 ·have H0:i<l.length:=by simp at AP;omega
  obtain⟨p,hp⟩:∃ p,l[i]?=some p:=⟨_,gE H0⟩;have ht:=JG hp;simp(disch:=omega)only[go_sem,gm,hp];refine B4 [1728] (KG out p (by omega)) gI rfl trivial ?_;cases hh:Br out p;rotate_left
  ·have Hf:p∈out:=by simpa [Br]using hh
   refine gO ?_;refine hJ _ (i+1,out) ⟨by simp;omega,by simp;omega,S0,λx=>?_⟩ (by simp;omega) AK;rw[ht,mem_append,<- Ha x];simp only[mem_singleton];exact⟨.inl,λh=>h.elim id λe=>by rw[e];exact Hf⟩
  have xg:p∉out:=by simpa [Br]using hh
  have ID:out.length+1<=4294967296:=by omega
  simp(disch:=omega)only[go_sem,gm,hp];refine Ao (α:=Nat) (λk=>⟨[(5,I k),(4,I i),(3,.sl (.own 1728 0) 3 ((Im out k p).map Ac.c)),(0,AL l)],[]⟩) (λk=>k<=out.length/\∀ x∈out.drop k,BF p x<0) (λk=>k) out.length ⟨by omega,by simp⟩ ?_ ?_
  ·refine AT.Aq ?_ ?_
   ·simp(disch:=omega)only[go_sem];exact .sl (by simp[Im,Ac.c])
   ·exact gI
  rintro k ⟨hk,bg⟩ J2 Vo;have stop:(∀ x∈out.take k,BF x p<0)->∀ st',AT ⟨C0,[]⟩ st' ⟨[(4,I (i+1:Nat)),(3,.sl (.own 1728 0) 3 ((Im out k p).map Ac.c)),(0,AL l)],[]⟩->J st':=λAX st' dB=>by
   refine hJ st' (i+1,Im out k p) ⟨by simp;omega,by simp[R3 out k p hk];omega,?_,λx=>?_⟩ (by simp;omega) dB
   ·have h0:=S0;unfold K9 at h0 ⊢;rw[<- List.take_append_drop k out]at h0;rw[pairwise_append]at h0;show (Im out k p).Pairwise _;unfold Im;rw[pairwise_append];refine⟨h0.1,List.pairwise_cons.2 ⟨bg,h0.2.1⟩,λa ha b hb=>?_⟩;rcases mem_cons.1 hb with e|e
    ·rw[e];exact AX a ha
    ·exact h0.2.2 a ha b e
   ·show x∈Im out k p↔x∈l.take (i+1);rw[eD,ht,mem_append,<- Ha x];simp
  refine Ay 12 [([],[5]),([],[28]),([],[29]),([],[3,30]),([],[5,30]),([],[32,30]),([],[31,33,30]),([],[34,30]),([],[3,30]),([],[5,30]),([],[36,37,30]),([],[38,30])] B6 ?_;cases k with
  | zero =>
   have e0:(0<((0:Nat):Int))=False:=by simp
   simp(disch:=omega)only[go_sem,e0,decide_false];exact stop (by simp) _ AK
  | succ k =>
   have e0:(0<(((k+1:Nat)):Int))=True:=eq_true (by omega);have e1:(0<(k:Int)+1)=True:=eq_true (by omega);have e2:((k:Int)+1-1)=(k:Int):=by omega
   obtain⟨x,hx⟩:∃ x,out[k]?=some x:=⟨_,gE (by omega)⟩;have g1:=eC out (k+1) p hk;have g2:=Zs out k p hk;rw[hx]at g2;have Y2:=R3 out (k+1) p hk;have z1:k<(Im out (k+1) p).length:=by omega
   have z2:k+1<(Im out (k+1) p).length:=by omega
   simp(disch:=omega)only[go_sem,e0,e1,e2,gm,g1,g2,length_map,Y2];refine Ab (LD x p) ?_;refine gO ?_
   by_cases hc:0<BF x p
   ·have e3:(0<BF x p)=True:=eq_true hc;have e4:(k=k+1)=False:=eq_false (by omega);simp(disch:=omega)only[go_sem,e2,e3,gm,g1,g2,length_map,Y2,List.length_set,List.getElem?_set,e4];refine Vo _ k ⟨by omega,λy hy=>?_⟩ (by omega) (AT.Aq ?_ gI)
    ·rw[List.drop_eq_getElem_cons (by omega),get_eq hx]at hy;rcases mem_cons.1 hy with e|e
     ·subst e;have:=DP y p;omega
     ·exact bg y e
    ·simp(disch:=omega)only[go_sem];refine .sl ?_;rw[<- Zt hx,map_set,map_set];rfl
   ·have e3:(0<BF x p)=False:=eq_false hc;simp(disch:=omega)only[go_sem,e3,decide_false];refine stop (λy hy=>?_) _ AK;have Ya:x∈out:=mG hx;have oh:BF x p<0:=by
     have:BF x p≠0:=λe=>xg (by rw[<- FL e];exact Ya)
     omega
    rw[JG hx]at hy;rcases mem_append.1 hy with e|e
    ·have h0:=S0;unfold K9 at h0;rw[<- List.take_append_drop k out,pairwise_append]at h0;have hd:out.drop k=x::out.drop (k+1):=by rw[List.drop_eq_getElem_cons (by omega),get_eq hx]
     exact DQ (h0.2.2 y e x (by rw[hd];simp)) oh
    ·rw[mem_singleton.1 e];exact oh
 ·have Ba:i=l.length:=by simp at JX;omega
  subst Ba;rw[take_length]at Ha;have e:out=NU l:=Rb S0 (Fk l) λx=>by rw[Ha,Mn]
  refine CU ⟨[(1728,0)],[],[]⟩ _ ?_;simp(disch:=omega)only[go_sem,e]
def aW(l:List Queue)(h1:l.length<=100)(h2:∀ q∈l,BS q<=100):Ad C0 98 [AN l] [] (O2 0 (AM l)) []:=by
 refine Ad.go f98 ?_;unfold f98;refine gO ?_;refine AF (l) (λi=>⟨[(4,I i),(0,AN l),(3,.sl (.own 1088 0) 3 (((l.take i).flatMap BU).map Ac.c))],[]⟩) (λi=>True) trivial ?_ ?_
 ·exact Ce
 rintro i ⟨hi,hP⟩ J hJ;refine gO ?_;refine Bo hi (λAP b hb Cg AX=>?_) λBa=>?_
 simp(disch:=omega)only[go_sem,gm,hb]
 ·have Me:=OE (l:=l.take i) λq hq=>h2 q (List.mem_of_mem_take hq)
  have hq:=KW b;have Ss:=h2 b Cg;have ID:((l.take i).flatMap BU).length+(BU b).length<=4294967296:=by simp only[List.length_take]at Me;omega
  refine Ab (vA b (by omega)) ?_;refine gO ?_;refine hJ _ (i+1) ⟨by omega,trivial⟩ (by omega) (AT.Aq ?_ ?_)
  all_goals(try simp(disch:=omega)only[go_sem])
  all_goals(try(repeat'(with_reducible apply And.intro)))
  all_goals(first|exact .Cr (by omega)|exact .A8 (by omega)|exact .sl (by simp[take_add_one,hb])|exact .int (by simp[take_add_one,hb])|exact .eq (by simp[take_add_one,hb]))
 ·subst Ba;have Me:=OE h2;refine Rg [1088] ⟨⟨[],[],[]⟩,[(0,1216)],[]⟩ (wR (l.flatMap BU) (by omega)) (by simp(disch:=omega)only[go_sem,take_length]) rfl trivial (.inl rfl) ?_;refine gO ?_;refine CU ⟨[(1216,0)],[],[]⟩ _ ?_;simp(disch:=omega)only[go_sem,AM]
def Ow(s:WS)(h:Iy s):Ad C0 54 [.agg s.c] [] (AL (Ag s)) []:=by
 have hq:=O3 h.aq;have h1:=h.nq;have h2:=h.nn;have ID:(AM s.Aa).length<=4294967296:=by omega
 refine Ad.go f54 ?_;unfold f54;refine gO ?_;refine By ⟨⟨[],[],[]⟩,[(0,448)],[]⟩ (aW s.Aa h.nq h.aq) gI rfl trivial (.inl rfl) ?_;refine gO ?_;refine AF (s.Aw) (λi=>⟨[(4,I i),(1,.ptr 64 0),(3,.sl (.own 1472 0) 3 ((AM s.Aa++Dp (s.Aw.take i)).map Ac.c))],[(64,s.c)]⟩) (λi=>True) trivial ?_ ?_
 ·refine AT.CX ⟨[(448,1472)],[(64,64)],[]⟩ ⟨rfl,rfl⟩ (by simp[lk]) ?_ ?_
  all_goals(try simp(disch:=omega)only[go_sem])
  all_goals(try(repeat'(with_reducible apply And.intro)))
  all_goals(first|exact .Cr (by omega)|exact .A8 (by omega)|exact .sl (by simp[Dp])|exact .int (by simp[Dp])|exact .eq (by simp[Dp]))
 rintro i ⟨hi,hP⟩ J hJ;refine gO ?_;refine Bo hi (λAP b hb Cg AX=>?_) λBa=>?_
 simp(disch:=omega)only[go_sem,gm,hb]
 ·have w7:(AM s.Aa).length+(Dp (s.Aw.take i)).length+1<=4294967296:=by simp[Dp];omega
  simp(disch:=omega)only[go_sem,Dp];refine hJ _ (i+1) ⟨by omega,trivial⟩ (by omega) (AT.Aq ?_ ?_)
  all_goals(try simp(disch:=omega)only[go_sem])
  all_goals(try(repeat'(with_reducible apply And.intro)))
  all_goals(first|exact .Cr (by omega)|exact .A8 (by omega)|exact .sl (by simp[Dp,take_add_one,hb,Ac.c])|exact .int (by simp[Dp,take_add_one,hb,Ac.c])|exact .eq (by simp[Dp,take_add_one,hb,Ac.c]))
 ·subst Ba;refine FU [1472] (rh (AM s.Aa++Dp s.Aw) (by simp[Dp];omega)) (by simp(disch:=omega)only[go_sem,take_length]) rfl ?_;refine gO ?_;refine CT _ ?_;simp(disch:=omega)only[go_sem,Ag]
def ky(l:List Queue)(name:Bs)(hl:l.length<=1000000):Ad C0 160 [AN l,.v (.string (str name))] [] (I (match l.findIdx? (λq=>q.res.name==name) with|some i=>i|none=>-1)) []:=by
 refine Ad.go f160 ?_;unfold f160;refine gO ?_;refine AF (l) (λi=>⟨[(5,I i),(0,AN l),(1,.v (.string (str name)))],[]⟩) (λi=>(l.take i).find? (λq=>q.res.name==name)=none) rfl ?_ ?_
 ·exact Ce
 rintro i ⟨hi,hP⟩ J hJ;refine gO ?_;refine Bo hi (λAP b hb Cg AX=>?_) λBa=>?_
 simp(disch:=omega)only[go_sem,gm,hb]
 ·refine⟨λh=>?_,λh=>?_⟩
  ·have e:=Hj hP b hb (by simpa using h);simp(disch:=omega)only[go_sem,e];exact AQ _
  ·refine hJ _ (i+1) ⟨by omega,(by rw[Cp hP hb];simp at h;simp[h])⟩ (by omega) AK
 ·subst Ba;rw[take_length]at hP;have e:l.findIdx? (λq=>q.res.name==name)=none:=by
   rw[List.findIdx?_eq_none_iff];rw[List.find?_eq_none]at hP;intro x hx;simpa using hP x hx
  simp(disch:=omega)only[go_sem,e];exact AQ _
def JW(l:List Queue)(p:Ac)(name:Bs):Bool:=match l.find? (λq=>q.res.name==name) with
 |some q=>(Ar q p).isSome
 |none=>false
def ku(s:WS)(p:Ac)(h:Iy s):Ad C0 156 [.agg s.c,.agg p.c] [] (.BC [.agg ((s.Aw.find? λn=>decide (n.proc=p)).getD n0).c,B (s.Aw.find? λn=>decide (n.proc=p)).isSome]) []:=by
 have hn:=h.nn;refine Ad.go f156 ?_;unfold f156;refine gO ?_;refine AF (s.Aw) (λi=>⟨[(6,I i),(2,.ptr 128 0),(3,.ptr 192 0),(4,.ptr 256 0)],[(128,s.c),(192,p.c),(256,n0.c)]⟩) (λi=>(s.Aw.take i).find? (λn=>decide (n.proc=p))=none) rfl ?_ ?_
 ·refine AT.Aq ?_ ?_
  all_goals(try simp(disch:=omega)only[go_sem,n0,Expr.Dg,Expr.k,Expr.atom,Expr.kids,a0,p0])
  all_goals(try(repeat'(with_reducible apply And.intro)))
  all_goals(first|exact .Cr (by omega)|exact .A8 (by omega)|exact .sl (by simp[n0])|exact .int (by simp[n0])|exact .eq (by simp[n0]))
 rintro i ⟨hi,hP⟩ J hJ;refine gO ?_;refine Bo hi (λAP b hb Cg AX=>?_) λBa=>?_
 refine Ay 7 [([],[2]),([],[14]),([],[6]),([],[15,16]),([],[17]),([],[18]),([],[3])] B6 ?_;simp(disch:=omega)only[go_sem,gm,hb]
 ·refine⟨λh=>?_,λh=>?_⟩
  ·have e:(s.Aw.find? λn=>decide (n.proc=p))=some b:=Hq hP hb (by simpa using h);simp(disch:=omega)only[go_sem,e,gm,hb,Option.isSome_some,Option.getD_some];exact AQ _
  ·refine hJ _ (i+1) ⟨by omega,(by rw[Cp hP hb];simp at h;simp[h])⟩ (by omega) AK
 ·subst Ba;rw[take_length]at hP;simp(disch:=omega)only[go_sem,hP,Option.isSome_none,Option.getD_none,n0,Expr.k,Expr.atom,Expr.kids,a0,p0];refine Al _ ?_;refine .BC (Ae.AJ ?_);simp(disch:=omega)only[go_sem]
  repeat'(with_reducible apply And.intro)
  all_goals(first|exact .A8 (by omega)|exact .agg (Ae.AJ gI))
def re(l:List Queue)(ha:∀ q∈l,BS q<=100):Ad C0 81 [AN l] [] (B (C5 l)) []:=by
 refine Ad.go f81 ?_;unfold f81
 by_cases hq:8<l.length
 ·have e1:(8<(l.length:Int))=True:=eq_true (by omega);have e:C5 l=false:=by grind[C5]
  simp only[go_sem,e1];refine Al _ ?_;exact wb (by simp[e])
 have e1:(8<(l.length:Int))=False:=eq_false (by omega);refine gS ?_;refine AF (l) (λi=>⟨[(3,I i),(0,AN l)],[]⟩) (λi=>Cu (CQ l) (l.take i)=true) rfl ?_ ?_
 ·exact Ce
 rintro i ⟨hi,hP⟩ J hJ;refine gO ?_;refine Bo hi (λAP b hb Cg AX=>?_) λBa=>?_
 refine Ay 23 [([],[0]),([],[3]),([],[13,14]),([],[15]),([],[16]),([4],[17]),([4],[18]),([4],[3,19]),([4],[20,19]),([4],[21,19]),([4],[0,22]),([4],[3,22]),([4],[24,22]),([4],[23,25,22]),([4],[26,22]),([4],[27,22]),([4],[28,22]),([4],[0,22]),([4],[3,22]),([4],[30,31,22]),([4],[32,22]),([4],[33,22]),([4],[34,22])] B6 ?_;simp(disch:=omega)only[go_sem,gm,hb]
 ·have LP:=Bt (ha b Cg);have bad:CQ l i b=false->C5 l=false:=λh=>by simp[C5,B5 hb h,Bool.and_false]
  have FM:CQ l i b=true->Cu (CQ l) (l.take (i+1))=true:=λh=>by grind[CB]
  first|(refine Ab (Pu b LP.1 LP.2.2) ?_)|(refine Ax (Pu b LP.1 LP.2.2) ?_)
  cases hv:valid b
  ·refine gO ?_;refine Al _ ?_;exact wb (by grind[CQ])
  by_cases QI:i=0
  ·subst QI;refine gO ?_;refine hJ _ 1 ⟨by omega,FM (by simp[CQ,hv])⟩ (by omega) AK
  ·have QJ:(0<(i:Int))=True:=eq_true (by omega);have NP:((i:Int)-1)=((i-1:Nat):Int):=by omega
   obtain⟨a,NZ⟩:∃ a,l[i-1]?=some a:=⟨_,gE (by omega)⟩;have UK:l.getD (i-1) q0=a:=by grind
   simp(disch:=omega)only[go_sem,QJ,NP,NZ,hb];refine And.intro (λhh=>?_) (λhh=>?_)
   ·refine Al _ ?_;exact wb (by grind[CQ,BD])
   ·refine hJ _ (i+1) ⟨by omega,FM (by grind[CQ,BD])⟩ (by omega) AK
 subst Ba;rw[take_length]at hP;have lM:C5 l=true:=by grind[C5]
 refine Al _ ?_;exact wb (by rw[lM])
def SO(s:WS)(h:Iy s):Ad C0 37 [.agg s.c] [] (B (AI s)) []:=by
 refine Ad.go f37 ?_;unfold f37;refine gO ?_;refine Ab (re s.Aa h.aq) ?_;cases lM:C5 s.Aa
 ·refine gO ?_;refine Al _ ?_;exact wb (by grind[AI])
 by_cases hn:8<s.Aw.length
 ·have e2:(8<(s.Aw.length:Int))=True:=eq_true (by omega);have e:AI s=false:=by grind[AI,GZ]
  simp only[go_sem,e2];refine Al _ ?_;exact wb (by simp[e])
 have e2:(8<(s.Aw.length:Int))=False:=eq_false (by omega);refine gS ?_;refine AF (s.Aw) (λi=>⟨[(3,I i),(1,.ptr 64 0)],[(64,s.c)]⟩) (λi=>Cu (CM s.Aw) (s.Aw.take i)=true) rfl ?_ ?_
 ·exact Ce
 rintro i ⟨hi,hP⟩ J hJ;refine gO ?_;refine Bo hi (λAP b hb Cg AX=>?_) λBa=>?_
 simp(disch:=omega)only[go_sem,hb]
 ·have bad:CM s.Aw i b=false->AI s=false:=λh=>by simp[AI,GZ,B5 hb h,Bool.and_false,Bool.false_and]
  have FM:CM s.Aw i b=true->Cu (CM s.Aw) (s.Aw.take (i+1))=true:=λh=>by grind[CB]
  refine Ay 33 [([],[4]),([],[27]),([],[28]),([2],[29]),([2],[30]),([2],[4,31]),([2],[32,31]),([2],[33,31]),([2,7],[34,31]),([2,7],[31,35]),([2,7],[36]),([2,7],[4,37]),([2,7],[38,37]),([2,7],[39,37]),([2,7],[37,40]),([2,7],[41]),([2,7],[4,42]),([2,7],[43,42]),([2,7],[44,42]),([2,7],[42,45]),([2,7],[46]),([2,7],[3,47]),([2,7],[48,47]),([2,7],[49,47]),([2,7],[1,50]),([2,7],[51,50]),([2,7],[3,50]),([2,7],[53,50]),([2,7],[52,54,50]),([2,7],[55,50]),([2,7],[56,50]),([2,7],[4,50]),([2,7],[58,50])] B6 (gO ?_)
  first|(refine Ab (KI b.proc) ?_)|(refine Ax (KI b.proc) ?_)
  cases hp:b.proc.ok
  ·refine gO ?_;refine Al _ ?_;exact wb (by grind[CM])
  refine gO ?_
  first
   |(refine Ai (im b.expr) (by refine gO ?_) rfl ?_)
   |(refine AO ⟨⟨[],[],[]⟩,[],[]⟩ (im b.expr) (by exact gI) rfl rfl trivial (.inl rfl) ?_)
  cases he:BM b.expr
  ·refine gO ?_;refine Al _ ?_;exact wb (by grind[CM])
  by_cases uB:b.gen<0
  ·have k1:(b.gen<0)=True:=eq_true uB;simp only[go_sem,k1];refine Al _ ?_;exact wb (by grind[CM])
  have k1:(b.gen<0)=False:=eq_false uB
  by_cases iE:1073741824<b.gen
  ·have k2:(1073741824<b.gen)=True:=eq_true iE;simp only[go_sem,k1,k2];refine Al _ ?_;exact wb (by grind[CM])
  have k2:(1073741824<b.gen)=False:=eq_false iE;have g1:decide (0<=b.gen)=true:=by grind
  have g2:decide (b.gen<=1073741824)=true:=by grind
  by_cases QI:i=0
  ·subst QI;refine gS ?_;refine hJ _ 1 ⟨by omega,FM (by grind[CM])⟩ (by omega) AK
  ·have QJ:(0<(i:Int))=True:=eq_true (by omega);have NP:((i:Int)-1)=((i-1:Nat):Int):=by omega
   obtain⟨a,NZ⟩:∃ a,s.Aw[i-1]?=some a:=⟨_,gE (by omega)⟩;have UK:s.Aw.getD (i-1) n0=a:=by grind
   simp(disch:=omega)only[go_sem,k1,k2,QJ,NP,NZ]
   first|(refine Ab (LD a.proc b.proc) ?_)|(refine Ax (LD a.proc b.proc) ?_)
   refine gO ?_
   by_cases hc:0<=BF a.proc b.proc
   ·simp only[go_sem,hc];refine Al _ ?_;exact wb (by grind[CM])
   ·simp only[go_sem,hc];refine hJ _ (i+1) ⟨by omega,FM (by grind[CM])⟩ (by omega) AK
 ·subst Ba;rw[take_length]at hP;have hns:GZ s.Aw=true:=by grind[GZ]
  refine Ab (Ow s h) (gO ?_);refine Al _ ?_;exact wb (by grind[AI])
def ZD:∀ (es:List Expr) (l:List Atom),(C4 es l).1=true->∀ e∈es,∃ l',(prop e l').1=true
 |[],_,_,_,he=>by grind
 | e::es,l,h,e',he=>by
  simp[C4]at h;split at h
  ·rename_i h1;rcases mem_cons.1 he with rfl|he
   ·grind
   ·exact ZD es _ h e' he
  grind
def Vk(l:List Atom)(set:List Bool)(hl:l.length<=1000000):∀ (N:Nat) (e:Expr),SizeOf.sizeOf e<N->∀ la,(prop e la).1=true ->
 Ad C0 213 [.agg e.c,BG l,KA set] [] (B (FW (E1 l set) e)) []
 | 0,_,h,_,_=>by omega
 | N+1,e,h,la,hp=>by
  refine Ad.lens f213 λhlen=>?_
  simp[FZ,lens,Expr.Dg,length_map,length_map,and_true,true_and]at hlen;rw[EW]at hp;refine Ad.go f213 ?_;unfold f213
  by_cases hk:e.kids.length=0
  ·rw[if_pos hk]at hp;have h0:e.k=0:=by grind
   have e1:(e.k==0)=true:=by grind
   have ev:FW (E1 l set) e=E1 l set e.atom:=by rw[L2,if_pos hk]
   rw[ev];simp only[go_sem,e1];refine AF (l) (λi=>⟨[(7,I i),(1,BG l),(2,KA set),(3,.ptr 192 0)],[(192,e.c)]⟩) (λi=>(l.take i).find? (λx=>decide (x=e.atom))=none) rfl ?_ ?_
   ·exact Ce
   rintro i ⟨hi,hP⟩ J hJ;refine gO ?_;refine Bo hi (λAP b hb Cg AX=>?_) λBa=>?_
   refine Ay 6 [([],[1]),([],[7]),([],[19,20]),([],[21]),([],[3]),([],[23])] B6 ?_;simp(disch:=omega)only[go_sem,gm,hb]
   ·refine And.intro (λhh=>?_) (λhh=>?_)
    ·have NP:l.findIdx? (λx=>decide (x=e.atom))=some i:=Hj hP b hb (by omega)
     by_cases hs:i<set.length
     ·have e3:((i:Int)<set.length)=True:=eq_true (by omega);have e4:set[i]?=some (set.getD i false):=by grind
      have e2:E1 l set e.atom=set.getD i false:=by grind[E1]
      simp only[go_sem,e3,e4];refine Al _ ?_;exact wb (by rw[e2])
     ·have e3:((i:Int)<set.length)=False:=eq_false (by omega);have e2:E1 l set e.atom=false:=by grind[E1]
      simp only[go_sem,e3];refine Al _ ?_;exact wb (by grind)
    ·refine hJ _ (i+1) ⟨by omega,(by grind[Cp])⟩ (by omega) AK
   ·subst Ba;rw[take_length]at hP;have NP:l.findIdx? (λx=>decide (x=e.atom))=none:=by grind
    have e2:E1 l set e.atom=false:=by grind[E1]
    refine Al _ ?_;exact wb (by rw[e2])
  ·rw[if_neg hk]at hp;have hb:¬ (e.k<1\/(e.kids.length:Int)<e.k\/e.atom≠a0):=by grind
   rw[if_neg hb]at hp;have AhO:=ZD _ _ hp;have e1:(e.k==0)=false:=by grind
   have ev:FW (E1 l set) e=decide (e.k<=DR (E1 l set) e.kids):=by rw[L2,if_neg hk]
   have ID:=SI (E1 l set);rw[ev];refine gS ?_;refine AF (e.kids) (λi=>⟨[(9,I i),(8,I (DR (E1 l set) (e.kids.take i))),(1,BG l),(2,KA set),(3,.ptr 192 0)],[(192,e.c)]⟩) (λi=>True) trivial ?_ ?_
   ·refine AT.Aq ?_ ?_
    all_goals(try simp(disch:=omega)only[go_sem])
    all_goals(try(repeat'(with_reducible apply And.intro)))
    all_goals(first|exact .Cr (by omega)|exact .A8 (by omega)|exact .sl (by simp[DR])|exact .int (by grind)|exact .eq (by simp[DR]))
   rintro i ⟨hi,hP⟩ J hJ;refine gO ?_;refine Bo hi (λAP b hb Cg AX=>?_) λBa=>?_
   simp(disch:=omega)only[go_sem,hb]
   ·obtain⟨la',hla⟩:=AhO b Cg;have Hb:=EM Cg;have iz:=Oq (E1 l set) e.kids i b hb;have UL:=ID (e.kids.take i);simp at UL;refine Ab (Vk l set hl N b (by omega) la' hla) ?_;cases Y1:FW (E1 l set) b
    ·rw[Y1]at iz;refine gO ?_;refine hJ _ (i+1) ⟨by omega,trivial⟩ (by omega) (AT.Aq ?_ gI);refine gS ?_;exact .int (by simp)
    ·rw[Y1]at iz;refine gO ?_;refine hJ _ (i+1) ⟨by omega,trivial⟩ (by omega) (AT.Aq ?_ gI);exact gC
   ·subst Ba;refine gO ?_;exact AQ _
def eV:∀ (es:List Expr) (l:List Atom),(∀ e∈es,∀ l,(prop e l).1=true->(prop e l).2≠[])->(C4 es l).1=true->es≠[]\/l≠[]->(C4 es l).2≠[]
 |[],l,_,_,h=>by grind[C4]
 | e::es,l,hk,hp,_=>by
  simp only[C4]at hp ⊢;split at hp<;>simp_all[eV]
def mi:∀ (N:Nat) (e:Expr),SizeOf.sizeOf e<N->∀ l,(prop e l).1=true->(prop e l).2≠[]
 | 0,_,h,_,_=>by omega
 | N+1,e,h,l,hp=>by
  rw[EW]at hp ⊢
  by_cases h0:e.kids.length=0
  ·rw[if_pos h0]at hp ⊢
   by_cases h1:e.k=0/\MZ e.atom=true
   ·rw[if_pos h1]at hp ⊢;simp only at hp ⊢;rw[l9 hp];unfold Fl;split
    ·grind
    ·simp
   grind
  ·rw[if_neg h0]at hp ⊢;split at hp
   ·grind
   ·rename_i h1;rw[if_neg h1];exact eV _ _ (λe' he l'=>mi N e' (by have:=EM he;omega) l') hp (.inl λh=>h0 (by grind))
def Py(e:Expr)(set:List Bool)(he:BM e=true):Ad C0 157 [.agg e.c,KA set] [] (B (Gc e set)) []:=by
 have hl:=Dt e;have CZ:(Ah e).length≠0:=by
  have hp:=GC he;have h1:=mi _ e (lt_succ_self _) [] hp;have hc:=KY _ e (lt_succ_self _) [] hp;have ha:Ah e=(prop e []).2:=by unfold Ah;rw[if_pos he,hc]
  rw[ha];simpa using h1
 refine Ad.go f157 ?_;unfold f157;refine gO ?_;refine Ab (Rx e) ?_;simp(disch:=omega)only[go_sem,he];refine Ab (Vk (Ah e) set (by omega) _ e (lt_succ_self _) [] (GC he)) (gO ?_);refine Al _ ?_;exact wb (by grind[Gc])
end Go.Rd
