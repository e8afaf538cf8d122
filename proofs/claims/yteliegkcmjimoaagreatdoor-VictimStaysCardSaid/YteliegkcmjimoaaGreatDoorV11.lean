/- part 11 of the proof -/
import Derived.Test.YteliegkcmjimoaaGreatDoorV10
set_option linter.all false
open Go Go.Abs Go.Proofs
set_option maxRecDepth 100000
namespace Go.Rd
set_option maxHeartbeats 8000000
open List (all_cons any_cons any_nil drop_length mem_append take_add_one take_length)
open Tryz
def n3(a:Atom):Ac C0 178 [.agg a.c] [] (B (C9 a.name&&(Hc.fits a.AN||Hg.fits a.AN))) []:=by
 refine Ac.go f178 ?_;unfold f178;simp(disch:=omega)only[go_sem]
 repeat'(first
  |(with_reducible refine And.intro (λh=>?_) (λh=>?_))
  |((with_reducible show A8 _ _ 88 _ _ _);refine Ag (XG a.name) ?_ rfl ?_;(focus(simp(disch:=omega)only[go_sem];done));try simp(disch:=omega)only[go_sem])
  |((with_reducible show A8 _ _ 234 _ _ _);refine Ag (G3 ⟨[],1,1,0⟩ a.AN) ?_ rfl ?_;(focus(simp(disch:=omega)only[go_sem];done));try simp(disch:=omega)only[go_sem])
  |((with_reducible show A8 _ _ 234 _ _ _);refine Ag (G3 ⟨[],2,8,0⟩ a.AN) ?_ rfl ?_;(focus(simp(disch:=omega)only[go_sem];done));try simp(disch:=omega)only[go_sem]))
 all_goals(refine CD _ ?_)
 all_goals(try simp(disch:=omega)only[go_sem])
 all_goals(refine .eq ?_)
 all_goals(first|(simp_all[Hc,Hg]<;>omega)|(refine Bool.eq_iff_iff.2 ?_;simp_all[Hc,Hg]<;>omega))
mutual
def meas:Expr->Int->Int->Int × Int
 |.mk _ _ kids,lv,n=>if 4<lv\/24<n+1 then (0,n+1) else Fq kids lv (n+1) 0
def Fq:List Expr->Int->Int->Int->Int × Int
 |[],_,n,d=>(d+1,n)
 | e::l,lv,n,d=>if (meas e (lv+1) n).1=0 then (0,(meas e (lv+1) n).2) else Fq l lv (meas e (lv+1) n).2 (max d (meas e (lv+1) n).1)
end
def KI(e:Expr)(lv n:Int):meas e lv n=if 4<lv\/24<n+1 then (0,n+1) else Fq e.kids lv (n+1) 0:=by
 cases e;simp[meas,Expr.kids]
def D3{e k:Expr}(h:k∈e.kids):SizeOf.sizeOf k<SizeOf.sizeOf e:=by
 cases e with
 | mk a b l =>
  have h:k∈l:=h;have:=List.sizeOf_lt_of_mem h;simp;omega
def bd(lv:Int)(x:Int × Int):Prop:=0<=x.1/\x.1<=6-lv/\0<=x.2/\x.2<=25/\(x.1≠0->x.2<=24)
def ZS(lv:Int)(h1:1<=lv)(h4:lv<=4):∀ (l:List Expr) (n d:Int),(∀ e∈l,∀ n:Int,0<=n->n<=24->bd (lv+1) (meas e (lv+1) n))->0<=n->n<=24->0<=d->d<=5-lv->bd lv (Fq l lv n d)
 |[],n,d,_,hn,bX,hd,bS=>by
  simp only[Fq,bd];omega
 | e::l,n,d,hk,hn,bX,hd,bS=>by
  obtain⟨b1,b2,b3,b4,b5⟩:=hk e (by simp) n hn bX;simp only[Fq];split
  ·simp only[bd];omega
  ·rename_i h0;have:=b5 h0;exact ZS lv h1 h4 l _ _ (λe' he=>hk e' (by simp[he])) b3 this (by omega) (by omega)
def NC:∀ (N:Nat) (e:Expr),SizeOf.sizeOf e<N->∀ lv n:Int,1<=lv->lv<=5->0<=n->n<=24->bd lv (meas e lv n)
 | 0,_,h,_,_,_,_,_,_=>by omega
 | N+1,e,h,lv,n,h1,h5,h2,h3=>by
  rw[KI];split
  ·simp only[bd];omega
  ·rename_i hc;exact ZS lv h1 (by omega) _ _ _ (λe' he n' hn bX=>NC N e' (by have:=D3 he;omega) _ _ (by omega) (by omega) hn bX) (by omega) (by omega) (by omega) (by omega)
def dC:∀ (N:Nat) (e:Expr),SizeOf.sizeOf e<N->∀ lv n:Int,1<=lv->lv<=5->0<=n->n<=24 ->
 Ac C0 177 [.agg e.c,I lv,.ptr 63 0] [(63,[I n])] (I (meas e lv n).1) [(63,[I (meas e lv n).2])]
 | 0,_,h,_,_,_,_,_,_=>by omega
 | N+1,e,h,lv,n,h1,h5,h2,h3=>by
  refine Ac.lens f177 λhlen=>?_
  simp only[E0,lens,Expr.Cf,List.length_map,and_true,true_and]at hlen;refine Ac.go f177 ?_;unfold f177
  by_cases hc:4<lv\/24<n+1
  ·have em:meas e lv n=(0,n+1):=by rw[KI,if_pos hc]
   simp(disch:=omega)only[go_sem,em]
   repeat'(with_reducible refine And.intro (λh=>?_) (λh=>?_))
   all_goals(try(exfalso;simp_all;omega))
   all_goals(refine AZ ⟨[],[(63,63)],[]⟩ _ rfl ⟨rfl,rfl⟩ (by simp[lk]) ?_ ?_)
   all_goals simp(disch:=omega)only[go_sem]
  have em:meas e lv n=Fq e.kids lv (n+1) 0:=by rw[KI,if_neg hc]
  have eE:(4<lv)=False:=by simp;omega
  have aZ:(24<n+1)=False:=by simp;omega
  simp(disch:=omega)only[go_sem,em,eE,aZ,decide_false];refine Ao (α:=Nat × Int × Int) (λq=>⟨[(27,I q.1),(26,I e.kids.length),(25,It e.kids),(7,I q.2.2),(1,I lv),(2,.ptr 63 0)],[(63,[I q.2.1])]⟩)
   (λq=>q.1<=e.kids.length/\0<=q.2.1/\q.2.1<=24/\0<=q.2.2/\q.2.2<=5-lv/\Fq (e.kids.drop q.1) lv q.2.1 q.2.2=Fq e.kids lv (n+1) 0) (λq=>e.kids.length-q.1) (0,n+1,0) ⟨by simp,by simp;omega,by simp;omega,by simp,by simp;omega,by simp⟩ ?_ ?_
  ·refine AQ.An ?_ ?_
   ·exact gI
   ·exact gI
  rintro⟨i,m,d⟩ ⟨hi,kE,hm,xK,hd,hr⟩ J hJ
  replace hi:i<=e.kids.length:=hi
  replace kE:0<=m:=kE
  replace hm:m<=24:=hm
  replace xK:0<=d:=xK
  replace hd:d<=5-lv:=hd
  replace hr:Fq (e.kids.drop i) lv m d=Fq e.kids lv (n+1) 0:=hr
  refine gO ?_;refine ⟨λAu=>?_,λG9=>?_⟩
  ·have Fx:i<e.kids.length:=by simp at Au;omega
   have hb:e.kids[i]?=some e.kids[i]:=gE Fx;have Ec:=D3 (List.getElem_mem Fx);have XN:e.kids.drop i=e.kids[i]::e.kids.drop (i+1):=List.drop_eq_getElem_cons Fx;generalize e.kids[i]=b at hb Ec XN;rw[XN]at hr;simp only[Fq]at hr;simp(disch:=omega)only[go_sem,gm,hb];refine Bh ⟨⟨[],[(63,63)],[]⟩,[],[]⟩ (dC N b (by omega) (lv+1) m (by omega) (by omega) kE hm) gI rfl gI (.inl rfl) ?_;obtain⟨b1,b2,b3,b4,b5⟩:=NC N b (by omega) (lv+1) m (by omega) (by omega) kE hm;generalize meas b (lv+1) m=x at hr b1 b2 b3 b4 b5
   by_cases h0:x.1=0
   ·have e0:(x.1==0)=true:=by simp[h0]
    rw[if_pos h0]at hr;simp(disch:=omega)only[go_sem,e0];refine AZ ⟨[],[(63,63)],[]⟩ _ rfl ⟨rfl,rfl⟩ (by simp[lk]) ?_ ?_
    ·simp(disch:=omega)only[go_sem,<- hr]
    ·simp(disch:=omega)only[go_sem,<- hr]
   ·have e0:(x.1==0)=false:=by simp[h0]
    rw[if_neg h0]at hr;have hx:=b5 h0;simp(disch:=omega)only[go_sem,e0];refine hJ _ (i+1,x.2,max d x.1) ⟨by simp;omega,b3,hx,by simp;omega,by simp;omega,hr⟩ (by simp;omega) (AQ.An ?_ gI);refine gO ?_;exact .int (by rw[Int.max_def];split<;>split<;>omega)
  ·have Bf:i=e.kids.length:=by simp at G9;omega
   subst Bf;rw[drop_length]at hr;simp only[Fq]at hr;simp(disch:=omega)only[go_sem,<- hr];refine AZ ⟨[],[(63,63)],[]⟩ _ rfl ⟨rfl,rfl⟩ (by simp[lk]) ?_ ?_
   ·exact gI
   ·exact gI
def depth(e:Expr):Int:=(meas e 1 0).1
theorem nF(e:Expr):Ac C0 122 [.agg e.c] [] (I (depth e)) []:=by
 refine Ac.go f122 ?_;unfold f122;refine gO ?_;refine Bh ⟨⟨[],[(192,63)],[]⟩,[],[]⟩ (dC _ e (Nat.lt_succ_self _) 1 0 (by omega) (by omega) (by omega) (by omega)) gI rfl gI (.inl rfl) ?_;refine gO ?_;refine Aj _ ?_;exact .eq rfl
@[go_sem] theorem Aan(p q:Atom):(p.name==q.name&&decide (p.AN=q.AN))=decide (p=q):=by
 cases p;cases q;refine Bool.eq_iff_iff.2 ?_;simp
def iR(a b:Atom):Bool:=decide (a=b)||a.name==b.name
def Fs(l:List Atom)(a:Atom):Int × List Atom:=match l.find? (iR a) with
 |some b=>(if a=b then 0 else 13,l)
 |none=>if l.length=8 then (4,l) else (0,l++[a])
@[reducible] def Di(r:Nat)(l:List Atom):AV:=.sl (.own r 0) 3 (l.map Atom.c)
theorem n4(l:List Atom)(a:Atom)(h8:l.length<=8):Ac C0 179 [.ptr 63 0,.agg a.c] [(63,[Di 0 l])] (I (Fs l a).1) [(63,[Di 1 (Fs l a).2])]:=by
 refine Ac.go f179 ?_;unfold f179;refine gO ?_;refine AH (l) (λi=>⟨[(11,I i),(10,I l.length),(9,Di 0 l),(0,.ptr 63 0),(3,.ptr 192 0)],[(63,[Di 0 l]),(192,a.c)]⟩) (λi=>(l.take i).find? (iR a)=none) rfl ?_ ?_
 ·exact B9
 rintro i ⟨hi,hP⟩ J hJ;refine gO ?_;refine Bp hi (λAu b hb Cc AR=>?_) λBf=>?_
 simp(disch:=omega)only[go_sem,gm,hb]
 ·refine⟨λh=>?_,λh=>?_⟩
  ·have e:Fs l a=(0,l):=by
    unfold Fs;rw[G5 hP hb (by simp at h;simp[iR,h])];simp at h;simp[h]
   simp(disch:=omega)only[go_sem,e];refine AZ ⟨[(0,1)],[(63,63)],[]⟩ _ rfl ⟨rfl,rfl⟩ (by simp[lk]) ?_ ?_
   ·exact gI
   ·exact gI
  refine And.intro (λh'=>?_) (λh'=>?_)
  ·have e:Fs l a=(13,l):=by
    unfold Fs;rw[G5 hP hb (by simp at h';simp[iR,h'])];simp at h;simp[h]
   simp(disch:=omega)only[go_sem,e];refine AZ ⟨[(0,1)],[(63,63)],[]⟩ _ rfl ⟨rfl,rfl⟩ (by simp[lk]) ?_ ?_
   ·exact gI
   ·exact gI
  ·refine hJ _ (i+1) ⟨by omega,(by rw[B4 hP hb];simp at h h';simp[iR,h,h'])⟩ (by omega) AS
 ·subst Bf;rw[take_length]at hP
  by_cases h9:l.length=8
  ·have e:Fs l a=(4,l):=by unfold Fs;rw[hP];simp[h9]
   have e9:((l.length:Int)==8)=true:=by simp[h9];
   simp(disch:=omega)only[go_sem,e,e9];refine AZ ⟨[(0,1)],[(63,63)],[]⟩ _ rfl ⟨rfl,rfl⟩ (by simp[lk]) ?_ ?_
   ·exact gI
   ·exact gI
  ·have e:Fs l a=(0,l++[a]):=by unfold Fs;rw[hP];simp[h9]
   have e9:((l.length:Int)==8)=false:=by simp;omega
   simp(disch:=omega)only[go_sem,e,e9];refine Tv (let o0:OT:=.done;let o1:OT:=.pick [(8,o0)];let o2:OT:=.pick [(7,o1)];let o3:OT:=.pick [(6,o2)];let o4:OT:=.pick [(5,o3)];let o5:OT:=.pick [(4,o4)];let o6:OT:=.pick [(3,o3)];let o7:OT:=.pick [(3,o4),(5,o6)];let o8:OT:=.pick [(3,o5),(4,o7)];let o9:OT:=.pick [(2,o6)];let bb:OT:=.pick [(2,o7),(5,o9)];let ia:OT:=.pick [(2,o8),(4,bb)];let qk:OT:=.pick [(1,o9)];let lL:OT:=.pick [(1,bb),(5,qk)];let uW:OT:=.pick [(1,ia),(4,lL)];let rW:OT:=.pick [(0,o2)];let uX:OT:=.pick [(0,o3),(6,rW)];let mU:OT:=.pick [(0,o4),(5,uX)];let uY:OT:=.pick [(0,o5),(4,mU)];let rX:OT:=.pick [(0,o6),(3,uX)];let wm:OT:=.pick [(0,o7),(3,mU),(5,rX)];let rY:OT:=.pick [(0,o8),(3,uY),(4,wm)];let rZ:OT:=.pick [(0,o9),(2,rX)];let r5:OT:=.pick [(0,bb),(2,wm),(5,rZ)];let uZ:OT:=.pick [(0,ia),(2,rY),(4,r5)];let u0:OT:=.pick [(0,qk),(1,rZ)];let u4:OT:=.pick [(0,lL),(1,r5),(5,u0)];let wo:OT:=.pick [(0,uW),(1,uZ),(4,u4)];wo) B7 (by kernel_rfl) ?_;simp(disch:=omega)only[go_sem]
   repeat'(with_reducible refine And.intro ?_ ?_)
   all_goals(refine AZ ⟨[(2240,1)],[(63,63)],[]⟩ _ rfl ⟨rfl,rfl⟩ (by simp[lk]) ?_ ?_)
   all_goals(try simp(disch:=omega)only[go_sem])
   all_goals exact .sl (by simp[Atom.c])
def lK{l:List Atom}{a:Atom}(h:l.length<=8):(Fs l a).2.length<=8:=by
 unfold Fs;split
 ·exact h
 ·split
  ·exact h
  ·simp;omega
def Lb(a:Atom):Bool:=C9 a.name&&(Hc.fits a.AN||Hg.fits a.AN)
def a0:Atom:=⟨[],⟨0,0⟩⟩
def W7(p:Atom):(p.name==[]&&(p.AN.mode==0&&p.AN.Ax==0))=decide (p=a0):=by
 cases p with
 | mk n a =>
  cases a;refine Bool.eq_iff_iff.2 ?_;simp[a0]
mutual
def prop:Expr->List Atom->Bool × List Atom
 |.mk k a kids,l=>if kids.length=0 then (if k=0/\Lb a=true then ((Fs l a).1==0,(Fs l a).2) else (false,l))
  else if k<1\/(kids.length:Int)<k\/a≠a0 then (false,l) else CB kids l
def CB:List Expr->List Atom->Bool × List Atom
 |[],l=>(true,l)
 | e::es,l=>if (prop e l).1=true then CB es (prop e l).2 else (false,(prop e l).2)
end
theorem D8(e:Expr)(l:List Atom):prop e l=if e.kids.length=0 then (if e.k=0/\Lb e.atom=true then ((Fs l e.atom).1==0,(Fs l e.atom).2) else (false,l))
 else if e.k<1\/(e.kids.length:Int)<e.k\/e.atom≠a0 then (false,l) else CB e.kids l:=by
 cases e;simp only[prop];rfl
def ab:∀ (es:List Expr) (l:List Atom),(∀ e∈es,∀ l:List Atom,l.length<=8->(prop e l).2.length<=8)->l.length<=8->(CB es l).2.length<=8
 |[],l,_,h=>by simpa [CB]using h
 | e::es,l,hk,h=>by
  have:=hk e (by simp) l h;simp only[CB];split
  ·exact ab es _ (λe' he=>hk e' (by simp[he])) this
  ·exact this
def S2:∀ (N:Nat) (e:Expr),SizeOf.sizeOf e<N->∀ l:List Atom,l.length<=8->(prop e l).2.length<=8
 | 0,_,h,_,_=>by omega
 | N+1,e,h,l,hl=>by
  rw[D8];split
  ·split
   ·exact lK hl
   ·exact hl
  ·split
   ·exact hl
   ·exact ab _ _ (λe' he l' Vc=>S2 N e' (by have:=D3 he;omega) l' Vc) hl
def dj:∀ (N:Nat) (e:Expr),SizeOf.sizeOf e<N->∀ l:List Atom,l.length<=8 ->
 Ac C0 123 [.agg e.c,.ptr 63 0] [(63,[Di 0 l])] (B (prop e l).1) [(63,[Di 1 (prop e l).2])]
 | 0,_,h,_,_=>by omega
 | N+1,e,h,l,hl=>by
  refine Ac.lens f123 λhlen=>?_
  simp only[E0,lens,Expr.Cf,List.length_map,and_true,true_and]at hlen;refine Ac.go f123 ?_;unfold f123
  by_cases hk:e.kids.length=0
  ·have e1:((e.kids.length:Int)==0)=true:=by simp[hk]
   simp(disch:=omega)only[go_sem,e1]
   by_cases h0:e.k=0
   ·have e2:(e.k==0)=true:=by simp[h0]
    simp(disch:=omega)only[go_sem,e2];refine Ab (n3 e.atom) ?_;cases ha:Lb e.atom
    ·have ME:(C9 e.atom.name&&(Hc.fits e.atom.AN||Hg.fits e.atom.AN))=false:=ha;have ep:prop e l=(false,l):=by rw[D8,if_pos hk,if_neg (by simp[ha])]
     simp(disch:=omega)only[go_sem,ME,ep];refine AZ ⟨[(0,1)],[(63,63)],[]⟩ _ rfl ⟨rfl,rfl⟩ (by simp[lk]) ?_ ?_
     ·exact gI
     ·exact gI
    ·have ME:(C9 e.atom.name&&(Hc.fits e.atom.AN||Hg.fits e.atom.AN))=true:=ha;have ep:prop e l=((Fs l e.atom).1==0,(Fs l e.atom).2):=by rw[D8,if_pos hk,if_pos ⟨h0,ha⟩]
     simp(disch:=omega)only[go_sem,ME,ep];refine Bh ⟨⟨[(0,0)],[(63,63)],[]⟩,[(1,1472)],[]⟩ (n4 l e.atom hl) gI rfl gI (.inl rfl) ?_;refine gO ?_;refine AZ ⟨[(1472,1)],[(63,63)],[]⟩ _ rfl ⟨rfl,rfl⟩ (by simp[lk]) ?_ ?_
     ·exact gI
     ·exact gI
   ·have e2:(e.k==0)=false:=by simp[h0]
    have ep:prop e l=(false,l):=by rw[D8,if_pos hk,if_neg (by simp[h0])]
    simp(disch:=omega)only[go_sem,e2,ep];refine AZ ⟨[(0,1)],[(63,63)],[]⟩ _ rfl ⟨rfl,rfl⟩ (by simp[lk]) ?_ ?_
    ·exact gI
    ·exact gI
  have e1:((e.kids.length:Int)==0)=false:=by simp only[beq_eq_false_iff_ne,ne_eq];omega
  have ez:(e.atom.name==[]&&(e.atom.AN.mode==0&&e.atom.AN.Ax==0))=decide (e.atom=a0):=W7 e.atom
  by_cases L5:e.k<1\/(e.kids.length:Int)<e.k\/e.atom≠a0
  ·have ep:prop e l=(false,l):=by rw[D8,if_neg hk,if_pos L5]
   simp(disch:=omega)only[go_sem,e1,ez,ep]
   repeat'(with_reducible refine And.intro (λh=>?_) (λh=>?_))
   all_goals(try(exfalso;simp_all;omega))
   all_goals(refine AZ ⟨[(0,1)],[(63,63)],[]⟩ _ rfl ⟨rfl,rfl⟩ (by simp[lk]) ?_ ?_)
   all_goals simp(disch:=omega)only[go_sem]
  have ep:prop e l=CB e.kids l:=by rw[D8,if_neg hk,if_neg L5]
  have b1:(e.k<1)=False:=by simp;omega
  have b2:((e.kids.length:Int)<e.k)=False:=by simp;omega
  have b3:e.atom=a0:=by
   by_cases h:e.atom=a0
   ·exact h
   ·exact absurd (Or.inr (Or.inr h)) L5
  have ez':(e.atom.name==[]&&(e.atom.AN.mode==0&&e.atom.AN.Ax==0))=true:=by rw[ez];simp[b3]
  simp(disch:=omega)only[go_sem,e1,ez',b1,b2,decide_false,ep];refine Ao (α:=Nat × List Atom) (λq=>⟨[(46,I q.1),(45,I e.kids.length),(44,It e.kids),(1,.ptr 63 0)],[(63,[Di 3328 q.2])]⟩)
   (λq=>q.1<=e.kids.length/\q.2.length<=8/\CB (e.kids.drop q.1) q.2=CB e.kids l) (λq=>e.kids.length-q.1) (0,l) ⟨by simp,hl,by simp⟩ ?_ ?_
  ·refine AQ.BS ⟨[(0,3328)],[(63,63)],[]⟩ ⟨rfl,rfl⟩ (by simp[lk]) ?_ ?_
   ·exact gI
   ·exact gI
  rintro⟨i,m⟩ ⟨hi,hm,hr⟩ J hJ
  replace hi:i<=e.kids.length:=hi
  replace hm:m.length<=8:=hm
  replace hr:CB (e.kids.drop i) m=CB e.kids l:=hr
  refine gO ?_;refine ⟨λAu=>?_,λG9=>?_⟩
  ·have Fx:i<e.kids.length:=by simp at Au;omega
   have hb:e.kids[i]?=some e.kids[i]:=gE Fx;have Ec:=D3 (List.getElem_mem Fx);have XN:e.kids.drop i=e.kids[i]::e.kids.drop (i+1):=List.drop_eq_getElem_cons Fx;generalize e.kids[i]=b at hb Ec XN;rw[XN]at hr;simp only[CB]at hr;simp(disch:=omega)only[go_sem,gm,hb];refine Bh ⟨⟨[(3328,0)],[(63,63)],[]⟩,[(1,3329)],[]⟩ (dj N b (by omega) m hm) gI rfl gI (.inl rfl) ?_;have hx:=S2 N b (by omega) m hm;generalize prop b m=x at hr hx;cases UQ:x.1
   ·rw[UQ]at hr;simp only[Bool.false_eq_true,if_false]at hr;simp(disch:=omega)only[go_sem,Bool.not_false];refine AZ ⟨[(3329,1)],[(63,63)],[]⟩ _ rfl ⟨rfl,rfl⟩ (by simp[lk]) ?_ ?_
    ·simp(disch:=omega)only[go_sem,<- hr]
    ·simp(disch:=omega)only[go_sem,<- hr]
   ·rw[UQ]at hr;simp only[if_true]at hr;simp(disch:=omega)only[go_sem,Bool.not_true];refine hJ _ (i+1,x.2) ⟨by simp;omega,hx,hr⟩ (by simp;omega) (AQ.BS ⟨[(3329,3328)],[(63,63)],[]⟩ ⟨rfl,rfl⟩ (by simp[lk]) ?_ ?_)
    ·exact gI
    ·exact gI
  ·have Bf:i=e.kids.length:=by simp at G9;omega
   subst Bf;rw[drop_length]at hr;simp only[CB]at hr;simp(disch:=omega)only[go_sem,<- hr];refine AZ ⟨[(3328,1)],[(63,63)],[]⟩ _ rfl ⟨rfl,rfl⟩ (by simp[lk]) ?_ ?_
   ·exact gI
   ·exact gI
def BA(e:Expr):Bool:=!(depth e==0)&&(prop e []).1
def j0(e:Expr):Ac C0 73 [.agg e.c] [] (B (BA e)) []:=by
 refine Ac.go f73 ?_;unfold f73;refine gO ?_;refine Ab (nF e) ?_;refine gO ?_;refine⟨λh=>?_,λh=>?_⟩
 ·refine Bh ⟨⟨[],[(192,63)],[]⟩,[(1,576)],[]⟩ (dj _ e (Nat.lt_succ_self _) [] (by simp)) gI rfl (by simp(disch:=omega)only[go_sem,List.map_nil];exact .AU (by omega)) (.inl rfl) ?_;refine gO ?_;refine Aj _ ?_;exact .eq (by simp at h;simp[BA,h])
 ·refine Aj _ ?_;exact .eq (by simp at h;simp[BA,h])
def wb{a b:Bool}(h:a=b):B8 (.v (.bool a)) (B b):=.eq (by rw[h])
def wi{a b:Int}(h:a=b):B8 (.v (.int .i64 a)) (I b):=.eq (by rw[h])
def BL(l:List Ad)(p:Ad):Bool:=decide (p∈l)
def U5{α:Type}[DecidableEq α]{l:List α}{p:α}(h:l.find? (λx=>decide (x=p))=none):p∉l:=by
 rw[List.find?_eq_none]at h;intro hp;simpa using h p hp
def Oy(l:List Ad)(p:Ad)(hl:l.length<=1000000):Ac C0 43 [AA l,.agg p.c] [] (B (BL l p)) []:=by
 refine Ac.go f43 ?_;unfold f43;refine gO ?_;refine AH (l) (λi=>⟨[(5,I i),(0,AA l),(3,.ptr 192 0)],[(192,p.c)]⟩) (λi=>(l.take i).find? (λx=>decide (x=p))=none) rfl ?_ ?_
 ·exact B9
 rintro i ⟨hi,hP⟩ J hJ;refine gO ?_;refine Bp hi (λAu b hb Cc AR=>?_) λBf=>?_
 refine Av 5 [([],[0]),([],[5]),([],[12,13]),([],[14]),([],[3])] B7 ?_;simp(disch:=omega)only[go_sem,gm,hb]
 ·refine⟨λh=>?_,λh=>?_⟩
  ·have e:BL l p=true:=by simp at h;subst h;simp[BL,Cc]
   simp(disch:=omega)only[go_sem,e];exact AM _
  ·refine hJ _ (i+1) ⟨by omega,(by rw[B4 hP hb];simp at h;simp[h])⟩ (by omega) AS
 ·subst Bf;rw[take_length]at hP;have e:BL l p=false:=by simp[BL,U5 hP]
  simp(disch:=omega)only[go_sem,e];exact AM _
def ord(a b:Int):Int:=if a<b then -1 else if b<a then 1 else 0
def Xp(a b:Int):Ac C0 135 [I a,I b] [] (I (ord a b)) []:=by
 refine Ac.go f135 ?_;unfold f135;simp(disch:=omega)only[go_sem]
 repeat'(with_reducible refine And.intro (λh=>?_) (λh=>?_))
 all_goals(refine CD _ ?_)
 all_goals(try simp(disch:=omega)only[go_sem])
 all_goals(first|refine wb ?_|refine wi ?_|refine .eq ?_)
 all_goals(first|(simp_all[ord]<;>omega)|(refine Bool.eq_iff_iff.2 ?_;simp_all[ord]<;>omega))
def js(p q:Ad):Bw p q=if ord p.site q.site≠0 then ord p.site q.site else if ord p.inc q.inc≠0 then ord p.inc q.inc else ord p.num q.num:=by
 unfold Bw ord
 repeat' split
 all_goals first|rfl|omega
def J8(p q:Ad):Ac C0 84 [.agg p.c,.agg q.c] [] (I (Bw p q)) []:=by
 refine Ac.go f84 ?_;unfold f84;refine gO ?_;refine Ab (Xp p.site q.site) ?_;refine gO ?_;have hc:=js p q;refine⟨λh=>?_,λh=>?_⟩
 ·simp at h;rw[if_pos h]at hc;refine Aj _ ?_;exact .eq (by rw[hc])
 simp at h;rw[if_neg (by simp[h])]at hc;refine Ab (Xp p.inc q.inc) ?_;refine gO ?_;refine⟨λh=>?_,λh=>?_⟩
 ·simp at h;rw[if_pos h]at hc;refine Aj _ ?_;exact .eq (by rw[hc])
 simp at h;rw[if_neg (by simp[h])]at hc;refine Ab (Xp p.num q.num) ?_;refine gO ?_;refine Aj _ ?_;exact .eq (by rw[hc])
def Ga(a:BO):Ac C0 58 [.agg a.c] [] (B a.zero) []:=by
 refine Ac.go f58 ?_;unfold f58;simp(disch:=omega)only[go_sem]
 repeat'(with_reducible refine And.intro (λh=>?_) (λh=>?_))
 all_goals(refine CD _ ?_)
 all_goals(try simp(disch:=omega)only[go_sem])
 all_goals(first|refine wb ?_|refine wi ?_|refine .eq ?_)
 all_goals(first|(simp_all[BO.zero]<;>omega)|(refine Bool.eq_iff_iff.2 ?_;simp_all[BO.zero]<;>omega))
def Pu(r:Bo):Ac C0 154 [.agg r.c] [] (B r.shaped) []:=by
 refine Ac.go f154 ?_;unfold f154;simp(disch:=omega)only[go_sem]
 repeat'(with_reducible refine And.intro (λh=>?_) (λh=>?_))
 all_goals(refine CD _ ?_)
 all_goals(try simp(disch:=omega)only[go_sem])
 all_goals(first|refine wb ?_|refine wi ?_|refine .eq ?_)
 all_goals(first|(simp_all[Bo.shaped,AL]<;>omega)|(refine Bool.eq_iff_iff.2 ?_;simp_all[Bo.shaped,AL]<;>omega))
def Nq(m:Int):Ac C0 145 [I m] [] (B (Bu m)) []:=by
 refine Ac.go f145 ?_;unfold f145;simp(disch:=omega)only[go_sem]
 repeat'(with_reducible refine And.intro (λh=>?_) (λh=>?_))
 all_goals(refine CD _ ?_)
 all_goals(try simp(disch:=omega)only[go_sem])
 all_goals(first|refine wb ?_|refine wi ?_|refine .eq ?_)
 all_goals(first|(simp_all[Bu,AL]<;>omega)|(refine Bool.eq_iff_iff.2 ?_;simp_all[Bu,AL]<;>omega))
def Gp(r:Bo)(a:BO):Ac C0 155 [.agg r.c,.agg a.c] [] (B (r.fits a)) []:=by
 refine Ac.go f155 ?_;unfold f155;simp(disch:=omega)only[go_sem]
 repeat'(first
  |(with_reducible refine And.intro (λh=>?_) (λh=>?_))
  |((with_reducible show A8 _ _ 154 _ _ _);refine Ag (Pu r) ?_ rfl ?_;(focus(simp(disch:=omega)only[go_sem];done));try simp(disch:=omega)only[go_sem])
  |((with_reducible show A8 _ _ 145 _ _ _);refine Ag (Nq a.mode) ?_ rfl ?_;(focus(simp(disch:=omega)only[go_sem];done));try simp(disch:=omega)only[go_sem]))
 all_goals(refine CD _ ?_)
 all_goals(try simp(disch:=omega)only[go_sem])
 all_goals(first|refine wb ?_|refine wi ?_|refine .eq ?_)
 all_goals(first|(simp_all[Bo.fits,AL]<;>omega)|(refine Bool.eq_iff_iff.2 ?_;simp_all[Bo.fits,AL]<;>omega))
def Nk(l:List Ba)(p:Ad)(hl:l.length<=1000000):Ac C0 100 [BZ l,.agg p.c] [] (I (EH l p)) []:=by
 refine Ac.go f100 ?_;unfold f100;refine gO ?_;refine AH (l) (λi=>⟨[(5,I i),(0,BZ l),(3,.ptr 192 0)],[(192,p.c)]⟩) (λi=>(l.take i).find? (λh=>decide (h.proc=p))=none) rfl ?_ ?_
 ·exact B9
 rintro i ⟨hi,hP⟩ J hJ;refine gO ?_;refine Bp hi (λAu b hb Cc AR=>?_) λBf=>?_
 refine Av 6 [([],[0]),([],[5]),([],[12,13]),([],[14]),([],[15]),([],[3])] B7 ?_;simp(disch:=omega)only[go_sem,gm,hb]
 ·refine⟨λh=>?_,λh=>?_⟩
  ·have e:EH l p=i:=by unfold EH;rw[Gk hP b hb (by simpa using h)]
   simp(disch:=omega)only[go_sem,e];exact AM _
  ·refine hJ _ (i+1) ⟨by omega,(by rw[B4 hP hb];simp at h;simp[h])⟩ (by omega) AS
 ·subst Bf;rw[take_length]at hP;have e:EH l p = -1:=by
   unfold EH;have:l.findIdx? (λh=>decide (h.proc=p))=none:=by
    rw[List.findIdx?_eq_none_iff];rw[List.find?_eq_none]at hP;intro x hx;simpa using hP x hx
   rw[this]
  simp(disch:=omega)only[go_sem,e];exact AM _
def Pq(l:List AX)(p:Ad)(hl:l.length<=1000000):Ac C0 104 [AY l,.agg p.c] [] (.agg (Ap l p).c) []:=by
 refine Ac.go f104 ?_;unfold f104;refine gO ?_;refine AH (l) (λi=>⟨[(5,I i),(0,AY l),(3,.ptr 192 0),(4,.ptr 256 0)],[(192,p.c),(256,(⟨0,0⟩:BO).c)]⟩) (λi=>(l.take i).find? (λh=>decide (h.proc=p))=none) rfl ?_ ?_
 ·exact B9
 rintro i ⟨hi,hP⟩ J hJ;refine gO ?_;refine Bp hi (λAu b hb Cc AR=>?_) λBf=>?_
 refine Av 6 [([],[0]),([],[5]),([],[12,13]),([],[14]),([],[15]),([],[3])] B7 ?_;simp(disch:=omega)only[go_sem,gm,hb]
 ·refine⟨λh=>?_,λh=>?_⟩
  ·have e:Ap l p=b.AN:=by unfold Ap;rw[G5 hP hb (by simpa using h)]
   simp(disch:=omega)only[go_sem,e];exact AM _
  ·refine hJ _ (i+1) ⟨by omega,(by rw[B4 hP hb];simp at h;simp[h])⟩ (by omega) AS
 ·subst Bf;rw[take_length]at hP;have e:Ap l p=⟨0,0⟩:=by unfold Ap;rw[hP]
  simp(disch:=omega)only[go_sem,e];exact AM _
def dq(c:UInt8):Ac C0 142 [.v (.int .u8 c.toNat)] [] (B (letter c)) []:=by
 refine Ac.go f142 ?_;unfold f142;simp(disch:=omega)only[go_sem]
 repeat'(with_reducible refine And.intro (λh=>?_) (λh=>?_))
 all_goals(refine CD _ ?_)
 all_goals(try simp(disch:=omega)only[go_sem])
 all_goals(first|refine wb ?_|refine wi ?_|refine .eq ?_)
 all_goals(first|(simp_all[letter]<;>omega)|(refine Bool.eq_iff_iff.2 ?_;simp_all[letter]<;>omega))
def nN(s:Bs):Ac C0 143 [.v (.string (str s))] [] (B (reserved s)) []:=by
 refine Ac.go f143 ?_;unfold f143;simp(disch:=omega)only[go_sem]
 repeat'(first
  |(with_reducible refine And.intro (λh=>?_) (λh=>?_))
)
 all_goals(refine CD _ ?_)
 all_goals(try simp(disch:=omega)only[go_sem])
 all_goals(first|refine wb ?_|refine wi ?_|refine .eq ?_)
 all_goals(first|(simp_all[reserved]<;>omega)|(refine Bool.eq_iff_iff.2 ?_;simp_all[reserved]<;>omega))
def part(c:UInt8):Bool:=letter c||other c
def nO(c:UInt8):Ac C0 144 [.v (.int .u8 c.toNat)] [] (B (part c)) []:=by
 refine Ac.go f144 ?_;unfold f144;simp(disch:=omega)only[go_sem]
 repeat'(first
  |(with_reducible refine And.intro (λh=>?_) (λh=>?_))
  |((with_reducible show A8 _ _ 142 _ _ _);refine Ag (dq c) ?_ rfl ?_;(focus(simp(disch:=omega)only[go_sem];done));try simp(disch:=omega)only[go_sem]))
 all_goals(refine CD _ ?_)
 all_goals(try simp(disch:=omega)only[go_sem])
 all_goals(first|refine wb ?_|refine wi ?_|refine .eq ?_)
 all_goals(first|(simp_all[part,letter,other]<;>omega)|(refine Bool.eq_iff_iff.2 ?_;simp_all[part,letter,other]<;>omega))
def cB(s:Bs):C9 s=(decide (1<=s.length)&&decide (s.length<=12)&&(match s with | []=>false|c::_=>letter c)&&!reserved s&&s.all part):=by
 cases s with
 | nil=>rfl
 | cons c l =>
  have h:∀ (l:List UInt8) (k:Nat),((l.zipIdx (k+1)).all λx=>r6 x.2 x.1)=l.all part:=by
   intro l
   induction l with
   | nil=>intro k;rfl
   | cons x l ih =>
    intro k;simp only[List.zipIdx_cons,all_cons,ih];simp[r6,part]
  simp only[C9,Ci,List.zipIdx_cons,all_cons,h];simp only[r6,part];cases letter c<;>simp
def Ko{α:Type}{f:α->Bool}{l:List α}{i:Nat}{b:α}(hb:l[i]?=some b):(l.take (i+1)).all f=((l.take i).all f&&f b):=by
 simp[take_add_one,hb,List.all_append]
def all_false{α:Type}{f:α->Bool}{l:List α}{b:α}(hb:b∈l)(h:f b=false):l.all f=false:=by
 rw[List.all_eq_false];exact⟨b,hb,by simp[h]⟩
def Z0(c:UInt8)(l s:Bs)(hs:s=c::l):C9 s=(decide (s.length<=12)&&letter c&&!reserved s&&s.all part):=by
 rw[cB];subst hs;simp
theorem QJ(s:Bs):Ac C0 90 [.v (.string (str s))] [] (B (C9 s)) []:=by
 refine Ac.go f90 ?_;unfold f90;cases hs:s with
 | nil =>
  simp(disch:=omega)only[go_sem,List.length_nil];refine Aj _ ?_;exact wb (by decide)
 | cons c l =>
  have e3:s[0]?=some c:=by rw[hs];rfl
  have hk:=Z0 c l s hs;have e1:((s.length:Int)<1)=False:=by rw[hs];simp;omega
  rw[<- hs];clear hs
  by_cases h2:12<s.length
  ·have e2:(12<(s.length:Int))=True:=by simp;omega
   simp(disch:=omega)only[go_sem,e1,e2,decide_false];refine Aj _ ?_;exact .eq (by rw[hk];simp;omega)
  ·have e2:(12<(s.length:Int))=False:=by simp;omega
   have e5:decide (s.length<=12)=true:=by simp;omega
   rw[e5]at hk;simp(disch:=omega)only[go_sem,e1,e2,e3,decide_false];refine Ab (dq c) ?_;cases hc:letter c
   ·rw[hc]at hk;simp(disch:=omega)only[go_sem,Bool.not_false,hk];exact AM _
   simp(disch:=omega)only[go_sem,Bool.not_true];refine Ab (nN s) ?_;cases hr:reserved s;rotate_left
   ·rw[hr]at hk;simp(disch:=omega)only[go_sem,hk];exact AM _
   refine gO ?_;refine AH (s) (λi=>⟨[(3,I i),(0,.v (.string (str s)))],[]⟩) (λi=>(s.take i).all part=true) rfl ?_ ?_
   ·exact B9
   rintro i ⟨hi,hP⟩ J hJ;refine gO ?_;refine Bp hi (λAu b hb Cc AR=>?_) λBf=>?_
   simp(disch:=omega)only[go_sem,gm,hb]
   ·refine Ab (nO b) ?_;cases hp:part b
    ·simp(disch:=omega)only[go_sem,Bool.not_false];refine Aj _ ?_;exact .eq (by rw[hk,all_false Cc hp];simp)
    ·simp(disch:=omega)only[go_sem,Bool.not_true];refine hJ _ (i+1) ⟨by omega,(by rw[Ko hb,hP,hp];rfl)⟩ (by omega) AS
   ·subst Bf;rw[take_length]at hP;refine Aj _ ?_;exact .eq (by rw[hk,hc,hr,hP];rfl)
def Px(r:Bo):Ac C0 208 [.agg r.c] [] (B (C9 r.name&&r.shaped&&AL r.home 0 3)) []:=by
 refine Ac.go f208 ?_;unfold f208;simp(disch:=omega)only[go_sem]
 repeat'(first
  |(with_reducible refine And.intro (λh=>?_) (λh=>?_))
  |((with_reducible show A8 _ _ 90 _ _ _);refine Ag (QJ r.name) ?_ rfl ?_;(focus(simp(disch:=omega)only[go_sem];done));try simp(disch:=omega)only[go_sem])
  |((with_reducible show A8 _ _ 154 _ _ _);refine Ag (Pu r) ?_ rfl ?_;(focus(simp(disch:=omega)only[go_sem];done));try simp(disch:=omega)only[go_sem]))
 all_goals(refine CD _ ?_)
 all_goals(try simp(disch:=omega)only[go_sem])
 all_goals(first|refine wb ?_|refine wi ?_|refine .eq ?_)
 all_goals(first|(simp_all[AL]<;>omega)|(refine Bool.eq_iff_iff.2 ?_;simp_all[AL]<;>omega))
def SC(a b:Int):Ac C0 106 [I a,I b] [] (B (Br a b)) []:=by
 refine Ac.go f106 ?_;unfold f106;refine gO ?_;refine Ab (Nq a) ?_;cases ha:Bu a
 ·simp(disch:=omega)only[go_sem,Bool.not_false];refine Aj _ ?_;exact .eq (by simp[Br,ha])
 simp(disch:=omega)only[go_sem,Bool.not_true];refine Ab (Nq b) ?_;cases hb:Bu b
 ·simp(disch:=omega)only[go_sem,Bool.not_false];refine Aj _ ?_;exact .eq (by simp[Br,hb])
 simp(disch:=omega)only[go_sem,Bool.not_true];obtain rfl|rfl|rfl|rfl|rfl:=A9 ha<;>obtain rfl|rfl|rfl|rfl|rfl:=A9 hb
 all_goals(try simp(disch:=omega)only[go_sem])
 all_goals(refine CD _ ?_)
 all_goals simp(disch:=omega)only[go_sem]
 all_goals exact wb (by decide)
def Pr(r:Bo)(a:BO):Ac C0 105 [.agg r.c,.agg a.c] [] (B (r.permits a)) []:=by
 refine Ac.go f105 ?_;unfold f105;simp(disch:=omega)only[go_sem]
 repeat'(first
  |(with_reducible refine And.intro (λh=>?_) (λh=>?_))
  |((with_reducible show A8 _ _ 154 _ _ _);refine Ag (Pu r) ?_ rfl ?_;(focus(simp(disch:=omega)only[go_sem];done));try simp(disch:=omega)only[go_sem])
  |((with_reducible show A8 _ _ 58 _ _ _);refine Ag (Ga a) ?_ rfl ?_;(focus(simp(disch:=omega)only[go_sem];done));try simp(disch:=omega)only[go_sem])
  |((with_reducible show A8 _ _ 155 _ _ _);refine Ag (Gp r a) ?_ rfl ?_;(focus(simp(disch:=omega)only[go_sem];done));try simp(disch:=omega)only[go_sem]))
 all_goals(refine CD _ ?_)
 all_goals(try simp(disch:=omega)only[go_sem])
 all_goals(first|refine wb ?_|refine wi ?_|refine .eq ?_)
 all_goals(first|(simp_all[Bo.permits]<;>omega)|(refine Bool.eq_iff_iff.2 ?_;simp_all[Bo.permits]<;>omega))
def Lo(p:Ad):Ac C0 82 [.agg p.c] [] (B p.ok) []:=by
 refine Ac.go f82 ?_;unfold f82;simp(disch:=omega)only[go_sem]
 repeat'(with_reducible refine And.intro (λh=>?_) (λh=>?_))
 all_goals(refine CD _ ?_)
 all_goals(try simp(disch:=omega)only[go_sem])
 all_goals(first|refine wb ?_|refine wi ?_|refine .eq ?_)
 all_goals(first|(simp_all[Ad.ok,AL]<;>omega)|(refine Bool.eq_iff_iff.2 ?_;simp_all[Ad.ok,AL]<;>omega))
def oT(a b:Int):Ac C0 291 [I a,I b] [] (B (Cg a b)) []:=by
 refine Ac.go f291 ?_;unfold f291;refine gO ?_;refine Ab (Nq a) ?_;cases ha:Bu a
 ·simp(disch:=omega)only[go_sem,Bool.not_false];refine Aj _ ?_;exact .eq (by simp[Cg,ha])
 simp(disch:=omega)only[go_sem,Bool.not_true];refine Ab (Nq b) ?_;cases hb:Bu b
 ·simp(disch:=omega)only[go_sem,Bool.not_false];refine Aj _ ?_;exact .eq (by simp[Cg,hb])
 simp(disch:=omega)only[go_sem,Bool.not_true];obtain rfl|rfl|rfl|rfl|rfl:=A9 ha<;>obtain rfl|rfl|rfl|rfl|rfl:=A9 hb
 all_goals(try simp(disch:=omega)only[go_sem])
 all_goals(refine CD _ ?_)
 all_goals simp(disch:=omega)only[go_sem]
 all_goals exact wb (by decide)
def Ph(a b:Int):Cg a b=Cg b a:=by
 cases ha:Bu a
 ·simp[Cg,ha]
 cases hb:Bu b
 ·simp[Cg,hb]
 obtain rfl|rfl|rfl|rfl|rfl:=A9 ha<;>obtain rfl|rfl|rfl|rfl|rfl:=A9 hb<;>decide
def oI(l:List AX)(hl:l.length<=1000000):Ac C0 260 [AY l] [] (Rt (l.map (·.AN))) []:=by
 refine Ac.go f260 ?_;unfold f260;refine gO ?_;refine AH (l) (λi=>⟨[(4,I i),(0,AY l),(3,.sl (.own 1152 0) 2 ((l.take i).map λh=>h.AN.c))],[]⟩) (λi=>True) trivial ?_ ?_
 ·exact B9
 rintro i ⟨hi,hP⟩ J hJ;refine gO ?_;refine Bp hi (λAu b hb Cc AR=>?_) λBf=>?_
 simp(disch:=omega)only[go_sem,gm,hb]
 ·refine hJ _ (i+1) ⟨by omega,trivial⟩ (by omega) (AQ.An ?_ gI);refine gO ?_;exact .sl (by simp[take_add_one,hb,BO.c])
 ·subst Bf;refine CK ⟨[],[],[1152]⟩ _ ?_;simp(disch:=omega)only[go_sem,take_length];exact .sl (by simp[BO.c])
def TI(a:BO):Ac C0 91 [.agg a.c] [] (B (Hc.fits a||Hg.fits a)) []:=by
 have e:(Hc.fits a||Hg.fits a)=(Bu a.mode&&a.Ax==0||(a.mode==0&&decide (1<=a.Ax)&&decide (a.Ax<=8))):=by
  refine Bool.eq_iff_iff.2 ?_;simp[Hc,Hg,Bo.fits,Bo.shaped,AL,and_assoc];exact⟨λh=>h.imp id λh=>⟨h.1,h.2.1,of_decide_eq_true h.2.2⟩,λh=>h.imp id λh=>⟨h.1,h.2.1,decide_eq_true h.2.2⟩⟩
 rw[e];refine Ac.go f91 ?_;unfold f91;simp(disch:=omega)only[go_sem]
 repeat'(first
  |(with_reducible refine And.intro (λh=>?_) (λh=>?_))
  |((with_reducible show A8 _ _ 145 _ _ _);refine Ag (Nq a.mode) ?_ rfl ?_;(focus(simp(disch:=omega)only[go_sem];done));try simp(disch:=omega)only[go_sem]))
 all_goals(refine CD _ ?_)
 all_goals(try simp(disch:=omega)only[go_sem])
 all_goals(first|refine wb ?_|refine wi ?_|refine .eq ?_)
 all_goals(first|(simp_all[]<;>omega)|(refine Bool.eq_iff_iff.2 ?_;simp_all[]<;>omega))
def dT(w:Ba):Ac C0 261 [.agg w.c] [] (B w.ok) []:=by
 refine Ac.go f261 ?_;unfold f261;simp(disch:=omega)only[go_sem]
 repeat'(first
  |(with_reducible refine And.intro (λh=>?_) (λh=>?_))
  |((with_reducible show A8 _ _ 82 _ _ _);refine Ag (Lo w.proc) ?_ rfl ?_;(focus(simp(disch:=omega)only[go_sem];done));try simp(disch:=omega)only[go_sem])
  |((with_reducible show A8 _ _ 91 _ _ _);refine Ag (TI w.AN) ?_ rfl ?_;(focus(simp(disch:=omega)only[go_sem];done));try simp(disch:=omega)only[go_sem]))
 all_goals(refine CD _ ?_)
 all_goals(try simp(disch:=omega)only[go_sem])
 all_goals(first|refine wb ?_|refine wi ?_|refine .eq ?_)
 all_goals(first|(simp_all[Ba.ok,AL]<;>omega)|(refine Bool.eq_iff_iff.2 ?_;simp_all[Ba.ok,AL]<;>omega))
def SJ(l:List Ba)(hl:l.length<=1000000):Ac C0 210 [BZ l] [] (B (DG l)) []:=by
 refine Ac.go f210 ?_;unfold f210
 by_cases h1:8<l.length
 ·have e1:(8<(l.length:Int))=True:=by simp;omega
  simp(disch:=omega)only[go_sem,e1];refine Aj _ ?_;exact .eq (by simp[DG];omega)
 have e1:(8<(l.length:Int))=False:=by simp;omega
 simp(disch:=omega)only[go_sem,e1,decide_false];refine AH (l) (λi=>⟨[(3,I i),(0,BZ l)],[]⟩) (λi=>Ci (Fp l) (l.take i)=true) rfl ?_ ?_
 ·exact B9
 rintro i ⟨hi,hP⟩ J hJ;refine gO ?_;refine Bp hi (λAu b hb Cc AR=>?_) λBf=>?_
 simp(disch:=omega)only[go_sem,gm,hb]
 ·refine Ab (dT b) ?_;cases hw:b.ok
  ·have e:DG l=false:=by simp[DG,BM hb (show Fp l i b=false by simp[Fp,hw])]
   simp(disch:=omega)only[go_sem,Bool.not_false,e];exact AM _
  simp(disch:=omega)only[go_sem,Bool.not_true,gm,hb];refine Ab (Nk l b.proc (by omega)) ?_;refine gO ?_;refine⟨λh=>?_,λh=>?_⟩
  ·have e:DG l=false:=by simp[DG,BM hb (show Fp l i b=false by simp at h;simp[Fp,h])]
   simp(disch:=omega)only[go_sem,e];exact AM _
  ·refine hJ _ (i+1) ⟨by omega,(by rw[Cl hb,hP];simp at h;simp[Fp,hw,h])⟩ (by omega) AS
 ·subst Bf;rw[take_length]at hP;have e:DG l=true:=by simp[DG,hP];omega
  simp(disch:=omega)only[go_sem,e];exact AM _
def EU(l:List BO):List Bool:=(List.range 6).map λk:Nat=>decide (k≠0)&&l.any λa=>a.mode==((k:Nat):Int)
theorem cQ:EU []=iX:=rfl
def UG(l:List BO)(k:Nat)(hk:k<6):(EU l).getD k false=(decide (k≠0)&&l.any λa=>a.mode==(k:Int)):=by
 simp[EU,List.getD,hk]
def Qe(l:List BO)(a:BO)(h:a.mode=0):EU (l++[a])=EU l:=by
 unfold EU;refine List.map_congr_left λk hk=>?_
 simp only[List.any_append,any_cons,any_nil,h]
 by_cases kB:k=0
 ·simp[kB]
 ·have:((0:Int)==(k:Int))=false:=by simp;omega
  simp[this]
def aB(l:List BO)(a:BO)(h:Bu a.mode=true):EU (l++[a])=(EU l).set a.mode.toNat true:=by
 have hm:=A9 h;refine List.ext_getElem (by simp[EU]) λk h1 h2=>?_
 have hk:k<6:=by simpa [EU]using h1
 simp only[EU,List.getElem_map,List.getElem_range,List.any_append,any_cons,any_nil,List.getElem_set]
 by_cases hx:a.mode.toNat=k
 ·have e:(a.mode==(k:Int))=true:=by simp;omega
  rw[if_pos hx,e];have:decide (k≠0)=true:=by simp;omega
  simp[this]
 ·have e:(a.mode==(k:Int))=false:=by simp;omega
  rw[if_neg hx,e];simp
def ir{l:List BO}{m:Int}(h:∀ a∈l,a.mode≠0->Cg m a.mode=true):EC (EU l) m=true:=by
 unfold EC;rw[List.all_eq_true];intro k hk;have hk6:k<6:=by simpa using hk
 rw[UG l k hk6]
 by_cases kB:k=0
 ·simp[kB]
 cases ha:l.any λa=>a.mode==(k:Int)
 ·simp
 ·obtain⟨a,hm,he⟩:=List.any_eq_true.1 ha;have SR:a.mode=k:=by simpa using he
  have:=h a hm (by omega);rw[SR,Ph]at this;simp[this]
def cP{l:List BO}{m:Int}{a:BO}(hm:a∈l)(h0:Bu a.mode=true)(h:Cg m a.mode=false):EC (EU l) m=false:=by
 have hc:=A9 h0;unfold EC;rw[List.all_eq_false];refine⟨a.mode.toNat,by simp;omega,?_⟩;rw[UG l _ (by omega)];have e1:decide (a.mode.toNat≠0)=true:=by simp;omega
 have e2:((a.mode.toNat:Nat):Int)=a.mode:=by omega
 have e3:(l.any λb=>b.mode==((a.mode.toNat:Nat):Int))=true:=by
  rw[List.any_eq_true];exact⟨a,hm,by simp[e2]⟩
 rw[e1,e3,e2,Ph,h];decide
def P6{r:Bo}{a:BO}(hk:r.kind=1)(h:r.permits a=true):a.Ax=0/\(a.mode=0\/Bu a.mode=true)/\a.zero=decide (a.mode=0):=by
 simp only[Bo.permits,Bool.and_eq_true,Bool.or_eq_true,Bo.fits,hk,if_true]at h;obtain⟨h1,h2|h2⟩:=h
 ·have hz:=h2;simp[BO.zero]at h2;exact⟨h2.2,.inl h2.1,by rw[hz];simp[h2.1]⟩
 ·obtain⟨_,h3,h4⟩:=h2;have:=A9 h3;simp at h4;exact⟨h4,.inr h3,by simp[BO.zero,h4];rfl⟩
def Yb{r:Bo}{a:BO}(hk:r.kind=2)(h:r.permits a=true):0<=a.Ax/\a.Ax<=8/\a.mode=0:=by
 have h':=JQ h;simp only[Bo.permits,Bool.and_eq_true,Bool.or_eq_true,Bo.fits,hk]at h;obtain⟨h1,h2|h2⟩:=h
 ·simp[BO.zero]at h2;omega
 ·simp at h2;omega
def aD{r:Bo}(h:r.shaped=true):(r.kind=1/\r.Ax=1)\/r.kind=2:=by
 simp only[Bo.shaped]at h;split at h
 ·simp at h;exact .inl ⟨by assumption,h⟩
 ·split at h
  ·exact .inr (by assumption)
  ·cases h
def oH(r:Bo)(l:List BO)(hl:l.length<=1000000):Ac C0 259 [.agg r.c,Rt l] [] (B (r.compat l)) []:=by
 refine Ac.go f259 ?_;unfold f259;refine gO ?_;refine Ab (Pu r) ?_;cases hs:r.shaped
 ·have e:r.compat l=false:=by simp[Bo.compat,hs]
  simp(disch:=omega)only[go_sem,Bool.not_false,e];exact AM _
 obtain⟨hu1,kN⟩:=LI hs;have rC:=aD hs;have PI:r.compat l=B5 r l 0 iX:=by simp[Bo.compat,hs]
 simp(disch:=omega)only[go_sem,Bool.not_true];refine Ao (α:=Nat × Int) (λq=>⟨[(6,I q.1),(1,Rt l),(5,I q.2),(2,.ptr 128 0)],[(128,r.c)]⟩)
  (λq=>q.1<=l.length/\(r.kind=1->q.2=0)/\0<=q.2/\q.2<=8/\(∀ a∈l.take q.1,r.permits a=true)/\B5 r (l.drop q.1) q.2 (EU (l.take q.1))=B5 r l 0 iX) (λq=>l.length-q.1) (0,0) ⟨by simp,by simp,by simp,by simp,by simp,by simp[cQ]⟩ ?_ ?_
 ·refine AQ.An ?_ ?_
  ·exact gI
  ·exact gI
 rintro⟨i,sum⟩ ⟨hi,Sh,uC,yg,eP,hc⟩ J hJ
 replace hi:i<=l.length:=hi
 replace Sh:r.kind=1->sum=0:=Sh
 replace uC:0<=sum:=uC
 replace yg:sum<=8:=yg
 replace eP:∀ a∈l.take i,r.permits a=true:=eP
 replace hc:B5 r (l.drop i) sum (EU (l.take i))=B5 r l 0 iX:=hc
 refine gO ?_;refine ⟨λAu=>?_,λG9=>?_⟩
 ·have Fx:i<l.length:=by simp at Au;omega
  obtain⟨b,hb⟩:∃ b,l[i]?=some b:=⟨_,gE Fx⟩;have hd:l.drop i=b::l.drop (i+1):=by
   rw[List.drop_eq_getElem_cons Fx];rw[gE Fx]at hb;injection hb with hb
   rw[hb]
  have ht:l.take (i+1)=l.take i++[b]:=by rw[take_add_one,hb];rfl
  rw[hd]at hc;simp only[B5]at hc;refine Av 5 [([],[2]),([],[1]),([],[6]),([],[18,19]),([],[20])] B7 ?_;simp(disch:=omega)only[go_sem,gm,hb];refine Ab (Pr r b) ?_;cases hp:r.permits b
  ·have e:r.compat l=false:=by rw[PI,<- hc,hp];rfl
   simp(disch:=omega)only[go_sem,Bool.not_false,e];exact AM _
  obtain⟨iO,hb8,Cc⟩:=JQ hp;have kK:∀ a∈l.take (i+1),r.permits a=true:=λa ha=>by
   rw[ht]at ha;rcases mem_append.1 ha with h|h
   ·exact eP a h
   ·simp at h;rw[h];exact hp
  rw[hp]at hc
  by_cases SS:r.kind=2
  ·have e2:(r.kind==2)=true:=by simp[SS]
   obtain⟨_,_,hm⟩:=Yb SS hp
   by_cases OE:r.Ax<sum+b.Ax
   ·have e:r.compat l=false:=by rw[PI,<- hc];simp[OE]
    simp(disch:=omega)only[go_sem,Bool.not_true,e2,gm,hb,OE,e];exact AM _
   simp(disch:=omega)only[go_sem,Bool.not_true,e2,gm,hb,OE,decide_false];refine hJ _ (i+1,sum+b.Ax) ⟨by simp;omega,by simp;omega,by simp;omega,by simp;omega,kK,?_⟩ (by simp;omega) AS;simp only[ht];rw[Qe _ _ hm];simpa [OE,hm]using hc
  have tW:r.kind=1:=by rcases rC with h|h;exact h.1;exact absurd h SS
  have hru:r.Ax=1:=by rcases rC with h|h;exact h.2;exact absurd h SS
  have e2:(r.kind==2)=false:=by simp[SS]
  have Abx:=Sh tW;subst Abx;obtain⟨hbu,AaI,hbz⟩:=P6 tW hp;have OE:¬ r.Ax<0+b.Ax:=by omega
  have RR:(if b.mode=0 then B5 r (l.drop (i+1)) 0 (EU (l.take i)) else EC (EU (l.take i)) b.mode&&B5 r (l.drop (i+1)) 0 ((EU (l.take i)).set b.mode.toNat true))=B5 r l 0 iX:=by
   rw[hbu]at hc OE;simp only[Int.add_zero]at hc OE;rw[decide_eq_false OE]at hc;exact hc
  simp(disch:=omega)only[go_sem,Bool.not_true,e2];refine Ao (α:=Nat) (λk=>⟨[(7,I k),(6,I i),(1,Rt l),(5,I 0),(2,.ptr 128 0)],[(128,r.c)]⟩)
   (λk=>k<=i/\(b.mode=0\/∀ a∈l.take k,a.mode≠0->Cg b.mode a.mode=true)) (λk=>i-k) 0 ⟨by omega,.inr (by simp)⟩ ?_ ?_
  ·refine AQ.An ?_ ?_
   ·exact gI
   ·exact gI
  rintro k ⟨hk,vT⟩ J2 SO;refine gO ?_;refine And.intro (λbW=>?_) (λtU=>?_)
  ·have kD:k<i:=by simp at bW;omega
   obtain⟨a,ha⟩:∃ a,l[k]?=some a:=⟨_,gE (by omega)⟩;have hak:l.take (k+1)=l.take k++[a]:=by rw[take_add_one,ha];rfl
   have ham:a∈l.take i:=by
    rw[List.mem_take_iff_getElem];exact⟨k,by omega,by rw[gE (by omega)]at ha;injection ha⟩
   obtain⟨hau,AaF,haz⟩:=P6 tW (eP a ham);refine Av 25 [([],[1]),([],[6]),([],[43,44]),([],[45]),([],[46]),([4],[47]),([4],[48]),([4],[1,49]),([4],[7,49]),([4],[50,51,49]),([4],[52,49]),([4],[53,49]),([4,11],[54,49]),([4,11],[49,55]),([4,11],[56]),([4,11],[1,57]),([4,11],[6,57]),([4,11],[58,59,57]),([4,11],[60,57]),([4,11],[61,57]),([4,11],[1,57]),([4,11],[7,57]),([4,11],[63,64,57]),([4,11],[65,57]),([4,11],[66,57])] B7 ?_;simp(disch:=omega)only[go_sem,gm,hb,ha];refine Aq (Ga b) ?_;rw[hbz]
   by_cases U8:b.mode=0
   ·simp(disch:=omega)only[go_sem,U8,decide_true,Bool.not_true];refine SO _ (k+1) ⟨by omega,.inl U8⟩ (by omega) AS
   simp(disch:=omega)only[go_sem,U8,decide_false,Bool.not_false,gm,ha,hb];refine Aq (Ga a) ?_;rw[haz]
   by_cases pn:a.mode=0
   ·simp(disch:=omega)only[go_sem,pn,decide_true,Bool.not_true];refine SO _ (k+1) ⟨by omega,?_⟩ (by omega) AS;rcases vT with h|h
    ·exact .inl h
    ·refine .inr λx hx mS=>?_
     rw[hak]at hx;rcases mem_append.1 hx with h'|h'
     ·exact h x h' mS
     ·simp at h';rw[h']at mS;exact absurd pn mS
   simp(disch:=omega)only[go_sem,pn,decide_false,Bool.not_false,gm,hb,ha];refine Ab (oT b.mode a.mode) ?_;have AaG:Bu a.mode=true:=by rcases AaF with h|h;exact absurd h pn;exact h
   cases tN:Cg b.mode a.mode
   ·have e:r.compat l=false:=by
     rw[PI,<- RR,if_neg U8,cP ham AaG tN];rfl
    simp(disch:=omega)only[go_sem,Bool.not_false,e];exact AM _
   ·simp(disch:=omega)only[go_sem,Bool.not_true];refine SO _ (k+1) ⟨by omega,?_⟩ (by omega) AS;rcases vT with h|h
    ·exact .inl h
    ·refine .inr λx hx mS=>?_
     rw[hak]at hx;rcases mem_append.1 hx with h'|h'
     ·exact h x h' mS
     ·simp at h';rw[h'];exact tN
  ·have kD:k=i:=by simp at tU;omega
   subst kD;refine hJ _ (k+1,0) ⟨by simp;omega,by simp,by simp,by simp,kK,?_⟩ (by simp;omega) AS;simp only[ht]
   by_cases U8:b.mode=0
   ·rw[Qe _ _ U8]
    rwa [if_pos U8]at RR
   ·have hbo:Bu b.mode=true:=by rcases AaI with h|h;exact absurd h U8;exact h
    rw[aB _ _ hbo];rw[if_neg U8]at RR;have hso:EC (EU (l.take k)) b.mode=true:=ir (by rcases vT with h|h;exact absurd h U8;exact h)
    rwa [hso,Bool.true_and]at RR
 ·have Bf:i=l.length:=by simp at G9;omega
  subst Bf;rw[drop_length]at hc;have e:r.compat l=true:=by rw[PI,<- hc];rfl
  simp(disch:=omega)only[go_sem,e];exact AM _
end Go.Rd
