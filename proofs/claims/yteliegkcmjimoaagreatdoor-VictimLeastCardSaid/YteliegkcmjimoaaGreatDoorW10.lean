/- part 10 of the proof -/
import Derived.Test.YteliegkcmjimoaaGreatDoorW09
set_option linter.all false
open Go Go.Abs Go.Proofs
set_option maxRecDepth 100000
namespace Go.Rd
set_option maxHeartbeats 8000000
open List (drop_length take_add_one take_length)
open Option (isSome_some)
open Tryz
def p0:Ac:=⟨0,0,0⟩
def h0:A9:=⟨⟨0,0,0⟩,⟨0,0⟩⟩
def Fg(r:BE)(l:List A9)(i:Nat)(h:A9):Bool:=h.proc.ok&&r.fits h.AH&&(decide (i=0)||decide (BF (l.getD (i-1) h0).proc h.proc<0))
def BV(r:BE)(l:List A9):Bool:=r.shaped&&decide (l.length<=8)&&Cu (Fg r l) l&&r.compat (l.map (·.AH))
def Vl(r:BE)(l:List A9):Ad C0 230 [.agg r.c,Bg l] [] (B (BV r l)) []:=by
 refine Ad.go f230 ?_;unfold f230;refine gO ?_;refine Ab (RC r) ?_;cases hs:r.shaped
 ·have e:BV r l=false:=by simp[BV,hs]
  simp(disch:=omega)only[go_sem,Bool.not_false,e];exact AQ _
 by_cases h8:8<l.length
 ·have e1:(8<(l.length:Int))=True:=by simp;omega
  have e:BV r l=false:=by simp[BV];omega
  simp(disch:=omega)only[go_sem,Bool.not_true,e1,e];exact AQ _
 have e1:(8<(l.length:Int))=False:=by simp;omega
 simp(disch:=omega)only[go_sem,Bool.not_true,e1,decide_false];refine AF (l) (λi=>⟨[(18,I i),(17,I l.length),(16,Bg l),(1,Bg l),(2,.ptr 128 0),(5,.sl (.own 3328 0) 2 ((l.take i).map λh=>h.AH.c))],[(128,r.c)]⟩) (λi=>Cu (Fg r l) (l.take i)=true) rfl ?_ ?_
 ·exact Ce
 rintro i ⟨hi,hP⟩ J hJ;refine gO ?_;refine Bo hi (λAP b hb Cg AX=>?_) λBa=>?_
 simp(disch:=omega)only[go_sem,gm,hb]
 ·refine Ab (Wo b.proc) ?_;have bad:Fg r l i b=false->BV r l=false:=λh=>by simp[BV,B5 hb h]
  cases hp:b.proc.ok
  ·simp(disch:=omega)only[go_sem,Bool.not_false,bad (by simp[Fg,hp])];exact AQ _
  simp(disch:=omega)only[go_sem,Bool.not_true];refine Ab (Ic r b.AH) ?_;cases hf:r.fits b.AH
  ·simp(disch:=omega)only[go_sem,Bool.not_false,bad (by simp[Fg,hf])];exact AQ _
  simp(disch:=omega)only[go_sem,Bool.not_true];refine Ay 11 [([],[6]),([],[34]),([],[35]),([],[1,36]),([],[6,36]),([],[38,36]),([],[37,39,36]),([],[40,36]),([],[41,36]),([],[7,36]),([],[43,36])] B6 ?_;have FM:(decide (i=0)||decide (BF (l.getD (i-1) h0).proc b.proc<0))=true->Cu (Fg r l) (l.take (i+1))=true:=λh=>by
   rw[CB hb,hP];simp only[Fg,hp,hf,h];rfl
  by_cases QI:i=0
  ·subst QI;refine gO ?_;refine hJ _ 1 ⟨by omega,FM (by simp)⟩ (by omega) (AT.Aq ?_ gI);refine gO ?_;exact .sl (by simp[List.take_one,List.head?_eq_getElem?,hb,BR.c])
  ·have QJ:(0<(i:Int))=True:=by simp;omega
   have NP:((i:Int)-1)=((i-1:Nat):Int):=by omega
   obtain⟨a,ha⟩:∃ a,l[i-1]?=some a:=⟨_,gE (by omega)⟩;have UK:l.getD (i-1) h0=a:=by simp[List.getD,ha]
   simp(disch:=omega)only[go_sem,QJ,NP,gm,ha];refine Ab (LC a.proc b.proc) ?_;refine gO ?_
   by_cases hc:0<=BF a.proc b.proc
   ·have e:BV r l=false:=bad (by simp only[Fg,UK];simp[QI];omega);simp(disch:=omega)only[go_sem,hc,e];exact AQ _
   ·simp(disch:=omega)only[go_sem,hc,decide_false];refine hJ _ (i+1) ⟨by omega,FM (by rw[UK];simp;omega)⟩ (by omega) (AT.Aq ?_ gI);refine gO ?_;exact .sl (by simp[take_add_one,hb,BR.c])
 ·subst Ba;rw[take_length]at hP;have ee:BV r l=r.compat (l.map (·.AH)):=by simp[BV,hs,hP];omega
  refine B4 [3328] (wB r (l.map (·.AH)) (by simp;omega)) ?_ rfl trivial ?_
  ·simp(disch:=omega)only[go_sem,take_length];exact .sl (by simp[BR.c])
  rw[ee];refine gO ?_;exact AQ _
def we(r:BE)(l:List A9)(p:Ac)(a:BR):Ad C0 233 [.agg r.c,Bg l,.agg p.c,.agg a.c] [] (B (BV r l&&p.ok&&r.fits a)) []:=by
 refine Ad.go f233 ?_;unfold f233;simp(disch:=omega)only[go_sem]
 repeat'(first
  |(with_reducible refine And.intro (λh=>?_) (λh=>?_))
  |((with_reducible show Bi _ _ 230 _ _ _);refine Ai (Vl r l) ?_ rfl ?_;(focus(simp(disch:=omega)only[go_sem];done));try simp(disch:=omega)only[go_sem])
  |((with_reducible show Bi _ _ 72 _ _ _);refine Ai (Wo p) ?_ rfl ?_;(focus(simp(disch:=omega)only[go_sem];done));try simp(disch:=omega)only[go_sem])
  |((with_reducible show Bi _ _ 234 _ _ _);refine Ai (Ic r a) ?_ rfl ?_;(focus(simp(disch:=omega)only[go_sem];done));try simp(disch:=omega)only[go_sem]))
 all_goals(refine CT _ ?_)
 all_goals(try simp(disch:=omega)only[go_sem])
 all_goals(refine .eq ?_)
 all_goals(first|(simp_all[]<;>omega)|(refine Bool.eq_iff_iff.2 ?_;simp_all[]<;>omega))
def w0:Bh:=⟨⟨0,0,0⟩,⟨0,0⟩,0,0⟩
def BZ(q:Queue):Option Bh:=match q.As++q.waits with
 | w::_=>some w
 |[]=>none
def kB(q:Queue):Ad C0 175 [.agg q.c] [] (.BC [.agg ((BZ q).getD w0).c,B (BZ q).isSome]) []:=by
 refine Ad.go f175 ?_;unfold f175
 match hq:q.As,hw:q.waits with
 | w::l,_ =>
  have e:BZ q=some w:=by simp[BZ,hq]
  have e1:(0<(l.length:Int)+1)=True:=by simp
  simp(disch:=omega)only[go_sem,hq,e,e1,isSome_some];exact AQ _
 |[],w::l =>
  have e:BZ q=some w:=by simp[BZ,hq,hw]
  have e1:(0<(l.length:Int)+1)=True:=by simp
  simp(disch:=omega)only[go_sem,hq,hw,e,e1,isSome_some];exact AQ _
 |[],[] =>
  have e:BZ q=none:=by simp[BZ,hq,hw]
  simp(disch:=omega)only[go_sem,hq,hw,e,Option.isSome_none,w0];exact AQ _
def aL(q:Queue)(h1:q.holds.length<=1000000)(h2:q.As.length<=1000000)(h3:q.waits.length<=1000000):Ad C0 184 [.agg q.c] [] (.agg q.c) []:=by
 refine Ad.go f184 ?_;unfold f184;refine gO ?_;refine CU ⟨[],[],[320,576,832]⟩ _ ?_;simp(disch:=omega)only[go_sem,Bg]
def vK(a:Atom):Ad C0 178 [.agg a.c] [] (B (B9 a.name&&(Il.fits a.AH||Ir.fits a.AH))) []:=by
 refine Ad.go f178 ?_;unfold f178;simp(disch:=omega)only[go_sem]
 repeat'(first
  |(with_reducible refine And.intro (λh=>?_) (λh=>?_))
  |((with_reducible show Bi _ _ 88 _ _ _);refine Ai (aV a.name) ?_ rfl ?_;(focus(simp(disch:=omega)only[go_sem];done));try simp(disch:=omega)only[go_sem])
  |((with_reducible show Bi _ _ 234 _ _ _);refine Ai (Ic ⟨[],1,1,0⟩ a.AH) ?_ rfl ?_;(focus(simp(disch:=omega)only[go_sem];done));try simp(disch:=omega)only[go_sem])
  |((with_reducible show Bi _ _ 234 _ _ _);refine Ai (Ic ⟨[],2,8,0⟩ a.AH) ?_ rfl ?_;(focus(simp(disch:=omega)only[go_sem];done));try simp(disch:=omega)only[go_sem]))
 all_goals(refine CT _ ?_)
 all_goals(try simp(disch:=omega)only[go_sem])
 all_goals(refine .eq ?_)
 all_goals(first|(simp_all[Il,Ir]<;>omega)|(refine Bool.eq_iff_iff.2 ?_;simp_all[Il,Ir]<;>omega))
mutual
def meas:Expr->Int->Int->Int × Int
 |.mk _ _ kids,lv,n=>if 4<lv\/24<n+1 then (0,n+1) else Gk kids lv (n+1) 0
def Gk:List Expr->Int->Int->Int->Int × Int
 |[],_,n,d=>(d+1,n)
 | e::l,lv,n,d=>if (meas e (lv+1) n).1=0 then (0,(meas e (lv+1) n).2) else Gk l lv (meas e (lv+1) n).2 (max d (meas e (lv+1) n).1)
end
def Ml(e:Expr)(lv n:Int):meas e lv n=if 4<lv\/24<n+1 then (0,n+1) else Gk e.kids lv (n+1) 0:=by cases e;simp[meas,Expr.kids]
def EM{e k:Expr}(h:k∈e.kids):SizeOf.sizeOf k<SizeOf.sizeOf e:=by
 cases e with
 | mk a b l =>
  have h:k∈l:=h;have:=List.sizeOf_lt_of_mem h;simp;omega
def bd(lv:Int)(x:Int × Int):Prop:=0<=x.1/\x.1<=6-lv/\0<=x.2/\x.2<=25/\(x.1≠0->x.2<=24)
def eu(lv:Int)(h1:1<=lv)(h4:lv<=4):∀ (l:List Expr) (n d:Int),(∀ e∈l,∀ n:Int,0<=n->n<=24->bd (lv+1) (meas e (lv+1) n))->0<=n->n<=24->0<=d->d<=5-lv->bd lv (Gk l lv n d)
 |[],n,d,_,hn,Y4,hd,cj=>by
  simp only[Gk,bd];omega
 | e::l,n,d,hk,hn,Y4,hd,cj=>by
  obtain⟨b1,b2,b3,b4,b5⟩:=hk e (by simp) n hn Y4;simp only[Gk];split
  ·simp only[bd];omega
  ·rename_i h0;have:=b5 h0;exact eu lv h1 h4 l _ _ (λe' he=>hk e' (by simp[he])) b3 this (by omega) (by omega)
def PK:∀ (N:Nat) (e:Expr),SizeOf.sizeOf e<N->∀ lv n:Int,1<=lv->lv<=5->0<=n->n<=24->bd lv (meas e lv n)
 | 0,_,h,_,_,_,_,_,_=>by omega
 | N+1,e,h,lv,n,h1,h5,h2,h3=>by
  rw[Ml];split
  ·simp only[bd];omega
  ·rename_i hc;exact eu lv h1 (by omega) _ _ _ (λe' he n' hn Y4=>PK N e' (by have:=EM he;omega) _ _ (by omega) (by omega) hn Y4) (by omega) (by omega) (by omega) (by omega)
def kD:∀ (N:Nat) (e:Expr),SizeOf.sizeOf e<N->∀ lv n:Int,1<=lv->lv<=5->0<=n->n<=24 ->
 Ad C0 177 [.agg e.c,I lv,.ptr 63 0] [(63,[I n])] (I (meas e lv n).1) [(63,[I (meas e lv n).2])]
 | 0,_,h,_,_,_,_,_,_=>by omega
 | N+1,e,h,lv,n,h1,h5,h2,h3=>by
  refine Ad.lens f177 λhlen=>?_
  simp only[FZ,lens,Expr.Dg,List.length_map,and_true,true_and]at hlen;refine Ad.go f177 ?_;unfold f177
  by_cases hc:4<lv\/24<n+1
  ·have em:meas e lv n=(0,n+1):=by rw[Ml,if_pos hc]
   simp(disch:=omega)only[go_sem,em]
   repeat'(with_reducible refine And.intro (λh=>?_) (λh=>?_))
   all_goals(try(exfalso;simp_all;omega))
   all_goals(refine AY ⟨[],[(63,63)],[]⟩ _ rfl ⟨rfl,rfl⟩ (by simp[lk]) ?_ ?_)
   all_goals simp(disch:=omega)only[go_sem]
  have em:meas e lv n=Gk e.kids lv (n+1) 0:=by rw[Ml,if_neg hc]
  have cg:(4<lv)=False:=by simp;omega
  have ba:(24<n+1)=False:=by simp;omega
  simp(disch:=omega)only[go_sem,em,cg,ba,decide_false];refine Ao (α:=Nat × Int × Int) (λq=>⟨[(27,I q.1),(26,I e.kids.length),(25,JP e.kids),(7,I q.2.2),(1,I lv),(2,.ptr 63 0)],[(63,[I q.2.1])]⟩)
   (λq=>q.1<=e.kids.length/\0<=q.2.1/\q.2.1<=24/\0<=q.2.2/\q.2.2<=5-lv/\Gk (e.kids.drop q.1) lv q.2.1 q.2.2=Gk e.kids lv (n+1) 0) (λq=>e.kids.length-q.1) (0,n+1,0) ⟨by simp,by simp;omega,by simp;omega,by simp,by simp;omega,by simp⟩ ?_ ?_
  ·refine AT.Aq ?_ ?_
   ·exact gI
   ·exact gI
  rintro⟨i,m,d⟩ ⟨hi,uD,hm,tD,hd,hr⟩ J hJ
  replace hi:i<=e.kids.length:=hi
  replace uD:0<=m:=uD
  replace hm:m<=24:=hm
  replace tD:0<=d:=tD
  replace hd:d<=5-lv:=hd
  replace hr:Gk (e.kids.drop i) lv m d=Gk e.kids lv (n+1) 0:=hr
  refine gO ?_;refine ⟨λAP=>?_,λJX=>?_⟩
  ·have H0:i<e.kids.length:=by simp at AP;omega
   have hb:e.kids[i]?=some e.kids[i]:=gE H0;have Hb:=EM (List.getElem_mem H0);have bf:e.kids.drop i=e.kids[i]::e.kids.drop (i+1):=List.drop_eq_getElem_cons H0;generalize e.kids[i]=b at hb Hb bf;rw[bf]at hr;simp only[Gk]at hr;simp(disch:=omega)only[go_sem,gm,hb];refine By ⟨⟨[],[(63,63)],[]⟩,[],[]⟩ (kD N b (by omega) (lv+1) m (by omega) (by omega) uD hm) gI rfl gI (.inl rfl) ?_;obtain⟨b1,b2,b3,b4,b5⟩:=PK N b (by omega) (lv+1) m (by omega) (by omega) uD hm;generalize meas b (lv+1) m=x at hr b1 b2 b3 b4 b5
   by_cases h0:x.1=0
   ·have e0:(x.1==0)=true:=by simp[h0]
    rw[if_pos h0]at hr;simp(disch:=omega)only[go_sem,e0];refine AY ⟨[],[(63,63)],[]⟩ _ rfl ⟨rfl,rfl⟩ (by simp[lk]) ?_ ?_
    ·simp(disch:=omega)only[go_sem,<- hr]
    ·simp(disch:=omega)only[go_sem,<- hr]
   ·have e0:(x.1==0)=false:=by simp[h0]
    rw[if_neg h0]at hr;have hx:=b5 h0;simp(disch:=omega)only[go_sem,e0];refine hJ _ (i+1,x.2,max d x.1) ⟨by simp;omega,b3,hx,by simp;omega,by simp;omega,hr⟩ (by simp;omega) (AT.Aq ?_ gI);refine gO ?_;exact .int (by rw[Int.max_def];split<;>split<;>omega)
  ·have Ba:i=e.kids.length:=by simp at JX;omega
   subst Ba;rw[drop_length]at hr;simp only[Gk]at hr;simp(disch:=omega)only[go_sem,<- hr];refine AY ⟨[],[(63,63)],[]⟩ _ rfl ⟨rfl,rfl⟩ (by simp[lk]) ?_ ?_
   ·exact gI
   ·exact gI
def depth(e:Expr):Int:=(meas e 1 0).1
theorem vp(e:Expr):Ad C0 122 [.agg e.c] [] (I (depth e)) []:=by
 refine Ad.go f122 ?_;unfold f122;refine gO ?_;refine By ⟨⟨[],[(192,63)],[]⟩,[],[]⟩ (kD _ e (Nat.lt_succ_self _) 1 0 (by omega) (by omega) (by omega) (by omega)) gI rfl gI (.inl rfl) ?_;refine gO ?_;refine Al _ ?_;exact .eq rfl
@[go_sem] theorem AgW(p q:Atom):(p.name==q.name&&decide (p.AH=q.AH))=decide (p=q):=by
 cases p;cases q;refine Bool.eq_iff_iff.2 ?_;simp
def pF(a b:Atom):Bool:=decide (a=b)||a.name==b.name
def Gl(l:List Atom)(a:Atom):Int × List Atom:=match l.find? (pF a) with
 |some b=>(if a=b then 0 else 13,l)
 |none=>if l.length=8 then (4,l) else (0,l++[a])
@[reducible] def DY(r:Nat)(l:List Atom):AV:=.sl (.own r 0) 3 (l.map Atom.c)
theorem vL(l:List Atom)(a:Atom)(h8:l.length<=8):Ad C0 179 [.ptr 63 0,.agg a.c] [(63,[DY 0 l])] (I (Gl l a).1) [(63,[DY 1 (Gl l a).2])]:=by
 refine Ad.go f179 ?_;unfold f179;refine gO ?_;refine AF (l) (λi=>⟨[(11,I i),(10,I l.length),(9,DY 0 l),(0,.ptr 63 0),(3,.ptr 192 0)],[(63,[DY 0 l]),(192,a.c)]⟩) (λi=>(l.take i).find? (pF a)=none) rfl ?_ ?_
 ·exact Ce
 rintro i ⟨hi,hP⟩ J hJ;refine gO ?_;refine Bo hi (λAP b hb Cg AX=>?_) λBa=>?_
 simp(disch:=omega)only[go_sem,gm,hb]
 ·refine⟨λh=>?_,λh=>?_⟩
  ·have e:Gl l a=(0,l):=by
    unfold Gl;rw[Hq hP hb (by simp at h;simp[pF,h])];simp at h;simp[h]
   simp(disch:=omega)only[go_sem,e];refine AY ⟨[(0,1)],[(63,63)],[]⟩ _ rfl ⟨rfl,rfl⟩ (by simp[lk]) ?_ ?_
   ·exact gI
   ·exact gI
  refine And.intro (λh'=>?_) (λh'=>?_)
  ·have e:Gl l a=(13,l):=by
    unfold Gl;rw[Hq hP hb (by simp at h';simp[pF,h'])];simp at h;simp[h]
   simp(disch:=omega)only[go_sem,e];refine AY ⟨[(0,1)],[(63,63)],[]⟩ _ rfl ⟨rfl,rfl⟩ (by simp[lk]) ?_ ?_
   ·exact gI
   ·exact gI
  ·refine hJ _ (i+1) ⟨by omega,(by rw[Cp hP hb];simp at h h';simp[pF,h,h'])⟩ (by omega) AK
 ·subst Ba;rw[take_length]at hP
  by_cases h9:l.length=8
  ·have e:Gl l a=(4,l):=by unfold Gl;rw[hP];simp[h9]
   have e9:((l.length:Int)==8)=true:=by simp[h9];
   simp(disch:=omega)only[go_sem,e,e9];refine AY ⟨[(0,1)],[(63,63)],[]⟩ _ rfl ⟨rfl,rfl⟩ (by simp[lk]) ?_ ?_
   ·exact gI
   ·exact gI
  ·have e:Gl l a=(0,l++[a]):=by unfold Gl;rw[hP];simp[h9]
   have e9:((l.length:Int)==8)=false:=by simp;omega
   simp(disch:=omega)only[go_sem,e,e9];refine Wc (let o0:OT:=.done;let o1:OT:=.pick [(8,o0)];let o2:OT:=.pick [(7,o1)];let o3:OT:=.pick [(6,o2)];let o4:OT:=.pick [(5,o3)];let o5:OT:=.pick [(4,o4)];let o6:OT:=.pick [(3,o3)];let o7:OT:=.pick [(3,o4),(5,o6)];let o8:OT:=.pick [(3,o5),(4,o7)];let o9:OT:=.pick [(2,o6)];let gu:OT:=.pick [(2,o7),(5,o9)];let oL:OT:=.pick [(2,o8),(4,gu)];let xM:OT:=.pick [(1,o9)];let sN:OT:=.pick [(1,gu),(5,xM)];let Y3:OT:=.pick [(1,oL),(4,sN)];let zo:OT:=.pick [(0,o2)];let Za:OT:=.pick [(0,o3),(6,zo)];let uJ:OT:=.pick [(0,o4),(5,Za)];let Zu:OT:=.pick [(0,o5),(4,uJ)];let zq:OT:=.pick [(0,o6),(3,Za)];let oB:OT:=.pick [(0,o7),(3,uJ),(5,zq)];let zr:OT:=.pick [(0,o8),(3,Zu),(4,oB)];let zt:OT:=.pick [(0,o9),(2,zq)];let zu:OT:=.pick [(0,gu),(2,oB),(5,zt)];let Zy:OT:=.pick [(0,oL),(2,zr),(4,zu)];let ZH:OT:=.pick [(0,xM),(1,zt)];let ab:OT:=.pick [(0,sN),(1,zu),(5,ZH)];let oH:OT:=.pick [(0,Y3),(1,Zy),(4,ab)];oH) B6 (by kernel_rfl) ?_;simp(disch:=omega)only[go_sem]
   repeat'(with_reducible refine And.intro ?_ ?_)
   all_goals(refine AY ⟨[(2240,1)],[(63,63)],[]⟩ _ rfl ⟨rfl,rfl⟩ (by simp[lk]) ?_ ?_)
   all_goals(try simp(disch:=omega)only[go_sem])
   all_goals exact .sl (by simp[Atom.c])
theorem sM{l:List Atom}{a:Atom}(h:l.length<=8):(Gl l a).2.length<=8:=by grind[Gl]
def MZ(a:Atom):Bool:=B9 a.name&&(Il.fits a.AH||Ir.fits a.AH)
def a0:Atom:=⟨[],⟨0,0⟩⟩
def ah(p:Atom):(p.name==[]&&(p.AH.mode==0&&p.AH.AG==0))=decide (p=a0):=by
 cases p with
 | mk n a =>
  cases a;refine Bool.eq_iff_iff.2 ?_;simp[a0]
mutual
def prop:Expr->List Atom->Bool × List Atom
 |.mk k a kids,l=>if kids.length=0 then (if k=0/\MZ a=true then ((Gl l a).1==0,(Gl l a).2) else (false,l))
  else if k<1\/(kids.length:Int)<k\/a≠a0 then (false,l) else C4 kids l
def C4:List Expr->List Atom->Bool × List Atom
 |[],l=>(true,l)
 | e::es,l=>if (prop e l).1=true then C4 es (prop e l).2 else (false,(prop e l).2)
end
theorem EW(e:Expr)(l:List Atom):prop e l=if e.kids.length=0 then (if e.k=0/\MZ e.atom=true then ((Gl l e.atom).1==0,(Gl l e.atom).2) else (false,l))
 else if e.k<1\/(e.kids.length:Int)<e.k\/e.atom≠a0 then (false,l) else C4 e.kids l:=by
 cases e;simp only[prop];rfl
def eU:∀ (es:List Expr) (l:List Atom),(∀ e∈es,∀ l:List Atom,l.length<=8->(prop e l).2.length<=8)->l.length<=8->(C4 es l).2.length<=8
 |[],l,_,h=>by grind[C4]
 | e::es,l,hk,h=>by
  have:=hk e (by simp) l h;simp only[C4];split
  ·exact eU es _ (λe' he=>hk e' (by simp[he])) this
  ·exact this
def VB:∀ (N:Nat) (e:Expr),SizeOf.sizeOf e<N->∀ l:List Atom,l.length<=8->(prop e l).2.length<=8
 | 0,_,h,_,_=>by omega
 | N+1,e,h,l,hl=>by
  rw[EW];split
  ·grind[sM]
  ·split
   ·omega
   ·exact eU _ _ (λe' he l' bj=>VB N e' (by have:=EM he;omega) l' bj) hl
def kb:∀ (N:Nat) (e:Expr),SizeOf.sizeOf e<N->∀ l:List Atom,l.length<=8 ->
 Ad C0 123 [.agg e.c,.ptr 63 0] [(63,[DY 0 l])] (B (prop e l).1) [(63,[DY 1 (prop e l).2])]
 | 0,_,h,_,_=>by omega
 | N+1,e,h,l,hl=>by
  refine Ad.lens f123 λhlen=>?_
  simp[FZ,lens,Expr.Dg,List.length_map,and_true,true_and]at hlen;refine Ad.go f123 ?_;unfold f123
  by_cases hk:e.kids.length=0
  ·have e1:((e.kids.length:Int)==0)=true:=by grind
   simp only[go_sem,e1]
   by_cases h0:e.k=0
   ·have e2:(e.k==0)=true:=by grind
    simp only[go_sem,e2];refine Ab (vK e.atom) ?_;cases ha:MZ e.atom
    ·have NZ:(B9 e.atom.name&&(Il.fits e.atom.AH||Ir.fits e.atom.AH))=false:=ha;have ep:prop e l=(false,l):=by simp_all[EW]
     simp only[go_sem,NZ,ep];refine AY ⟨[(0,1)],[(63,63)],[]⟩ _ rfl ⟨rfl,rfl⟩ (by simp[lk]) ?_ ?_
     ·exact gI
     ·exact gI
    ·have NZ:(B9 e.atom.name&&(Il.fits e.atom.AH||Ir.fits e.atom.AH))=true:=ha;have ep:prop e l=((Gl l e.atom).1==0,(Gl l e.atom).2):=by simp_all[EW]
     simp only[go_sem,NZ,ep];refine By ⟨⟨[(0,0)],[(63,63)],[]⟩,[(1,1472)],[]⟩ (vL l e.atom hl) gI rfl gI (.inl rfl) (gO ?_);refine AY ⟨[(1472,1)],[(63,63)],[]⟩ _ rfl ⟨rfl,rfl⟩ (by simp[lk]) ?_ ?_
     ·exact gI
     ·exact gI
   ·have e2:(e.k==0)=false:=by grind
    have ep:prop e l=(false,l):=by simp_all[EW]
    simp only[go_sem,e2,ep];refine AY ⟨[(0,1)],[(63,63)],[]⟩ _ rfl ⟨rfl,rfl⟩ (by simp[lk]) ?_ ?_
    ·exact gI
    ·exact gI
  have e1:((e.kids.length:Int)==0)=false:=by grind
  have ez:(e.atom.name==[]&&(e.atom.AH.mode==0&&e.atom.AH.AG==0))=decide (e.atom=a0):=ah e.atom
  by_cases S1:e.k<1\/(e.kids.length:Int)<e.k\/e.atom≠a0
  ·have ep:prop e l=(false,l):=by rw[EW,if_neg hk,if_pos S1]
   refine gS ?_
   repeat'(with_reducible refine And.intro (λh=>?_) (λh=>?_))
   all_goals(try(exfalso;simp_all;omega))
   all_goals(refine AY ⟨[(0,1)],[(63,63)],[]⟩ _ rfl ⟨rfl,rfl⟩ (by simp[lk]) ?_ ?_)
   all_goals simp(disch:=omega)only[go_sem]
  have ep:prop e l=C4 e.kids l:=by simp_all[EW,if_neg]
  have b1:(e.k<1)=False:=by grind
  have b2:((e.kids.length:Int)<e.k)=False:=by grind
  have b3:e.atom=a0:=by grind
  have ez':(e.atom.name==[]&&(e.atom.AH.mode==0&&e.atom.AH.AG==0))=true:=by grind
  simp only[go_sem,e1,ez',b1,b2,ep];refine Ao (α:=Nat × List Atom) (λq=>⟨[(46,I q.1),(45,I e.kids.length),(44,JP e.kids),(1,.ptr 63 0)],[(63,[DY 3328 q.2])]⟩)
   (λq=>q.1<=e.kids.length/\q.2.length<=8/\C4 (e.kids.drop q.1) q.2=C4 e.kids l) (λq=>e.kids.length-q.1) (0,l) ⟨by simp,hl,by simp⟩ ?_ ?_
  ·refine AT.CX ⟨[(0,3328)],[(63,63)],[]⟩ ⟨rfl,rfl⟩ (by simp[lk]) ?_ ?_
   ·exact gI
   ·exact gI
  rintro⟨i,m⟩ ⟨hi,hm,hr⟩ J hJ
  replace hi:i<=e.kids.length:=hi
  replace hm:m.length<=8:=hm
  replace hr:C4 (e.kids.drop i) m=C4 e.kids l:=hr
  refine gO ?_;refine ⟨λAP=>?_,λJX=>?_⟩
  ·have H0:i<e.kids.length:=by grind
   have hb:e.kids[i]?=some e.kids[i]:=gE H0;have Hb:=EM (List.getElem_mem H0);have bf:e.kids.drop i=e.kids[i]::e.kids.drop (i+1):=List.drop_eq_getElem_cons H0;generalize e.kids[i]=b at hb Hb bf;rw[bf]at hr;simp[C4]at hr;simp only[go_sem,hb];refine By ⟨⟨[(3328,0)],[(63,63)],[]⟩,[(1,3329)],[]⟩ (kb N b (by omega) m hm) gI rfl gI (.inl rfl) ?_;have hx:=VB N b (by omega) m hm;generalize prop b m=x at hr hx;cases Vt:x.1
   ·rw[Vt]at hr;simp at hr;refine gO ?_;refine AY ⟨[(3329,1)],[(63,63)],[]⟩ _ rfl ⟨rfl,rfl⟩ (by simp[lk]) ?_ ?_
    ·simp only[go_sem,<- hr]
    ·simp only[go_sem,<- hr]
   ·rw[Vt]at hr;simp at hr;refine gO ?_;refine hJ _ (i+1,x.2) ⟨by omega,hx,hr⟩ (by omega) (AT.CX ⟨[(3329,3328)],[(63,63)],[]⟩ ⟨rfl,rfl⟩ (by simp[lk]) ?_ ?_)
    ·exact gI
    ·exact gI
  ·have Ba:i=e.kids.length:=by grind
   subst Ba;rw[drop_length]at hr;simp[C4]at hr;simp only[go_sem,<- hr];refine AY ⟨[(3328,1)],[(63,63)],[]⟩ _ rfl ⟨rfl,rfl⟩ (by simp[lk]) ?_ ?_
   ·exact gI
   ·exact gI
def BM(e:Expr):Bool:=!(depth e==0)&&(prop e []).1
def ra(e:Expr):Ad C0 73 [.agg e.c] [] (B (BM e)) []:=by
 refine Ad.go f73 ?_;unfold f73;refine gO ?_;refine Ab (vp e) ?_;refine gO ?_;refine⟨λh=>?_,λh=>?_⟩
 ·refine By ⟨⟨[],[(192,63)],[]⟩,[(1,576)],[]⟩ (kb _ e (Nat.lt_succ_self _) [] (by simp)) gI rfl (by refine gO ?_;exact .Cr (by omega)) (.inl rfl) ?_;refine gO ?_;refine Al _ ?_;exact .eq (by grind[BM])
 ·refine Al _ ?_;exact .eq (by grind[BM])
def wb{a b:Bool}(h:a=b):Ci (.v (.bool a)) (B b):=.eq (by rw[h])
def wi{a b:Int}(h:a=b):Ci (.v (.int .i64 a)) (I b):=.eq (by rw[h])
def Br(l:List Ac)(p:Ac):Bool:=decide (p∈l)
def X3{α:Type}[DecidableEq α]{l:List α}{p:α}(h:l.find? (λx=>decide (x=p))=none):p∉l:=by grind
def KG(l:List Ac)(p:Ac)(hl:l.length<=1000000):Ad C0 43 [AL l,.agg p.c] [] (B (Br l p)) []:=by
 refine Ad.go f43 ?_;unfold f43;refine gO ?_;refine AF (l) (λi=>⟨[(5,I i),(0,AL l),(3,.ptr 192 0)],[(192,p.c)]⟩) (λi=>(l.take i).find? (λx=>decide (x=p))=none) rfl ?_ ?_
 ·exact Ce
 rintro i ⟨hi,hP⟩ J hJ;refine gO ?_;refine Bo hi (λAP b hb Cg AX=>?_) λBa=>?_
 refine Ay 5 [([],[0]),([],[5]),([],[12,13]),([],[14]),([],[3])] B6 ?_;simp(disch:=omega)only[go_sem,gm,hb]
 ·refine⟨λh=>?_,λh=>?_⟩
  ·have e:Br l p=true:=by grind[Br]
   simp only[go_sem,e];exact AQ _
  ·refine hJ _ (i+1) ⟨by omega,(by grind[Cp])⟩ (by omega) AK
 ·subst Ba;rw[take_length]at hP;have e:Br l p=false:=by simp[Br,X3 hP]
  refine gS ?_;exact AQ _
def ord(a b:Int):Int:=if a<b then -1 else if b<a then 1 else 0
def aH(a b:Int):Ad C0 135 [I a,I b] [] (I (ord a b)) []:=by
 refine Ad.go f135 ?_;unfold f135;refine gO ?_
 repeat'(with_reducible refine And.intro (λh=>?_) (λh=>?_))
 all_goals(refine CT _ ?_)
 all_goals(try simp(disch:=omega)only[go_sem])
 all_goals(first|refine wb ?_|refine wi ?_|refine .eq ?_)
 all_goals(first|grind[ord]|(refine Bool.eq_iff_iff.2 ?_;simp_all[ord]<;>omega))
def qm(p q:Ac):BF p q=if ord p.site q.site≠0 then ord p.site q.site else if ord p.inc q.inc≠0 then ord p.inc q.inc else ord p.num q.num:=by grind[BF,ord]
def LD(p q:Ac):Ad C0 84 [.agg p.c,.agg q.c] [] (I (BF p q)) []:=by
 refine Ad.go f84 ?_;unfold f84;refine gO ?_;refine Ab (aH p.site q.site) (gO ?_);have hc:=qm p q;refine⟨λh=>?_,λh=>?_⟩
 ·simp at h;rw[if_pos h]at hc;refine Al _ ?_;exact .eq (by rw[hc])
 simp at h;rw[if_neg (by simp[h])]at hc;refine Ab (aH p.inc q.inc) (gO ?_);refine⟨λh=>?_,λh=>?_⟩
 ·simp at h;rw[if_pos h]at hc;refine Al _ ?_;exact .eq (by rw[hc])
 simp at h;rw[if_neg (by simp[h])]at hc;refine Ab (aH p.num q.num) (gO ?_);refine Al _ ?_;exact .eq (by rw[hc])
def Fp(a:BR):Ad C0 58 [.agg a.c] [] (B a.zero) []:=by
 refine Ad.go f58 ?_;unfold f58;refine gO ?_
 repeat'(with_reducible refine And.intro (λh=>?_) (λh=>?_))
 all_goals(refine CT _ ?_)
 all_goals(try refine gO ?_)
 all_goals(first|refine wb ?_|refine wi ?_|refine .eq ?_)
 simp_all[BR.zero]
def Ry(r:BE):Ad C0 154 [.agg r.c] [] (B r.shaped) []:=by
 refine Ad.go f154 ?_;unfold f154;refine gO ?_
 repeat'(with_reducible refine And.intro (λh=>?_) (λh=>?_))
 all_goals(refine CT _ ?_)
 all_goals(try simp(disch:=omega)only[go_sem])
 all_goals(first|refine wb ?_|refine wi ?_|refine .eq ?_)
 all_goals(first|(simp_all[BE.shaped,A7]<;>omega)|(refine Bool.eq_iff_iff.2 ?_;simp_all[BE.shaped,A7]<;>omega))
def Px(m:Int):Ad C0 145 [I m] [] (B (BK m)) []:=by
 refine Ad.go f145 ?_;unfold f145;refine gO ?_
 repeat'(with_reducible refine And.intro (λh=>?_) (λh=>?_))
 all_goals(refine CT _ ?_)
 all_goals(try simp(disch:=omega)only[go_sem])
 all_goals(first|refine wb ?_|refine wi ?_|refine .eq ?_)
 all_goals(first|grind[BK,A7]|(refine Bool.eq_iff_iff.2 ?_;simp_all[BK,A7]<;>omega))
def Hp(r:BE)(a:BR):Ad C0 155 [.agg r.c,.agg a.c] [] (B (r.fits a)) []:=by
 refine Ad.go f155 ?_;unfold f155;refine gO ?_
 repeat'(first
  |(with_reducible refine And.intro (λh=>?_) (λh=>?_))
  |((with_reducible show Bi _ _ 154 _ _ _);refine Ai (Ry r) ?_ rfl ?_;(focus(exact gI;done));try refine gO ?_)
  |((with_reducible show Bi _ _ 145 _ _ _);refine Ai (Px a.mode) ?_ rfl ?_;(focus(exact gI;done));try refine gO ?_))
 all_goals(refine CT _ ?_)
 all_goals(try simp(disch:=omega)only[go_sem])
 all_goals(first|refine wb ?_|refine wi ?_|refine .eq ?_)
 all_goals(first|(simp_all[BE.fits,A7]<;>omega)|(refine Bool.eq_iff_iff.2 ?_;simp_all[BE.fits,A7]<;>omega))
def Pt(l:List Bh)(p:Ac)(hl:l.length<=1000000):Ad C0 100 [Ct l,.agg p.c] [] (I (FG l p)) []:=by
 refine Ad.go f100 ?_;unfold f100;refine gO ?_;refine AF (l) (λi=>⟨[(5,I i),(0,Ct l),(3,.ptr 192 0)],[(192,p.c)]⟩) (λi=>(l.take i).find? (λh=>decide (h.proc=p))=none) rfl ?_ ?_
 ·exact Ce
 rintro i ⟨hi,hP⟩ J hJ;refine gO ?_;refine Bo hi (λAP b hb Cg AX=>?_) λBa=>?_
 refine Ay 6 [([],[0]),([],[5]),([],[12,13]),([],[14]),([],[15]),([],[3])] B6 ?_;simp(disch:=omega)only[go_sem,gm,hb]
 ·refine⟨λh=>?_,λh=>?_⟩
  ·have e:FG l p=i:=by unfold FG;rw[Hj hP b hb (by omega)]
   simp only[go_sem,e];exact AQ _
  ·refine hJ _ (i+1) ⟨by omega,(by grind[Cp])⟩ (by omega) AK
 ·subst Ba;rw[take_length]at hP;have e:FG l p = -1:=by grind[FG]
  refine gS ?_;exact AQ _
def Ru(l:List A9)(p:Ac)(hl:l.length<=1000000):Ad C0 104 [Bg l,.agg p.c] [] (.agg (Am l p).c) []:=by
 refine Ad.go f104 ?_;unfold f104;refine gO ?_;refine AF (l) (λi=>⟨[(5,I i),(0,Bg l),(3,.ptr 192 0),(4,.ptr 256 0)],[(192,p.c),(256,(⟨0,0⟩:BR).c)]⟩) (λi=>(l.take i).find? (λh=>decide (h.proc=p))=none) rfl ?_ ?_
 ·exact Ce
 rintro i ⟨hi,hP⟩ J hJ;refine gO ?_;refine Bo hi (λAP b hb Cg AX=>?_) λBa=>?_
 refine Ay 6 [([],[0]),([],[5]),([],[12,13]),([],[14]),([],[15]),([],[3])] B6 ?_;simp(disch:=omega)only[go_sem,gm,hb]
 ·refine⟨λh=>?_,λh=>?_⟩
  ·have e:Am l p=b.AH:=by grind[Am,Hq]
   simp only[go_sem,e];exact AQ _
  ·refine hJ _ (i+1) ⟨by omega,(by grind[Cp])⟩ (by omega) AK
 ·subst Ba;rw[take_length]at hP;have e:Am l p=⟨0,0⟩:=by grind[Am]
  refine gS ?_;exact AQ _
def kj(c:UInt8):Ad C0 142 [.v (.int .u8 c.toNat)] [] (B (letter c)) []:=by
 refine Ad.go f142 ?_;unfold f142;refine gO ?_
 repeat'(with_reducible refine And.intro (λh=>?_) (λh=>?_))
 all_goals(refine CT _ ?_)
 all_goals(try simp(disch:=omega)only[go_sem])
 all_goals(first|refine wb ?_|refine wi ?_|refine .eq ?_)
 all_goals(first|grind[letter]|(refine Bool.eq_iff_iff.2 ?_;simp_all[letter]<;>omega))
def vx(s:Bs):Ad C0 143 [.v (.string (str s))] [] (B (reserved s)) []:=by
 refine Ad.go f143 ?_;unfold f143;refine gO ?_
 repeat'(first
  |(with_reducible refine And.intro (λh=>?_) (λh=>?_))
)
 all_goals(refine CT _ ?_)
 all_goals(try simp(disch:=omega)only[go_sem])
 all_goals(first|refine wb ?_|refine wi ?_|refine .eq ?_)
 all_goals(first|(simp_all[reserved]<;>omega)|(refine Bool.eq_iff_iff.2 ?_;simp_all[reserved]<;>omega))
def part(c:UInt8):Bool:=letter c||other c
def vy(c:UInt8):Ad C0 144 [.v (.int .u8 c.toNat)] [] (B (part c)) []:=by
 refine Ad.go f144 ?_;unfold f144;refine gO ?_
 repeat'(first
  |(with_reducible refine And.intro (λh=>?_) (λh=>?_))
  |((with_reducible show Bi _ _ 142 _ _ _);refine Ai (kj c) ?_ rfl ?_;(focus(exact gI;done));try refine gO ?_))
 all_goals(refine CT _ ?_)
 all_goals(try simp(disch:=omega)only[go_sem])
 all_goals(first|refine wb ?_|refine wi ?_|refine .eq ?_)
 all_goals(first|(simp_all[part,letter,other]<;>omega)|(refine Bool.eq_iff_iff.2 ?_;grind[part,other]))
theorem jh(s:Bs):B9 s=(decide (1<=s.length)&&decide (s.length<=12)&&(match s with | []=>false|c::_=>letter c)&&!reserved s&&s.all part):=by
 cases s with
 | nil=>rfl
 | cons c l =>
  have h:∀ (l:List UInt8) (k:Nat),((l.zipIdx (k+1)).all λx=>zw x.2 x.1)=l.all part:=by
   intro l
   induction l<;>grind[List.zipIdx_cons,zw,part]
  simp only[B9,Cu,List.zipIdx_cons,List.all_cons,h];simp only[zw,part];cases letter c<;>simp
theorem H4{α:Type}{f:α->Bool}{l:List α}{i:Nat}{b:α}(hb:l[i]?=some b):(l.take (i+1)).all f=((l.take i).all f&&f b):=by simp[take_add_one,hb,List.all_append]
def all_false{α:Type}{f:α->Bool}{l:List α}{b:α}(hb:b∈l)(h:f b=false):l.all f=false:=by grind
def eH(c:UInt8)(l s:Bs)(hs:s=c::l):B9 s=(decide (s.length<=12)&&letter c&&!reserved s&&s.all part):=by grind[jh]
def Ox(s:Bs):Ad C0 90 [.v (.string (str s))] [] (B (B9 s)) []:=by
 refine Ad.go f90 ?_;unfold f90;cases hs:s with
 | nil =>
  refine gO ?_;refine Al _ ?_;exact wb (by decide)
 | cons c l =>
  have e3:s[0]?=some c:=by grind
  have hk:=eH c l s hs;have e1:((s.length:Int)<1)=False:=by grind
  rw[<- hs];clear hs
  by_cases h2:12<s.length
  ·have e2:(12<(s.length:Int))=True:=by grind
   simp only[go_sem,e1,e2];refine Al _ ?_;exact .eq (by grind)
  ·have e2:(12<(s.length:Int))=False:=by grind
   have e5:decide (s.length<=12)=true:=by grind
   rw[e5]at hk;simp only[go_sem,e1,e2,e3];refine Ab (kj c) ?_;cases hc:letter c
   ·rw[hc]at hk;refine gS ?_;exact AQ _
   refine gO ?_;refine Ab (vx s) ?_;cases hr:reserved s;rotate_left
   ·rw[hr]at hk;refine gS ?_;exact AQ _
   refine gO ?_;refine AF (s) (λi=>⟨[(3,I i),(0,.v (.string (str s)))],[]⟩) (λi=>(s.take i).all part=true) rfl ?_ ?_
   ·exact Ce
   rintro i ⟨hi,hP⟩ J hJ;refine gO ?_;refine Bo hi (λAP b hb Cg AX=>?_) λBa=>?_
   simp(disch:=omega)only[go_sem,hb]
   ·refine Ab (vy b) ?_;cases hp:part b
    ·refine gO ?_;refine Al _ ?_;exact .eq (by grind)
    ·refine gO ?_;refine hJ _ (i+1) ⟨by omega,(by grind[H4])⟩ (by omega) AK
   ·subst Ba;rw[take_length]at hP;refine Al _ ?_;exact .eq (by grind)
def RB(r:BE):Ad C0 208 [.agg r.c] [] (B (B9 r.name&&r.shaped&&A7 r.home 0 3)) []:=by
 refine Ad.go f208 ?_;unfold f208;refine gO ?_
 repeat'(first
  |(with_reducible refine And.intro (λh=>?_) (λh=>?_))
  |((with_reducible show Bi _ _ 90 _ _ _);refine Ai (Ox r.name) ?_ rfl ?_;(focus(exact gI;done));try refine gO ?_)
  |((with_reducible show Bi _ _ 154 _ _ _);refine Ai (Ry r) ?_ rfl ?_;(focus(exact gI;done));try refine gO ?_))
 all_goals(refine CT _ ?_)
 all_goals(try simp(disch:=omega)only[go_sem])
 all_goals(first|refine wb ?_|refine wi ?_|refine .eq ?_)
 all_goals(first|grind[A7]|(refine Bool.eq_iff_iff.2 ?_;simp_all[A7]<;>omega))
def Vb(a b:Int):Ad C0 106 [I a,I b] [] (B (BI a b)) []:=by
 refine Ad.go f106 ?_;unfold f106;refine gO ?_;refine Ab (Px a) ?_;cases ha:BK a
 ·refine gO ?_;refine Al _ ?_;exact .eq (by simp[BI,ha])
 refine gO ?_;refine Ab (Px b) ?_;cases hb:BK b
 ·refine gO ?_;refine Al _ ?_;exact .eq (by simp[BI,hb])
 refine gO ?_;obtain rfl|rfl|rfl|rfl|rfl:=Bc ha<;>obtain rfl|rfl|rfl|rfl|rfl:=Bc hb
 all_goals(try simp(disch:=omega)only[go_sem])
 all_goals(refine CT _ ?_)
 all_goals simp(disch:=omega)only[go_sem]
 all_goals exact wb (by decide)
def Rv(r:BE)(a:BR):Ad C0 105 [.agg r.c,.agg a.c] [] (B (r.permits a)) []:=by
 refine Ad.go f105 ?_;unfold f105;refine gO ?_
 repeat'(first
  |(with_reducible refine And.intro (λh=>?_) (λh=>?_))
  |((with_reducible show Bi _ _ 154 _ _ _);refine Ai (Ry r) ?_ rfl ?_;(focus(exact gI;done));try refine gO ?_)
  |((with_reducible show Bi _ _ 58 _ _ _);refine Ai (Fp a) ?_ rfl ?_;(focus(exact gI;done));try refine gO ?_)
  |((with_reducible show Bi _ _ 155 _ _ _);refine Ai (Hp r a) ?_ rfl ?_;(focus(exact gI;done));try refine gO ?_))
 all_goals(refine CT _ ?_)
 all_goals(try simp(disch:=omega)only[go_sem])
 all_goals(first|refine wb ?_|refine wi ?_|refine .eq ?_)
 all_goals(first|grind[BE.permits]|(refine Bool.eq_iff_iff.2 ?_;simp_all[BE.permits]<;>omega))
def KI(p:Ac):Ad C0 82 [.agg p.c] [] (B p.ok) []:=by
 refine Ad.go f82 ?_;unfold f82;refine gO ?_
 repeat'(with_reducible refine And.intro (λh=>?_) (λh=>?_))
 all_goals(refine CT _ ?_)
 all_goals(try simp(disch:=omega)only[go_sem])
 all_goals(first|refine wb ?_|refine wi ?_|refine .eq ?_)
 all_goals(first|(simp_all[Ac.ok,A7]<;>omega)|(refine Bool.eq_iff_iff.2 ?_;simp_all[Ac.ok,A7]<;>omega))
def wH(a b:Int):Ad C0 291 [I a,I b] [] (B (CF a b)) []:=by
 refine Ad.go f291 ?_;unfold f291;refine gO ?_;refine Ab (Px a) ?_;cases ha:BK a
 ·simp(disch:=omega)only[go_sem,Bool.not_false];refine Al _ ?_;exact .eq (by simp[CF,ha])
 simp(disch:=omega)only[go_sem,Bool.not_true];refine Ab (Px b) ?_;cases hb:BK b
 ·simp(disch:=omega)only[go_sem,Bool.not_false];refine Al _ ?_;exact .eq (by simp[CF,hb])
 simp(disch:=omega)only[go_sem,Bool.not_true];obtain rfl|rfl|rfl|rfl|rfl:=Bc ha<;>obtain rfl|rfl|rfl|rfl|rfl:=Bc hb
 all_goals(try simp(disch:=omega)only[go_sem])
 all_goals(refine CT _ ?_)
 all_goals simp(disch:=omega)only[go_sem]
 all_goals exact wb (by decide)
theorem Rm(a b:Int):CF a b=CF b a:=by
 cases ha:BK a
 ·simp[CF,ha]
 cases hb:BK b
 ·simp[CF,hb]
 obtain rfl|rfl|rfl|rfl|rfl:=Bc ha<;>obtain rfl|rfl|rfl|rfl|rfl:=Bc hb<;>decide
def wt(l:List A9)(hl:l.length<=1000000):Ad C0 260 [Bg l] [] (TK (l.map (·.AH))) []:=by
 refine Ad.go f260 ?_;unfold f260;refine gO ?_;refine AF (l) (λi=>⟨[(4,I i),(0,Bg l),(3,.sl (.own 1152 0) 2 ((l.take i).map λh=>h.AH.c))],[]⟩) (λi=>True) trivial ?_ ?_
 ·exact Ce
 rintro i ⟨hi,hP⟩ J hJ;refine gO ?_;refine Bo hi (λAP b hb Cg AX=>?_) λBa=>?_
 simp(disch:=omega)only[go_sem,gm,hb]
 ·refine hJ _ (i+1) ⟨by omega,trivial⟩ (by omega) (AT.Aq ?_ gI);refine gO ?_;exact .sl (by simp[take_add_one,hb,BR.c])
 ·subst Ba;refine CU ⟨[],[],[1152]⟩ _ ?_;simp(disch:=omega)only[go_sem,take_length];exact .sl (by simp[BR.c])
def Wp(a:BR):Ad C0 91 [.agg a.c] [] (B (Il.fits a||Ir.fits a)) []:=by
 have e:(Il.fits a||Ir.fits a)=(BK a.mode&&a.AG==0||(a.mode==0&&decide (1<=a.AG)&&decide (a.AG<=8))):=by
  refine Bool.eq_iff_iff.2 ?_;simp[Il,Ir,BE.fits,BE.shaped,A7,and_assoc];exact⟨λh=>h.imp id λh=>⟨h.1,h.2.1,of_decide_eq_true h.2.2⟩,λh=>h.imp id λh=>⟨h.1,h.2.1,decide_eq_true h.2.2⟩⟩
 rw[e];refine Ad.go f91 ?_;unfold f91;simp(disch:=omega)only[go_sem]
 repeat'(first
  |(with_reducible refine And.intro (λh=>?_) (λh=>?_))
  |((with_reducible show Bi _ _ 145 _ _ _);refine Ai (Px a.mode) ?_ rfl ?_;(focus(simp(disch:=omega)only[go_sem];done));try simp(disch:=omega)only[go_sem]))
 all_goals(refine CT _ ?_)
 all_goals(try simp(disch:=omega)only[go_sem])
 all_goals(first|refine wb ?_|refine wi ?_|refine .eq ?_)
 all_goals(first|(simp_all[]<;>omega)|(refine Bool.eq_iff_iff.2 ?_;simp_all[]<;>omega))
def kV(w:Bh):Ad C0 261 [.agg w.c] [] (B w.ok) []:=by
 refine Ad.go f261 ?_;unfold f261;simp(disch:=omega)only[go_sem]
 repeat'(first
  |(with_reducible refine And.intro (λh=>?_) (λh=>?_))
  |((with_reducible show Bi _ _ 82 _ _ _);refine Ai (KI w.proc) ?_ rfl ?_;(focus(simp(disch:=omega)only[go_sem];done));try simp(disch:=omega)only[go_sem])
  |((with_reducible show Bi _ _ 91 _ _ _);refine Ai (Wp w.AH) ?_ rfl ?_;(focus(simp(disch:=omega)only[go_sem];done));try simp(disch:=omega)only[go_sem]))
 all_goals(refine CT _ ?_)
 all_goals(try simp(disch:=omega)only[go_sem])
 all_goals(first|refine wb ?_|refine wi ?_|refine .eq ?_)
 all_goals(first|(simp_all[Bh.ok,A7]<;>omega)|(refine Bool.eq_iff_iff.2 ?_;simp_all[Bh.ok,A7]<;>omega))
def Vj(l:List Bh)(hl:l.length<=1000000):Ad C0 210 [Ct l] [] (B (Ef l)) []:=by
 refine Ad.go f210 ?_;unfold f210
 by_cases h1:8<l.length
 ·have e1:(8<(l.length:Int))=True:=by simp;omega
  simp(disch:=omega)only[go_sem,e1];refine Al _ ?_;exact .eq (by simp[Ef];omega)
 have e1:(8<(l.length:Int))=False:=by simp;omega
 simp(disch:=omega)only[go_sem,e1,decide_false];refine AF (l) (λi=>⟨[(3,I i),(0,Ct l)],[]⟩) (λi=>Cu (Ht l) (l.take i)=true) rfl ?_ ?_
 ·exact Ce
 rintro i ⟨hi,hP⟩ J hJ;refine gO ?_;refine Bo hi (λAP b hb Cg AX=>?_) λBa=>?_
 simp(disch:=omega)only[go_sem,gm,hb]
 ·refine Ab (kV b) ?_;cases hw:b.ok
  ·have e:Ef l=false:=by simp[Ef,B5 hb (show Ht l i b=false by simp[Ht,hw])]
   simp(disch:=omega)only[go_sem,Bool.not_false,e];exact AQ _
  simp(disch:=omega)only[go_sem,Bool.not_true,gm,hb];refine Ab (Pt l b.proc (by omega)) ?_;refine gO ?_;refine⟨λh=>?_,λh=>?_⟩
  ·have e:Ef l=false:=by simp[Ef,B5 hb (show Ht l i b=false by simp at h;simp[Ht,h])]
   simp(disch:=omega)only[go_sem,e];exact AQ _
  ·refine hJ _ (i+1) ⟨by omega,(by rw[CB hb,hP];simp at h;simp[Ht,hw,h])⟩ (by omega) AK
 ·subst Ba;rw[take_length]at hP;have e:Ef l=true:=by simp[Ef,hP];omega
  simp(disch:=omega)only[go_sem,e];exact AQ _
def FR(l:List BR):List Bool:=(List.range 6).map λk:Nat=>decide (k≠0)&&l.any λa=>a.mode==((k:Nat):Int)
theorem jA:FR []=pL:=rfl
theorem XD(l:List BR)(k:Nat)(hk:k<6):(FR l).getD k false=(decide (k≠0)&&l.any λa=>a.mode==(k:Int)):=by simp[FR,List.getD,hk]
theorem Sh(l:List BR)(a:BR)(h:a.mode=0):FR (l++[a])=FR l:=by grind[FR]
def fq(l:List BR)(a:BR)(h:BK a.mode=true):FR (l++[a])=(FR l).set a.mode.toNat true:=by
 have hm:=Bc h;refine List.ext_getElem (by simp[FR]) λk h1 h2=>?_
 have hk:k<6:=by grind[FR]
 simp only[FR,List.getElem_map,List.getElem_range,List.any_append,List.any_cons,List.any_nil,List.getElem_set]
 by_cases hx:a.mode.toNat=k
 ·have e:(a.mode==(k:Int))=true:=by grind
  rw[if_pos hx,e];have:decide (k≠0)=true:=by grind
  simp[this]
 ·have e:(a.mode==(k:Int))=false:=by grind
  rw[if_neg hx,e];simp
def pc{l:List BR}{m:Int}(h:∀ a∈l,a.mode≠0->CF m a.mode=true):Fz (FR l) m=true:=by grind[Fz,XD,Rm]
def jz{l:List BR}{m:Int}{a:BR}(hm:a∈l)(h0:BK a.mode=true)(h:CF m a.mode=false):Fz (FR l) m=false:=by
 have hc:=Bc h0;unfold Fz;rw[List.all_eq_false];refine⟨a.mode.toNat,by grind,?_⟩;grind[XD,Rm]
def R7{r:BE}{a:BR}(hk:r.kind=1)(h:r.permits a=true):a.AG=0/\(a.mode=0\/BK a.mode=true)/\a.zero=decide (a.mode=0):=by
 simp only[BE.permits,Bool.and_eq_true,Bool.or_eq_true,BE.fits,hk,if_true]at h;grind[BR.zero]
def bO{r:BE}{a:BR}(hk:r.kind=2)(h:r.permits a=true):0<=a.AG/\a.AG<=8/\a.mode=0:=by
 have h':=Lt h;simp only[BE.permits,Bool.and_eq_true,Bool.or_eq_true,BE.fits,hk]at h;obtain⟨h1,h2|h2⟩:=h
 ·simp[BR.zero]at h2;omega
 ·simp at h2;omega
def fA{r:BE}(h:r.shaped=true):(r.kind=1/\r.AG=1)\/r.kind=2:=by grind[BE.shaped]
def wq(r:BE)(l:List BR)(hl:l.length<=1000000):Ad C0 259 [.agg r.c,TK l] [] (B (r.compat l)) []:=by
 refine Ad.go f259 ?_;unfold f259;refine gO ?_;refine Ab (Ry r) ?_;cases hs:r.shaped
 ·have e:r.compat l=false:=by simp[BE.compat,hs]
  refine gS ?_;exact AQ _
 obtain⟨hu1,uH⟩:=NC hs;have Ajy:=fA hs;have dA:r.compat l=Cl r l 0 pL:=by simp[BE.compat,hs]
 refine gO ?_;refine Ao (α:=Nat × Int) (λq=>⟨[(6,I q.1),(1,TK l),(5,I q.2),(2,.ptr 128 0)],[(128,r.c)]⟩)
  (λq=>q.1<=l.length/\(r.kind=1->q.2=0)/\0<=q.2/\q.2<=8/\(∀ a∈l.take q.1,r.permits a=true)/\Cl r (l.drop q.1) q.2 (FR (l.take q.1))=Cl r l 0 pL) (λq=>l.length-q.1) (0,0) ⟨by simp,by simp,by simp,by simp,by simp,by simp[jA]⟩ ?_ ?_
 ·refine AT.Aq ?_ ?_
  ·exact gI
  ·exact gI
 rintro⟨i,sum⟩ ⟨hi,XS,mb,hs8,rU,hc⟩ J hJ
 replace hi:i<=l.length:=hi
 replace XS:r.kind=1->sum=0:=XS
 replace mb:0<=sum:=mb
 replace hs8:sum<=8:=hs8
 replace rU:∀ a∈l.take i,r.permits a=true:=rU
 replace hc:Cl r (l.drop i) sum (FR (l.take i))=Cl r l 0 pL:=hc
 refine gO ?_;refine ⟨λAP=>?_,λJX=>?_⟩
 ·have H0:i<l.length:=by grind
  obtain⟨b,hb⟩:∃ b,l[i]?=some b:=⟨_,gE H0⟩;have hd:l.drop i=b::l.drop (i+1):=by grind[List.drop_eq_getElem_cons]
  have ht:l.take (i+1)=l.take i++[b]:=by grind
  rw[hd]at hc;simp[Cl]at hc;refine Ay 5 [([],[2]),([],[1]),([],[6]),([],[18,19]),([],[20])] B6 ?_;simp only[go_sem,hb];refine Ab (Rv r b) ?_;cases hp:r.permits b
  ·have e:r.compat l=false:=by grind
   simp only[go_sem,e];exact AQ _
  obtain⟨dK,hb8,Cg⟩:=Lt hp;have rV:∀ a∈l.take (i+1),r.permits a=true:=λa ha=>by grind
  rw[hp]at hc
  by_cases gn:r.kind=2
  ·have e2:(r.kind==2)=true:=by grind
   obtain⟨_,_,hm⟩:=bO gn hp
   by_cases bg:r.AG<sum+b.AG
   ·have e:r.compat l=false:=by grind
    simp(disch:=omega)only[go_sem,e2,hb,bg,e];exact AQ _
   simp(disch:=omega)only[go_sem,e2,hb,bg];refine hJ _ (i+1,sum+b.AG) ⟨by omega,by omega,by omega,by omega,rV,?_⟩ (by omega) AK;grind[Sh]
  have Abh:r.kind=1:=by omega
  have hru:r.AG=1:=by omega
  have e2:(r.kind==2)=false:=by grind
  have Ah9:=XS Abh;subst Ah9;obtain⟨hbu,Alb,hbz⟩:=R7 Abh hp;have bg:¬ r.AG<0+b.AG:=by omega
  have bc:(if b.mode=0 then Cl r (l.drop (i+1)) 0 (FR (l.take i)) else Fz (FR (l.take i)) b.mode&&Cl r (l.drop (i+1)) 0 ((FR (l.take i)).set b.mode.toNat true))=Cl r l 0 pL:=by grind
  simp only[go_sem,e2];refine Ao (α:=Nat) (λk=>⟨[(7,I k),(6,I i),(1,TK l),(5,I 0),(2,.ptr 128 0)],[(128,r.c)]⟩)
   (λk=>k<=i/\(b.mode=0\/∀ a∈l.take k,a.mode≠0->CF b.mode a.mode=true)) (λk=>i-k) 0 ⟨by omega,.inr (by simp)⟩ ?_ ?_
  ·refine AT.Aq ?_ ?_
   ·exact gI
   ·exact gI
  rintro k ⟨hk,hka⟩ J2 Vo;refine gO ?_;refine And.intro (λAhS=>?_) (λAhD=>?_)
  ·have yW:k<i:=by grind
   obtain⟨a,ha⟩:∃ a,l[k]?=some a:=⟨_,gE (by omega)⟩;have hak:l.take (k+1)=l.take k++[a]:=by grind[take_add_one]
   have ham:a∈l.take i:=by grind[List.mem_take_iff_getElem]
   obtain⟨hau,Ak6,haz⟩:=R7 Abh (rU a ham);refine Ay 25 [([],[1]),([],[6]),([],[43,44]),([],[45]),([],[46]),([4],[47]),([4],[48]),([4],[1,49]),([4],[7,49]),([4],[50,51,49]),([4],[52,49]),([4],[53,49]),([4,11],[54,49]),([4,11],[49,55]),([4,11],[56]),([4,11],[1,57]),([4,11],[6,57]),([4,11],[58,59,57]),([4,11],[60,57]),([4,11],[61,57]),([4,11],[1,57]),([4,11],[7,57]),([4,11],[63,64,57]),([4,11],[65,57]),([4,11],[66,57])] B6 ?_;simp only[go_sem,hb];refine Ax (Fp b) ?_;rw[hbz]
   by_cases nQ:b.mode=0
   ·simp(disch:=omega)only[go_sem,nQ];refine Vo _ (k+1) ⟨by omega,.inl nQ⟩ (by omega) AK
   simp only[go_sem,nQ,ha];refine Ax (Fp a) ?_;rw[haz]
   by_cases Aer:a.mode=0
   ·simp(disch:=omega)only[go_sem,Aer];refine Vo _ (k+1) ⟨by omega,?_⟩ (by omega) AK;grind
   simp only[go_sem,Aer,hb,ha];refine Ab (wH b.mode a.mode) ?_;have Ahh:BK a.mode=true:=by grind
   cases tz:CF b.mode a.mode
   ·have e:r.compat l=false:=by
     rw[dA,<- bc,if_neg nQ,jz ham Ahh tz];rfl
    simp only[go_sem,e];exact AQ _
   ·refine gO ?_;refine Vo _ (k+1) ⟨by omega,?_⟩ (by omega) AK;grind
  ·have yW:k=i:=by grind
   subst yW;refine hJ _ (k+1,0) ⟨by omega,by simp,by simp,by simp,rV,?_⟩ (by omega) AK;simp[ht]
   by_cases nQ:b.mode=0
   ·simp_all[Sh]
   ·have hbo:BK b.mode=true:=by grind
    rw[fq _ _ hbo];rw[if_neg nQ]at bc;have hso:Fz (FR (l.take k)) b.mode=true:=pc (by grind)
    rwa [hso,Bool.true_and]at bc
 ·have Ba:i=l.length:=by grind
  subst Ba;rw[drop_length]at hc;have e:r.compat l=true:=by rw[dA,<- hc];rfl
  simp only[go_sem,e];exact AQ _
end Go.Rd
