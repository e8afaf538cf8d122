/- part 13 of the proof -/
import Derived.Test.YthachdiockkofaaGreatDoorL12
set_option linter.all false
open Go Go.Abs Go.Proofs
set_option maxRecDepth 100000
namespace Go.Rd
set_option maxHeartbeats 8000000
open List (length_map map_nil map_set mem_append mem_cons mem_singleton pairwise_append)
open Nat (lt_succ_self)
open Tryz
mutual
def GK:Expr→List Atom→List Atom × Bool
 |.mk k a kids,l=>if kids.length=0 then (if k=0∧Kb a=true then (Em l a,true) else (l,false))
  else if k<1∨(kids.length:Int)<k∨a≠a0 then (l,false) else HX kids l
def HX:List Expr→List Atom→List Atom × Bool
 |[],l=>(l,true)
 | e::es,l=>if (GK e l).2=true then HX es (GK e l).1 else (l,false)
end
def Ip(e:Expr)(l:List Atom):GK e l=if e.kids.length=0 then (if e.k=0∧Kb e.atom=true then (Em l e.atom,true) else (l,false))
 else if e.k<1∨(e.kids.length:Int)<e.k∨e.atom≠a0 then (l,false) else HX e.kids l:=by
 cases e;simp only[GK];rfl
mutual
def cnt:Expr→Nat
 |.mk _ _ kids=>1+QC kids
def QC:List Expr→Nat
 |[]=>0
 | e::l=>cnt e+QC l
end
def TV(e:Expr):cnt e=1+QC e.kids:=by cases e;simp only[cnt];rfl
@[reducible] def YE(x:List Atom × Bool):AV:=if x.2 then .tup [C4 1 x.1,B true] else .tup [.undef,B false]
def YK(l:List Atom)(a:Atom):(Em l a).length≤l.length+1:=by unfold Em;split<;>simp
def UI:∀ (es:List Expr) (l:List Atom),(∀ e∈es,∀ l,(GK e l).1.length≤l.length+cnt e)→(HX es l).1.length≤l.length+QC es
 |[],l,_=>by simp[HX]
 | e::es,l,h=>by
  have h1:=h e (by simp) l;have h2:=UI es (GK e l).1 fun e' he=>h e' (by simp[he])
  simp only[HX,QC];split
  ·omega
  ·simp only;omega
def Qm:∀ (N:Nat) (e:Expr),SizeOf.sizeOf e<N→∀ l:List Atom,(GK e l).1.length≤l.length+cnt e
 | 0,_,h,_=>by omega
 | N+1,e,h,l=>by
  rw[Ip,TV];split
  ·split
   ·have:=YK l e.atom;simp only;omega
   ·simp only;omega
  ·split
   ·simp only;omega
   ·have:=UI e.kids l fun e' he l'=>Qm N e' (by have:=DB he;omega) l'
    omega
def f233_ok:∀ (N:Nat) (e:Expr),SizeOf.sizeOf e<N→∀ l:List Atom,l.length+cnt e≤1000000 →
 Ad C0 233 [C4 0 l,.agg e.c] [] (YE (GK e l)) []
 | 0,_,h,_,_=>by omega
 | N+1,e,h,l,hl=>by
  refine Ad.lens f233 fun hlen=>?_
  simp only[ED,lens,Expr.BV,length_map,and_true,true_and]at hlen;have hc0:=TV e;refine Ad.go f233 ?_;unfold f233
  by_cases hk:e.kids.length=0
  ·have e1:((e.kids.length:Int)==0)=true:=by simp[hk]
   by_cases hbad:e.k=0∧Kb e.atom=true
   rotate_left
   ·have ep:GK e l=(l,false):=by rw[Ip,if_pos hk,if_neg hbad]
    have ev:YE (GK e l)=.tup [.undef,B false]:=by rw[ep];rfl
    rw[ev];simp(disch:=omega)only[go_sem,e1]
    repeat'(first
     |(with_reducible refine And.intro (fun h=>?_) (fun h=>?_))
     |((with_reducible show AW _ _ 247 _ _ _);refine Ah (f247_ok e.atom.name) ?_ rfl ?_;(focus(simp(disch:=omega)only[go_sem];done));try simp(disch:=omega)only[go_sem])
     |((with_reducible show AU _ _ 247 _ _ _ _ _ _ _);refine Az ⟨⟨[],[],[]⟩,[],[]⟩ (f247_ok e.atom.name) ?_ rfl rfl trivial (.inl rfl) ?_;(focus(simp(disch:=omega)only[go_sem];done));try simp(disch:=omega)only[go_sem])
     |((with_reducible show AW _ _ 274 _ _ _);refine Ah (f274_ok e.atom.amt) ?_ rfl ?_;(focus(simp(disch:=omega)only[go_sem];done));try simp(disch:=omega)only[go_sem])
     |((with_reducible show AU _ _ 274 _ _ _ _ _ _ _);refine Az ⟨⟨[],[],[]⟩,[],[]⟩ (f274_ok e.atom.amt) ?_ rfl rfl trivial (.inl rfl) ?_;(focus(simp(disch:=omega)only[go_sem];done));try simp(disch:=omega)only[go_sem]))
    all_goals(first
     |(refine CL ⟨[(0,1)],[],[]⟩ _ ?_;simp(disch:=omega)only[go_sem];exact .tup (Ai.AR gI))
     |(exfalso;refine hbad ?_;simp_all[Kb];done))
   ·have ep:GK e l=(Em l e.atom,true):=by rw[Ip,if_pos hk,if_pos hbad]
    have ev:YE (GK e l)=.tup [C4 1 (Em l e.atom),B true]:=by rw[ep];rfl
    rw[ev];have ha:(BM e.atom.name&&(Hs.fits e.atom.amt||Hy.fits e.atom.amt))=true:=hbad.2;have ha1:BM e.atom.name=true:=by simp at ha;exact ha.1
    have ha2:(Hs.fits e.atom.amt||Hy.fits e.atom.amt)=true:=by simp at ha;simp[ha.2]
    have e2:(e.k==0)=true:=by simp[hbad.1]
    simp(disch:=omega)only[go_sem,e1,e2];refine And.intro (fun _=>?_) (fun h=>?_);rotate_left
    ·exfalso;simp_all
    refine Ae (f247_ok e.atom.name) ?_;simp(disch:=omega)only[go_sem,ha1];refine Ae (f274_ok e.atom.amt) ?_;simp(disch:=omega)only[go_sem,ha2];refine Ac (α:=Nat) (fun i=>⟨[(6,I i),(0,C4 0 l),(3,.ptr 192 0)],[(192,e.c)]⟩) (fun i=>i≤(l).length∧e.atom∉l.take i) (fun i=>(l).length-i) 0 ⟨by omega,(by simp)⟩ ?_ ?_
    ·exact B0
    rintro i ⟨hi,hP⟩ J hJ;refine gO ?_;refine ⟨fun hlt=>?_,fun hge=>?_⟩;rotate_left;have hil:i=(l).length:=by simp at hge;omega
    rotate_left;obtain⟨b,hb⟩:∃ b,(l)[i]?=some b:=⟨_,gE (by simp at hlt;omega)⟩;have hbm:=mG hb;have hlt2:i<(l).length:=by simp at hlt;omega
    refine Aw 6 [([],[0]),([],[6]),([],[38,39]),([],[40]),([],[3]),([],[42])] fol ?_;simp(disch:=omega)only[go_sem,gm,hb]
    ·refine⟨fun h=>?_,fun h=>?_⟩
     ·have hbe:b=e.atom:=by simpa using h
      have e3:Em l e.atom=l:=by unfold Em;rw[if_pos (hbe▸hbm)]
      simp(disch:=omega)only[go_sem,e3];refine CL ⟨[(0,1)],[],[]⟩ _ ?_;simp(disch:=omega)only[go_sem]
     ·have hbe:b≠e.atom:=by simpa using h
      refine hJ _ (i+1) ⟨by simp at hlt;omega,(by rw[tA,hb];simp only[Option.toList,mem_append,mem_singleton];intro hx;rcases hx with hx|hx;exact hP hx;exact hbe hx.symm)⟩ (by simp at hlt;omega) AT
    ·subst hil;rw[tL]at hP;have e3:Em l e.atom=l++[e.atom]:=by unfold Em;rw[if_neg hP]
     have hb32:l.length+1≤4294967296:=by omega
     simp(disch:=omega)only[go_sem,e3];refine CL ⟨[(3200,1)],[],[]⟩ _ ?_;refine gO ?_;exact .tup (Ai.AR (by simp(disch:=omega)only[go_sem];exact .sl (by simp[Atom.c])))
  have e1:((e.kids.length:Int)==0)=false:=by simp only[beq_eq_false_iff_ne,ne_eq];omega
  have ez:(e.atom.name==[]&&(e.atom.amt.mode==0&&e.atom.amt.Ax==0))=decide (e.atom=a0):=TM e.atom
  by_cases hbad:e.k<1∨(e.kids.length:Int)<e.k∨e.atom≠a0
  ·have ep:GK e l=(l,false):=by rw[Ip,if_neg hk,if_pos hbad]
   have ev:YE (GK e l)=.tup [.undef,B false]:=by rw[ep];rfl
   rw[ev];simp(disch:=omega)only[go_sem,e1,ez]
   repeat'(with_reducible refine And.intro (fun h=>?_) (fun h=>?_))
   all_goals(try(exfalso;simp_all;omega))
   all_goals(refine CL ⟨[(0,1)],[],[]⟩ _ ?_)
   all_goals simp(disch:=omega)only[go_sem]
   all_goals exact .tup (Ai.AR gI)
  have ep:GK e l=HX e.kids l:=by rw[Ip,if_neg hk,if_neg hbad]
  have b1:(e.k<1)=False:=by simp;omega
  have b2:((e.kids.length:Int)<e.k)=False:=by simp;omega
  have b3:e.atom=a0:=by
   by_cases h:e.atom=a0
   ·exact h
   ·exact absurd (Or.inr (Or.inr h)) hbad
  have ez':(e.atom.name==[]&&(e.atom.amt.mode==0&&e.atom.amt.Ax==0))=true:=by rw[ez];simp[b3]
  rw[ep];simp(disch:=omega)only[go_sem,e1,ez',b1,b2,decide_false];refine Ac (α:=Nat × List Atom) (fun q=>⟨[(7,I q.1),(0,C4 5376 q.2),(3,.ptr 192 0)],[(192,e.c)]⟩)
   (fun q=>q.1≤e.kids.length∧q.2.length+QC (e.kids.drop q.1)≤1000000∧HX (e.kids.drop q.1) q.2=HX e.kids l) (fun q=>e.kids.length-q.1) (0,l) ⟨by simp,by simp;omega,by simp⟩ ?_ ?_
  ·refine Imp.ren ⟨[(0,5376)],[(192,192)],[]⟩ ⟨rfl,rfl⟩ (by simp[lk]) ?_ ?_
   ·exact gI
   ·exact gI
  rintro⟨i,m⟩ ⟨hi,hm,hr⟩ J hJ
  replace hi:i≤e.kids.length:=hi
  replace hm:m.length+QC (e.kids.drop i)≤1000000:=hm
  replace hr:HX (e.kids.drop i) m=HX e.kids l:=hr
  refine gO ?_;refine ⟨fun hlt=>?_,fun hge=>?_⟩
  ·have hlt':i<e.kids.length:=by simp at hlt;omega
   have hb:e.kids[i]?=some e.kids[i]:=gE hlt';have hsz:=DB (List.getElem_mem hlt');have hdr:e.kids.drop i=e.kids[i]::e.kids.drop (i+1):=List.drop_eq_getElem_cons hlt';generalize e.kids[i]=b at hb hsz hdr;rw[hdr]at hr hm;simp only[HX]at hr;simp only[QC]at hm;have hbl:=Qm _ b (lt_succ_self _) m;have hcall:=f233_ok N b (by omega) m (by omega);simp(disch:=omega)only[go_sem,gm,hb];generalize GK b m=x at hr hbl hcall;obtain⟨x1,x2⟩:=x;cases x2
   ·simp only[Bool.false_eq_true,if_false]at hr;have ev:YE (HX e.kids l)=.tup [.undef,B false]:=by rw[← hr];rfl
    rw[ev];refine Bq ⟨⟨[(5376,0)],[],[]⟩,[(1,5377)],[]⟩ (show Ad C0 233 [C4 0 m,.agg b.c] [] (.tup [.undef,B false]) [] from hcall) gI rfl gI (.inl rfl) ?_;refine gO ?_;exact AQ _
   ·simp only[if_true]at hr;refine Bq ⟨⟨[(5376,0)],[],[]⟩,[(1,5377)],[]⟩ (show Ad C0 233 [C4 0 m,.agg b.c] [] (.tup [C4 1 x1,B true]) [] from hcall) gI rfl gI (.inl rfl) ?_;refine gO ?_;refine hJ _ (i+1,x1) ⟨by simp;omega,by simp at hbl ⊢;omega,hr⟩ (by simp;omega) (Imp.ren ⟨[(5377,5376)],[(192,192)],[]⟩ ⟨rfl,rfl⟩ (by simp[lk]) ?_ ?_)
    ·exact gI
    ·exact gI
  ·have hil:i=e.kids.length:=by simp at hge;omega
   subst hil;rw[List.drop_length]at hr;simp only[HX]at hr;have ev:YE (HX e.kids l)=.tup [C4 1 m,B true]:=by rw[← hr];rfl
   rw[ev];refine CL ⟨[(5376,1)],[],[]⟩ _ ?_;simp(disch:=omega)only[go_sem]
def Wv{lv:Int}(h1:0≤lv)(h4:lv≤4):∀ (l:List Expr) (n m:Int),n≤24→n≤(Fp l lv n m).1
 |[],n,m,_=>by simp[Fp]
 | e::l,n,m,hn=>by
  have b:=JY _ e (lt_succ_self _) (lv+1) (by omega) (by omega);simp only[Fp];split
  ·simp only;omega
  ·have:=Wv h1 h4 l (n+(DM e (lv+1)).1) (max m (DM e (lv+1)).2) (by omega);have:=b.1;omega
def msC(e:Expr)(lv:Int):Prop:=∀ n:Int,0≤n→n≤24→((meas e lv n).1≠0→DM e lv=((meas e lv n).2-n,(meas e lv n).1))∧((meas e lv n).1=0→24<n+(DM e lv).1)
def Re{lv:Int}(h1:1≤lv)(h4:lv≤4):∀ (l:List Expr) (n0 n m:Int),(∀ e∈l,msC e (lv+1))→1≤n→0≤n0→n0+n≤24→0≤m →
 ((Fl l lv (n0+n) m).1≠0→Fp l lv n m=((Fl l lv (n0+n) m).2-n0,(Fl l lv (n0+n) m).1))∧((Fl l lv (n0+n) m).1=0→24<n0+(Fp l lv n m).1)
 |[],n0,n,m,_,_,_,_,hm=>by
  simp only[Fl,Fp];exact⟨fun _=>by rw[show n0+n-n0=n by omega],fun h=>by omega⟩
 | e::l,n0,n,m,hk,a1,a2,a3,hm=>by
  obtain⟨k1,k2⟩:=hk e (by simp) (n0+n) (by omega) a3;have b:=L3 _ e (lt_succ_self _) (lv+1) (n0+n) (by omega) (by omega) (by omega) a3;simp only[Fl,Fp]
  by_cases hz:(meas e (lv+1) (n0+n)).1=0
  ·have h24:=k2 hz;rw[if_pos hz];refine⟨fun h=>absurd rfl h,fun _=>?_⟩;split
   ·simp only;omega
   ·have:=Wv (by omega) h4 l (n+(DM e (lv+1)).1) (max m (DM e (lv+1)).2) (by omega);omega
  ·have hs:=k1 hz;have hb:=b.2.2.2.2 hz;have hb0:=b.1;have hge:=Qd _ e (lt_succ_self _) (lv+1) (n0+n);rw[if_neg hz,hs];simp only;have e1:n+((meas e (lv+1) (n0+n)).2-(n0+n))=(meas e (lv+1) (n0+n)).2-n0:=by omega
   rw[e1,if_neg (by omega)];have ih:=Re h1 h4 l n0 ((meas e (lv+1) (n0+n)).2-n0) (max m (meas e (lv+1) (n0+n)).1) (fun e' he=>hk e' (by simp[he])) (by omega) a2 (by omega) (by omega);have e2:n0+((meas e (lv+1) (n0+n)).2-n0)=(meas e (lv+1) (n0+n)).2:=by omega
   rw[e2]at ih;exact ih
def S3:∀ (N:Nat) (e:Expr),SizeOf.sizeOf e<N→∀ lv:Int,1≤lv→lv≤5→msC e lv
 | 0,_,h,_,_,_=>by omega
 | N+1,e,h,lv,h1,h5=>by
  intro n hn0 hn;have sb:=JY _ e (lt_succ_self _) lv h1 h5;rw[JK]
  by_cases hc:4<lv∨24<n+1
  ·rw[if_pos hc];refine⟨fun h=>absurd rfl h,fun _=>?_⟩
   by_cases h4:4<lv
   ·rw[G7,if_pos (.inl h4)];simp only;omega
   ·have:=sb.1;omega
  ·rw[if_neg hc];have hL:=Re h1 (by omega) e.kids n 1 0 (fun e' he=>S3 N e' (by have:=DB he;omega) _ (by omega) (by omega)) (by omega) hn0 (by omega) (by omega)
   by_cases h24:24<e.kids.length
   ·rw[G7,if_pos (.inr h24)];refine⟨fun h=>?_,fun _=>by simp only;omega⟩;have:=Rc e.kids (n+1) 0 h (by omega) (by omega) fun e' _ n' k1 k2 k3=>⟨Qd _ e' (lt_succ_self _) _ _,(L3 _ e' (lt_succ_self _) (lv+1) n' (by omega) (by omega) k1 k2).2.2.2.2 k3⟩
    omega
   ·rw[G7,if_neg (by omega)];exact hL
def Lw(e:Expr):GC e=0↔depth e=0:=by
 have h:=S3 _ e (lt_succ_self _) 1 (by omega) (by omega) 0 (by omega) (by omega);have b:=L3 _ e (lt_succ_self _) 1 0 (by omega) (by omega) (by omega) (by omega);have sb:=(JY _ e (lt_succ_self _) 1 (by omega) (by omega)).1;unfold GC depth
 by_cases hz:(meas e 1 0).1=0
 ·have:=h.2 hz;rw[if_pos (by omega)];simp[hz]
 ·have h1:=h.1 hz;have h2:=b.2.2.2.2 hz;have h3:(DM e 1).1=(meas e 1 0).2:=by rw[h1];simp
  rw[if_neg (by omega)];constructor
  ·intro h;omega
  ·intro h;exact absurd h hz
def Tl{lv:Int}:∀ (l:List Expr) (n m:Int),(∀ e∈l,(DM e (lv+1)).1≤24→(cnt e:Int)=(DM e (lv+1)).1)→1≤lv→lv≤4→0≤n→n≤24→(Fp l lv n m).1≤24→n+(QC l:Int)=(Fp l lv n m).1
 |[],n,m,_,_,_,_,_,_=>by simp[Fp,QC]
 | e::l,n,m,hk,h1,h4,hn,hn2,h=>by
  have b:=JY _ e (lt_succ_self _) (lv+1) (by omega) (by omega);simp only[Fp,QC]at h ⊢;split at h
  ·simp at h
  ·rename_i hlt;rw[if_neg hlt];have b1:=b.1;have:=hk e (by simp) (by omega);have ih:=Tl l _ _ (fun e' he=>hk e' (by simp[he])) h1 h4 (by omega) (by omega) h;rw[← ih];omega
def Tk:∀ (N:Nat) (e:Expr),SizeOf.sizeOf e<N→∀ lv:Int,1≤lv→lv≤5→(DM e lv).1≤24→(cnt e:Int)=(DM e lv).1
 | 0,_,h,_,_,_,_=>by omega
 | N+1,e,h,lv,h1,h5,hs=>by
  rw[G7]at hs ⊢;split at hs
  ·simp at hs
  ·rename_i hc;rw[if_neg hc,TV];have:=Tl e.kids 1 0 (fun e' he hs'=>Tk N e' (by have:=DB he;omega) _ (by omega) (by omega) hs') h1 (by omega) (by omega) (by omega) hs;rw[← this];omega
def Zw{e:Expr}(h:GC e≠0):cnt e≤24:=by
 unfold GC at h
 by_cases h24:24<(DM e 1).1
 ·simp[h24]at h
 ·have:=Tk _ e (lt_succ_self _) 1 (by omega) (by omega) (by omega);omega
def JH(l:List Atom):Prop:=l.length≤8∧l.Pairwise fun a b=>a.name≠b.name
def Vp{l m:List Atom}(h:l <+: m)(hg:JH m):JH l:=⟨Nat.le_trans h.length_le hg.1,hg.2.sublist h.sublist⟩
def Nf(l:List Atom)(a:Atom):l <+: Em l a:=by
 unfold Em;split
 ·exact List.prefix_refl l
 ·exact List.prefix_append l [a]
def K3:∀ (es:List Expr) (l:List Atom),(∀ e∈es,∀ l,(GK e l).2=true→l <+: (GK e l).1)→(HX es l).2=true→l <+: (HX es l).1
 |[],l,_,_=>by simp[HX]
 | e::es,l,hk,h=>by
  simp only[HX]at h ⊢;split at h
  ·rename_i ht;rw[if_pos ht];exact List.IsPrefix.trans (hk e (by simp) l ht) (K3 es _ (fun e' he=>hk e' (by simp[he])) h)
  ·simp at h
def Pa:∀ (N:Nat) (e:Expr),SizeOf.sizeOf e<N→∀ l,(GK e l).2=true→l <+: (GK e l).1
 | 0,_,h,_,_=>by omega
 | N+1,e,h,l,ht=>by
  rw[Ip]at ht ⊢;split at ht
  ·rename_i h0;rw[if_pos h0];split at ht
   ·rename_i h1;rw[if_pos h1];exact Nf _ _
   ·simp at ht
  ·rename_i h0;rw[if_neg h0];split at ht
   ·simp at ht
   ·rename_i h1;rw[if_neg h1];exact K3 _ _ (fun e' he l'=>Pa N e' (by have:=DB he;omega) l') ht
def paC(e:Expr):Prop:=∀ l,JH l→((prop e l).1=true→GK e l=((prop e l).2,true)∧JH (prop e l).2)∧((prop e l).1=false→(GK e l).2=true→¬ JH (GK e l).1)
def Td:∀ (es:List Expr),(∀ e∈es,paC e)→∀ l,JH l→((Cl es l).1=true→HX es l=((Cl es l).2,true)∧JH (Cl es l).2)∧((Cl es l).1=false→(HX es l).2=true→¬ JH (HX es l).1)
 |[],_,l,hg=>by simp[Cl,HX,hg]
 | e::es,hk,l,hg=>by
  obtain⟨k1,k2⟩:=hk e (by simp) l hg;simp only[Cl,HX];cases hp:(prop e l).1
  ·simp only[Bool.false_eq_true,if_false,false_implies,true_and,true_implies];cases ha:(GK e l).2
   ·simp
   ·intro ht hgo;simp only[if_true]at ht hgo;have h1:=k2 hp ha;exact h1 (Vp (K3 es _ (fun e' he l'=>Pa _ e' (lt_succ_self _) l') ht) hgo)
  ·obtain⟨h1,h2⟩:=k1 hp;rw[h1];simp only[if_true];exact Td es (fun e' he=>hk e' (by simp[he])) _ h2
def dE{l:List Atom}(h:l.Pairwise fun a b=>a.name≠b.name){a b:Atom}(ha:a∈l)(hb:b∈l)(hn:a.name=b.name):a=b:=by
 induction l with
 | nil=>simp at ha
 | cons x l ih =>
  rw[List.pairwise_cons]at h;rcases mem_cons.1 ha with e1|ha
  ·rcases mem_cons.1 hb with e2|hb
   ·rw[e1,e2]
   ·exact absurd hn (e1▸h.1 b hb)
  ·rcases mem_cons.1 hb with e2|hb
   ·exact absurd hn.symm (e2▸h.1 a ha)
   ·exact ih h.2 ha hb
def Rt:∀ (N:Nat) (e:Expr),SizeOf.sizeOf e<N→paC e
 | 0,_,h=>by omega
 | N+1,e,h=>by
  intro l hg;rw[D2,Ip]
  by_cases h0:e.kids.length=0
  ·rw[if_pos h0,if_pos h0]
   by_cases h1:e.k=0∧Kb e.atom=true
   ·rw[if_pos h1,if_pos h1];simp only;unfold Fm;cases hf:l.find? (hit e.atom) with
    |some b =>
     have hb:=List.mem_of_find?_eq_some hf;have hh:=List.find?_some hf
     by_cases hab:e.atom=b
     ·have:Em l e.atom=l:=by unfold Em;rw[if_pos (hab▸hb)]
      rw[this];simp[hab,hg]
     ·simp[hab];have hname:e.atom.name=b.name:=by
       unfold hit at hh;simpa [hab]using hh
      intro hgo;have hb':b∈Em l e.atom:=(Nf l e.atom).subset hb;have ha':e.atom∈Em l e.atom:=by unfold Em;split<;>simp_all
      exact hab (dE hgo.2 ha' hb' hname)
    |none =>
     have hno:∀ x∈l,e.atom≠x∧e.atom.name≠x.name:=by
      intro x hx;rw[List.find?_eq_none]at hf;have:=hf x hx;unfold hit at this;simpa using this
     have hm:e.atom∉l:=fun hx=>(hno _ hx).1 rfl
     have hE:Em l e.atom=l++[e.atom]:=by unfold Em;rw[if_neg hm]
     rw[hE]
     by_cases h8:l.length=8
     ·simp[h8];intro hgo;have:=hgo.1;simp at this;omega
     ·simp[h8];refine⟨by have:=hg.1;simp;omega,?_⟩;rw[pairwise_append];refine⟨hg.2,by simp,fun a ha b hb=>?_⟩;rw[mem_singleton.1 hb];exact fun hx=>(hno a ha).2 hx.symm
   ·rw[if_neg h1,if_neg h1];simp
  ·rw[if_neg h0,if_neg h0]
   by_cases h1:e.k<1∨(e.kids.length:Int)<e.k∨e.atom≠a0
   ·rw[if_pos h1,if_pos h1];simp
   ·rw[if_neg h1,if_neg h1];exact Td e.kids (fun e' he=>Rt N e' (by have:=DB he;omega)) l hg
def fM{e:Expr}(h:Bb e=true):GC e≠0∧GK e []=(Ag e,true)∧JH (Ag e):=by
 have hp:=EA h;have hk:=(Rt _ e (lt_succ_self _) [] ⟨by simp,by simp⟩).1 hp;have hc:=Hz _ e (lt_succ_self _) [] hp;have ha:Ag e=(prop e []).2:=by unfold Ag;rw[if_pos h,hc]
 rw[ha];refine⟨?_,hk⟩;rw[Ne,Lw];simp[Bb]at h;exact h.1
def dI{e:Expr}(h:Bb e=false)(hn:GC e≠0)(ha:(GK e []).2=true):¬ JH (GK e []).1:=by
 have hk:=(Rt _ e (lt_succ_self _) [] ⟨by simp,by simp⟩).2;rw[Ne,Lw]at hn;refine hk ?_ ha;simp[Bb,hn]at h;exact h
def f150_ok(e:Expr):Ad C0 150 [.agg e.c] [] (.tup [BB (Ag e),B (Bb e)]) []:=by
 refine Ad.go f150 ?_;unfold f150;refine gO ?_;refine Ae (f232_ok e) ?_;have bad:Bb e=false→Ag e=[]:=fun h=>by simp[Ag,h]
 by_cases hn:GC e=0
 ·have e0:(GC e==0)=true:=by simp[hn]
  have hx:Bb e=false:=by simp[Bb,(Lw e).1 hn]
  simp(disch:=omega)only[go_sem,e0,hx,bad hx];exact FQ _
 have e0:(GC e==0)=false:=by simp[hn]
 have hc:=Zw hn;have hl:=Qm _ e (lt_succ_self _) [];have hcall:=f233_ok _ e (lt_succ_self _) [] (by simp;omega);have hok:=@fM e;have hbad:=@dI e;simp(disch:=omega)only[go_sem,e0];generalize GK e []=x at hl hcall hok hbad;obtain⟨m,ok⟩:=x;cases ok
 ·have hx:Bb e=false:=by
   cases h:Bb e
   ·rfl
   ·have:=(hok h).2.1;simp at this
  refine Bq ⟨⟨[],[],[]⟩,[(1,832)],[]⟩ (show Ad C0 233 [C4 0 [],.agg e.c] [] (.tup [.undef,B false]) [] from hcall) (by simp(disch:=omega)only[go_sem,map_nil];exact .AO (by omega)) rfl gI (.inl rfl) ?_;simp(disch:=omega)only[go_sem,hx,bad hx];exact FQ _
 simp only[List.length_nil]at hl;refine Bq ⟨⟨[],[],[]⟩,[(1,832)],[]⟩ (show Ad C0 233 [C4 0 [],.agg e.c] [] (.tup [C4 1 m,B true]) [] from hcall) (by simp(disch:=omega)only[go_sem,map_nil];exact .AO (by omega)) rfl gI (.inl rfl) ?_;have hb2:Bb e=false→¬ JH m:=fun h=>hbad h hn rfl
 have hng:¬ JH m→Bb e=false:=fun h=>by
  cases hx:Bb e
  ·rfl
  ·have h2:=hok hx;have:m=Ag e:=by have:=h2.2.1;simp at this;exact this
   exact absurd (this▸h2.2.2) h
 by_cases h8:8<m.length
 ·have d8:(8<(m.length:Int))=True:=by simp;omega
  have hx:Bb e=false:=hng fun h=>by have:=h.1;omega
  simp(disch:=omega)only[go_sem,d8,hx,bad hx];exact FQ _
 have d8:(8<(m.length:Int))=False:=by simp;omega
 simp(disch:=omega)only[go_sem,d8,decide_false];refine Ac (α:=Nat) (fun i=>⟨[(6,I i),(4,C4 832 m)],[]⟩) (fun i=>i≤m.length∧(m.take i).Pairwise fun a b=>a.name≠b.name) (fun i=>m.length-i) 0 ⟨by omega,by simp⟩ ?_ ?_
 ·refine Imp.Ar ?_ ?_
  ·exact gI
  ·exact gI
 rintro i ⟨hi,hP⟩ J hJ;refine gO ?_;refine ⟨fun hlt=>?_,fun hge=>?_⟩;rotate_left
 ·have hil:i=m.length:=by simp at hge;omega
  subst hil;rw[tL]at hP;have hg:JH m:=⟨by omega,hP⟩;have hx:Bb e=true:=by
   cases h:Bb e
   ·exact absurd hg (hb2 h)
   ·rfl
  have hm:m=Ag e:=by have:=(hok hx).2.1;simp at this;exact this
  simp(disch:=omega)only[go_sem,hx,← hm];refine CL ⟨[],[],[832]⟩ _ ?_;simp(disch:=omega)only[go_sem,hm]
 obtain⟨b,hb⟩:∃ b,m[i]?=some b:=⟨_,gE (by simp at hlt;omega)⟩;have hlt2:i<m.length:=by simp at hlt;omega
 refine Ac (α:=Nat) (fun j=>⟨[(7,I j),(6,I i),(4,C4 832 m)],[]⟩) (fun j=>j≤i∧∀ x∈m.take j,x.name≠b.name) (fun j=>i-j) 0 ⟨by omega,by simp⟩ ?_ ?_
 ·refine Imp.Ar ?_ ?_
  ·exact gI
  ·exact gI
 rintro j ⟨hj,hQ⟩ K hK;refine gO ?_;refine And.intro (fun hlt'=>?_) (fun hge'=>?_);rotate_left
 ·have hji:j=i:=by simp at hge';omega
  subst hji;refine hJ _ (j+1) ⟨by omega,?_⟩ (by omega) (Imp.Ar ?_ ?_)
  ·rw[tA,hb,pairwise_append];exact⟨hP,by simp,fun a ha c hc=>by simp at hc;rw[hc];exact hQ a ha⟩
  ·exact gI
  ·exact gI
 ·have hjl:j<i:=by simp at hlt';omega
  obtain⟨c,hc'⟩:∃ c,m[j]?=some c:=⟨_,gE (by omega)⟩;refine Aw 10 [([],[4]),([],[6]),([],[34,35]),([],[36]),([],[37]),([],[4]),([],[7]),([],[39,40]),([],[41]),([],[42])] fol ?_;simp(disch:=omega)only[go_sem,gm,hb,hc']
  by_cases hne:b.name=c.name
  ·have e9:(b.name==c.name)=true:=by simp[hne]
   have hx:Bb e=false:=hng fun h=>by
    have:=List.pairwise_iff_getElem.1 h.2 j i (by omega) hlt2 hjl;rw[gE (by omega)]at hb hc';simp at hb hc';rw[hb,hc']at this;exact this hne.symm
   simp(disch:=omega)only[go_sem,e9,hx,bad hx];exact FQ _
  ·have e9:(b.name==c.name)=false:=by simp[hne]
   simp(disch:=omega)only[go_sem,e9];refine hK _ (j+1) ⟨by omega,?_⟩ (by omega) AT;intro x hx;rw[tA,hc']at hx;simp only[Option.toList,mem_append,mem_singleton]at hx;rcases hx with hx|hx
   ·exact hQ x hx
   ·rw[hx];exact fun h=>hne h.symm
def f106_ok(e:Expr):Ad C0 106 [.agg e.c] [] (B (Bb e)) []:=by
 refine Ad.go f106 ?_;unfold f106;refine gO ?_;refine Ae (f150_ok e) ?_;refine gO ?_;exact AQ _
def f93_ok(e:Expr):Ad C0 93 [.agg e.c] [] (BB (Ag e)) []:=by
 refine Ad.go f93 ?_;unfold f93;refine gO ?_;refine Ae (f150_ok e) ?_;refine gO ?_;exact AQ _
def cW(l:List Ab)(hl:l.length≤1000000):Ad C0 76 [AX l] [] (Lz 0 (KU l)) []:=by
 refine Ad.go f76 ?_;unfold f76;refine gO ?_;refine Ac (α:=Nat × List Ab) (fun x=>⟨[(4,I x.1),(3,.sl (.own 1728 0) 3 (x.2.map Ab.c)),(0,AX l)],[]⟩) (fun x=>x.1≤l.length∧x.2.length≤x.1∧IQ x.2∧∀ p,p∈x.2↔p∈l.take x.1) (fun x=>l.length-x.1) (0,[]) ⟨by simp,by simp,by simp[IQ],by simp⟩ ?_ ?_
 ·refine Imp.Ar ?_ ?_
  ·simp(disch:=omega)only[go_sem,map_nil]
  ·exact gI
 rintro⟨i,out⟩ ⟨hi,hol,hasc,hmem⟩ J hJ
 replace hi:i≤l.length:=hi
 replace hol:out.length≤i:=hol
 replace hasc:IQ out:=hasc
 replace hmem:∀ p,p∈out↔p∈l.take i:=hmem
 refine gO ?_;refine ⟨fun hlt=>?_,fun hge=>?_⟩
 ·have hlt':i<l.length:=by simp at hlt;omega
  obtain⟨p,hp⟩:∃ p,l[i]?=some p:=⟨_,gE hlt'⟩;have ht:=HC hp;simp(disch:=omega)only[go_sem,gm,hp];refine Dd [1728] (f29_ok out p (by omega)) gI rfl trivial ?_;cases hh:B2 out p;rotate_left
  ·have hin:p∈out:=by simpa [B2]using hh
   refine gO ?_;refine hJ _ (i+1,out) ⟨by simp;omega,by simp;omega,hasc,fun x=>?_⟩ (by simp;omega) AT;rw[ht,mem_append,← hmem x];simp only[mem_singleton];exact⟨.inl,fun h=>h.elim id fun e=>by rw[e];exact hin⟩
  have hnin:p∉out:=by simpa [B2]using hh
  have hbd:out.length+1≤4294967296:=by omega
  simp(disch:=omega)only[go_sem,gm,hp];refine Ac (α:=Nat) (fun k=>⟨[(5,I k),(4,I i),(3,.sl (.own 1728 0) 3 ((GB out k p).map Ab.c)),(0,AX l)],[]⟩) (fun k=>k≤out.length∧∀ x∈out.drop k,Bc p x<0) (fun k=>k) out.length ⟨by omega,by simp⟩ ?_ ?_
  ·refine Imp.Ar ?_ ?_
   ·simp(disch:=omega)only[go_sem];exact .sl (by simp[GB,Ab.c])
   ·exact gI
  rintro k ⟨hk,hgt⟩ J2 hJ2;have stop:(∀ x∈out.take k,Bc x p<0)→∀ st',Imp ⟨C0,[],[]⟩ st' ⟨[(4,I (i+1:Nat)),(3,.sl (.own 1728 0) 3 ((GB out k p).map Ab.c)),(0,AX l)],[]⟩→J st':=fun hlt2 st' him=>by
   refine hJ st' (i+1,GB out k p) ⟨by simp;omega,by simp[NN out k p hk];omega,?_,fun x=>?_⟩ (by simp;omega) him
   ·have h0:=hasc;unfold IQ at h0 ⊢;rw[← List.take_append_drop k out]at h0;rw[pairwise_append]at h0;show (GB out k p).Pairwise _;unfold GB;rw[pairwise_append];refine⟨h0.1,List.pairwise_cons.2 ⟨hgt,h0.2.1⟩,fun a ha b hb=>?_⟩;rcases mem_cons.1 hb with e|e
    ·rw[e];exact hlt2 a ha
    ·exact h0.2.2 a ha b e
   ·show x∈GB out k p↔x∈l.take (i+1);rw[VU,ht,mem_append,← hmem x];simp
  refine Aw 12 [([],[5]),([],[28]),([],[29]),([],[3,30]),([],[5,30]),([],[32,30]),([],[31,33,30]),([],[34,30]),([],[3,30]),([],[5,30]),([],[36,37,30]),([],[38,30])] fol ?_;cases k with
  | zero =>
   have e0:(0<((0:Nat):Int))=False:=by simp
   simp(disch:=omega)only[go_sem,e0,decide_false];exact stop (by simp) _ AT
  | succ k =>
   have e0:(0<(((k+1:Nat)):Int))=True:=eq_true (by omega);have e1:(0<(k:Int)+1)=True:=eq_true (by omega);have e2:((k:Int)+1-1)=(k:Int):=by omega
   obtain⟨x,hx⟩:∃ x,out[k]?=some x:=⟨_,gE (by omega)⟩;have g1:=VT out (k+1) p hk;have g2:=S6 out k p hk;rw[hx]at g2;have hml:=NN out (k+1) p hk;have z1:k<(GB out (k+1) p).length:=by omega
   have z2:k+1<(GB out (k+1) p).length:=by omega
   simp(disch:=omega)only[go_sem,e0,e1,e2,gm,g1,g2,length_map,hml];refine Ae (f107_ok x p) ?_;refine gO ?_
   by_cases hc:0<Bc x p
   ·have e3:(0<Bc x p)=True:=eq_true hc;have e4:(k=k+1)=False:=eq_false (by omega);simp(disch:=omega)only[go_sem,e2,e3,gm,g1,g2,length_map,hml,List.length_set,List.getElem?_set,e4];refine hJ2 _ k ⟨by omega,fun y hy=>?_⟩ (by omega) (Imp.Ar ?_ gI)
    ·rw[List.drop_eq_getElem_cons (by omega),get_eq hx]at hy;rcases mem_cons.1 hy with e|e
     ·subst e;have:=CN y p;omega
     ·exact hgt y e
    ·simp(disch:=omega)only[go_sem];refine .sl ?_;rw[← S7 hx,map_set,map_set];rfl
   ·have e3:(0<Bc x p)=False:=eq_false hc;simp(disch:=omega)only[go_sem,e3,decide_false];refine stop (fun y hy=>?_) _ AT;have hxm:x∈out:=mG hx;have hxp:Bc x p<0:=by
     have:Bc x p≠0:=fun e=>hnin (by rw[← Gc e];exact hxm)
     omega
    rw[HC hx]at hy;rcases mem_append.1 hy with e|e
    ·have h0:=hasc;unfold IQ at h0;rw[← List.take_append_drop k out,pairwise_append]at h0;have hd:out.drop k=x::out.drop (k+1):=by rw[List.drop_eq_getElem_cons (by omega),get_eq hx]
     exact CU (h0.2.2 y e x (by rw[hd];simp)) hxp
    ·rw[mem_singleton.1 e];exact hxp
 ·have hil:i=l.length:=by simp at hge;omega
  subst hil;rw[tL]at hmem;have e:out=KU l:=Nd hasc (FI l) fun x=>by rw[hmem,Ig]
  refine CL ⟨[(1728,0)],[],[]⟩ _ ?_;simp(disch:=omega)only[go_sem,e]
def f75_ok(l:List Queue)(h1:l.length≤100)(h2:∀ q∈l,BG q≤100):Ad C0 75 [AB l] [] (Lz 0 (Ay l)) []:=by
 refine Ad.go f75 ?_;unfold f75;refine gO ?_;refine Ac (α:=Nat) (fun i=>⟨[(4,I i),(0,AB l),(3,.sl (.own 1088 0) 3 (((l.take i).flatMap Bp).map Ab.c))],[]⟩) (fun i=>i≤(l).length∧True) (fun i=>(l).length-i) 0 ⟨by omega,trivial⟩ ?_ ?_
 ·exact B0
 rintro i ⟨hi,hP⟩ J hJ;refine gO ?_;refine gR (l:=l) hi (fun b hb hbm hlt=>?_) (fun hil=>?_);simp(disch:=omega)only[go_sem,gm,hb]
 ·have hfl:=Lk (l:=l.take i) fun q hq=>h2 q (List.mem_of_mem_take hq)
  have hq:=IJ b;have hb2:=h2 b hbm;have hbd:((l.take i).flatMap Bp).length+(Bp b).length≤4294967296:=by simp only[List.length_take]at hfl;omega
  refine Ae (f134_ok b (by omega)) ?_;refine gO ?_;refine hJ _ (i+1) ⟨by omega,trivial⟩ (by omega) (Imp.Ar ?_ ?_)
  all_goals(try simp(disch:=omega)only[go_sem])
  all_goals(try(repeat'(with_reducible apply And.intro)))
  all_goals(first|exact .AO (by omega)|exact .AJ (by omega)|exact .sl (by simp[tA,hb])|exact .int (by simp[tA,hb])|exact .eq (by simp[tA,hb]))
 ·subst hil;have hfl:=Lk h2;refine Qw [1088] ⟨⟨[],[],[]⟩,[(0,1216)],[]⟩ (cW (l.flatMap Bp) (by omega)) (by simp(disch:=omega)only[go_sem,tL]) rfl trivial (.inl rfl) ?_;refine gO ?_;refine CL ⟨[(1216,0)],[],[]⟩ _ ?_;simp(disch:=omega)only[go_sem,Ay]
def f97_ok(l:List Queue)(name:Bs)(hl:l.length≤1000000):Ad C0 97 [AB l,.v (.string (str name))] [] (I (match l.findIdx? (fun q=>q.res.name==name) with|some i=>i|none=>-1)) []:=by
 refine Ad.go f97 ?_;unfold f97;refine gO ?_;refine Ac (α:=Nat) (fun i=>⟨[(5,I i),(0,AB l),(1,.v (.string (str name)))],[]⟩) (fun i=>i≤(l).length∧(l.take i).find? (fun q=>q.res.name==name)=none) (fun i=>(l).length-i) 0 ⟨by omega,rfl⟩ ?_ ?_
 ·exact B0
 rintro i ⟨hi,hP⟩ J hJ;refine gO ?_;refine gR (l:=l) hi (fun b hb hbm hlt=>?_) (fun hil=>?_);simp(disch:=omega)only[go_sem,gm,hb]
 ·refine⟨fun h=>?_,fun h=>?_⟩
  ·have e:=F8 hP b hb (by simpa using h);simp(disch:=omega)only[go_sem,e];exact AQ _
  ·refine hJ _ (i+1) ⟨by omega,(by rw[BW hP hb];simp at h;simp[h])⟩ (by omega) AT
 ·subst hil;rw[tL]at hP;have e:l.findIdx? (fun q=>q.res.name==name)=none:=by
   rw[List.findIdx?_eq_none_iff];rw[List.find?_eq_none]at hP;intro x hx;simpa using hP x hx
  simp(disch:=omega)only[go_sem,e];exact AQ _
def M5(l:List Queue)(p:Ab)(name:Bs):Bool:=match l.find? (fun q=>q.res.name==name) with
 |some q=>(Aq q p).isSome
 |none=>false
def f104_ok(l:List Queue)(ha:∀ q∈l,BG q≤100):Ad C0 104 [AB l] [] (B (Cy l)) []:=by
 refine Ad.go f104 ?_;unfold f104
 by_cases hq:8<l.length
 ·have e1:(8<(l.length:Int))=True:=eq_true (by omega);have e:Cy l=false:=by simp[Cy];omega
  simp(disch:=omega)only[go_sem,e1];refine As _ ?_;exact wb (by simp[e])
 have e1:(8<(l.length:Int))=False:=eq_false (by omega);simp(disch:=omega)only[go_sem,e1,decide_false];refine Ac (α:=Nat) (fun i=>⟨[(3,I i),(0,AB l)],[]⟩) (fun i=>i≤(l).length∧Ca (B8 l) (l.take i)=true) (fun i=>(l).length-i) 0 ⟨by omega,rfl⟩ ?_ ?_
 ·exact B0
 rintro i ⟨hi,hP⟩ J hJ;refine gO ?_;refine gR (l:=l) hi (fun b hb hbm hlt=>?_) (fun hil=>?_);refine Aw 23 [([],[0]),([],[3]),([],[13,14]),([],[15]),([],[16]),([4],[17]),([4],[18]),([4],[3,19]),([4],[20,19]),([4],[21,19]),([4],[0,22]),([4],[3,22]),([4],[24,22]),([4],[23,25,22]),([4],[26,22]),([4],[27,22]),([4],[28,22]),([4],[0,22]),([4],[3,22]),([4],[30,31,22]),([4],[32,22]),([4],[33,22]),([4],[34,22])] fol ?_;simp(disch:=omega)only[go_sem,gm,hb]
 ·have hab:=Bu (ha b hbm);have bad:B8 l i b=false→Cy l=false:=fun h=>by simp only[Cy,BI hb h,Bool.and_false]
  have good:B8 l i b=true→Ca (B8 l) (l.take (i+1))=true:=fun h=>by rw[Cr hb,hP,h];rfl
  first|(refine Ae (f158_ok b hab.1 hab.2.2) ?_)|(refine Av (f158_ok b hab.1 hab.2.2) ?_)
  cases hv:valid b
  ·simp(disch:=omega)only[go_sem];refine As _ ?_;exact wb (by rw[bad (by simp[B8,hv])])
  by_cases hi0:i=0
  ·subst hi0;refine gO ?_;refine hJ _ 1 ⟨by omega,good (by simp[B8,hv])⟩ (by omega) AT
  ·have hi1:(0<(i:Int))=True:=eq_true (by omega);have hi2:((i:Int)-1)=((i-1:Nat):Int):=by omega
   obtain⟨a,ha'⟩:∃ a,l[i-1]?=some a:=⟨_,gE (by omega)⟩;have had:l.getD (i-1) q0=a:=by simp[List.getD,ha']
   simp(disch:=omega)only[go_sem,hi1,hi2,gm,ha',hb];refine And.intro (fun hh=>?_) (fun hh=>?_)
   ·refine As _ ?_;exact wb (by rw[bad (by simp only[B8,had,hv];simp[hi0];simpa [BX]using hh)])
   ·refine hJ _ (i+1) ⟨by omega,good (by simp only[B8,had,hv];simp[hi0];simpa [BX]using hh)⟩ (by omega) AT
 subst hil;rw[tL]at hP;have hqs:Cy l=true:=by simp[Cy,hP];omega
 refine As _ ?_;exact wb (by rw[hqs])
def Tf:∀ (es:List Expr) (l:List Atom),(Cl es l).1=true→∀ e∈es,∃ l',(prop e l').1=true
 |[],_,_,_,he=>by simp at he
 | e::es,l,h,e',he=>by
  simp only[Cl]at h;split at h
  ·rename_i h1;rcases mem_cons.1 he with rfl|he
   ·exact⟨l,h1⟩
   ·exact Tf es _ h e' he
  ·simp at h
def f151_ok(l:List Atom)(set:List Bool)(hl:l.length≤1000000):∀ (N:Nat) (e:Expr),SizeOf.sizeOf e<N→∀ la,(prop e la).1=true →
 Ad C0 151 [.agg e.c,BB l,HR set] [] (B (Ez (D0 l set) e)) []
 | 0,_,h,_,_=>by omega
 | N+1,e,h,la,hp=>by
  refine Ad.lens f151 fun hlen=>?_
  simp only[ED,lens,Expr.BV,length_map,length_map,and_true,true_and]at hlen;rw[D2]at hp;refine Ad.go f151 ?_;unfold f151
  by_cases hk:e.kids.length=0
  ·rw[if_pos hk]at hp;have h0:e.k=0:=by
    by_cases h0:e.k=0
    ·exact h0
    ·rw[if_neg (by simp[h0])]at hp;simp at hp
   have e1:(e.k==0)=true:=by simp[h0]
   have ev:Ez (D0 l set) e=D0 l set e.atom:=by rw[Jz,if_pos hk]
   rw[ev];simp(disch:=omega)only[go_sem,e1];refine Ac (α:=Nat) (fun i=>⟨[(7,I i),(1,BB l),(2,HR set),(3,.ptr 192 0)],[(192,e.c)]⟩) (fun i=>i≤(l).length∧(l.take i).find? (fun x=>decide (x=e.atom))=none) (fun i=>(l).length-i) 0 ⟨by omega,rfl⟩ ?_ ?_
   ·exact B0
   rintro i ⟨hi,hP⟩ J hJ;refine gO ?_;refine gR (l:=l) hi (fun b hb hbm hlt=>?_) (fun hil=>?_);refine Aw 6 [([],[1]),([],[7]),([],[19,20]),([],[21]),([],[3]),([],[23])] fol ?_;simp(disch:=omega)only[go_sem,gm,hb]
   ·refine And.intro (fun hh=>?_) (fun hh=>?_)
    ·have hi2:l.findIdx? (fun x=>decide (x=e.atom))=some i:=F8 hP b hb (by simpa using hh)
     by_cases hs:i<set.length
     ·have e3:((i:Int)<set.length)=True:=eq_true (by omega);have e4:set[i]?=some (set.getD i false):=by rw[gE hs];simp[List.getD,hs]
      have e2:D0 l set e.atom=set.getD i false:=by simp[D0,hi2]
      simp(disch:=omega)only[go_sem,e3,gm,e4];refine As _ ?_;exact wb (by rw[e2])
     ·have e3:((i:Int)<set.length)=False:=eq_false (by omega);have e2:D0 l set e.atom=false:=by simp[D0,hi2,List.getD,hs]
      simp(disch:=omega)only[go_sem,e3,decide_false];refine As _ ?_;exact wb (by simp[e2])
    ·refine hJ _ (i+1) ⟨by omega,(by rw[BW hP hb];simp at hh;simp[hh])⟩ (by omega) AT
   ·subst hil;rw[tL]at hP;have hi2:l.findIdx? (fun x=>decide (x=e.atom))=none:=by
     rw[List.findIdx?_eq_none_iff];rw[List.find?_eq_none]at hP;intro x hx;simpa using hP x hx
    have e2:D0 l set e.atom=false:=by simp[D0,hi2]
    refine As _ ?_;exact wb (by rw[e2])
  ·rw[if_neg hk]at hp;have hb:¬ (e.k<1∨(e.kids.length:Int)<e.k∨e.atom≠a0):=by
    intro hb;rw[if_pos hb]at hp;simp at hp
   rw[if_neg hb]at hp;have hkid:=Tf _ _ hp;have e1:(e.k==0)=false:=by simp;omega
   have ev:Ez (D0 l set) e=decide (e.k≤CP (D0 l set) e.kids):=by rw[Jz,if_neg hk]
   have hbd:=Oh (D0 l set);rw[ev];simp(disch:=omega)only[go_sem,e1];refine Ac (α:=Nat) (fun i=>⟨[(9,I i),(8,I (CP (D0 l set) (e.kids.take i))),(1,BB l),(2,HR set),(3,.ptr 192 0)],[(192,e.c)]⟩) (fun i=>i≤(e.kids).length∧True) (fun i=>(e.kids).length-i) 0 ⟨by omega,trivial⟩ ?_ ?_
   ·refine Imp.Ar ?_ ?_
    all_goals(try simp(disch:=omega)only[go_sem])
    all_goals(try(repeat'(with_reducible apply And.intro)))
    all_goals(first|exact .AO (by omega)|exact .AJ (by omega)|exact .sl (by simp[CP])|exact .int (by simp[CP])|exact .eq (by simp[CP]))
   rintro i ⟨hi,hP⟩ J hJ;refine gO ?_;refine gR (l:=e.kids) hi (fun b hb hbm hlt=>?_) (fun hil=>?_);simp(disch:=omega)only[go_sem,gm,hb]
   ·obtain⟨la',hla⟩:=hkid b hbm;have hsz:=DB hbm;have hct:=K9 (D0 l set) e.kids i b hb;have hb1:=hbd (e.kids.take i);simp only[List.length_take]at hb1;refine Ae (f151_ok l set hl N b (by omega) la' hla) ?_;cases hev:Ez (D0 l set) b
    ·rw[hev]at hct;refine gO ?_;refine hJ _ (i+1) ⟨by omega,trivial⟩ (by omega) (Imp.Ar ?_ gI);simp(disch:=omega)only[go_sem,hct];exact .int (by simp)
    ·rw[hev]at hct;refine gO ?_;refine hJ _ (i+1) ⟨by omega,trivial⟩ (by omega) (Imp.Ar ?_ gI);simp(disch:=omega)only[go_sem,hct]
   ·subst hil;simp(disch:=omega)only[go_sem,tL];exact AQ _
def Wa:∀ (es:List Expr) (l:List Atom),(∀ e∈es,∀ l,(prop e l).1=true→(prop e l).2≠[])→(Cl es l).1=true→es≠[]∨l≠[]→(Cl es l).2≠[]
 |[],l,_,_,h=>by simpa [Cl]using h
 | e::es,l,hk,hp,_=>by
  simp only[Cl]at hp ⊢;split at hp
  ·rename_i h1;rw[if_pos h1];exact Wa es _ (fun e' he=>hk e' (by simp[he])) hp (.inr (hk e (by simp) l h1))
  ·simp at hp
def Uq:∀ (N:Nat) (e:Expr),SizeOf.sizeOf e<N→∀ l,(prop e l).1=true→(prop e l).2≠[]
 | 0,_,h,_,_=>by omega
 | N+1,e,h,l,hp=>by
  rw[D2]at hp ⊢
  by_cases h0:e.kids.length=0
  ·rw[if_pos h0]at hp ⊢
   by_cases h1:e.k=0∧Kb e.atom=true
   ·rw[if_pos h1]at hp ⊢;simp only at hp ⊢;rw[Yo hp];unfold Em;split
    ·rename_i hm;exact fun h=>by rw[h]at hm;simp at hm
    ·simp
   ·rw[if_neg h1]at hp;simp at hp
  ·rw[if_neg h0]at hp ⊢;split at hp
   ·simp at hp
   ·rename_i h1;rw[if_neg h1];exact Wa _ _ (fun e' he l'=>Uq N e' (by have:=DB he;omega) l') hp (.inl fun h=>h0 (by rw[h];rfl))
def f160_ok(e:Expr)(set:List Bool)(he:Bb e=true):Ad C0 160 [.agg e.c,HR set] [] (B (Fb e set)) []:=by
 have hl:=CF e;have hne:(Ag e).length≠0:=by
  have hp:=EA he;have h1:=Uq _ e (lt_succ_self _) [] hp;have hc:=Hz _ e (lt_succ_self _) [] hp;have ha:Ag e=(prop e []).2:=by unfold Ag;rw[if_pos he,hc]
  rw[ha];simpa using h1
 refine Ad.go f160 ?_;unfold f160;refine gO ?_;refine Ae (f150_ok e) ?_;simp(disch:=omega)only[go_sem,he];refine Ae (f151_ok (Ag e) set (by omega) _ e (lt_succ_self _) [] (EA he)) ?_;refine gO ?_;refine As _ ?_;exact wb (by simp[Fb,hne])
end Go.Rd
namespace Go.Abs
def sel(m:Nat):List (Nat × Nat × AV)→List (Nat × AV)
 |[]=>[]
 |(w,t,x)::l=>if m / w%2=1 then (t,x)::sel m l else sel m l
def QG(X:Env)(ops:Array Oper)(S:Nat→St)(m:Nat):List (Nat × Nat)→Prop
 |[]=>True
 |(i,m')::l=>Ba X ops (MZ ops i) (fun st'=>Imp X st' (S m')) (S m)∧QG X ops S m l
def TY(X:Env)(ops:Array Oper)(S:Nat→St):List (Nat × List (Nat × Nat))→Prop
 |[]=>True
 |(m,l)::t=>QG X ops S m l∧TY X ops S t
def okD(ops:Array Oper)(full:Nat)(tab:List (Nat × List (Nat × Nat))):Bool :=
 (tab.any fun p=>p.1==0)&&((List.range ops.size).all fun i=>full.testBit i)&&tab.all fun p =>
  (p.1==full||(List.range ops.size).any (fun i=>!p.1.testBit i&&(BA ops i).all fun e=>p.1.testBit e)) &&
  ((List.range ops.size).all fun i=>p.1.testBit i||!((BA ops i).all fun e=>p.1.testBit e)||p.2.any (fun q=>q.1==i)) &&
  p.2.all fun q=>q.2==(p.1 ||| 2 ^ q.1)&&tab.any (fun p'=>p'.1==q.2)
section
variable {X:Env} {A:A0} {N:Nat} {ops:Array Oper}
def U9{S:Nat→St}{m:Nat}{q:Nat × Nat}:∀ {l:List (Nat × Nat)},QG X ops S m l→q∈l→Ba X ops (MZ ops q.1) (fun st'=>Imp X st' (S q.2)) (S m)
 |[],_,h=>by cases h
 |(i,m')::l,h,hm=>by
  simp only[QG]at h;rcases List.mem_cons.1 hm with rfl|hm
  ·exact h.1
  ·exact U9 h.2 hm
def Vb{S:Nat→St}{p:Nat × List (Nat × Nat)}:∀ {tab:List (Nat × List (Nat × Nat))},TY X ops S tab→p∈tab→QG X ops S p.1 p.2
 |[],_,h=>by cases h
 |(i,m')::l,h,hm=>by
  simp only[TY]at h;rcases List.mem_cons.1 hm with rfl|hm
  ·exact h.1
  ·exact Vb h.2 hm
def YY(hA:A.ext=X.ext)(hX:∀ s∈X.ext,s%64=63)(hN:YD N ops){Q:Exit→Act→World→Prop}{K:St→Prop}(hQ:∀ g st a w,R X.C A N g st a w→K st→Q .normal a w)
 {full:Nat} {tab:List (Nat × List (Nat × Nat))} {S:Nat→St} (hok:okD ops full tab=true) (hs:TY X ops S tab) (he:K (S full)) :
 ∀ (fuel:Nat) (m:Nat) (l:List (Nat × Nat)) (Af:Array Bool) (g:Gh) (a:Act) (w:World),Af.size=ops.size→unl Af≤fuel→(∀ j,j<ops.size→dOf Af j=m.testBit j)→(m,l)∈tab→R X.C A N g (S m) a w →
  wpAny X.C.P .any ops Q fuel Af a w:=by
 have hok':=hok;simp only[okD,Bool.and_eq_true,List.all_eq_true,List.mem_range]at hok';obtain⟨⟨_,hfull⟩,htab⟩:=hok';intro fuel
 induction fuel with
 | zero =>
  intro m l Af g a w hsz hu hd hm hR;obtain⟨⟨h1,h2⟩,h3⟩:=htab (m,l) hm;simp only[Bool.or_eq_true,beq_iff_eq,List.any_eq_true,List.mem_range,Bool.and_eq_true]at h1;rcases h1 with rfl|⟨i,hi,hi1,hi2⟩
  ·refine⟨?_,hQ g _ a w hR he⟩;cases hrd:Region.ready .any ops Af with
   | nil=>rfl
   | cons j l' =>
    have hj:j∈Region.ready .any ops Af:=by rw[hrd];simp
    have:=(BD hsz).1 hj;rw[hd j this.1,hfull j this.1]at this;simp at this
  ·have hmem:i∈Region.ready .any ops Af:=(BD hsz).2 ⟨hi,by rw[hd i hi];simpa using hi1,fun e hee=>by
    have h4:=List.all_eq_true.1 hi2 e hee;have hlt:=Nr hN e hee hi;rw[hd e hlt];exact h4⟩
   obtain⟨k1,k2,_⟩:=(BD hsz).1 hmem;rw[HF (by omega) (by omega:i<Af.size)]at k2;cases k2
 | succ fuel ih =>
  intro m l Af g a w hsz hu hd hm hR;obtain⟨⟨h1,h2⟩,h3⟩:=htab (m,l) hm;simp only[Bool.or_eq_true,beq_iff_eq,List.any_eq_true,List.mem_range,Bool.and_eq_true]at h1;refine⟨fun h0=>?_,fun j hj=>?_⟩
  ·rcases h1 with rfl|⟨i,hi,hi1,hi2⟩
   ·exact hQ g _ a w hR he
   ·have hmem:i∈Region.ready .any ops Af:=(BD hsz).2 ⟨hi,by rw[hd i hi];simpa using hi1,fun e hee=>by
     have h4:=List.all_eq_true.1 hi2 e hee;have hlt:=Nr hN e hee hi;rw[hd e hlt];exact h4⟩
    rw[h0]at hmem;cases hmem
  ·obtain⟨k1,k2,k3⟩:=(BD hsz).1 hj;have hnb:m.testBit j=false:=by rw[← hd j k1];exact k2
   have h4:=h2 j k1;have he':(BA ops j).all (fun e=>m.testBit e)=true:=List.all_eq_true.2 fun e hee=>by
    have h5:=k3 e hee;have hlt:=Nr hN e hee k1;rw[hd e hlt]at h5;exact h5
   simp only[hnb,he',zT,Bool.or_false,Bool.false_or,List.any_eq_true,beq_iff_eq]at h4;obtain⟨q,hq,rfl⟩:=h4;have h5:=h3 q hq;simp only[beq_iff_eq,List.any_eq_true]at h5;obtain⟨h6,p',hp',h7⟩:=h5;have ho:ops[q.1]?=some ops[q.1]:=Array.getElem?_eq_getElem k1;have hop:=U9 (Vb hs hm) hq;simp only[MZ,ho,Ba]at hop;refine NS hA hX ho (fun g' st' a' w' hR' hK'=>?_) (hN.1 _ (Array.getElem_mem k1)) hop hR;obtain⟨g2,hR2⟩:=hK' A N g' a' w' hA hR';refine ih q.2 p'.2 _ g2 a' w' (by simp[hsz]) (by have:=H7 (by omega:q.1<Af.size) k2;omega) (fun j' hj'=>?_) (by rw[← h7];exact hp') hR2;rw[EH (by omega)];simp only[HJ];rw[h6,Nat.testBit_or,Nat.testBit_two_pow]
   by_cases hjj:j'=q.1
   ·subst hjj;simp
   ·simp[hjj,Ne.symm hjj,hd j' hj']
end
def av{X:Env}{ops:Array Oper}{K:St→Prop}{st:St}(full:Nat)(tab:List (Nat × List (Nat × Nat)))(S:Nat→St)(hm:X.C.P.follows .mixedOrders=true)(hok:(LP ops&&okD ops full tab)=true)
 (h0:Imp X st (S 0)) (hs:TY X ops S tab) (he:K (S full)):Ju X ops K st:=by
 refine En h0 ?_;intro A N g a w hA hN hX hR id Q hQ;simp only[Bool.and_eq_true]at hok;refine wp_region_any hm ?_;have h0:∃ l,(0,l)∈tab:=by
  have:=hok.2;simp only[okD,Bool.and_eq_true,List.any_eq_true,beq_iff_eq]at this;obtain⟨⟨⟨p,hp,h⟩,_⟩,_⟩:=this;exact⟨p.2,by rw[← h];exact hp⟩
 obtain⟨l,hl⟩:=h0;refine YY hA hX (N:=N) (K:=K) ⟨fun o ho=>?_,fun i hi e he=>?_⟩ hQ hok.2 hs he ops.size 0 l (Array.replicate ops.size false) g a _ (by simp) (by simp[unl]) (fun j hj=>by simp[dOf,Array.getD,hj]) hl hR.drew
 ·unfold IS;cases hd:o.dst with
  |none=>rfl
  |some d=>simp;exact hN o ho d hd
 ·have:=hok.1;simp only[LP,List.all_eq_true,List.mem_range,zD]at this;exact this i hi e he
@[go_sem] theorem ig(X:Env)(ops:Array Oper)(S:Nat→St)(m:Nat):QG X ops S m []=True:=rfl
@[go_sem] theorem gl(X:Env)(ops:Array Oper)(S:Nat→St)(m i m':Nat)(l:List (Nat × Nat)):QG X ops S m ((i,m')::l)=(Ba X ops (MZ ops i) (fun st'=>Imp X st' (S m')) (S m)∧QG X ops S m l):=rfl
@[go_sem] theorem ij(X:Env)(ops:Array Oper)(S:Nat→St):TY X ops S []=True:=rfl
@[go_sem] theorem gp(X:Env)(ops:Array Oper)(S:Nat→St)(m:Nat)(l:List (Nat × Nat))(t:List (Nat × List (Nat × Nat))):TY X ops S ((m,l)::t)=(QG X ops S m l∧TY X ops S t):=rfl
@[go_sem] theorem jT(m:Nat):sel m []=[]:=rfl
@[go_sem] theorem jl(m w t:Nat)(x:AV)(l:List (Nat × Nat × AV)):sel m ((w,t,x)::l)=if m / w%2=1 then (t,x)::sel m l else sel m l:=rfl
end Go.Abs
namespace Go.Abs
def Va(X:Env)(ops:Array Oper)(S:Nat→St)(m:Nat):List (Nat × Nat × Nat)→Prop
 |[]=>True
 |(i,w,d)::l=>(if m / w%2=0∧d &&& m=d then Ba X ops (MZ ops i) (fun st'=>Imp X st' (S (m+w))) (S m) else True)∧Va X ops S m l
def YX(X:Env)(ops:Array Oper)(S:Nat→St)(E:List (Nat × Nat × Nat)):List Nat→Prop
 |[]=>True
 | m::t=>Va X ops S m E∧YX X ops S E t
def Ul(E:List (Nat × Nat × Nat))(m:Nat):List (Nat × Nat):=(E.filter fun e=>decide (m / e.2.1%2=0∧e.2.2 &&& m=e.2.2)).map fun e=>(e.1,m+e.2.1)
def cc(E:List (Nat × Nat × Nat))(ms:List Nat):List (Nat × List (Nat × Nat)):=ms.map fun m=>(m,Ul E m)
section
variable {X:Env} {ops:Array Oper} {S:Nat→St}
def ak{m:Nat}:∀ {E:List (Nat × Nat × Nat)},Va X ops S m E→QG X ops S m (Ul E m)
 |[],_=>trivial
 |(i,w,d)::l,h=>by
  simp only[Va]at h;have ih:=ak h.2;unfold Ul at ih ⊢;simp only[List.filter_cons]
  by_cases hc:m / w%2=0∧d &&& m=d
  ·rw[if_pos hc]at h;simp only[hc,and_self,decide_true,if_true,List.map_cons,QG];exact⟨h.1,ih⟩
  ·simp only[hc,decide_false,Bool.false_eq_true,if_false];exact ih
def ao{E:List (Nat × Nat × Nat)}:∀ {ms:List Nat},YX X ops S E ms→TY X ops S (cc E ms)
 |[],_=>trivial
 | m::t,h=>⟨ak h.1,ao h.2⟩
def Dg{K:St→Prop}{st:St}(full:Nat)(E:List (Nat × Nat × Nat))(ms:List Nat)(S:Nat→St)(h0:Imp X st (S 0))(hs:YX X ops S E ms)(he:K (S full))(hm:X.C.P.follows .mixedOrders=true)
 (hok:(LP ops&&okD ops full (cc E ms))=true:=by kernel_rfl):Ju X ops K st:=av full (cc E ms) S hm hok h0 (ao hs) he
end
def De(X:Env)(ops:Array Oper)(S:Nat→St)(m i w d:Nat)(l:List (Nat × Nat × Nat)):Va X ops S m ((i,w,d)::l)=((if m / w%2=0∧d &&& m=d then Ba X ops (MZ ops i) (fun st'=>Imp X st' (S (m+w))) (S m) else True)∧Va X ops S m l):=nd rfl
def Df(X:Env)(ops:Array Oper)(S:Nat→St)(E:List (Nat × Nat × Nat))(m:Nat)(t:List Nat):YX X ops S E (m::t)=(Va X ops S m E∧YX X ops S E t):=nd rfl
def DX(X:Env)(ops:Array Oper)(S:Nat→St)(m:Nat):Va X ops S m []=True:=nd rfl
def DY(X:Env)(ops:Array Oper)(S:Nat→St)(E:List (Nat × Nat × Nat)):YX X ops S E []=True:=nd rfl
end Go.Abs
