/- part 12 of the proof -/
import Derived.Test.YthachdiockkofaaGreatDoorL11
set_option linter.all false
open Go Go.Abs Go.Proofs
set_option maxRecDepth 100000
namespace Go.Rd
set_option maxHeartbeats 8000000
open List (all_eq_true any_append append_nil drop_eq_getElem_cons filter_sublist getElem_mem getElem_of_mem length_cons length_filter_le length_map length_take map_nil map_set mem_append mem_cons mem_filter mem_map pairwise_cons take_append_drop)
open Bool (and_eq_true false_eq_true)
open Option (isSome_none isSome_some toList_some)
open Nat (le_trans lt_succ_self)
open Tryz
structure Few(s:WS):Prop where
 nq:s.Aa.length≤100
 nn:s.AE.length≤100
 aq:∀ q∈s.Aa,BG q≤100
def Ay(l:List Queue):List Ab:=KU (l.flatMap Bp)
def Ff(l:List Need):List Ab:=l.map (·.proc)
def Ap(s:WS):List Ab:=KU (Ay s.Aa++Ff s.AE)
def Lk{l:List Queue}(h:∀ q∈l,BG q≤100):(l.flatMap Bp).length≤l.length*100:=by
 induction l with
 | nil=>simp
 | cons q l ih =>
  have h1:=IJ q;have h2:=h q (by simp);have h3:=ih fun q' hq=>h q' (by simp[hq])
  simp only[List.flatMap_cons,List.length_append,length_cons];omega
def f130_ok(l:List Queue)(h1:l.length≤100)(h2:∀ q∈l,BG q≤100):Ad C0 130 [AB l] [] (AX (Ay l)) []:=by
 refine Ad.go f130 ?_;unfold f130;refine gO ?_;refine Ac (α:=Nat) (fun i=>⟨[(8,I i),(7,I l.length),(6,AB l),(3,.sl (.own 960 0) 3 (((l.take i).flatMap Bp).map Ab.c))],[]⟩) (fun i=>i≤(l).length∧True) (fun i=>(l).length-i) 0 ⟨by omega,trivial⟩ ?_ ?_
 ·exact B0
 rintro i ⟨hi,hP⟩ J hJ;refine gO ?_;refine gR (l:=l) hi (fun b hb hbm hlt=>?_) (fun hil=>?_);simp(disch:=omega)only[go_sem,gm,hb]
 ·have hfl:=Lk (l:=l.take i) fun q hq=>h2 q (List.mem_of_mem_take hq)
  have hq:=IJ b;have hb2:=h2 b hbm;have hbd:((l.take i).flatMap Bp).length+(Bp b).length≤4294967296:=by simp only[length_take]at hfl;omega
  refine Ae (f132_ok b (by omega)) ?_;refine gO ?_;refine hJ _ (i+1) ⟨by omega,trivial⟩ (by omega) (Imp.Ar ?_ ?_)
  all_goals(try simp(disch:=omega)only[go_sem])
  all_goals(try(repeat'(with_reducible apply And.intro)))
  all_goals(first|exact .AO (by omega)|exact .AJ (by omega)|exact .sl (by simp[tA,hb])|exact .int (by simp[tA,hb])|exact .eq (by simp[tA,hb]))
 ·subst hil;have hfl:=Lk h2;refine Is [960] (f131_ok (l.flatMap Bp) (by omega)) (by simp(disch:=omega)only[go_sem,tL]) rfl ?_;refine gO ?_;refine Cn _ ?_;simp(disch:=omega)only[go_sem,Ay]
def PI{l:List Queue}(h:∀ q∈l,BG q≤100):(Ay l).length≤l.length*100:=le_trans (Og _) (Lk h)
def f73_ok(s:WS)(h:Few s):Ad C0 73 [.agg s.c] [] (AX (Ap s)) []:=by
 have hq:=PI h.aq;have h1:=h.nq;have h2:=h.nn;have hbd:(Ay s.Aa).length≤4294967296:=by omega
 refine Ad.go f73 ?_;unfold f73;refine gO ?_;refine Ae (f130_ok s.Aa h.nq h.aq) ?_;refine gO ?_;refine Ac (α:=Nat) (fun i=>⟨[(13,I i),(12,I s.AE.length),(11,Fe s.AE),(3,.sl (.own 1344 0) 3 ((Ay s.Aa++Ff (s.AE.take i)).map Ab.c))],[]⟩) (fun i=>i≤(s.AE).length∧True) (fun i=>(s.AE).length-i) 0 ⟨by omega,trivial⟩ ?_ ?_
 ·refine Imp.ren ⟨[(576,1344)],[],[]⟩ ⟨rfl,rfl⟩ (by simp[lk]) ?_ ?_
  all_goals(try simp(disch:=omega)only[go_sem])
  all_goals(try(repeat'(with_reducible apply And.intro)))
  all_goals(first|exact .AO (by omega)|exact .AJ (by omega)|exact .sl (by simp[Ff])|exact .int (by simp[Ff])|exact .eq (by simp[Ff]))
 rintro i ⟨hi,hP⟩ J hJ;refine gO ?_;refine gR (l:=s.AE) hi (fun b hb hbm hlt=>?_) (fun hil=>?_);simp(disch:=omega)only[go_sem,gm,hb]
 ·have hbd2:(Ay s.Aa).length+(Ff (s.AE.take i)).length+1≤4294967296:=by simp[Ff];omega
  simp(disch:=omega)only[go_sem,Ff];refine hJ _ (i+1) ⟨by omega,trivial⟩ (by omega) (Imp.Ar ?_ ?_)
  all_goals(try simp(disch:=omega)only[go_sem])
  all_goals(try(repeat'(with_reducible apply And.intro)))
  all_goals(first|exact .AO (by omega)|exact .AJ (by omega)|exact .sl (by simp[Ff,tA,hb,Ab.c])|exact .int (by simp[Ff,tA,hb,Ab.c])|exact .eq (by simp[Ff,tA,hb,Ab.c]))
 ·subst hil;refine Is [1344] (f131_ok (Ay s.Aa++Ff s.AE) (by simp[Ff];omega)) (by simp(disch:=omega)only[go_sem,tL]) rfl ?_;refine gO ?_;refine Cn _ ?_;simp(disch:=omega)only[go_sem,Ap]
def B1(q:Queue)(p:Ab):Queue:=if valid q&&B2 (Bp q) p then { ET (Bw q p) with gen:=q.gen } else q
def O2(l:List Need)(p:Ab):List Need:=l.filter fun n=>decide (n.proc≠p)
def Ci(s:WS)(p:Ab):WS:=⟨s.Aa.map fun q=>B1 q p,O2 s.AE p⟩
@[reducible] def wsz:List AV:=[.sl .no 8 [],.sl .no 9 []]
@[go_sem] theorem jz(p q:Ab):(Bc p q !=0) = !decide (p=q):=by
 by_cases h:p=q
 ·subst h;simp[Cj]
 ·have:Bc p q≠0:=fun e=>h (Gc e)
  simp[h,this]
@[go_sem] theorem ic(p q:Ab):(Bc p q==0)=decide (p=q):=by
 by_cases h:p=q
 ·subst h;simp[Cj]
 ·have:Bc p q≠0:=fun e=>h (Gc e)
  simp[h,this]
def f74_ok(s:WS)(p:Ab)(h:Few s):Ad C0 74 [.agg s.c,.agg p.c] [] (.agg (Ci s p).c) []:=by
 have hn1:=h.nq;have hn2:=h.nn;refine Ad.go f74 ?_;unfold f74;refine gO ?_;refine Ac (α:=Nat) (fun i=>⟨[(17,I i),(16,I s.Aa.length),(15,AB s.Aa),(2,.ptr 128 0),(3,.ptr 192 0),(5,.ptr 320 0),(4,.ptr 256 0)],[(128,s.c),(192,p.c),(256,wsz),(320,[.sl (.own 2752 0) 8 (((s.Aa.take i).map fun q=>B1 q p).map Queue.c),.v (.slice none 0 0)])]⟩) (fun i=>i≤(s.Aa).length∧True) (fun i=>(s.Aa).length-i) 0 ⟨by omega,trivial⟩ ?_ ?_
 ·exact B0
 rintro i ⟨hi,hP⟩ J hJ;refine gO ?_;refine gR (l:=s.Aa) hi (fun b hb hbm hlt=>?_) (fun hil=>?_);simp(disch:=omega)only[go_sem,gm,hb]
 ·have ha:=h.aq b hbm;have hbd:i+1≤4294967296:=by omega
  have hbd':min i s.Aa.length+1≤4294967296:=by omega
  have fin:∀ q,B1 b p=q→∀ st',Imp ⟨C0,[],[]⟩ st' ⟨[(17,I (i+1:Nat)),(16,I s.Aa.length),(15,AB s.Aa),(2,.ptr 128 0),(3,.ptr 192 0),(5,.ptr 320 0),(4,.ptr 256 0)],[(128,s.c),(192,p.c),(256,wsz),(320,[.sl (.own 2752 0) 8 (((s.Aa.take i).map fun q=>B1 q p).map Queue.c++[q.c]),.v (.slice none 0 0)])]⟩→J st':=fun q hq st' h=>by
   refine hJ st' (i+1) ⟨by omega,trivial⟩ (by omega) ?_;have e:((s.Aa.take (i+1)).map fun q=>B1 q p).map Queue.c=((s.Aa.take i).map fun q=>B1 q p).map Queue.c++[q.c]:=by
    rw[tA,hb];simp[hq]
   rw[e];exact h
  clear hJ;refine Aw 3 [([],[7]),([],[21]),([],[3])] fol ?_;refine gO ?_;refine Av (f132_ok b (by omega)) ?_;refine gO ?_;refine Ae (f59_ok (Bp b) p (by have:=IJ b;omega)) ?_;cases hp:B2 (Bp b) p
  ·simp(disch:=omega)only[go_sem,length_map,length_take];refine fin b (by simp[B1,hp]) _ (Imp.Ar gI ?_);simp(disch:=omega)only[go_sem]
  refine gO ?_;refine Ae (f133_ok b p (by omega)) ?_;cases hv:valid b
  ·have e:FC b p=(q0,[],2):=by simp[FC,hv]
   simp(disch:=omega)only[go_sem,e,length_map,length_take];refine fin b (by simp[B1,hv]) _ (Imp.Ar gI ?_);simp(disch:=omega)only[go_sem]
  ·have e:FC b p=(ET (Bw b p),(BT (Bw b p)).2,0):=by simp[FC,hv,hp]
   simp(disch:=omega)only[go_sem,e,length_map,length_take];refine fin { ET (Bw b p) with gen:=b.gen } (by simp[B1,hv,hp]) _ (Imp.Ar gI ?_);simp(disch:=omega)only[go_sem]
 subst hil;rw[tL];clear hJ;refine Ac (α:=Nat) (fun i=>⟨[(49,I i),(48,I s.AE.length),(47,Fe s.AE),(3,.ptr 192 0),(5,.ptr 320 0),(4,.ptr 256 0)],[(192,p.c),(256,wsz),(320,[.sl (.own 2752 0) 8 ((s.Aa.map fun q=>B1 q p).map Queue.c),.sl (.own 3968 0) 9 ((O2 (s.AE.take i) p).map Need.c)])]⟩) (fun i=>i≤(s.AE).length∧True) (fun i=>(s.AE).length-i) 0 ⟨by omega,trivial⟩ ?_ ?_
 ·exact B0
 rintro i ⟨hi,hP⟩ J hJ;refine gO ?_;refine gR (l:=s.AE) hi (fun b hb hbm hlt=>?_) (fun hil=>?_);simp(disch:=omega)only[go_sem,gm,hb]
 ·have hbd:(O2 (s.AE.take i) p).length+1≤4294967296:=by
   have:(O2 (s.AE.take i) p).length≤(s.AE.take i).length:=length_filter_le _ _;rw[length_take]at this;omega
  refine Ae (f61_ok b.proc p) ?_;refine gO ?_;have e1:O2 (s.AE.take (i+1)) p=if b.proc=p then O2 (s.AE.take i) p else O2 (s.AE.take i) p++[b]:=by
   simp only[O2,tA,hb,toList_some,List.filter_append,List.filter_cons,List.filter_nil]
   by_cases h:b.proc=p<;>simp[h]
  refine And.intro (fun hh=>?_) (fun hh=>?_)
  ·have hne:¬ b.proc=p:=by simpa using hh
   rw[if_neg hne]at e1;refine hJ _ (i+1) ⟨by omega,trivial⟩ (by omega) (Imp.Ar gI ?_);rw[e1];refine gO ?_;exact .sl (by simp[Need.c])
  ·have hne:b.proc=p:=by simpa using hh
   rw[if_pos hne]at e1;refine hJ _ (i+1) ⟨by omega,trivial⟩ (by omega) (Imp.Ar gI ?_);rw[e1];simp(disch:=omega)only[go_sem]
 ·subst hil;simp(disch:=omega)only[go_sem,tL];refine CL ⟨[],[],[2752,3968]⟩ _ ?_;simp(disch:=omega)only[go_sem,Ci];exact .eq (by simp)
def Em(l:List Atom)(a:Atom):List Atom:=if a∈l then l else l++[a]
mutual
def YV:List Atom→Expr→List Atom
 | l,.mk _ a kids=>if kids.length=0 then Em l a else YW l kids
def YW:List Atom→List Expr→List Atom
 | l,[]=>l
 | l,e::es=>YW (YV l e) es
end
def U5(l:List Atom)(e:Expr):YV l e=if e.kids.length=0 then Em l e.atom else YW l e.kids:=by
 cases e;simp only[YV];rfl
def Ag(e:Expr):List Atom:=if Bb e then YV [] e else []
def Gv(l:List Atom)(a:Atom):Int:=match l.findIdx? (fun x=>decide (x=a)) with|some i=>i|none=>-1
def f268_ok(l:List Atom)(p:Atom)(hl:l.length≤1000000):Ad C0 268 [BB l,.agg p.c] [] (I (Gv l p)) []:=by
 refine Ad.go f268 ?_;unfold f268;refine gO ?_;refine Ac (α:=Nat) (fun i=>⟨[(8,I i),(7,I l.length),(0,BB l),(3,.ptr 192 0)],[(192,p.c)]⟩) (fun i=>i≤(l).length∧(l.take i).find? (fun x=>decide (x=p))=none) (fun i=>(l).length-i) 0 ⟨by omega,rfl⟩ ?_ ?_
 ·exact B0
 rintro i ⟨hi,hP⟩ J hJ;refine gO ?_;refine gR (l:=l) hi (fun b hb hbm hlt=>?_) (fun hil=>?_);refine Aw 5 [([],[3]),([],[0]),([],[5]),([],[12,13]),([],[14])] fol ?_;simp(disch:=omega)only[go_sem,gm,hb]
 ·refine⟨fun h=>?_,fun h=>?_⟩
  ·have e:Gv l p=i:=by unfold Gv;rw[F8 hP b hb (by simp at h;simp[h])]
   simp(disch:=omega)only[go_sem,e];exact AQ _
  ·refine hJ _ (i+1) ⟨by omega,(by rw[BW hP hb];simp at h;simp[Ne.symm h])⟩ (by omega) AT
 ·subst hil;rw[tL]at hP;have e:Gv l p = -1:=by
   unfold Gv;have:l.findIdx? (fun x=>decide (x=p))=none:=by
    rw[List.findIdx?_eq_none_iff];rw[List.find?_eq_none]at hP;intro x hx;simpa using hP x hx
   rw[this]
  simp(disch:=omega)only[go_sem,e];exact AQ _
def UX(l:List Atom)(p:Atom):decide (0≤Gv l p)=decide (p∈l):=by
 unfold Gv;cases h:l.findIdx? (fun x=>decide (x=p)) with
 |none =>
  rw[List.findIdx?_eq_none_iff]at h;have:p∉l:=fun hp=>by simpa using h p hp
  simp[this]
 |some i =>
  obtain⟨h1,h2,_⟩:=(List.findIdx?_eq_some_iff_getElem.1 h);have hm:p∈l:=by simp at h2;rw[← h2];exact getElem_mem h1
  simp[hm]
def f217_ok(l:List Atom)(p:Atom)(hl:l.length≤1000000):Ad C0 217 [BB l,.agg p.c] [] (B (decide (p∈l))) []:=by
 refine Ad.go f217 ?_;unfold f217;refine gO ?_;refine Ae (f268_ok l p hl) ?_;have:=UX l p;simp(disch:=omega)only[go_sem,this];exact AQ _
def Yo{l:List Atom}{a:Atom}(h:((Fm l a).1==0)=true):(Fm l a).2=Em l a:=by
 unfold Fm at h ⊢;cases hf:l.find? (hit a) with
 |some b =>
  rw[hf]at h;simp only at h ⊢
  by_cases e:a=b
  ·subst e;simp[Em,List.mem_of_find?_eq_some hf]
  ·simp[e]at h
 |none =>
  rw[hf]at h;simp only at h ⊢
  by_cases h8:l.length=8
  ·simp[h8]at h
  ·have:a∉l:=fun hm=>by
    rw[List.find?_eq_none]at hf;have:=hf a hm;simp[hit]at this
   simp[h8,Em,this]
def Te:∀ (es:List Expr) (l:List Atom),(∀ e∈es,∀ l,(prop e l).1=true→YV l e=(prop e l).2)→(Cl es l).1=true→YW l es=(Cl es l).2
 |[],l,_,_=>by simp[YW,Cl]
 | e::es,l,hk,h=>by
  simp only[Cl]at h ⊢;split at h
  ·rename_i h1;rw[if_pos h1];simp only[YW];rw[hk e (by simp) l h1];exact Te es _ (fun e' he=>hk e' (by simp[he])) h
  ·cases h
def Hz:∀ (N:Nat) (e:Expr),SizeOf.sizeOf e<N→∀ l:List Atom,(prop e l).1=true→YV l e=(prop e l).2
 | 0,_,h,_,_=>by omega
 | N+1,e,h,l,hp=>by
  rw[D2]at hp ⊢;rw[U5];split at hp
  ·rename_i hk;rw[if_pos hk,if_pos hk];split at hp
   ·rename_i h1;rw[if_pos h1];exact(Yo hp).symm
   ·cases hp
  ·rename_i hk;rw[if_neg hk,if_neg hk];split at hp
   ·cases hp
   ·rename_i h1;rw[if_neg h1];exact Te _ _ (fun e' he l' hl'=>Hz N e' (by have:=DB he;omega) l' hl') hp
def f141_ok:∀ (N:Nat) (e:Expr),SizeOf.sizeOf e<N→∀ l:List Atom,l.length≤8→(prop e l).1=true →
 Ad C0 141 [C4 0 l,.agg e.c] [] (C4 1 (prop e l).2) []
 | 0,_,h,_,_,_=>by omega
 | N+1,e,h,l,hl,hpr=>by
  refine Ad.lens f141 fun hlen=>?_
  simp only[ED,lens,Expr.BV,length_map,and_true,true_and]at hlen;have hp0:=hpr;rw[D2]at hpr;refine Ad.go f141 ?_;unfold f141
  by_cases hk:e.kids.length=0
  ·have e1:((e.kids.length:Int)==0)=true:=by simp[hk]
   rw[if_pos hk]at hpr;have hc:=Hz (N+1) e h l hp0;rw[U5,if_pos hk]at hc;simp(disch:=omega)only[go_sem,e1];refine Dd [0] (f217_ok l e.atom (by omega)) gI rfl trivial ?_
   by_cases hm:e.atom∈l
   ·have e2:(decide (e.atom∈l))=true:=by simp[hm]
    have e3:(prop e l).2=l:=by rw[← hc];simp[Em,hm]
    simp(disch:=omega)only[go_sem,e2,e3];refine Bd ⟨[(0,1)],[],[]⟩ _ rfl ⟨rfl,rfl⟩ (by simp[lk]) ?_ trivial;simp(disch:=omega)only[go_sem]
   ·have e2:(decide (e.atom∈l))=false:=by simp[hm]
    have e3:(prop e l).2=l++[e.atom]:=by rw[← hc];simp[Em,hm]
    simp(disch:=omega)only[go_sem,e2,e3];refine Bd ⟨[(1280,1)],[],[]⟩ _ rfl ⟨rfl,rfl⟩ (by simp[lk]) ?_ trivial;refine gO ?_;exact .sl (by simp[Atom.c])
  have e1:((e.kids.length:Int)==0)=false:=by simp only[beq_eq_false_iff_ne,ne_eq];omega
  rw[if_neg hk]at hpr;split at hpr
  ·cases hpr
  rename_i hbad;have ep:prop e l=Cl e.kids l:=by rw[D2,if_neg hk,if_neg hbad]
  simp(disch:=omega)only[go_sem,e1,ep];refine Ac (α:=Nat × List Atom) (fun q=>⟨[(24,I q.1),(23,I e.kids.length),(22,Fa e.kids),(0,C4 1920 q.2)],[]⟩)
   (fun q=>q.1≤e.kids.length∧q.2.length≤8∧(Cl (e.kids.drop q.1) q.2).1=true∧Cl (e.kids.drop q.1) q.2=Cl e.kids l) (fun q=>e.kids.length-q.1) (0,l) ⟨by simp,hl,by simpa using hpr,by simp⟩ ?_ ?_
  ·refine Imp.ren ⟨[(0,1920)],[],[]⟩ ⟨rfl,rfl⟩ (by simp[lk]) ?_ ?_
   ·exact gI
   ·exact gI
  rintro⟨i,m⟩ ⟨hi,hm,hb1,hr⟩ J hJ
  replace hi:i≤e.kids.length:=hi
  replace hm:m.length≤8:=hm
  replace hb1:(Cl (e.kids.drop i) m).1=true:=hb1
  replace hr:Cl (e.kids.drop i) m=Cl e.kids l:=hr
  refine gO ?_;refine ⟨fun hlt=>?_,fun hge=>?_⟩
  ·have hlt':i<e.kids.length:=by simp at hlt;omega
   have hb:e.kids[i]?=some e.kids[i]:=gE hlt';have hsz:=DB (getElem_mem hlt');have hdr:e.kids.drop i=e.kids[i]::e.kids.drop (i+1):=drop_eq_getElem_cons hlt';generalize e.kids[i]=b at hb hsz hdr;rw[hdr]at hr hb1;simp only[Cl]at hr hb1;have hx1:(prop b m).1=true:=by
    split at hb1
    ·assumption
    ·cases hb1
   rw[if_pos hx1]at hr hb1;simp(disch:=omega)only[go_sem,gm,hb];refine Bq ⟨⟨[(1920,0)],[],[]⟩,[(1,1921)],[]⟩ (f141_ok N b (by omega) m hm hx1) gI rfl gI (.inl rfl) ?_;have hx:=Qg N b (by omega) m hm;refine gO ?_;refine hJ _ (i+1,(prop b m).2) ⟨by simp;omega,hx,hb1,hr⟩ (by simp;omega) (Imp.ren ⟨[(1921,1920)],[],[]⟩ ⟨rfl,rfl⟩ (by simp[lk]) ?_ ?_)
   ·exact gI
   ·exact gI
  ·have hil:i=e.kids.length:=by simp at hge;omega
   subst hil;rw[List.drop_length]at hr;simp only[Cl]at hr;simp(disch:=omega)only[go_sem,← hr];refine Bd ⟨[(1920,1)],[],[]⟩ _ rfl ⟨rfl,rfl⟩ (by simp[lk]) ?_ trivial;simp(disch:=omega)only[go_sem]
def EA{e:Expr}(h:Bb e=true):(prop e []).1=true:=by
 simp only[Bb,and_eq_true]at h;exact h.2
def CF(e:Expr):(Ag e).length≤8:=by
 unfold Ag;split
 ·rename_i h;rw[Hz _ e (lt_succ_self _) [] (EA h)];exact Qg _ e (lt_succ_self _) [] (by simp)
 ·simp
def f87_ok(e:Expr):Ad C0 87 [.agg e.c] [] (BB (Ag e)) []:=by
 refine Ad.go f87 ?_;unfold f87;refine gO ?_;refine Ae (f103_ok e) ?_;cases h:Bb e
 ·have e1:Ag e=[]:=by simp[Ag,h]
  simp(disch:=omega)only[go_sem,e1];refine Bd ⟨[],[],[]⟩ _ rfl ⟨rfl,rfl⟩ (by simp[lk]) ?_ trivial;exact .AJ (by omega)
 ·have hp:=EA h;have e1:Ag e=(prop e []).2:=by
   simp only[Ag,h,if_true];exact Hz _ e (lt_succ_self _) [] hp
  simp(disch:=omega)only[go_sem,e1];refine Bq ⟨⟨[],[],[]⟩,[(1,448)],[]⟩ (f141_ok _ e (lt_succ_self _) [] (by simp) hp) (by simp(disch:=omega)only[go_sem,C4,map_nil]) rfl gI (.inl rfl) ?_;refine gO ?_;refine CL ⟨[],[],[448]⟩ _ ?_;simp(disch:=omega)only[go_sem,C4]
@[reducible] def HR(l:List Bool):AV:=.sl .no 1 (l.map fun b=>[B b])
def D0(l:List Atom)(set:List Bool)(a:Atom):Bool:=match l.findIdx? (fun x=>decide (x=a)) with
 |some i=>set.getD i false
 |none=>false
@[reducible] def TU(l:List Atom)(set:List Bool):AV:=.agg [BB l,HR set]
def f218_ok(l:List Atom)(set:List Bool)(a:Atom)(hl:l.length≤1000000):Ad C0 218 [TU l set,.agg a.c] [] (B (D0 l set a)) []:=by
 refine Ad.go f218 ?_;unfold f218;refine gO ?_;refine Ae (f268_ok l a hl) ?_;cases hi:l.findIdx? (fun x=>decide (x=a)) with
 |none =>
  have e1:Gv l a = -1:=by simp[Gv,hi]
  have e2:D0 l set a=false:=by simp[D0,hi]
  simp(disch:=omega)only[go_sem,e1];refine As _ ?_;exact wb (by simp[e2])
 |some i =>
  have e1:Gv l a=i:=by simp[Gv,hi]
  by_cases h:i<set.length
  ·have e3:((i:Int)<set.length)=True:=eq_true (by omega);have e4:set[i]?=some (set.getD i false):=by rw[gE h];simp[List.getD,h]
   have e2:D0 l set a=set.getD i false:=by simp[D0,hi]
   simp(disch:=omega)only[go_sem,e1,e3,gm,e4];refine As _ ?_;exact wb (by rw[e2])
  ·have e3:((i:Int)<set.length)=False:=eq_false (by omega);have e2:D0 l set a=false:=by simp[D0,hi,List.getD,h]
   simp(disch:=omega)only[go_sem,e1,e3,decide_false];refine As _ ?_;exact wb (by simp[e2])
mutual
def Ez(has:Atom→Bool):Expr→Bool
 |.mk k a kids=>if kids.length=0 then has a else decide (k≤CP has kids)
def CP(has:Atom→Bool):List Expr→Int
 |[]=>0
 | e::es=>(if Ez has e=true then 1 else 0)+CP has es
end
def Jz(has:Atom→Bool)(e:Expr):Ez has e=if e.kids.length=0 then has e.atom else decide (e.k≤CP has e.kids):=by
 cases e;simp only[Ez];rfl
def K9(has:Atom→Bool):∀ (l:List Expr) (i:Nat) (b:Expr),l[i]?=some b→CP has (l.take (i+1))=CP has (l.take i)+(if Ez has b=true then 1 else 0)
 |[],i,b,h=>by simp at h
 | e::l,0,b,h=>by simp at h;subst h;simp[CP]
 | e::l,i+1,b,h=>by
  have:=K9 has l i b (by simpa using h);simp only[List.take_succ_cons,CP];rw[this];omega
def Oh(has:Atom→Bool):∀ l:List Expr,0≤CP has l∧CP has l≤l.length
 |[]=>by simp[CP]
 | e::l=>by
  have:=Oh has l;simp only[CP,length_cons];split<;>omega
def f219_ok(l:List Atom)(set:List Bool)(hl:l.length≤1000000):∀ (N:Nat) (e:Expr),SizeOf.sizeOf e<N →
 Ad C0 219 [.agg e.c,.mv 218 [TU l set]] [] (B (Ez (D0 l set) e)) []
 | 0,_,h=>by omega
 | N+1,e,h=>by
  refine Ad.lens f219 fun hlen=>?_
  simp only[ED,lens,Expr.BV,length_map,and_true,true_and]at hlen;refine Ad.go f219 ?_;unfold f219
  by_cases hk:e.kids.length=0
  ·have e1:((e.kids.length:Int)==0)=true:=by simp[hk]
   have ee:Ez (D0 l set) e=D0 l set e.atom:=by rw[Jz,if_pos hk]
   simp(disch:=omega)only[go_sem,e1,ee];refine Ae (f218_ok l set e.atom hl) ?_;refine gO ?_;exact AQ _
  have e1:((e.kids.length:Int)==0)=false:=by simp only[beq_eq_false_iff_ne,ne_eq];omega
  have ee:Ez (D0 l set) e=decide (e.k≤CP (D0 l set) e.kids):=by rw[Jz,if_neg hk]
  simp(disch:=omega)only[go_sem,e1,ee];refine Ac (α:=Nat) (fun i=>⟨[(19,I i),(18,I e.kids.length),(17,Fa e.kids),(1,.mv 218 [TU l set]),(2,.ptr 128 0),(5,I (CP (D0 l set) (e.kids.take i)))],[(128,e.c)]⟩) (fun i=>i≤(e.kids).length∧True) (fun i=>(e.kids).length-i) 0 ⟨by omega,trivial⟩ ?_ ?_
  ·refine Imp.Ar ?_ ?_
   all_goals(try simp(disch:=omega)only[go_sem])
   all_goals(try(repeat'(with_reducible apply And.intro)))
   all_goals(first|exact .AO (by omega)|exact .AJ (by omega)|exact .sl (by simp[CP])|exact .int (by simp[CP])|exact .eq (by simp[CP]))
  rintro i ⟨hi,hP⟩ J hJ;refine gO ?_;refine gR (l:=e.kids) hi (fun b hb hbm hlt=>?_) (fun hil=>?_);simp(disch:=omega)only[go_sem,gm,hb]
  ·have hsz:=DB hbm;have hct:=K9 (D0 l set) e.kids i b hb;have hbd:=Oh (D0 l set) (e.kids.take i);have hlt':i<e.kids.length:=by omega
   have hml:(e.kids.take i).length≤i:=by simp;omega
   refine Ae (f219_ok l set hl N b (by omega)) ?_;refine gO ?_;refine And.intro (fun hh=>?_) (fun hh=>?_)
   ·rw[if_pos hh]at hct;refine hJ _ (i+1) ⟨by omega,trivial⟩ (by omega) (Imp.Ar ?_ ?_)
    ·simp(disch:=omega)only[go_sem];exact .int hct.symm
    ·simp(disch:=omega)only[go_sem,Expr.BV]
   ·rw[if_neg (by simp[hh])]at hct;refine hJ _ (i+1) ⟨by omega,trivial⟩ (by omega) (Imp.Ar ?_ ?_)
    ·simp(disch:=omega)only[go_sem];exact .int (by omega)
    ·simp(disch:=omega)only[go_sem,Expr.BV]
  ·subst hil;simp(disch:=omega)only[go_sem,tL];exact AQ _
def Fb(e:Expr)(set:List Bool):Bool:=!decide ((Ag e).length=0)&&Ez (D0 (Ag e) set) e
def f142_ok(e:Expr)(l:List Atom)(set:List Bool)(hl:l.length≤1000000):Ad C0 142 [.agg e.c,BB l,HR set] [] (B (Ez (D0 l set) e)) []:=by
 refine Ad.go f142 ?_;unfold f142;refine gO ?_;refine Ae (f219_ok l set hl _ e (lt_succ_self _)) ?_;refine gO ?_;exact AQ _
def f209_ok(e:Expr)(set:List Bool):Ad C0 209 [.agg e.c,HR set] [] (B (Fb e set)) []:=by
 have hl:=CF e;refine Ad.go f209 ?_;unfold f209;refine gO ?_;refine Ae (f87_ok e) ?_
 by_cases h0:(Ag e).length=0
 ·have e1:(0<((Ag e).length:Int))=False:=eq_false (by omega);simp(disch:=omega)only[go_sem,e1,decide_false];refine As _ ?_;exact wb (by simp[Fb,h0])
 ·have e1:(0<((Ag e).length:Int))=True:=eq_true (by omega);simp(disch:=omega)only[go_sem,e1,decide_true];refine Ae (f142_ok e (Ag e) set (by omega)) ?_;refine gO ?_;refine As _ ?_;exact wb (by simp[Fb,h0])
def Ch(l:List Queue)(p:Ab)(name:Bs):Bool:=l.foldl (fun w q=>if q.res.name==name then (Aq q p).isSome else w) false
def UB{l:List Queue}{i:Nat}{b:Queue}(p:Ab)(name:Bs)(hb:l[i]?=some b):Ch (l.take (i+1)) p name=if b.res.name==name then (Aq b p).isSome else Ch (l.take i) p name:=by
 unfold Ch;rw[tA,hb,toList_some,List.foldl_append];rfl
def F7(s:WS)(n:Need):List Bool:=(Ag n.expr).map fun a=>!Ch s.Aa n.proc a.name
def f210_ok(s:WS)(n:Need)(h:Few s):Ad C0 210 [.agg s.c,.agg n.c] [] (HR (F7 s n)) []:=by
 have hl:=CF n.expr;have hn1:=h.nq;refine Ad.go f210 ?_;unfold f210;refine gO ?_;refine Ae (f87_ok n.expr) ?_;refine gO ?_;refine Ac (α:=Nat) (fun i=>⟨[(15,I i),(14,I (Ag n.expr).length),(13,BB (Ag n.expr)),(2,.ptr 128 0),(3,.ptr 192 0),(5,.sl (.own 2816 0) 1 (((Ag n.expr).take i).map fun a=>[B (!Ch s.Aa n.proc a.name)]))],[(128,s.c),(192,n.c)]⟩) (fun i=>i≤((Ag n.expr)).length∧True) (fun i=>((Ag n.expr)).length-i) 0 ⟨by omega,trivial⟩ ?_ ?_
 ·exact B0
 rintro i ⟨hi,hP⟩ J hJ;refine gO ?_;refine ⟨fun hlt=>?_,fun hge=>?_⟩;rotate_left;have hil:i=((Ag n.expr)).length:=by simp at hge;omega
 rotate_left;obtain⟨b,hb⟩:∃ b,((Ag n.expr))[i]?=some b:=⟨_,gE (by simp at hlt;omega)⟩;have hbm:=mG hb;simp(disch:=omega)only[go_sem,gm,hb]
 ·have step:∀ st',Imp ⟨C0,[],[]⟩ st' ⟨[(15,I (i+1:Nat)),(14,I (Ag n.expr).length),(13,BB (Ag n.expr)),(2,.ptr 128 0),(3,.ptr 192 0),(5,.sl (.own 2816 0) 1 (((Ag n.expr).take i).map (fun a=>[B (!Ch s.Aa n.proc a.name)])++[[B (!Ch s.Aa n.proc b.name)]]))],[(128,s.c),(192,n.c)]⟩→J st':=fun st' h=>by
   refine hJ st' (i+1) ⟨by simp at hlt;omega,trivial⟩ (by simp at hlt;omega) ?_;have e:((Ag n.expr).take (i+1)).map (fun a=>[B (!Ch s.Aa n.proc a.name)])=((Ag n.expr).take i).map (fun a=>[B (!Ch s.Aa n.proc a.name)])++[[B (!Ch s.Aa n.proc b.name)]]:=by
    rw[tA,hb];simp
   rw[e];exact h
  have hbd:min i (Ag n.expr).length+1≤4294967296:=by omega
  refine Ac (α:=Nat) (fun j=>⟨[(22,I j),(21,I s.Aa.length),(20,AB s.Aa),(8,B (Ch (s.Aa.take j) n.proc b.name)),(7,.ptr 448 0),(15,I i),(14,I (Ag n.expr).length),(13,BB (Ag n.expr)),(2,.ptr 128 0),(3,.ptr 192 0),(5,.sl (.own 2816 0) 1 (((Ag n.expr).take i).map fun a=>[B (!Ch s.Aa n.proc a.name)]))],[(448,b.c),(128,s.c),(192,n.c)]⟩) (fun j=>j≤s.Aa.length) (fun j=>s.Aa.length-j) 0 (by omega) ?_ ?_
  ·refine Imp.Ar ?_ ?_
   ·simp(disch:=omega)only[go_sem,List.take_zero];exact .eq rfl
   ·exact gI
  rintro j hj J2 hJ2;refine gO ?_;refine And.intro (fun hlt2=>?_) (fun hge2=>?_)
  ·obtain⟨q,hq⟩:∃ q,s.Aa[j]?=some q:=⟨_,gE (by simp at hlt2;omega)⟩;have hqm:=mG hq;have hqa:=h.aq q hqm;have hq2:q.Ao.length+q.waits.length≤1000000:=by unfold BG BK at hqa;omega
   have hw:=UB n.proc b.name hq;simp(disch:=omega)only[go_sem,gm,hq];refine And.intro (fun hh=>?_) (fun hh=>?_)
   ·refine Ae (f228_ok q n.proc hq2) ?_;refine gO ?_;rw[if_pos hh]at hw;refine hJ2 _ (j+1) (by simp at hlt2;omega) (by simp at hlt2;omega) (Imp.Ar ?_ gI);rw[hw];simp(disch:=omega)only[go_sem]
   ·rw[if_neg (by simp[hh])]at hw;refine hJ2 _ (j+1) (by simp at hlt2;omega) (by simp at hlt2;omega) (Imp.Ar ?_ gI);rw[hw];simp(disch:=omega)only[go_sem]
  ·have hjl:j=s.Aa.length:=by simp at hge2;omega
   subst hjl;clear hJ2;simp(disch:=omega)only[go_sem,tL,length_map,length_take];exact step _ AT
 ·subst hil;refine CL ⟨[],[],[2816]⟩ _ ?_;simp(disch:=omega)only[go_sem,tL];exact .sl (by simp[F7])
def CM{α:Type}{f:Nat→α→Bool}{l:List α}:Ca f l=true↔∀ i b,l[i]?=some b→f i b=true:=by
 unfold Ca;rw[all_eq_true];constructor
 ·intro h i b hb;exact h (b,i) (by rw[List.mk_mem_zipIdx_iff_getElem?];exact hb)
 ·rintro h ⟨b,i⟩ hm;rw[List.mk_mem_zipIdx_iff_getElem?]at hm;exact h i b hm
def Aj{α:Type}{l:List α}{i:Nat}{b:α}(h:l[i]?=some b):i<l.length:=by
 rcases Nat.lt_or_ge i l.length with h'|h'
 ·exact h'
 ·rw[List.getElem?_eq_none h']at h;cases h
def get_eq{α:Type}{l:List α}{i:Nat}{b:α}(h:l[i]?=some b):l[i]'(Aj h)=b:=by
 rw[gE (Aj h)]at h;exact Option.some.inj h
def RK(l:List AP):Prop:=l.Pairwise fun a b=>a.proc≠b.proc
def WE(l:List AP):(∀ (i:Nat) (w:AP),l[i]?=some w→Fv l w.proc=(i:Int))↔RK l:=by
 unfold RK;rw[List.pairwise_iff_getElem];constructor
 ·intro h i j hi hj hij he;have h1:=h i l[i] (gE hi);have h2:=h j l[j] (gE hj);rw[he,h2]at h1;omega
 ·intro h i w hw;have hi:=Aj hw;have hwe:=get_eq hw;have:l.findIdx? (fun x=>decide (x.proc=w.proc))=some i:=by
   rw[List.findIdx?_eq_some_iff_getElem];refine⟨hi,by simp[hwe],fun j hj=>?_⟩;have:=h j i (by omega) hi hj;rw[hwe]at this;simpa using this
  simp[Fv,this]
def MB(l:List AK):Prop:=l.Pairwise fun a b=>Bc a.proc b.proc<0
def cB(l:List AK):(∀ i h,l[i]?=some h→(decide (i=0)||decide (Bc (l.getD (i-1) h0).proc h.proc<0))=true)↔MB l:=by
 unfold MB;rw[List.pairwise_iff_getElem];constructor
 ·intro h;have step:∀ i (hi:i+1<l.length),Bc l[i].proc l[i+1].proc<0:=fun i hi=>by
   have:=h (i+1) l[i+1] (gE hi);simp only[Nat.add_sub_cancel,Bool.or_eq_true,zD]at this;rcases this with h'|h'
   ·omega
   ·simpa [List.getD,gE (show i<l.length by omega)]using h'
  have far:∀ d i (hi:i+d+1<l.length),Bc l[i].proc l[i+d+1].proc<0:=by
   intro d
   induction d with
   | zero=>intro i hi;exact step i hi
   | succ d ih =>
    intro i hi;have h1:=ih i (by omega);have h2:=step (i+d+1) (by omega);exact CU h1 h2
  intro i j hi hj hij;obtain⟨d,rfl⟩:∃ d,j=i+d+1:=⟨j-i-1,by omega⟩;exact far d i hj
 ·intro h i b hb;cases i with
  | zero=>simp
  | succ i =>
   have hi:=Aj hb;have hbe:=get_eq hb;have:=h i (i+1) (by omega) hi (by omega);rw[hbe]at this;simp[List.getD,gE (show i<l.length by omega),this]
def C7(r:Res)(l:List AK):Bf r l=true↔r.shaped=true∧l.length≤8∧(∀ h∈l,h.proc.ok=true∧r.fits h.amt=true)∧MB l∧r.compat (l.map (·.amt))=true:=by
 unfold Bf;simp only[and_eq_true,zD,CM,Ej];rw[← cB];constructor
 ·rintro⟨⟨⟨h1,h2⟩,h3⟩,h4⟩;refine⟨h1,h2,fun h hm=>?_,fun i h hi=>(h3 i h hi).2,h4⟩;obtain⟨i,hi,he⟩:=getElem_of_mem hm;have:=h3 i h (by rw[gE hi,he]);exact this.1
 ·rintro⟨h1,h2,h3,h4,h5⟩;exact⟨⟨⟨h1,h2⟩,fun i h hi=>⟨h3 h (mG hi),h4 i h hi⟩⟩,h5⟩
def Bz(q:Queue):Ei q=true↔q.Ao.length≤8∧RK q.Ao∧∀ w∈q.Ao,(At q.holds w.proc).zero=false∧q.res.fits w.amt=true∧q.res.covers w.amt (At q.holds w.proc)=true∧w.amt≠At q.holds w.proc∧w.prio=0∧w.CQ=0:=by
 unfold Ei;simp only[and_eq_true,zD,CM,Hc];rw[← WE];constructor
 ·rintro⟨h1,h2⟩;refine⟨h1,fun i w hi=>(h2 i w hi).1.1.1.1.1.1,fun w hm=>?_⟩;obtain⟨i,hi,he⟩:=getElem_of_mem hm;have:=h2 i w (by rw[gE hi,he]);simp at this;obtain⟨⟨⟨⟨⟨⟨_,a⟩,b⟩,c⟩,d⟩,e⟩,f⟩:=this;exact⟨by simpa using a,b,c,d,e,f⟩
 ·rintro⟨h1,h2,h3⟩;refine⟨h1,fun i w hi=>?_⟩;obtain⟨a,b,c,d,e,f⟩:=h3 w (mG hi);exact⟨⟨⟨⟨⟨⟨h2 i w hi,by simp[a]⟩,b⟩,c⟩,by simpa using d⟩,by simpa using e⟩,by simpa using f⟩
def Ct(l:List AP):Dr l=true↔l.length≤8∧RK l∧∀ w∈l,w.ok=true:=by
 unfold Dr;simp only[and_eq_true,zD,CM,Fk];rw[← WE];constructor
 ·rintro⟨h1,h2⟩;refine⟨h1,fun i w hi=>(h2 i w hi).2,fun w hm=>?_⟩;obtain⟨i,hi,he⟩:=getElem_of_mem hm;exact(h2 i w (by rw[gE hi,he])).1
 ·rintro⟨h1,h2,h3⟩;exact⟨h1,fun i w hi=>⟨h3 w (mG hi),h2 i w hi⟩⟩
def Bt(q:Queue):El q=true↔Dr q.waits=true∧q.holds.length+q.waits.length≤8∧∀ w∈q.waits,q.res.fits w.amt=true∧(At q.holds w.proc).zero=true:=by
 unfold El;simp only[and_eq_true,zD,all_eq_true,Hg,and_assoc]
structure Sound(q:Queue):Prop where
 res:GO q.res=true
 holds:Bf q.res q.holds=true
 Ao:Ei q=true
 waits:El q=true
 gen:0≤q.gen∧q.gen≤1073741824
def Ij(q:Queue):sound q=true↔Sound q:=by
 unfold sound;simp only[and_eq_true,zD];exact⟨fun⟨⟨⟨⟨⟨a,b⟩,c⟩,d⟩,e⟩,f⟩=>⟨a,b,c,d,e,f⟩,fun h=>⟨⟨⟨⟨⟨h.res,h.holds⟩,h.Ao⟩,h.waits⟩,h.gen.1⟩,h.gen.2⟩⟩
def Gn{α:Type}{f g:α→Bool}(h:∀ x,f x=true→g x=true):∀ l:List α,(l.filter g).find? f=l.find? f
 |[]=>rfl
 | x::l=>by
  simp only[List.filter_cons,List.find?_cons];cases hf:f x
  ·cases g x
   ·simpa using Gn h l
   ·simp only[if_true,List.find?_cons,hf];exact Gn h l
  ·simp[h x hf,hf]
def OA{l:List AK}{p p':Ab}(h:p'≠p):At (AA l p) p'=At l p':=by
 unfold At AA;rw[Gn];intro x hx;simp at hx ⊢;rw[hx];exact h
def EW{l:List AK}{p p':Ab}{a:Amt}(h:p'≠p):At (B5 l p a) p'=At l p':=by
 rw[← OA (l:=l) h];unfold B5;split
 ·rfl
 ·unfold At;generalize Cu (AA l p) p=k
  conv=>rhs;rw[← take_append_drop k (AA l p)]
  rw[List.find?_append,List.find?_append,List.find?_cons];have:decide (p=p')=false:=by simpa using Ne.symm h
  simp[this]
def Ok{l:List AK}{p:Ab}(h:(At l p).zero=false):(AA l p).length+1≤l.length:=by
 unfold At at h;cases hf:l.find? (fun h=>decide (h.proc=p)) with
 |none=>rw[hf]at h;simp[Amt.zero]at h
 |some x =>
  have hm:=List.mem_of_find?_eq_some hf;have hx:=List.find?_some hf;unfold AA;have:(l.filter fun h=>decide (h.proc≠p)).length<l.length:=by
   rw[List.length_filter_lt_length_iff_exists];exact⟨x,hm,by simpa using hx⟩
  omega
def Qh{l:List AK}{p:Ab}{a:Amt}:(B5 l p a).length≤(AA l p).length+1:=by
 have h2:=L6 (AA l p) p;unfold B5;split
 ·omega
 ·simp;omega
def Gd{r:Res}{a:Amt}(h:r.fits a=true):a.zero=false:=by
 simp only[Res.fits,and_eq_true]at h;obtain⟨h1,h2⟩:=h;split at h2
 ·simp[Bi,AI]at h2;simp[Amt.zero];omega
 ·simp[AI]at h2;simp[Amt.zero];omega
def JL{l:List AK}{p:Ab}{h:AK}:h∈AA l p↔h∈l∧h.proc≠p:=by simp[AA]
def Rh{l:List AK}{p:Ab}{a:Amt}(ha:a.zero=false){h:AK}:h∈B5 l p a↔(h∈l∧h.proc≠p)∨h=⟨p,a⟩:=by
 unfold B5;rw[ha];simp only[false_eq_true,if_false,mem_append,mem_cons];rw[← JL]
 conv=>rhs;rw[← take_append_drop (Cu (AA l p) p) (AA l p),mem_append]
 constructor
 ·rintro(h|h|h)
  ·exact .inl (.inl h)
  ·exact .inr h
  ·exact .inl (.inr h)
 ·rintro((h|h)|h)
  ·exact .inl h
  ·exact .inr (.inr h)
  ·exact .inr (.inl h)
def Wn{s s':List Bool}{m:Int}(h:∀ k,s'.getD k false=true→s.getD k false=true)(hs:Eu s m=true):Eu s' m=true:=by
 unfold Eu at *;rw[all_eq_true]at *;intro k hk;have:=hs k hk;cases h1:s'.getD k false
 ·rfl
 ·rw[h k h1]at this;simpa using this
def Gy(s:List Bool)(i k:Nat):(s.set i true).getD k false=(if i=k∧i<s.length then true else s.getD k false):=by
 simp only[List.getD_eq_getElem?_getD,List.getElem?_set]
 by_cases h:i=k
 ·subst h
  by_cases h2:i<s.length
  ·simp[h2]
  ·simp[h2]
 ·simp[h]
def TW{r:Res}{l' l:List Amt}(hsub:l'.Sublist l):∀ {s s':Int} {seen seen':List Bool},s'≤s→seen'.length=seen.length→(∀ k,seen'.getD k false=true→seen.getD k false=true)→BF r l s seen=true→BF r l' s' seen'=true:=by
 induction hsub with
 | slnil=>intros;rfl
 | cons a hsub ih =>
  intro s s' seen seen' hs hlen hk h;simp only[BF,and_eq_true]at h;obtain⟨⟨h1,h2⟩,h3⟩:=h;have hu:=I6 h1;split at h3
  ·exact ih (by omega) hlen hk h3
  ·rw[and_eq_true]at h3;refine ih (by omega) (by simpa using hlen) (fun k hk'=>?_) h3.2;rw[Gy];split
   ·rfl
   ·exact hk k hk'
 | cons_cons a hsub ih =>
  intro s s' seen seen' hs hlen hk h;simp only[BF,and_eq_true,Bool.not_eq_true',decide_eq_false_iff_not]at h ⊢;obtain⟨⟨h1,h2⟩,h3⟩:=h;refine⟨⟨h1,by omega⟩,?_⟩;split at h3
  ·rename_i hm;rw[if_pos hm];exact ih (by omega) hlen hk h3
  ·rename_i hm;rw[if_neg hm];rw[and_eq_true]at h3 ⊢;refine⟨Wn hk h3.1,ih (by omega) (by simpa using hlen) (fun k hk'=>?_) h3.2⟩;rw[Gy]at hk' ⊢;split at hk'
   ·rename_i hc;rw[if_pos ⟨hc.1,by omega⟩]
   ·split
    ·rfl
    ·exact hk k hk'
def W7{r:Res}{l' l:List Amt}(hsub:l'.Sublist l)(h:r.compat l=true):r.compat l'=true:=by
 simp only[Res.compat,and_eq_true]at *;exact⟨h.1,TW hsub (Int.le_refl _) rfl (fun _ h=>h) h.2⟩
def I2{r:Res}{l' l:List AK}(hsub:l'.Sublist l)(h:Bf r l=true):Bf r l'=true:=by
 rw[C7]at *;obtain⟨h1,h2,h3,h4,h5⟩:=h;exact⟨h1,le_trans hsub.length_le h2,fun x hx=>h3 x (hsub.subset hx),h4.sublist hsub,W7 (hsub.map _) h5⟩
def Gq(l:List AK)(p:Ab):B5 l p ⟨0,0⟩=AA l p:=by simp[B5,Amt.zero]
def Ii{q:Queue}(h:Sound q)(p:Ab):Sound (Bw q p):=by
 have hd:(AA q.holds p).length≤q.holds.length:=length_filter_le _ _;have hw:=BL q.waits p;have hc:=BL q.Ao p;refine⟨h.res,?_,?_,?_,h.gen⟩
 ·simp only[Bw,Gq];exact I2 filter_sublist h.holds
 ·have:=(Bz q).1 h.Ao;rw[Bz];simp only[Bw,Gq];refine⟨by omega,this.2.1.sublist filter_sublist,fun w hw=>?_⟩;simp only[AZ,mem_filter,zD]at hw;rw[OA hw.2];exact this.2.2 w hw.1
 ·have:=(Bt q).1 h.waits;rw[Bt];obtain⟨a,b,c⟩:=this;rw[Ct]at a;simp only[Bw,Gq,Ct];refine⟨⟨by omega,a.2.1.sublist filter_sublist,fun w hw=>?_⟩,by omega,fun w hw=>?_⟩
  ·simp only[AZ,mem_filter]at hw;exact a.2.2 w hw.1
  ·simp only[AZ,mem_filter,zD]at hw;rw[OA hw.2];exact c w hw.1
def L9{q:Queue}{w:AP}(h:Et q.res q.holds w.proc w.amt=true):q.res.fits w.amt=true∧w.proc.ok=true∧Bf q.res (B5 q.holds w.proc w.amt)=true:=by
 simp only[Et,and_eq_true]at h;exact⟨h.1.2,h.1.1.2,h.2⟩
def JZ{q:Queue}{w:AP}(h:Sound q)(hh:Bk q=some w)(hr:Et q.res q.holds w.proc w.amt=true):Sound (CK q w):=by
 obtain⟨r1,r2,r3⟩:=L9 hr;have hcv:=(Bz q).1 h.Ao;have hwt:=(Bt q).1 h.waits;obtain⟨a,b,c⟩:=hwt;rw[Ct]at a;cases hc:q.Ao with
 | cons w' l =>
  have hw':w'=w:=by simp[Bk,hc]at hh;exact hh
  subst hw';have hp:CK q w' = { q with holds:=B5 q.holds w'.proc w'.amt,Ao:=l }:=by unfold CK;simp only[hc]
  rw[hp];have hu:=hcv.2.1;rw[hc]at hu;have hu':=pairwise_cons.1 hu;have hheld:=(hcv.2.2 w' (by rw[hc];simp)).1;refine⟨h.res,r3,?_,?_,h.gen⟩
  ·rw[Bz];have:=hcv.1;rw[hc]at this;simp only[length_cons]at this;refine⟨by simp;omega,hu'.2,fun x hx=>?_⟩;have hne:x.proc≠w'.proc:=fun e=>hu'.1 x hx e.symm
   simp only[EW hne];exact hcv.2.2 x (by rw[hc];simp[hx])
  ·rw[Bt];simp only[Ct];refine⟨a,?_,fun x hx=>?_⟩
   ·have h1:=Ok hheld;have h2:=Qh (l:=q.holds) (p:=w'.proc) (a:=w'.amt);omega
   ·have hx':=c x hx;have hne:x.proc≠w'.proc:=fun e=>by rw[e,hheld]at hx';exact absurd hx'.2 (by simp)
    rw[EW hne];exact hx'
 | nil =>
  cases hw:q.waits with
  | nil=>simp[Bk,hc,hw]at hh
  | cons w' l =>
   have hw':w'=w:=by simp[Bk,hc,hw]at hh;exact hh
   subst hw';have hp:CK q w' = { q with holds:=B5 q.holds w'.proc w'.amt,waits:=l }:=by unfold CK;simp only[hc,hw];rfl
   rw[hp];rw[hw]at a b;have hu':=pairwise_cons.1 a.2.1;simp only[length_cons]at a b;refine⟨h.res,r3,?_,?_,h.gen⟩
   ·rw[Bz];simp[hc,RK]
   ·rw[Bt];simp only[Ct];refine⟨⟨by omega,hu'.2,fun x hx=>a.2.2 x (by simp[hx])⟩,?_,fun x hx=>?_⟩
    ·have h2:=Qh (l:=q.holds) (p:=w'.proc) (a:=w'.amt);have h3:(AA q.holds w'.proc).length≤q.holds.length:=length_filter_le _ _;omega
    ·have hne:x.proc≠w'.proc:=fun e=>hu'.1 x hx e.symm
     rw[EW hne];exact c x (by rw[hw];simp[hx])
def JX(q:Queue):Prop:=∀ w,Bk q=some w→Et q.res q.holds w.proc w.amt=false
def BE(q:Queue):valid q=true↔Sound q∧JX q:=by
 unfold valid JX;rw[and_eq_true,Ij];cases h:Bk q<;>simp
def NU(q:Queue)(w:AP):(CK q w).res=q.res∧(CK q w).gen=q.gen:=by unfold CK;split<;>exact⟨rfl,rfl⟩
def Ha{P:Queue→Prop}(hP:∀ q w,P q→Bk q=some w→Et q.res q.holds w.proc w.amt=true→P (CK q w)):∀ (n:Nat) (q:Queue),BK q=n→P q→P (BT q).1∧JX (BT q).1
 | n,q,hn,hq=>by
  rw[Iq];cases hh:Bk q with
  |none=>exact⟨hq,fun w hw=>by simp[hh]at hw⟩
  |some w =>
   simp only;cases hr:Et q.res q.holds w.proc w.amt
   ·exact⟨hq,fun w' hw'=>by simp[hh]at hw';subst hw';exact hr⟩
   ·have hs:=GZ hh;exact Ha hP (BK (CK q w)) (CK q w) rfl (hP q w hq hh hr)
termination_by n q hn=>BK q
decreasing_by simp_wf;have:=GZ hh;omega
def Tm{q:Queue}(h:Sound q):Sound (BT q).1∧JX (BT q).1:=Ha (fun _ _ h hh hr=>JZ h hh hr) _ q rfl h
def P4(q:Queue):(BT q).1.res=q.res∧(BT q).1.gen=q.gen:=(Ha (P:=fun x=>x.res=q.res∧x.gen=q.gen) (fun x w h _ _=>by rw[(NU x w).1,(NU x w).2];exact h) _ q rfl ⟨rfl,rfl⟩).1
def cA(q:Queue):BG (BT q).1≤BG q:=(Ha (P:=fun x=>BG x≤BG q) (fun x w h hh _=>le_trans (UP hh) h) _ q rfl (Nat.le_refl _)).1
def Tr{q:Queue}(h:Sound q∧JX q){g:Int}(hg:0≤g∧g≤1073741824):Sound { q with gen:=g }∧JX { q with gen:=g }:=by
 refine⟨⟨h.1.res,h.1.holds,?_,?_,hg⟩,fun w hw=>h.2 w hw⟩
 ·rw[Bz];exact(Bz q).1 h.1.Ao
 ·rw[Bt];exact(Bt q).1 h.1.waits
def FU{q:Queue}(h:valid q=true)(p:Ab):valid (B1 q p)=true:=by
 unfold B1;split
 ·rw[BE]at h ⊢;have h1:=Tm (Ii h.1 p);exact Tr h1 h.1.gen
 ·exact h
def O3(q:Queue)(p:Ab):(B1 q p).res=q.res:=by
 unfold B1;split
 ·exact(P4 (Bw q p)).1
 ·rfl
def X7(q:Queue)(p:Ab):BG (Bw q p)≤BG q:=by
 have hd:(AA q.holds p).length≤q.holds.length:=length_filter_le _ _;have hw:=BL q.waits p;have hc:=BL q.Ao p;unfold BG BK;simp only[Bw,Gq];omega
def ZD(q:Queue)(p:Ab):BG (B1 q p)≤BG q:=by
 unfold B1;split
 ·exact le_trans (cA (Bw q p)) (X7 q p)
 ·exact Nat.le_refl _
def inQ(q:Queue)(x:Ab):Prop:=(∃ h∈q.holds,h.proc=x)∨(∃ w∈q.Ao,w.proc=x)∨(∃ w∈q.waits,w.proc=x)
def Ea(q:Queue)(x:Ab):x∈Bp q↔inQ q x:=by
 unfold Bp inQ;rw[Ig];simp[C9,BN,or_and_right,exists_or]
def Ic{l:List AK}{p:Ab}(h:(At l p).zero=false):∃ x∈l,x.proc=p:=by
 unfold At at h;cases hf:l.find? (fun h=>decide (h.proc=p)) with
 |none=>rw[hf]at h;simp[Amt.zero]at h
 |some x=>exact⟨x,List.mem_of_find?_eq_some hf,by simpa using List.find?_some hf⟩
def fw{q:Queue}{w:AP}(hh:Bk q=some w)(hr:Et q.res q.holds w.proc w.amt=true)(x:Ab):inQ (CK q w) x↔inQ q x:=by
 have hz:=Gd (L9 hr).1;have hset:(∃ h∈B5 q.holds w.proc w.amt,h.proc=x)↔((∃ h∈q.holds,h.proc=x)∨x=w.proc):=by
  simp only[Rh hz];constructor
  ·rintro⟨h,(⟨h1,h2⟩|h1),h3⟩
   ·exact .inl ⟨h,h1,h3⟩
   ·subst h1;exact .inr h3.symm
  ·rintro(⟨h,h1,h2⟩|h1)
   ·by_cases e:h.proc=w.proc
    ·exact⟨⟨w.proc,w.amt⟩,.inr rfl,by rw[← e,h2]⟩
    ·exact⟨h,.inl ⟨h1,e⟩,h2⟩
   ·exact⟨⟨w.proc,w.amt⟩,.inr rfl,h1.symm⟩
 unfold inQ;cases hc:q.Ao with
 | cons w' l =>
  have hw':w'=w:=by simp[Bk,hc]at hh;exact hh
  subst hw';have hp:CK q w' = { q with holds:=B5 q.holds w'.proc w'.amt,Ao:=l }:=by unfold CK;simp only[hc]
  rw[hp];simp only[hset,mem_cons,exists_eq_or_imp,or_and_right,exists_or];constructor
  ·rintro((h|h)|h|h)
   ·exact .inl h
   ·exact .inr (.inl (.inl ⟨w',rfl,h.symm⟩))
   ·exact .inr (.inl (.inr h))
   ·exact .inr (.inr h)
  ·rintro(h|(h|h)|h)
   ·exact .inl (.inl h)
   ·obtain⟨_,rfl,h⟩:=h;exact .inl (.inr h.symm)
   ·exact .inr (.inl h)
   ·exact .inr (.inr h)
 | nil =>
  cases hw:q.waits with
  | nil=>simp[Bk,hc,hw]at hh
  | cons w' l =>
   have hw':w'=w:=by simp[Bk,hc,hw]at hh;exact hh
   subst hw';have hp:CK q w' = { q with holds:=B5 q.holds w'.proc w'.amt,waits:=l }:=by unfold CK;simp only[hc,hw];rfl
   rw[hp];simp only[hset,hc,mem_cons,exists_eq_or_imp,or_and_right,exists_or,List.not_mem_nil,false_and,exists_false,false_or];constructor
   ·rintro((h|h)|h)
    ·exact .inl h
    ·exact .inr (.inl ⟨w',rfl,h.symm⟩)
    ·exact .inr (.inr h)
   ·rintro(h|h|h)
    ·exact .inl (.inl h)
    ·obtain⟨_,rfl,h⟩:=h;exact .inl (.inr h.symm)
    ·exact .inr h
def aW(q:Queue)(x:Ab):inQ (BT q).1 x↔inQ q x :=
 (Ha (P:=fun y=>inQ y x↔inQ q x) (fun y w h hh hr=>(fw hh hr x).trans h) _ q rfl Iff.rfl).1
def Q1(q:Queue)(p x:Ab):inQ (Bw q p) x↔inQ q x∧x≠p:=by
 unfold inQ;simp only[Bw,Gq,JL,AZ,mem_filter,zD];constructor
 ·rintro(⟨h,⟨h1,h2⟩,h3⟩|⟨h,⟨h1,h2⟩,h3⟩|⟨h,⟨h1,h2⟩,h3⟩)
  ·exact⟨.inl ⟨h,h1,h3⟩,by rw[← h3];exact h2⟩
  ·exact⟨.inr (.inl ⟨h,h1,h3⟩),by rw[← h3];exact h2⟩
  ·exact⟨.inr (.inr ⟨h,h1,h3⟩),by rw[← h3];exact h2⟩
 ·rintro⟨⟨h,h1,h3⟩|⟨h,h1,h3⟩|⟨h,h1,h3⟩,hne⟩
  ·exact .inl ⟨h,⟨h1,by rw[h3];exact hne⟩,h3⟩
  ·exact .inr (.inl ⟨h,⟨h1,by rw[h3];exact hne⟩,h3⟩)
  ·exact .inr (.inr ⟨h,⟨h1,by rw[h3];exact hne⟩,h3⟩)
def aX{q:Queue}(hv:valid q=true)(p x:Ab):x∈Bp (B1 q p)↔x∈Bp q∧x≠p:=by
 by_cases hp:B2 (Bp q) p=true
 ·have e:B1 q p = { ET (Bw q p) with gen:=q.gen }:=by simp[B1,hv,hp]
  rw[Ea,Ea,e,← Q1];exact aW (Bw q p) x
 ·have e:B1 q p=q:=by simp[B1,hp]
  rw[e];have:p∉Bp q:=by simpa [B2]using hp
  exact⟨fun h=>⟨h,fun e=>this (e▸h)⟩,And.left⟩
def C3(s:WS):Prop:=∀ q∈s.Aa,valid q=true
def FA(s:WS)(x:Ab):x∈Ap s↔(∃ q∈s.Aa,x∈Bp q)∨∃ n∈s.AE,n.proc=x:=by
 unfold Ap Ay Ff;rw[Ig,mem_append,Ig,List.mem_flatMap,mem_map]
def Ku{s:WS}(h:C3 s)(p x:Ab):x∈Ap (Ci s p)↔x∈Ap s∧x≠p:=by
 rw[FA,FA];simp only[Ci,O2,mem_map,mem_filter,zD];constructor
 ·rintro(⟨q',⟨q,hq,rfl⟩,hx⟩|⟨n,⟨hn,hne⟩,rfl⟩)
  ·rw[aX (h q hq)]at hx;exact⟨.inl ⟨q,hq,hx.1⟩,hx.2⟩
  ·exact⟨.inr ⟨n,hn,rfl⟩,hne⟩
 ·rintro⟨⟨q,hq,hx⟩|⟨n,hn,rfl⟩,hne⟩
  ·exact .inl ⟨_,⟨q,hq,rfl⟩,(aX (h q hq) p x).2 ⟨hx,hne⟩⟩
  ·exact .inr ⟨n,⟨hn,hne⟩,rfl⟩
def Dz{s:WS}(h:C3 s)(p:Ab):C3 (Ci s p):=by
 intro q' hq';simp only[Ci,mem_map]at hq';obtain⟨q,hq,rfl⟩:=hq';exact FU (h q hq) p
def Nt{s:WS}(h:Few s)(p:Ab):Few (Ci s p):=by
 refine⟨by simpa [Ci]using h.nq,le_trans (length_filter_le _ _) h.nn,fun q' hq'=>?_⟩;simp only[Ci,mem_map]at hq';obtain⟨q,hq,rfl⟩:=hq';exact le_trans (ZD q p) (h.aq q hq)
def L7{s:WS}(h:C3 s)(p:Ab):Ap (Ci s p)=(Ap s).filter fun x=>decide (x≠p):=by
 refine Nd (FI _) ?_ fun x=>?_
 ·exact List.Pairwise.sublist filter_sublist (FI _)
 ·rw[Ku h];simp
def FM{s:WS}(h:C3 s){p:Ab}(hp:p∈Ap s):(Ap (Ci s p)).length<(Ap s).length:=by
 rw[L7 h,List.length_filter_lt_length_iff_exists];exact⟨p,hp,by simp⟩
def Ad.empty{C:Ctx}{f n:Nat}{xs:List AV}{o o':List (Nat × List AV)}{y:AV}(h:∀ a cap,Ad C f (.v (.slice a 0 cap)::xs) o y o'):Ad C f (.sl .no n []::xs) o y o':=by
 refine⟨(h none 0).1,fun g w us hg hv ho=>?_⟩
 match us,hv with
 | u::us,hv =>
  simp only[VRs,VR,PR]at hv;obtain⟨⟨_,a,cap,hu,_⟩,hv2⟩:=hv;refine(h a cap).2 g w (u::us) hg ?_ ho;simp only[VRs,VR];exact⟨by simpa using hu,hv2⟩
 |[],hv=>simp[VRs]at hv
def f127_ok(l:List AK)(hl:l.length≤1000000):Ad C0 127 [AL l] [] (AL l) []:=by
 cases l with
 | nil =>
  refine Ad.empty fun a cap=>?_
  refine Ad.go f127 ?_;unfold f127;simp(disch:=omega)only[go_sem]
  repeat'(with_reducible refine And.intro (fun h=>?_) (fun h=>?_))
  ·exact AQ _
  ·refine CL ⟨[],[],[448]⟩ _ ?_;simp(disch:=omega)only[go_sem,AL]
 | cons x l =>
  refine Ad.go f127 ?_;unfold f127;have hb:l.length+1≤4294967296:=by simp at hl;omega
  simp(disch:=omega)only[go_sem,AL];refine CL ⟨[],[],[448]⟩ _ ?_;simp(disch:=omega)only[go_sem,AL]
def f128_ok(l:List AP)(hl:l.length≤1000000):Ad C0 128 [Be l] [] (Be l) []:=by
 cases l with
 | nil =>
  refine Ad.empty fun a cap=>?_
  refine Ad.go f128 ?_;unfold f128;simp(disch:=omega)only[go_sem]
  repeat'(with_reducible refine And.intro (fun h=>?_) (fun h=>?_))
  ·exact AQ _
  ·refine CL ⟨[],[],[448]⟩ _ ?_;simp(disch:=omega)only[go_sem,Be]
 | cons x l =>
  refine Ad.go f128 ?_;unfold f128;have hb:l.length+1≤4294967296:=by simp at hl;omega
  simp(disch:=omega)only[go_sem,Be];refine CL ⟨[],[],[448]⟩ _ ?_;simp(disch:=omega)only[go_sem,Be]
def Dq(s:WS)(p:Ab):Bool:=match s.AE.find? (fun n=>decide (n.proc=p)) with
 |some n=>Fb n.expr (F7 s n)
 |none=>true
def f135_ok(s:WS)(p:Ab)(h:Few s):Ad C0 135 [.agg s.c,.agg p.c] [] (B (Dq s p)) []:=by
 have hn:=h.nn;refine Ad.go f135 ?_;unfold f135;refine gO ?_;refine Ac (α:=Nat) (fun i=>⟨[(10,I i),(9,I s.AE.length),(8,Fe s.AE),(2,.ptr 128 0),(3,.ptr 192 0)],[(128,s.c),(192,p.c)]⟩) (fun i=>i≤(s.AE).length∧(s.AE.take i).find? (fun n=>decide (n.proc=p))=none) (fun i=>(s.AE).length-i) 0 ⟨by omega,rfl⟩ ?_ ?_
 ·exact B0
 rintro i ⟨hi,hP⟩ J hJ;refine gO ?_;refine gR (l:=s.AE) hi (fun b hb hbm hlt=>?_) (fun hil=>?_);simp(disch:=omega)only[go_sem,gm,hb]
 ·refine Ae (f61_ok b.proc p) ?_;refine gO ?_;refine And.intro (fun hh=>?_) (fun hh=>?_)
  ·have e:Dq s p=Fb b.expr (F7 s b):=by unfold Dq;rw[H2 hP hb (by simpa using hh)]
   refine Aw 5 [([],[6]),([],[19]),([],[2]),([],[6]),([],[21,22])] fol ?_;refine gO ?_;refine Av (f210_ok s b h) ?_;refine gO ?_;refine Ah (f209_ok b.expr (F7 s b)) (by simp(disch:=omega)only[go_sem,Expr.BV]) rfl ?_;simp(disch:=omega)only[go_sem,e];exact AQ _
  ·refine hJ _ (i+1) ⟨by omega,(by rw[BW hP hb];simp at hh;simp[hh])⟩ (by omega) AT
 ·subst hil;rw[tL]at hP;have e:Dq s p=true:=by unfold Dq;rw[hP]
  simp(disch:=omega)only[go_sem,e];exact AQ _
def Cb(s:WS):List Ab:=(Ap s).filter fun p=>Dq s p
def Gj{s:WS}(h:Few s):(Ap s).length≤20000:=by
 have h1:=Og (Ay s.Aa++Ff s.AE);have h2:=PI h.aq;have h3:=h.nq;have h4:=h.nn;unfold Ap;simp only[List.length_append,Ff,length_map]at h1;unfold Ff;omega
def f77_ok(s:WS)(h:Few s):Ad C0 77 [.agg s.c] [] (AX (Cb s)) []:=by
 have hl:=Gj h;refine Ad.go f77 ?_;unfold f77;refine gO ?_;refine Ae (f73_ok s h) ?_;refine gO ?_;refine Ac (α:=Nat) (fun i=>⟨[(9,I i),(8,I (Ap s).length),(7,AX (Ap s)),(1,.ptr 64 0),(3,.sl (.own 1216 0) 3 ((((Ap s).take i).filter fun p=>Dq s p).map Ab.c))],[(64,s.c)]⟩) (fun i=>i≤((Ap s)).length∧True) (fun i=>((Ap s)).length-i) 0 ⟨by omega,trivial⟩ ?_ ?_
 ·exact B0
 rintro i ⟨hi,hP⟩ J hJ;refine gO ?_;refine gR (l:=(Ap s)) hi (fun b hb hbm hlt=>?_) (fun hil=>?_);simp(disch:=omega)only[go_sem,gm,hb]
 ·have hbd:(((Ap s).take i).filter fun p=>Dq s p).length+1≤4294967296:=by
   have:(((Ap s).take i).filter fun p=>Dq s p).length≤((Ap s).take i).length:=length_filter_le _ _;rw[length_take]at this;omega
  refine Ae (f135_ok s b h) ?_;refine gO ?_;refine And.intro (fun hh=>?_) (fun hh=>?_)
  ·refine hJ _ (i+1) ⟨by omega,trivial⟩ (by omega) (Imp.Ar ?_ gI);refine gO ?_;exact .sl (by simp[tA,hb,hh,Ab.c])
  ·refine hJ _ (i+1) ⟨by omega,trivial⟩ (by omega) (Imp.Ar ?_ gI);refine gO ?_;exact .sl (by simp[tA,hb,hh])
 ·subst hil;simp(disch:=omega)only[go_sem,tL];refine CL ⟨[],[],[1216]⟩ _ ?_;simp(disch:=omega)only[go_sem,Cb]
def Dn(s:WS)(l:List Ab):WS:=(Ap s).foldl (fun x p=>if B2 l p then x else Ci x p) s
def f62_ok(s:WS)(l:List Ab)(h:Few s)(hl:l.length≤1000000):Ad C0 62 [.agg s.c,AX l] [] (.agg (Dn s l).c) []:=by
 have hpl:=Gj h;refine Ad.go f62 ?_;unfold f62;refine gO ?_;refine Ae (f73_ok s h) ?_;refine gO ?_;refine Ac (α:=Nat) (fun i=>⟨[(10,I i),(9,I (Ap s).length),(8,AX (Ap s)),(2,.ptr 128 0),(1,AX l),(4,.ptr 256 0)],[(128,(((Ap s).take i).foldl (fun x p=>if B2 l p then x else Ci x p) s).c),(256,wsz)]⟩) (fun i=>i≤((Ap s)).length∧Few (((Ap s).take i).foldl (fun x p=>if B2 l p then x else Ci x p) s)) (fun i=>((Ap s)).length-i) 0 ⟨by omega,h⟩ ?_ ?_
 ·exact B0
 rintro i ⟨hi,hP⟩ J hJ;refine gO ?_;refine gR (l:=(Ap s)) hi (fun b hb hbm hlt=>?_) (fun hil=>?_);simp(disch:=omega)only[go_sem,gm,hb]
 ·have e:((Ap s).take (i+1)).foldl (fun x p=>if B2 l p then x else Ci x p) s=if B2 l b then ((Ap s).take i).foldl (fun x p=>if B2 l p then x else Ci x p) s else Ci (((Ap s).take i).foldl (fun x p=>if B2 l p then x else Ci x p) s) b:=by
   rw[tA,hb,toList_some,List.foldl_append];rfl
  generalize ((Ap s).take i).foldl (fun x p=>if B2 l p then x else Ci x p) s=t at hP e;refine Ae (f59_ok l b hl) ?_;cases hh:B2 l b
  ·rw[if_neg (by simp[hh])]at e;simp(disch:=omega)only[go_sem,zF];refine Ae (f74_ok t b hP) ?_;refine gO ?_;refine hJ _ (i+1) ⟨by omega,by rw[e];exact Nt hP b⟩ (by omega) (Imp.Ar gI ?_);rw[e];simp(disch:=omega)only[go_sem]
  ·rw[if_pos hh]at e;simp(disch:=omega)only[go_sem,zT];refine hJ _ (i+1) ⟨by omega,by rw[e];exact hP⟩ (by omega) (Imp.Ar gI ?_);rw[e];simp(disch:=omega)only[go_sem]
 ·subst hil;rw[tL]at hP ⊢;refine Cn _ ?_;simp(disch:=omega)only[go_sem,Dn]
def Kl{s:WS}{p:Ab}(h:p∈Cb s):p∈Ap s:=(mem_filter.1 h).1
def PZ:Nat→WS→List Ab × List Ab
 | 0,s=>([],Ap s)
 | n+1,s=>match Cb s with
  |[]=>([],Ap s)
  | p::_=>(p::(PZ n (Ci s p)).1,(PZ n (Ci s p)).2)
def Ky(s:WS):List Ab × List Ab:=PZ (Ap s).length s
def Yu:∀ (n m:Nat) (s:WS),C3 s→(Ap s).length≤n→(Ap s).length≤m→PZ n s=PZ m s
 | 0,0,_,_,_,_=>rfl
 | 0,m+1,s,_,h,_=>by
  have e:Cb s=[]:=by unfold Cb;rw[List.eq_nil_of_length_eq_zero (by omega:(Ap s).length=0)];rfl
  simp[PZ,e]
 | n+1,0,s,_,_,h=>by
  have e:Cb s=[]:=by unfold Cb;rw[List.eq_nil_of_length_eq_zero (by omega:(Ap s).length=0)];rfl
  simp[PZ,e]
 | n+1,m+1,s,hg,h1,h2=>by
  simp only[PZ];cases hf:Cb s with
  | nil=>rfl
  | cons p l =>
   have hd:=FM hg (Kl (p:=p) (by rw[hf];simp));simp only;rw[Yu n m (Ci s p) (Dz hg p) (by omega) (by omega)]
def Rw{s:WS}(hg:C3 s):Ky s=match Cb s with
 |[]=>([],Ap s)
 | p::_=>(p::(Ky (Ci s p)).1,(Ky (Ci s p)).2):=by
 unfold Ky;cases hf:Cb s with
 | nil =>
  cases (Ap s).length<;>simp[PZ,hf]
 | cons p l =>
  have hd:=FM hg (Kl (p:=p) (by rw[hf];simp));rw[Yu _ ((Ap (Ci s p)).length+1) s hg (Nat.le_refl _) (by
   have:=L7 hg p;have hm:=Kl (p:=p) (s:=s) (by rw[hf];simp);have hnd:=Jq (FI (Ay s.Aa++Ff s.AE));rw[this];have:(Ap s).filter (fun x=>decide (x≠p))=(Ap s).erase p:=by
    have hnd':(Ap s).Nodup:=hnd;rw[List.Nodup.erase_eq_filter hnd'];refine List.filter_congr fun x _=>?_
    by_cases hx:x=p<;>simp[hx]
   rw[this,List.length_erase_of_mem hm];omega)]
  simp only[PZ,hf]
def f55_ok(s:WS)(h:Few s)(hg:C3 s):Ad C0 55 [.agg s.c] [] (.tup [AX (Ky s).1,AX (Ky s).2]) []:=by
 refine Ad.go f55 ?_;unfold f55;refine gO ?_;refine Ae (f77_ok s h) ?_;refine gO ?_;refine Ac (α:=WS × List Ab) (fun x=>⟨[(5,AX (Cb x.1)),(4,.sl (.own 1472 0) 3 (x.2.map Ab.c)),(1,.ptr 64 0)],[(64,x.1.c)]⟩) (fun x=>Few x.1∧C3 x.1∧x.2.length+(Ap x.1).length≤1000000∧x.2++(Ky x.1).1=(Ky s).1∧(Ky x.1).2=(Ky s).2) (fun x=>(Ap x.1).length) (s,[]) ⟨h,hg,by have:=Gj h;simp;omega,rfl,rfl⟩ ?_ ?_
 ·exact Imp.Ar gI gI
 rintro⟨t,gs⟩ ⟨i1,i2,i3,i4,i5⟩ J hJ
 replace i1:Few t:=i1
 replace i2:C3 t:=i2
 replace i3:gs.length+(Ap t).length≤1000000:=i3
 replace i4:gs++(Ky t).1=(Ky s).1:=i4
 replace i5:(Ky t).2=(Ky s).2:=i5
 rw[Rw i2]at i4 i5;cases hf:Cb t with
 | nil =>
  rw[hf]at i4 i5;have e0:(0<((0:Nat):Int))=False:=by simp
  simp(disch:=omega)only[go_sem,hf,map_nil,List.length_nil,e0,decide_false];refine Ae (f73_ok t i1) ?_;refine gO ?_;refine CL ⟨[],[],[1472]⟩ _ ?_;refine gO ?_;simp only[append_nil]at i4 i5;exact .eq (by rw[← i4,← i5])
 | cons p l =>
  simp only[hf]at i4 i5;have hm:p∈Ap t:=Kl (by rw[hf];simp);have hd:=FM i2 hm;have e0:(0<(l.length:Int)+1)=True:=eq_true (by omega);have hbd:gs.length+1≤4294967296:=by omega
  simp(disch:=omega)only[go_sem,hf,AX,e0];refine Aw 4 [([],[1]),([],[5]),([],[14]),([],[15])] fol ?_;refine gO ?_
  first|(refine Ae (f74_ok t p i1) ?_)|(refine Av (f74_ok t p i1) ?_)
  refine gO ?_;have hfew:=Nt i1 p;refine Ae (f77_ok (Ci t p) hfew) ?_;refine gO ?_;refine hJ _ (Ci t p,gs++[p]) ⟨hfew,Dz i2 p,by simp;omega,by rw[← i4];simp,i5⟩ hd (Imp.Ar ?_ ?_)
  ·simp(disch:=omega)only[go_sem];exact .sl (by simp[Ab.c])
  ·exact gI
def Vz:Nat→Expr→Prop
 | 0,_=>True
 | N+1,e=>e.kids.length≤24∧∀ k∈e.kids,Vz N k
def VQ{lv:Int}:∀ (l:List Expr) (n d:Int),(∀ e∈l,∀ n,n+1≤(meas e (lv+1) n).2)→n≤(Fl l lv n d).2
 |[],n,d,_=>by simp[Fl]
 | e::l,n,d,h=>by
  have h1:=h e (by simp) n;simp only[Fl];split
  ·simp only;omega
  ·have:=VQ l (meas e (lv+1) n).2 (max d (meas e (lv+1) n).1) fun e' he=>h e' (by simp[he])
   omega
def Qd:∀ (N:Nat) (e:Expr),SizeOf.sizeOf e<N→∀ lv n:Int,n+1≤(meas e lv n).2
 | 0,_,h,_,_=>by omega
 | N+1,e,h,lv,n=>by
  rw[JK];split
  ·simp
  ·exact VQ _ _ _ fun e' he n'=>Qd N e' (by have:=DB he;omega) _ _
def Rc{lv:Int}:∀ (l:List Expr) (n d:Int),(Fl l lv n d).1≠0→0≤n→n≤24→(∀ e∈l,∀ n,0≤n→n≤24→(meas e (lv+1) n).1≠0→n+1≤(meas e (lv+1) n).2∧(meas e (lv+1) n).2≤24) →
 n+l.length≤24∧∀ e∈l,∃ n,0≤n∧n≤24∧(meas e (lv+1) n).1≠0
 |[],n,d,_,h0,h1,_=>by simp;omega
 | e::l,n,d,h,h0,h1,hk=>by
  simp only[Fl]at h;split at h
  ·simp at h
  ·rename_i hne;have he:=hk e (by simp) n h0 h1 hne;have:=Rc l _ _ h (by omega) he.2 fun e' he'=>hk e' (by simp[he'])
   refine⟨by simp only[length_cons];omega,fun e' he'=>?_⟩;rcases mem_cons.1 he' with rfl|he'
   ·exact⟨n,h0,h1,hne⟩
   ·exact this.2 e' he'
def S2:∀ (N:Nat) (e:Expr) (lv n:Int),1≤lv→lv≤5→0≤n→n≤24→(meas e lv n).1≠0→Vz N e
 | 0,_,_,_,_,_,_,_,_=>trivial
 | N+1,e,lv,n,h1,h2,h3,h4,h=>by
  rw[JK]at h;split at h
  ·simp at h
  ·rename_i hc;have:=Rc e.kids (n+1) 0 h (by omega) (by omega) fun e' _ n' k1 k2 k3=>⟨Qd _ e' (lt_succ_self _) _ _,(L3 _ e' (lt_succ_self _) (lv+1) n' (by omega) (by omega) k1 k2).2.2.2.2 k3⟩
   refine⟨by omega,fun k hk=>?_⟩;obtain⟨n',k1,k2,k3⟩:=this.2 k hk;exact S2 N k (lv+1) n' (by omega) (by omega) k1 k2 k3
def Pt{e:Expr}(h:Bb e=true)(N:Nat):Vz N e:=by
 simp only[Bb,and_eq_true,Bool.not_eq_true',beq_eq_false_iff_ne]at h;exact S2 N e 1 0 (by omega) (by omega) (by omega) (by omega) h.1
def f129_ok:∀ (N:Nat) (e:Expr),SizeOf.sizeOf e<N→Vz N e→Ad C0 129 [.agg e.c] [] (.agg e.c) []
 | 0,_,h,_=>by omega
 | N+1,e,h,hk=>by
  have hk1:=hk.1;refine Ad.lens f129 fun hlen=>?_
  simp only[ED,lens,Expr.BV,length_map,and_true,true_and]at hlen;refine Ad.go f129 ?_;unfold f129;refine gO ?_;refine Ac (α:=Nat) (fun i=>⟨[(9,I i),(8,I e.kids.length),(7,Fa e.kids),(1,.ptr 64 0),(2,.ptr 128 0),(3,.sl (.own 1088 0) 5 ((e.kids.take i).map Expr.c))],[(64,e.c),(128,(Expr.mk 0 a0 []).c)]⟩) (fun i=>i≤(e.kids).length∧True) (fun i=>(e.kids).length-i) 0 ⟨by omega,trivial⟩ ?_ ?_
  ·refine Imp.Ar ?_ ?_
   all_goals(try simp(disch:=omega)only[go_sem])
   all_goals(try(repeat'(with_reducible apply And.intro)))
   all_goals(first|exact .AO (by omega)|exact .AJ (by omega)|exact .sl (by simp[a0,Expr.BV,Expr.k,Expr.atom,Expr.kids])|exact .int (by simp[a0,Expr.BV,Expr.k,Expr.atom,Expr.kids])|exact .eq (by simp[a0,Expr.BV,Expr.k,Expr.atom,Expr.kids]))
  rintro i ⟨hi,hP⟩ J hJ;refine gO ?_;refine gR (l:=e.kids) hi (fun b hb hbm hlt=>?_) (fun hil=>?_);simp(disch:=omega)only[go_sem,gm,hb]
  ·have hsz:=DB hbm;have hlt':i<e.kids.length:=by omega
   have hbd:min i e.kids.length+1≤4294967296:=by omega
   refine Ae (f129_ok N b (by omega) (hk.2 b hbm)) ?_;simp(disch:=omega)only[go_sem,length_map,length_take];refine hJ _ (i+1) ⟨by omega,trivial⟩ (by omega) (Imp.Ar ?_ ?_)
   ·simp(disch:=omega)only[go_sem];exact .sl (by simp[tA,hb,Expr.BV])
   ·simp(disch:=omega)only[go_sem,Expr.BV]
  ·subst hil;simp(disch:=omega)only[go_sem,tL];refine CL ⟨[],[],[1088]⟩ _ ?_;simp(disch:=omega)only[go_sem,Expr.BV]
def BX(a b:Bs):Bool:=Op.bytesLess a b
def n0:Need:=⟨p0,.mk 0 a0 [],0⟩
def B8(l:List Queue)(i:Nat)(q:Queue):Bool:=valid q&&(decide (i=0)||BX (l.getD (i-1) q0).res.name q.res.name)
def Ek(l:List Need)(i:Nat)(n:Need):Bool:=n.proc.ok&&decide (0≤n.gen)&&decide (n.gen≤1073741824)&&Bb n.expr&&(decide (i=0)||decide (Bc (l.getD (i-1) n0).proc n.proc<0))
def Cy(l:List Queue):Bool:=decide (l.length≤8)&&Ca (B8 l) l
def H6(l:List Need):Bool:=decide (l.length≤8)&&Ca (Ek l) l
def Bj(s:WS):Bool:=Cy s.Aa&&H6 s.AE&&decide ((Ap s).length≤8)
def Bu{q:Queue}(h:BG q≤100):q.holds.length≤1000000∧q.Ao.length≤1000000∧q.waits.length≤1000000:=by
 unfold BG BK at h;omega
def f54_ok(s:WS)(h:Few s):Ad C0 54 [.agg s.c] [] (B (Bj s)) []:=by
 refine Ad.go f54 ?_;unfold f54
 by_cases hq:8<s.Aa.length
 ·have e1:(8<(s.Aa.length:Int))=True:=eq_true (by omega);have e:Bj s=false:=by simp[Bj,Cy];omega
  simp(disch:=omega)only[go_sem,e1];refine As _ ?_;exact wb (by simp[e])
 have e1:(8<(s.Aa.length:Int))=False:=eq_false (by omega)
 by_cases hn:8<s.AE.length
 ·have e2:(8<(s.AE.length:Int))=True:=eq_true (by omega);have e:Bj s=false:=by simp[Bj,H6];omega
  simp(disch:=omega)only[go_sem,e1,e2,decide_false,decide_true];refine As _ ?_;exact wb (by simp[e])
 have e2:(8<(s.AE.length:Int))=False:=eq_false (by omega);simp(disch:=omega)only[go_sem,e1,e2,decide_false];refine Ac (α:=Nat) (fun i=>⟨[(20,I i),(19,I s.Aa.length),(18,AB s.Aa),(1,.ptr 64 0)],[(64,s.c)]⟩) (fun i=>i≤(s.Aa).length∧Ca (B8 s.Aa) (s.Aa.take i)=true) (fun i=>(s.Aa).length-i) 0 ⟨by omega,rfl⟩ ?_ ?_
 ·exact B0
 rintro i ⟨hi,hP⟩ J hJ;refine gO ?_;refine gR (l:=s.Aa) hi (fun b hb hbm hlt=>?_) (fun hil=>?_);simp(disch:=omega)only[go_sem,gm,hb]
 ·have ha:=Bu (h.aq b hbm);have bad:B8 s.Aa i b=false→Bj s=false:=fun h=>by simp only[Bj,Cy,BI hb h,Bool.and_false,Bool.false_and]
  have good:B8 s.Aa i b=true→Ca (B8 s.Aa) (s.Aa.take (i+1))=true:=fun h=>by rw[Cr hb,hP,h];rfl
  refine Aw 18 [([],[4]),([],[25]),([1],[26]),([1],[27]),([1],[3,28]),([1],[29,28]),([1],[30,28]),([1],[1,31]),([1],[32,31]),([1],[3,31]),([1],[34,31]),([1],[33,35,31]),([1],[36,31]),([1],[37,31]),([1],[38,31]),([1],[4,31]),([1],[40,31]),([1],[41,31])] fol ?_;refine gO ?_
  first|(refine Ae (f101_ok b ha.1 ha.2.2) ?_)|(refine Av (f101_ok b ha.1 ha.2.2) ?_)
  cases hv:valid b
  ·simp(disch:=omega)only[go_sem];refine As _ ?_;exact wb (by rw[bad (by simp[B8,hv])])
  by_cases hi0:i=0
  ·subst hi0;refine gO ?_;refine hJ _ 1 ⟨by omega,good (by simp[B8,hv])⟩ (by omega) AT
  ·have hi1:(0<(i:Int))=True:=eq_true (by omega);have hi2:((i:Int)-1)=((i-1:Nat):Int):=by omega
   obtain⟨a,ha'⟩:∃ a,s.Aa[i-1]?=some a:=⟨_,gE (by omega)⟩;have had:s.Aa.getD (i-1) q0=a:=by simp[List.getD,ha']
   simp(disch:=omega)only[go_sem,hi1,hi2,gm,ha'];refine And.intro (fun hh=>?_) (fun hh=>?_)
   ·refine As _ ?_;exact wb (by rw[bad (by simp only[B8,had,hv];simp[hi0];simpa [BX]using hh)])
   ·refine hJ _ (i+1) ⟨by omega,good (by simp only[B8,had,hv];simp[hi0];simpa [BX]using hh)⟩ (by omega) AT
 subst hil;rw[tL]at hP;have hqs:Cy s.Aa=true:=by simp[Cy,hP];omega
 clear hJ;refine Ac (α:=Nat) (fun i=>⟨[(50,I i),(49,I s.AE.length),(48,Fe s.AE),(1,.ptr 64 0)],[(64,s.c)]⟩) (fun i=>i≤(s.AE).length∧Ca (Ek s.AE) (s.AE.take i)=true) (fun i=>(s.AE).length-i) 0 ⟨by omega,rfl⟩ ?_ ?_
 ·exact B0
 rintro i ⟨hi,hP⟩ J hJ;refine gO ?_;refine gR (l:=s.AE) hi (fun b hb hbm hlt=>?_) (fun hil=>?_);simp(disch:=omega)only[go_sem,gm,hb]
 ·have bad:Ek s.AE i b=false→Bj s=false:=fun h=>by simp only[Bj,H6,BI hb h,Bool.and_false,Bool.false_and]
  have good:Ek s.AE i b=true→Ca (Ek s.AE) (s.AE.take (i+1))=true:=fun h=>by rw[Cr hb,hP,h];rfl
  refine Ae (f102_ok b.proc) ?_;cases hp:b.proc.ok
  ·simp(disch:=omega)only[go_sem];refine As _ ?_;exact wb (by rw[bad (by simp[Ek,hp])])
  by_cases hg1:b.gen<0
  ·have k1:(b.gen<0)=True:=eq_true hg1;simp(disch:=omega)only[go_sem,k1];refine As _ ?_;exact wb (by rw[bad (by simp[Ek];omega)])
  have k1:(b.gen<0)=False:=eq_false hg1
  by_cases hg2:1073741824<b.gen
  ·have k2:(1073741824<b.gen)=True:=eq_true hg2;simp(disch:=omega)only[go_sem,k1,k2,decide_false];refine As _ ?_;exact wb (by rw[bad (by simp[Ek];omega)])
  have k2:(1073741824<b.gen)=False:=eq_false hg2;have g1:decide (0≤b.gen)=true:=by simp;omega
  have g2:decide (b.gen≤1073741824)=true:=by simp;omega
  simp(disch:=omega)only[go_sem,k1,k2,decide_false];refine Ah (f103_ok b.expr) (by simp(disch:=omega)only[go_sem,Expr.BV]) rfl ?_;cases he:Bb b.expr
  ·simp(disch:=omega)only[go_sem];refine As _ ?_;exact wb (by rw[bad (by simp[Ek,he])])
  refine gO ?_;refine Aw 12 [([],[5]),([],[75]),([],[76]),([],[1,77]),([],[78,77]),([],[5,77]),([],[80,77]),([],[79,81,77]),([],[82,77]),([],[83,77]),([],[6,77]),([],[85,77])] fol ?_
  by_cases hi0:i=0
  ·subst hi0;refine gO ?_;refine hJ _ 1 ⟨by omega,good (by simp only[Ek,hp,g1,g2,he];rfl)⟩ (by omega) AT
  ·have hi1:(0<(i:Int))=True:=eq_true (by omega);have hi2:((i:Int)-1)=((i-1:Nat):Int):=by omega
   obtain⟨a,ha'⟩:∃ a,s.AE[i-1]?=some a:=⟨_,gE (by omega)⟩;have had:s.AE.getD (i-1) n0=a:=by simp[List.getD,ha']
   simp(disch:=omega)only[go_sem,hi1,hi2,gm,ha']
   first|(refine Ae (f61_ok a.proc b.proc) ?_)|(refine Av (f61_ok a.proc b.proc) ?_)
   refine gO ?_
   by_cases hc:0≤Bc a.proc b.proc
   ·simp(disch:=omega)only[go_sem,hc];refine As _ ?_;exact wb (by rw[bad (by simp only[Ek,had];simp[hi0];omega)])
   ·simp(disch:=omega)only[go_sem,hc,decide_false];refine hJ _ (i+1) ⟨by omega,good (by simp only[Ek,had,hp,g1,g2,he];simp;omega)⟩ (by omega) AT
 ·subst hil;rw[tL]at hP;have hns:H6 s.AE=true:=by simp[H6,hP];omega
  refine Ae (f73_ok s h) ?_;refine gO ?_;refine As _ ?_;exact wb (by simp only[Bj,hqs,hns];simp;omega)
def Da{s:WS}(h:Bj s=true):C3 s:=by
 simp only[Bj,Cy,and_eq_true,CM]at h;intro q hq;obtain⟨i,hi,he⟩:=getElem_of_mem hq;have:=h.1.1.2 i q (by rw[gE hi,he]);simp only[B8,and_eq_true]at this;exact this.1
def J7(s:WS):Prop:=∀ n∈s.AE,Bb n.expr=true
def N4{s:WS}(h:Bj s=true):J7 s:=by
 simp only[Bj,H6,and_eq_true,CM]at h;intro q hq;obtain⟨i,hi,he⟩:=getElem_of_mem hq;have:=h.1.2.2 i q (by rw[gE hi,he]);simp only[Ek,and_eq_true]at this;exact this.1.2
def Y6{s:WS}(h:J7 s)(p:Ab):J7 (Ci s p):=fun n hn=>h n (mem_filter.1 hn).1
def Uw{P:WS→Prop}(hP:∀ s p,P s→P (Ci s p)){s:WS}(l:List Ab)(h:P s):P (Dn s l):=by
 unfold Dn;have:∀ (ps:List Ab) (x:WS),P x→P (ps.foldl (fun x p=>if B2 l p then x else Ci x p) x):=by
  intro ps
  induction ps with
  | nil=>intro x hx;exact hx
  | cons p ps ih =>
   intro x hx;simp only[List.foldl_cons];split
   ·exact ih x hx
   ·exact ih _ (hP x p hx)
 exact this _ _ h
def T0{s:WS}(h:Few s)(l:List Ab):Few (Dn s l):=Uw (P:=Few) (fun _ p h=>Nt h p) l h
def Y7{s:WS}(h:J7 s)(l:List Ab):J7 (Dn s l):=Uw (P:=J7) (fun _ p h=>Y6 h p) l h
def f72_ok(s:WS)(h:Few s)(he:J7 s):Ad C0 72 [.agg s.c] [] (.agg s.c) []:=by
 have hn1:=h.nq;have hn2:=h.nn;refine Ad.go f72 ?_;unfold f72;refine gO ?_;refine Ac (α:=Nat) (fun i=>⟨[(11,I i),(10,I s.Aa.length),(9,AB s.Aa),(1,.ptr 64 0),(2,.ptr 128 0),(3,.ptr 192 0)],[(64,s.c),(128,wsz),(192,[.sl (.own 1984 0) 8 ((s.Aa.take i).map Queue.c),.v (.slice none 0 0)])]⟩) (fun i=>i≤(s.Aa).length∧True) (fun i=>(s.Aa).length-i) 0 ⟨by omega,trivial⟩ ?_ ?_
 ·exact B0
 rintro i ⟨hi,hP⟩ J hJ;refine gO ?_;refine gR (l:=s.Aa) hi (fun b hb hbm hlt=>?_) (fun hil=>?_);simp(disch:=omega)only[go_sem,gm,hb]
 ·have ha:=Bu (h.aq b hbm);have hbd:min i s.Aa.length+1≤4294967296:=by omega
  refine Aw 10 [([],[5]),([],[15]),([],[16]),([],[5]),([],[18]),([2],[19]),([],[5]),([],[21]),([2,5],[22]),([2],[5])] fol ?_;refine gO ?_
  first|(refine Ae (f127_ok b.holds ha.1) ?_)|(refine Av (f127_ok b.holds ha.1) ?_)
  refine gO ?_
  first|(refine Ae (f128_ok b.Ao ha.2.1) ?_)|(refine Av (f128_ok b.Ao ha.2.1) ?_)
  refine gO ?_
  first|(refine Ae (f128_ok b.waits ha.2.2) ?_)|(refine Av (f128_ok b.waits ha.2.2) ?_)
  simp(disch:=omega)only[go_sem,length_map,length_take];refine hJ _ (i+1) ⟨by omega,trivial⟩ (by omega) (Imp.Ar gI ?_);refine gO ?_;exact .sl (by simp[tA,hb,Queue.c])
 subst hil;rw[tL];clear hJ;refine Ac (α:=Nat) (fun i=>⟨[(37,I i),(36,I s.AE.length),(35,Fe s.AE),(1,.ptr 64 0),(2,.ptr 128 0),(3,.ptr 192 0)],[(64,s.c),(128,wsz),(192,[.sl (.own 1984 0) 8 (s.Aa.map Queue.c),.sl (.own 3136 0) 9 ((s.AE.take i).map Need.c)])]⟩) (fun i=>i≤(s.AE).length∧True) (fun i=>(s.AE).length-i) 0 ⟨by omega,trivial⟩ ?_ ?_
 ·exact B0
 rintro i ⟨hi,hP⟩ J hJ;refine gO ?_;refine gR (l:=s.AE) hi (fun b hb hbm hlt=>?_) (fun hil=>?_);simp(disch:=omega)only[go_sem,gm,hb]
 ·have hbd:min i s.AE.length+1≤4294967296:=by omega
  refine Ah (f129_ok _ b.expr (lt_succ_self _) (Pt (he b hbm) _)) (by simp(disch:=omega)only[go_sem,Expr.BV]) rfl ?_;simp(disch:=omega)only[go_sem,Expr.BV,length_map,length_take];refine hJ _ (i+1) ⟨by omega,trivial⟩ (by omega) (Imp.Ar gI ?_);refine gO ?_;exact .sl (by simp[tA,hb,Need.c])
 ·subst hil;simp(disch:=omega)only[go_sem,tL];refine CL ⟨[],[],[1984,3136]⟩ _ ?_;simp(disch:=omega)only[go_sem]
def wsE:WS:=⟨[],[]⟩
def IU(s:WS):List Ab:=if Bj s then Cb s else []
def f36_ok(s:WS)(h:Few s):Ad C0 36 [.agg s.c] [] (AX (IU s)) []:=by
 refine Ad.go f36 ?_;unfold f36;refine gO ?_;refine Ae (f54_ok s h) ?_;cases hv:Bj s
 ·simp(disch:=omega)only[go_sem];refine Cn _ ?_;simp(disch:=omega)only[go_sem,IU];simp only[IU,hv];exact .AJ (by omega)
 ·simp(disch:=omega)only[go_sem];refine Ae (f77_ok s h) ?_;refine gO ?_;refine Cn _ ?_;simp(disch:=omega)only[go_sem,IU,hv]
def Db(s:WS):List Ab × List Ab:=if Bj s then Ky s else ([],[])
def f19_ok(s:WS)(h:Few s):Ad C0 19 [.agg s.c] [] (.tup [AX (Db s).1,AX (Db s).2]) []:=by
 refine Ad.go f19 ?_;unfold f19;refine gO ?_;refine Ae (f54_ok s h) ?_;cases hv:Bj s
 ·have e:Db s=([],[]):=by simp[Db,hv]
  simp(disch:=omega)only[go_sem,e];exact FQ _
 ·have e:Db s=Ky s:=by simp[Db,hv]
  simp(disch:=omega)only[go_sem,e];refine Ae (f55_ok s h (Da hv)) ?_;refine gO ?_;exact AQ _
def dH{s:WS}(h:Few s)(hg:C3 s):(Ky s).2.length≤20000:=by
 have key:∀ (n:Nat) (s:WS),Few s→(PZ n s).2.length≤20000:=by
  intro n
  induction n with
  | zero=>intro s h;exact Gj h
  | succ n ih =>
   intro s h;simp only[PZ];split
   ·exact Gj h
   ·exact ih _ (Nt h _)
 exact key _ s h
def WR{s:WS}(h:Few s):(Db s).2.length≤20000:=by
 unfold Db;split
 ·rename_i hv;exact dH h (Da hv)
 ·simp
def A4(s:WS)(l:List Ab):WS × Int:=if Bj s then (Dn s l,0) else (wsE,2)
def f32_ok(s:WS)(l:List Ab)(h:Few s)(hl:l.length≤1000000):Ad C0 32 [.agg s.c,AX l] [] (.tup [.agg (A4 s l).1.c,I (A4 s l).2]) []:=by
 refine Ad.go f32 ?_;unfold f32;refine gO ?_;refine Ae (f54_ok s h) ?_;cases hv:Bj s
 ·have e:A4 s l=(wsE,2):=by simp[A4,hv]
  simp(disch:=omega)only[go_sem,e,wsE];refine As _ ?_;refine .tup (Ai.AR ?_);simp(disch:=omega)only[go_sem]
  repeat'(with_reducible apply And.intro)
  all_goals(first|exact .AJ (by omega)|exact .agg (Ai.AR gI))
 ·have e:A4 s l=(Dn s l,0):=by simp[A4,hv]
  simp(disch:=omega)only[go_sem,e];refine Ae (f62_ok s l h hl) ?_;refine gO ?_;refine Ae (f72_ok (Dn s l) (T0 h l) (Y7 (N4 hv) l)) ?_;refine gO ?_;exact AQ _
def GB(l:List Ab)(k:Nat)(p:Ab):List Ab:=l.take k++p::l.drop k
def NN(l:List Ab)(k:Nat)(p:Ab)(h:k≤l.length):(GB l k p).length=l.length+1:=by simp[GB];omega
def VT(l:List Ab)(k:Nat)(p:Ab)(h:k≤l.length):(GB l k p)[k]?=some p:=by
 unfold GB;rw[List.getElem?_append_right (by simp;omega)];simp[Nat.min_eq_left h]
def S6(l:List Ab)(k:Nat)(p:Ab)(h:k+1≤l.length):(GB l (k+1) p)[k]?=l[k]?:=by
 unfold GB;rw[List.getElem?_append_left (by simp;omega),List.getElem?_take,if_pos (by omega)]
def S7{l:List Ab}{k:Nat}{p x:Ab}(hx:l[k]?=some x):((GB l (k+1) p).set k p).set (k+1) x=GB l k p:=by
 have hk:=Aj hx;have hd:l.drop k=x::l.drop (k+1):=by rw[drop_eq_getElem_cons hk,get_eq hx]
 have ht:l.take (k+1)=l.take k++[x]:=HC hx;unfold GB;rw[ht,hd];have hl:(l.take k).length=k:=by simp;omega
 rw[List.append_assoc,List.set_append_right _ _ (by omega),hl,Nat.sub_self];rw[List.set_append_right _ _ (by omega),hl];simp
def VU(l:List Ab)(k:Nat)(p x:Ab):x∈GB l k p↔x∈l∨x=p:=by
 unfold GB
 conv=>rhs;rw[← take_append_drop k l]
 simp only[mem_append,mem_cons];constructor
 ·rintro(h|h|h)
  ·exact .inl (.inl h)
  ·exact .inr h
  ·exact .inl (.inr h)
 ·rintro((h|h)|h)
  ·exact .inl h
  ·exact .inr (.inr h)
  ·exact .inr (.inl h)
def f76_ok(l:List Ab)(hl:l.length≤1000000):Ad C0 76 [AX l] [] (AX (KU l)) []:=by
 refine Ad.go f76 ?_;unfold f76;refine gO ?_;refine Ac (α:=Nat × List Ab) (fun x=>⟨[(4,I x.1),(3,.sl (.own 1728 0) 3 (x.2.map Ab.c)),(0,AX l)],[]⟩) (fun x=>x.1≤l.length∧x.2.length≤x.1∧IQ x.2∧∀ p,p∈x.2↔p∈l.take x.1) (fun x=>l.length-x.1) (0,[]) ⟨by simp,by simp,by simp[IQ],by simp⟩ ?_ ?_
 ·refine Imp.Ar ?_ ?_
  ·simp(disch:=omega)only[go_sem,map_nil]
  ·exact gI
 rintro⟨i,out⟩ ⟨hi,hol,hasc,hmem⟩ J hJ
 replace hi:i≤l.length:=hi
 replace hol:out.length≤i:=hol
 replace hasc:IQ out:=hasc
 replace hmem:∀ p,p∈out↔p∈l.take i:=hmem
 refine gO ?_;refine ⟨fun hlt=>?_,fun hge=>?_⟩
 ·have hlt':i<l.length:=by simp at hlt;omega
  obtain⟨p,hp⟩:∃ p,l[i]?=some p:=⟨_,gE hlt'⟩;have ht:=HC hp;simp(disch:=omega)only[go_sem,gm,hp];refine Dd [1728] (f29_ok out p (by omega)) gI rfl trivial ?_;cases hh:B2 out p;rotate_left
  ·have hin:p∈out:=by simpa [B2]using hh
   refine gO ?_;refine hJ _ (i+1,out) ⟨by simp;omega,by simp;omega,hasc,fun x=>?_⟩ (by simp;omega) AT;rw[ht,mem_append,← hmem x];simp only[List.mem_singleton];exact⟨.inl,fun h=>h.elim id fun e=>by rw[e];exact hin⟩
  have hnin:p∉out:=by simpa [B2]using hh
  have hbd:out.length+1≤4294967296:=by omega
  simp(disch:=omega)only[go_sem,gm,hp];refine Ac (α:=Nat) (fun k=>⟨[(5,I k),(4,I i),(3,.sl (.own 1728 0) 3 ((GB out k p).map Ab.c)),(0,AX l)],[]⟩) (fun k=>k≤out.length∧∀ x∈out.drop k,Bc p x<0) (fun k=>k) out.length ⟨by omega,by simp⟩ ?_ ?_
  ·refine Imp.Ar ?_ ?_
   ·simp(disch:=omega)only[go_sem];exact .sl (by simp[GB,Ab.c])
   ·exact gI
  rintro k ⟨hk,hgt⟩ J2 hJ2;have stop:(∀ x∈out.take k,Bc x p<0)→∀ st',Imp ⟨C0,[],[]⟩ st' ⟨[(4,I (i+1:Nat)),(3,.sl (.own 1728 0) 3 ((GB out k p).map Ab.c)),(0,AX l)],[]⟩→J st':=fun hlt2 st' him=>by
   refine hJ st' (i+1,GB out k p) ⟨by simp;omega,by simp[NN out k p hk];omega,?_,fun x=>?_⟩ (by simp;omega) him
   ·have h0:=hasc;unfold IQ at h0 ⊢;rw[← take_append_drop k out]at h0;rw[List.pairwise_append]at h0;show (GB out k p).Pairwise _;unfold GB;rw[List.pairwise_append];refine⟨h0.1,pairwise_cons.2 ⟨hgt,h0.2.1⟩,fun a ha b hb=>?_⟩;rcases mem_cons.1 hb with e|e
    ·rw[e];exact hlt2 a ha
    ·exact h0.2.2 a ha b e
   ·show x∈GB out k p↔x∈l.take (i+1);rw[VU,ht,mem_append,← hmem x];simp
  refine Aw 12 [([],[5]),([],[28]),([],[29]),([],[3,30]),([],[5,30]),([],[32,30]),([],[31,33,30]),([],[34,30]),([],[3,30]),([],[5,30]),([],[36,37,30]),([],[38,30])] fol ?_;cases k with
  | zero =>
   have e0:(0<((0:Nat):Int))=False:=by simp
   simp(disch:=omega)only[go_sem,e0,decide_false];exact stop (by simp) _ AT
  | succ k =>
   have e0:(0<(((k+1:Nat)):Int))=True:=eq_true (by omega);have e1:(0<(k:Int)+1)=True:=eq_true (by omega);have e2:((k:Int)+1-1)=(k:Int):=by omega
   obtain⟨x,hx⟩:∃ x,out[k]?=some x:=⟨_,gE (by omega)⟩;have g1:=VT out (k+1) p hk;have g2:=S6 out k p hk;rw[hx]at g2;have hml:=NN out (k+1) p hk;have z1:k<(GB out (k+1) p).length:=by omega
   have z2:k+1<(GB out (k+1) p).length:=by omega
   simp(disch:=omega)only[go_sem,e0,e1,e2,gm,g1,g2,length_map,hml];refine Ae (f107_ok x p) ?_;refine gO ?_
   by_cases hc:0<Bc x p
   ·have e3:(0<Bc x p)=True:=eq_true hc;have e4:(k=k+1)=False:=eq_false (by omega);simp(disch:=omega)only[go_sem,e2,e3,gm,g1,g2,length_map,hml,List.length_set,List.getElem?_set,e4];refine hJ2 _ k ⟨by omega,fun y hy=>?_⟩ (by omega) (Imp.Ar ?_ gI)
    ·rw[drop_eq_getElem_cons (by omega),get_eq hx]at hy;rcases mem_cons.1 hy with e|e
     ·subst e;have:=CN y p;omega
     ·exact hgt y e
    ·simp(disch:=omega)only[go_sem];refine .sl ?_;rw[← S7 hx,map_set,map_set];rfl
   ·have e3:(0<Bc x p)=False:=eq_false hc;simp(disch:=omega)only[go_sem,e3,decide_false];refine stop (fun y hy=>?_) _ AT;have hxm:x∈out:=mG hx;have hxp:Bc x p<0:=by
     have:Bc x p≠0:=fun e=>hnin (by rw[← Gc e];exact hxm)
     omega
    rw[HC hx]at hy;rcases mem_append.1 hy with e|e
    ·have h0:=hasc;unfold IQ at h0;rw[← take_append_drop k out,List.pairwise_append]at h0;have hd:out.drop k=x::out.drop (k+1):=by rw[drop_eq_getElem_cons (by omega),get_eq hx]
     exact CU (h0.2.2 y e x (by rw[hd];simp)) hxp
    ·rw[List.mem_singleton.1 e];exact hxp
 ·have hil:i=l.length:=by simp at hge;omega
  subst hil;rw[tL]at hmem;have e:out=KU l:=Nd hasc (FI l) fun x=>by rw[hmem,Ig]
  refine CL ⟨[],[],[1728]⟩ _ ?_;simp(disch:=omega)only[go_sem,e]
def f207_ok(l:List AK)(hl:l.length≤1000000):Ad C0 207 [AL l] [] (Lz 0 (C9 l)) []:=by
 refine Ad.go f207 ?_;unfold f207;refine gO ?_;refine Ac (α:=Nat) (fun i=>⟨[(4,I i),(0,AL l),(3,.sl (.own 1152 0) 3 ((C9 (l.take i)).map Ab.c))],[]⟩) (fun i=>i≤(l).length∧True) (fun i=>(l).length-i) 0 ⟨by omega,trivial⟩ ?_ ?_
 ·exact B0
 rintro i ⟨hi,hP⟩ J hJ;refine gO ?_;refine gR (l:=l) hi (fun b hb hbm hlt=>?_) (fun hil=>?_);simp(disch:=omega)only[go_sem,gm,hb]
 ·have hbd:(C9 (l.take i)).length+1≤4294967296:=by simp[C9];omega
  simp(disch:=omega)only[go_sem,C9];refine hJ _ (i+1) ⟨by omega,trivial⟩ (by omega) (Imp.Ar ?_ ?_)
  all_goals(try simp(disch:=omega)only[go_sem])
  all_goals(try(repeat'(with_reducible apply And.intro)))
  all_goals(first|exact .AO (by omega)|exact .AJ (by omega)|exact .sl (by simp[C9,tA,hb,Ab.c])|exact .int (by simp[C9,tA,hb,Ab.c])|exact .eq (by simp[C9,tA,hb,Ab.c]))
 ·subst hil;refine Bd ⟨[(1152,0)],[],[]⟩ _ rfl ⟨rfl,rfl⟩ (by simp[lk]) ?_ trivial;simp(disch:=omega)only[go_sem,tL]
def f208_ok(q:Queue)(h:q.Ao.length+q.waits.length≤1000000):Ad C0 208 [.agg q.c] [] (AX (BN (q.Ao++q.waits))) []:=by
 refine Ad.go f208 ?_;unfold f208;refine gO ?_;refine Ac (α:=Nat) (fun i=>⟨[(4,I i),(1,.ptr 64 0),(3,.sl (.own 1344 0) 3 ((BN (q.Ao.take i)).map Ab.c))],[(64,q.c)]⟩) (fun i=>i≤(q.Ao).length∧True) (fun i=>(q.Ao).length-i) 0 ⟨by omega,trivial⟩ ?_ ?_
 ·exact B0
 rintro i ⟨hi,hP⟩ J hJ;refine gO ?_;refine gR (l:=q.Ao) hi (fun b hb hbm hlt=>?_) (fun hil=>?_);simp(disch:=omega)only[go_sem,gm,hb]
 ·have hbd:(BN (q.Ao.take i)).length+1≤4294967296:=by simp[BN];omega
  simp(disch:=omega)only[go_sem,BN];refine hJ _ (i+1) ⟨by omega,trivial⟩ (by omega) (Imp.Ar ?_ ?_)
  all_goals(try simp(disch:=omega)only[go_sem])
  all_goals(try(repeat'(with_reducible apply And.intro)))
  all_goals(first|exact .AO (by omega)|exact .AJ (by omega)|exact .sl (by simp[BN,tA,hb,Ab.c])|exact .int (by simp[BN,tA,hb,Ab.c])|exact .eq (by simp[BN,tA,hb,Ab.c]))
 subst hil;rw[tL];clear hJ;refine Ac (α:=Nat) (fun i=>⟨[(5,I i),(1,.ptr 64 0),(3,.sl (.own 2368 0) 3 ((BN (q.Ao++q.waits.take i)).map Ab.c))],[(64,q.c)]⟩) (fun i=>i≤(q.waits).length∧True) (fun i=>(q.waits).length-i) 0 ⟨by omega,trivial⟩ ?_ ?_
 ·refine Imp.ren ⟨[(1344,2368)],[(64,64)],[]⟩ ⟨rfl,rfl⟩ (by simp[lk]) ?_ ?_
  all_goals(try simp(disch:=omega)only[go_sem])
  all_goals(try(repeat'(with_reducible apply And.intro)))
  all_goals(first|exact .AO (by omega)|exact .AJ (by omega)|exact .sl (by simp[])|exact .int (by simp[])|exact .eq (by simp[]))
 rintro i ⟨hi,hP⟩ J hJ;refine gO ?_;refine gR (l:=q.waits) hi (fun b hb hbm hlt=>?_) (fun hil=>?_);simp(disch:=omega)only[go_sem,gm,hb]
 ·have hbd:(BN (q.Ao++q.waits.take i)).length+1≤4294967296:=by simp[BN];omega
  simp(disch:=omega)only[go_sem,BN];refine hJ _ (i+1) ⟨by omega,trivial⟩ (by omega) (Imp.Ar ?_ ?_)
  all_goals(try simp(disch:=omega)only[go_sem])
  all_goals(try(repeat'(with_reducible apply And.intro)))
  all_goals(first|exact .AO (by omega)|exact .AJ (by omega)|exact .sl (by simp[BN,tA,hb,Ab.c])|exact .int (by simp[BN,tA,hb,Ab.c])|exact .eq (by simp[BN,tA,hb,Ab.c]))
 ·subst hil;refine CL ⟨[],[],[2368]⟩ _ ?_;simp(disch:=omega)only[go_sem,tL]
def f134_ok(q:Queue)(h:BG q≤1000000):Ad C0 134 [.agg q.c] [] (AX (Bp q)) []:=by
 have h1:q.holds.length≤1000000:=by unfold BG at h;omega
 have h2:q.Ao.length+q.waits.length≤1000000:=by unfold BG BK at h;omega
 have h3:(C9 q.holds).length+(BN (q.Ao++q.waits)).length≤1000000:=by simp[C9,BN];unfold BG BK at h;omega
 have h4:(C9 q.holds).length+(BN (q.Ao++q.waits)).length≤4294967296:=by omega
 refine Ad.go f134 ?_;unfold f134;refine gO ?_;refine Aw 4 [([],[1]),([],[3]),([],[4]),([],[1])] fol ?_;refine gO ?_;refine Az ⟨⟨[],[],[]⟩,[(0,320)],[]⟩ (f207_ok q.holds h1) gI rfl rfl trivial (.inl rfl) ?_;refine gO ?_
 first|(refine Ae (f208_ok q h2) ?_)|(refine Av (f208_ok q h2) ?_)
 refine gO ?_;refine Is [512] (f76_ok (C9 q.holds++BN (q.Ao++q.waits)) (by simpa using h3)) (by simp(disch:=omega)only[go_sem];exact .sl (by simp)) rfl ?_;refine gO ?_;refine Cn _ ?_;simp(disch:=omega)only[go_sem,Bp]
def f163_ok(q:Queue)(p:Ab)(h:q.holds.length≤1000000):Ad C0 163 [.agg q.c,.agg p.c] [] (.agg (At q.holds p).c) []:=by
 refine Ad.go f163 ?_;unfold f163;refine gO ?_;refine Ae (f244_ok q.holds p h) ?_;refine gO ?_;exact AQ _
def Nw{l:List AP}{p:Ab}:(Fv l p<0∧l.find? (fun w=>decide (w.proc=p))=none)∨∃ (i:Nat) (w:AP),Fv l p=i∧l[i]?=some w∧l.find? (fun w=>decide (w.proc=p))=some w:=by
 unfold Fv;cases h:l.findIdx? (fun w=>decide (w.proc=p)) with
 |none =>
  left;refine⟨by simp,?_⟩;rw[List.findIdx?_eq_none_iff]at h;rw[List.find?_eq_none];intro x hx;simpa using h x hx
 |some i =>
  right;obtain⟨h1,h2,h3⟩:=(List.findIdx?_eq_some_iff_getElem.1 h);refine⟨i,l[i],rfl,gE h1,?_⟩;rw[List.find?_eq_some_iff_getElem];exact⟨h2,i,h1,rfl,fun j hj=>by simpa using h3 j hj⟩
def f98_ok(q:Queue)(p:Ab)(h1:q.Ao.length≤1000000)(h2:q.waits.length≤1000000):Ad C0 98 [.agg q.c,.agg p.c] [] (.tup [.agg ((Aq q p).getD ⟨0,0⟩).c,B (Aq q p).isSome]) []:=by
 refine Ad.go f98 ?_;unfold f98;refine gO ?_;refine Ae (f153_ok q.Ao p h1) ?_;rcases Nw (l:=q.Ao) (p:=p) with ⟨a,b⟩|⟨i,w,a,b,c⟩
 ·have e1:(0≤Fv q.Ao p)=False:=eq_false (by omega);simp(disch:=omega)only[go_sem,e1,decide_false];refine Ae (f153_ok q.waits p h2) ?_;rcases Nw (l:=q.waits) (p:=p) with ⟨a',b'⟩|⟨i,w,a',b',c'⟩
  ·have e2:(0≤Fv q.waits p)=False:=eq_false (by omega);have e:Aq q p=none:=by simp[Aq,List.find?_append,b,b']
   simp(disch:=omega)only[go_sem,e2,e,isSome_none,decide_false];exact AQ _
  ·have e:Aq q p=some w.amt:=by simp[Aq,List.find?_append,b,c']
   simp(disch:=omega)only[go_sem,a',e,isSome_some,gm,b'];exact AQ _
 ·have e:Aq q p=some w.amt:=by simp[Aq,List.find?_append,c]
  simp(disch:=omega)only[go_sem,a,e,isSome_some,gm,b];exact AQ _
def Me(q:Queue)(p:Ab):Bool:=(Aq q p).isSome||!(At q.holds p).zero
def f109_ok(q:Queue)(p:Ab)(h:BG q≤1000000):Ad C0 109 [.agg q.c,.agg p.c] [] (B (Me q p)) []:=by
 have h1:q.holds.length≤1000000:=by unfold BG at h;omega
 have h2:q.Ao.length≤1000000:=by unfold BG BK at h;omega
 have h3:q.waits.length≤1000000:=by unfold BG BK at h;omega
 refine Ad.go f109 ?_;unfold f109;refine gO ?_;refine Ae (f98_ok q p h2 h3) ?_;cases hw:(Aq q p).isSome
 ·simp(disch:=omega)only[go_sem,hw];refine Ae (f163_ok q p h1) ?_;refine gO ?_;refine Ae (f162_ok (At q.holds p)) ?_;refine gO ?_;refine As _ ?_;exact wb (by simp[Me,hw])
 ·simp(disch:=omega)only[go_sem,hw];refine As _ ?_;exact wb (by simp[Me,hw])
def f164_ok(q:Queue)(h1:q.holds.length≤1000000)(h2:q.Ao.length≤1000000)(h3:q.waits.length≤1000000):Ad C0 164 [.agg q.c] [] (.agg q.c) []:=by
 refine Ad.go f164 ?_;unfold f164;refine gO ?_;refine CL ⟨[],[],[384,704,1024]⟩ _ ?_;simp(disch:=omega)only[go_sem,AL]
def f187_ok(n:Int):Ad C0 187 [I n] [] (I (Lv n)) []:=by
 refine Ad.go f187 ?_;unfold f187;simp(disch:=omega)only[go_sem]
 repeat'(with_reducible refine And.intro (fun h=>?_) (fun h=>?_))
 all_goals(refine Cn _ ?_)
 all_goals(try simp(disch:=omega)only[go_sem])
 all_goals(first|(simp_all[Lv];done)|exact wi (by simp_all[Lv,IntKind.wrap,IntKind.signed,IntKind.bits]<;>omega))
def f166_ok(l:List AP)(p:Ab)(hl:l.length≤1000000):Ad C0 166 [Be l,.agg p.c] [] (.tup [Be (AZ l p),B (decide ((AZ l p).length<l.length))]) []:=by
 refine Ad.go f166 ?_;unfold f166;refine gO ?_;have hd:∀ i,(AZ (l.take i) p).length≤l.length:=fun i=>le_trans (BL _ _) (by simp;omega)
 refine Ac (α:=Nat) (fun i=>⟨[(7,I i),(0,Be l),(3,.ptr 192 0),(6,.sl (.own 1728 0) 7 ((AZ (l.take i) p).map AP.c))],[(192,p.c)]⟩) (fun i=>i≤(l).length∧True) (fun i=>(l).length-i) 0 ⟨by omega,trivial⟩ ?_ ?_
 ·exact B0
 rintro i ⟨hi,hP⟩ J hJ;refine gO ?_;refine gR (l:=l) hi (fun b hb hbm hlt=>?_) (fun hil=>?_);refine Aw 6 [([],[0]),([],[7]),([],[14,15]),([],[16]),([],[17]),([],[3])] fol ?_;simp(disch:=omega)only[go_sem,gm,hb]
 ·have hdi:=hd i
  by_cases hb':b.proc=p
  ·simp(disch:=omega)only[go_sem,hb',decide_false];refine hJ _ (i+1) ⟨by omega,trivial⟩ (by omega) (Imp.Ar ?_ ?_)
   all_goals(try simp(disch:=omega)only[go_sem])
   all_goals(try(repeat'(with_reducible apply And.intro)))
   all_goals(first|exact .AO (by omega)|exact .AJ (by omega)|exact .sl (by simp[AZ,tA,hb,hb'])|exact .int (by simp[AZ,tA,hb,hb'])|exact .eq (by simp[AZ,tA,hb,hb']))
  ·simp(disch:=omega)only[go_sem,hb',decide_true,gm,hb];refine hJ _ (i+1) ⟨by omega,trivial⟩ (by omega) (Imp.Ar ?_ ?_)
   all_goals(try simp(disch:=omega)only[go_sem])
   all_goals(try(repeat'(with_reducible apply And.intro)))
   all_goals(first|exact .AO (by omega)|exact .AJ (by omega)|exact .sl (by simp[AZ,tA,hb,hb',AP.c])|exact .int (by simp[AZ,tA,hb,hb',AP.c])|exact .eq (by simp[AZ,tA,hb,hb',AP.c]))
 ·subst hil;have hdi:=hd l.length;rw[tL]at hdi ⊢;have e:decide (((AZ l p).length:Int)<l.length)=decide ((AZ l p).length<l.length):=by simp
  refine Bd ⟨[],[],[1728]⟩ _ (by(try simp(disch:=omega)only[go_sem,Dp,JQ])<;>rfl) ⟨rfl,rfl⟩ (by simp[lk]) ?_ trivial;simp(disch:=omega)only[go_sem,e]
def Dx(l:List AK)(p:Ab)(a:Amt):Bool:=a.zero||(AA l p).any (after' p)
def Jk(l:List AK)(p:Ab)(a:Amt):List AK:=if Dx l p a then B5 l p a else AA l p
def RZ{l:List AK}{p:Ab}{b:AK}(h:b.proc=p):AA (l++[b]) p=AA l p:=by simp[AA,h]
def E3{l:List AK}{p:Ab}{b:AK}(h:b.proc≠p):AA (l++[b]) p=AA l p++[b]:=by simp[AA,h]
def dC{l:List AK}{p:Ab}{a:Amt}{b:AK}(h:b.proc=p):Jk (l++[b]) p a=Jk l p a∧Dx (l++[b]) p a=Dx l p a:=by
 simp[Jk,Dx,B5,RZ h]
def XK{k:List AK}{p:Ab}(b:AK)(h:k.any (after' p)=true):Cu (k++[b]) p=Cu k p:=by
 unfold Cu;rw[List.findIdx?_append];cases hf:k.findIdx? (after' p) with
 |some i=>simp
 |none =>
  rw[List.findIdx?_eq_none_iff]at hf;obtain⟨x,hx,hy⟩:=List.any_eq_true.1 h;rw[hf x hx]at hy;simp at hy
def SG{k:List AK}{p:Ab}(h:k.any (after' p)=false):k.findIdx? (after' p)=none:=by
 rw[List.findIdx?_eq_none_iff];intro x hx;rw[List.any_eq_false]at h;simpa using h x hx
def Zz{l:List AK}{p:Ab}{a:Amt}{b:AK}(h:b.proc≠p)(hd:Dx l p a=true):Jk (l++[b]) p a=Jk l p a++[b]∧Dx (l++[b]) p a=true:=by
 have h2:Dx (l++[b]) p a=true:=by
  unfold Dx at hd ⊢;rw[E3 h,any_append];revert hd;cases a.zero<;>simp<;>(try intro x hx h;exact .inl ⟨x,hx,h⟩)
 refine⟨?_,h2⟩;unfold Jk;rw[h2,hd];simp only[if_true];unfold B5;rw[E3 h];cases hz:a.zero
 ·have ha:(AA l p).any (after' p)=true:=by simpa [Dx,hz]using hd
  simp only[false_eq_true,if_false];have:=L6 (AA l p) p;rw[XK b ha,List.take_append_of_le_length this,List.drop_append_of_le_length this];simp
 ·simp
def bD{l:List AK}{p:Ab}{a:Amt}{b:AK}(h:b.proc≠p)(hd:Dx l p a=false)(hb:0<Bc b.proc p):Jk (l++[b]) p a=Jk l p a++[⟨p,a⟩,b]∧Dx (l++[b]) p a=true:=by
 have ha:a.zero=false∧(AA l p).any (after' p)=false:=by unfold Dx at hd;simpa using hd
 have hb':after' p b=true:=by simpa [after']using hb
 have h2:Dx (l++[b]) p a=true:=by
  unfold Dx;rw[E3 h,any_append];simp[hb']
 refine⟨?_,h2⟩;unfold Jk;rw[h2,hd];simp only[if_true,false_eq_true,if_false];unfold B5;rw[E3 h,ha.1];have e:Cu (AA l p++[b]) p=(AA l p).length:=by
  unfold Cu;rw[List.findIdx?_append,SG ha.2];simp[hb']
 rw[e];simp
def dD{l:List AK}{p:Ab}{a:Amt}{b:AK}(h:b.proc≠p)(hd:Dx l p a=false)(hb:¬ 0<Bc b.proc p):Jk (l++[b]) p a=Jk l p a++[b]∧Dx (l++[b]) p a=false:=by
 have ha:a.zero=false∧(AA l p).any (after' p)=false:=by unfold Dx at hd;simpa using hd
 have hb':after' p b=false:=by simpa [after']using hb
 have h2:Dx (l++[b]) p a=false:=by
  unfold Dx;rw[E3 h,any_append];simp[hb',ha.1,ha.2]
 refine⟨?_,h2⟩;unfold Jk;rw[h2,hd];simp only[false_eq_true,if_false];exact E3 h
def bB{l:List AK}{p:Ab}{a:Amt}:B5 l p a=if Dx l p a then Jk l p a else Jk l p a++[⟨p,a⟩]:=by
 unfold Jk;cases hd:Dx l p a
 ·have ha:a.zero=false∧(AA l p).any (after' p)=false:=by unfold Dx at hd;simpa using hd
  have e:Cu (AA l p) p=(AA l p).length:=by
   unfold Cu;rw[SG ha.2];rfl
  simp[B5,ha.1,e]
 ·simp
def bC(l:List AK)(p:Ab)(a:Amt):(Jk l p a).length≤l.length+1:=by
 have h1:(AA l p).length≤l.length:=length_filter_le _ _;have:=I8 l p a;unfold Jk;split<;>omega
def V5(p:Ab)(a:Amt):Jk [] p a=[]∧Dx [] p a=a.zero:=by
 have h:Dx [] p a=a.zero:=by simp[Dx,AA]
 refine⟨?_,h⟩;unfold Jk;rw[h];cases hz:a.zero<;>simp[B5,AA,hz]
def f165_ok(l:List AK)(p:Ab)(a:Amt)(hl:l.length≤1000000):Ad C0 165 [AL l,.agg p.c,.agg a.c] [] (AL (B5 l p a)) []:=by
 refine Ad.go f165 ?_;unfold f165;refine gO ?_;refine Ae (f162_ok a) ?_;refine gO ?_;have hd:∀ i,(Jk (l.take i) p a).length≤l.length+1:=fun i=>by have:=bC (l.take i) p a;simp at this;omega
 refine Ac (α:=Nat) (fun i=>⟨[(9,I i),(0,AL l),(4,.ptr 256 0),(5,.ptr 320 0),(8,B (Dx (l.take i) p a)),(7,.sl (.own 3136 0) 5 ((Jk (l.take i) p a).map AK.c))],[(256,p.c),(320,a.c)]⟩) (fun i=>i≤(l).length∧True) (fun i=>(l).length-i) 0 ⟨by omega,trivial⟩ ?_ ?_
 ·refine Imp.Ar ?_ ?_
  all_goals(try simp(disch:=omega)only[go_sem,List.take_zero,(V5 p a).1,(V5 p a).2,map_nil])
  all_goals(try(repeat'(with_reducible apply And.intro)))
  all_goals(first|exact .AO (by omega)|exact .AJ (by omega)|exact .sl (by simp[Dx])|exact .int (by simp[Dx])|exact .eq (by simp[Dx]))
 rintro i ⟨hi,hP⟩ J hJ;refine gO ?_;refine gR (l:=l) hi (fun b hb hbm hlt=>?_) (fun hil=>?_);refine Aw 6 [([],[0]),([],[9]),([],[18,19]),([],[20]),([],[21]),([],[4])] fol ?_;simp(disch:=omega)only[go_sem,gm,hb]
 ·have hdi:=hd i
  by_cases hb':b.proc=p
  ·obtain⟨e1,e2⟩:=dC (l:=l.take i) (a:=a) hb';simp(disch:=omega)only[go_sem,hb',decide_true];refine hJ _ (i+1) ⟨by omega,trivial⟩ (by omega) (Imp.Ar ?_ ?_)
   all_goals(try simp(disch:=omega)only[go_sem])
   all_goals(try(repeat'(with_reducible apply And.intro)))
   all_goals(first|exact .AO (by omega)|exact .AJ (by omega)|exact .sl (by simp[tA,hb,e1,e2])|exact .int (by simp[tA,hb,e1,e2])|exact .eq (by simp[tA,hb,e1,e2]))
  ·simp(disch:=omega)only[go_sem,hb',decide_false];refine Aw 9 [([],[8]),([],[25]),([],[26]),([],[0,27]),([],[9,27]),([],[28,29,27]),([],[30,27]),([],[31,27]),([],[4,27])] fol ?_;refine gO ?_;cases hdo:Dx (l.take i) p a
   ·simp(disch:=omega)only[go_sem,gm,hb]
    first|(refine Ae (f107_ok b.proc p) ?_)|(refine Av (f107_ok b.proc p) ?_)
    refine gO ?_
    by_cases hc:0<Bc b.proc p
    ·obtain⟨e1,e2⟩:=bD (a:=a) hb' hdo hc;simp(disch:=omega)only[go_sem,hc,decide_true,gm,hb];refine hJ _ (i+1) ⟨by omega,trivial⟩ (by omega) (Imp.Ar ?_ ?_)
     all_goals(try simp(disch:=omega)only[go_sem])
     all_goals(try(repeat'(with_reducible apply And.intro)))
     all_goals(first|exact .AO (by omega)|exact .AJ (by omega)|exact .sl (by simp[tA,hb,e1,e2,AK.c])|exact .int (by simp[tA,hb,e1,e2,AK.c])|exact .eq (by simp[tA,hb,e1,e2,AK.c]))
    ·obtain⟨e1,e2⟩:=dD (a:=a) hb' hdo hc;simp(disch:=omega)only[go_sem,hc,decide_false,gm,hb];refine hJ _ (i+1) ⟨by omega,trivial⟩ (by omega) (Imp.Ar ?_ ?_)
     all_goals(try simp(disch:=omega)only[go_sem])
     all_goals(try(repeat'(with_reducible apply And.intro)))
     all_goals(first|exact .AO (by omega)|exact .AJ (by omega)|exact .sl (by simp[tA,hb,e1,e2,AK.c])|exact .int (by simp[tA,hb,e1,e2,AK.c])|exact .eq (by simp[tA,hb,e1,e2,AK.c]))
   ·obtain⟨e1,e2⟩:=Zz (a:=a) hb' hdo;simp(disch:=omega)only[go_sem,gm,hb];refine hJ _ (i+1) ⟨by omega,trivial⟩ (by omega) (Imp.Ar ?_ ?_)
    all_goals(try simp(disch:=omega)only[go_sem])
    all_goals(try(repeat'(with_reducible apply And.intro)))
    all_goals(first|exact .AO (by omega)|exact .AJ (by omega)|exact .sl (by simp[tA,hb,e1,e2,AK.c])|exact .int (by simp[tA,hb,e1,e2,AK.c])|exact .eq (by simp[tA,hb,e1,e2,AK.c]))
 ·subst hil;have hdi:=hd l.length;have he:=bB (l:=l) (p:=p) (a:=a);rw[tL]at hdi ⊢;cases hdo:Dx l p a
  ·rw[hdo]at he;simp only[false_eq_true,if_false]at he;refine gO ?_;refine CL ⟨[],[],[3648]⟩ _ ?_;simp(disch:=omega)only[go_sem,he];exact .sl (by simp[AK.c])
  ·rw[hdo]at he;simp only[if_true]at he;refine gO ?_;refine CL ⟨[],[],[3136]⟩ _ ?_;simp(disch:=omega)only[go_sem,he]
def f283_ok(q:Queue):Ad C0 283 [.agg q.c] [] (.tup [.agg ((Bk q).getD w0).c,B (Bk q).isSome]) []:=by
 refine Ad.go f283 ?_;unfold f283
 match hq:q.Ao,hw:q.waits with
 | w::l,_ =>
  have e:Bk q=some w:=by simp[Bk,hq]
  have e1:(0<(l.length:Int)+1)=True:=by simp
  simp(disch:=omega)only[go_sem,hq,e,e1,isSome_some];exact AQ _
 |[],w::l =>
  have e:Bk q=some w:=by simp[Bk,hq,hw]
  have e1:(0<(l.length:Int)+1)=True:=by simp
  simp(disch:=omega)only[go_sem,hq,hw,e,e1,isSome_some];exact AQ _
 |[],[] =>
  have e:Bk q=none:=by simp[Bk,hq,hw]
  simp(disch:=omega)only[go_sem,hq,hw,e,isSome_none,w0];exact AQ _
def f266_ok(r:Res)(l:List AK)(p:Ab)(a:Amt)(hl:l.length≤1000000):Ad C0 266 [.agg r.c,AL l,.agg p.c,.agg a.c] [] (B (Et r l p a)) []:=by
 have h2:(B5 l p a).length≤1000000∨l.length=1000000:=by have:=I8 l p a;omega
 refine Ad.go f266 ?_;unfold f266;refine gO ?_;refine Aw 18 [([],[4]),([],[1]),([],[9,10]),([2],[11]),([2],[6,12]),([2],[13,12]),([2,5],[12,14]),([2,5],[15]),([2,5],[4,16]),([2,5],[7,16]),([2,5],[17,18,16]),([2,5,10],[16,19]),([2,5,10],[20]),([2,5,10],[4,21]),([2,5,10],[1,21]),([2,5,10],[6,21]),([2,5,10],[7,21]),([2,5,10],[23,24,25,21])] fol ?_;refine gO ?_
 first|(refine Ae (f265_ok r l hl) ?_)|(refine Av (f265_ok r l hl) ?_)
 cases h1:Bf r l
 ·simp(disch:=omega)only[go_sem];refine As _ ?_;exact wb (by simp[Et,h1])
 have h8:l.length≤8:=by simp[Bf]at h1;omega
 have h9:(B5 l p a).length≤1000000:=by omega
 simp(disch:=omega)only[go_sem]
 repeat'(first
  |(with_reducible refine And.intro (fun h=>?_) (fun h=>?_))
  |((with_reducible show AW _ _ 105 _ _ _);refine Ah (f105_ok p) ?_ rfl ?_;(focus(simp(disch:=omega)only[go_sem];done));try simp(disch:=omega)only[go_sem])
  |((with_reducible show AU _ _ 105 _ _ _ _ _ _ _);refine Az ⟨⟨[],[],[]⟩,[],[]⟩ (f105_ok p) ?_ rfl rfl trivial (.inl rfl) ?_;(focus(simp(disch:=omega)only[go_sem];done));try simp(disch:=omega)only[go_sem])
  |((with_reducible show AW _ _ 171 _ _ _);refine Ah (f171_ok r a) ?_ rfl ?_;(focus(simp(disch:=omega)only[go_sem];done));try simp(disch:=omega)only[go_sem])
  |((with_reducible show AU _ _ 171 _ _ _ _ _ _ _);refine Az ⟨⟨[],[],[]⟩,[],[]⟩ (f171_ok r a) ?_ rfl rfl trivial (.inl rfl) ?_;(focus(simp(disch:=omega)only[go_sem];done));try simp(disch:=omega)only[go_sem])
  |((with_reducible show AW _ _ 165 _ _ _);refine Ah (f165_ok l p a hl) ?_ rfl ?_;(focus(simp(disch:=omega)only[go_sem];done));try simp(disch:=omega)only[go_sem])
  |((with_reducible show AU _ _ 165 _ _ _ _ _ _ _);refine Az ⟨⟨[],[],[]⟩,[],[]⟩ (f165_ok l p a hl) ?_ rfl rfl trivial (.inl rfl) ?_;(focus(simp(disch:=omega)only[go_sem];done));try simp(disch:=omega)only[go_sem])
  |((with_reducible show AW _ _ 265 _ _ _);refine Ah (f265_ok r (B5 l p a) h9) ?_ rfl ?_;(focus(simp(disch:=omega)only[go_sem];done));try simp(disch:=omega)only[go_sem])
  |((with_reducible show AU _ _ 265 _ _ _ _ _ _ _);refine Az ⟨⟨[],[],[]⟩,[],[]⟩ (f265_ok r (B5 l p a) h9) ?_ rfl rfl trivial (.inl rfl) ?_;(focus(simp(disch:=omega)only[go_sem];done));try simp(disch:=omega)only[go_sem]))
 all_goals(refine Cn _ ?_)
 all_goals(try simp(disch:=omega)only[go_sem])
 all_goals(refine wb ?_)
 all_goals(simp_all[Et])
def f243_ok(q:Queue)(h1:q.holds.length≤1000000)(h2:q.waits.length≤1000000):Ad C0 243 [.agg q.c] [] (B (valid q)) []:=by
 refine Ad.go f243 ?_;unfold f243;refine gO ?_;refine Ae (f242_ok q h1 h2) ?_;cases hs:sound q
 ·simp(disch:=omega)only[go_sem];refine As _ ?_;exact wb (by simp[valid,hs])
 refine gO ?_;refine Ae (f283_ok q) ?_;cases hh:Bk q with
 |none =>
  simp(disch:=omega)only[go_sem,isSome_none];refine As _ ?_;exact wb (by simp[valid,hs,hh])
 |some w =>
  simp(disch:=omega)only[go_sem,isSome_some];refine Ae (f266_ok q.res q.holds w.proc w.amt h1) ?_;refine gO ?_;refine As _ ?_;exact wb (by simp[valid,hs,hh])
def f158_ok(q:Queue)(h1:q.holds.length≤1000000)(h2:q.waits.length≤1000000):Ad C0 158 [.agg q.c] [] (B (valid q)) []:=by
 refine Ad.go f158 ?_;unfold f158;refine gO ?_;refine Ae (f242_ok q h1 h2) ?_;cases hs:sound q
 ·simp(disch:=omega)only[go_sem];refine As _ ?_;exact wb (by simp[valid,hs])
 refine gO ?_;refine Ae (f243_ok q h1 h2) ?_;refine gO ?_;exact AQ _
def Tn{q:Queue}(h:Sound q):BG q≤16:=by
 have h':=(Ij q).2 h;simp only[sound,Ei,El,and_eq_true,zD]at h';unfold BG BK;omega
def UL(q:Queue):Queue × List AK:=if sound q then BT q else (q0,[])
def f245_ok(q:Queue)(h1:q.holds.length≤1000000)(h2:q.Ao.length≤1000000)(h3:q.waits.length≤1000000):Ad C0 245 [.agg q.c] [] (.tup [.agg (UL q).1.c,AL (UL q).2]) []:=by
 refine Ad.go f245 ?_;unfold f245;refine gO ?_;refine Ae (f242_ok q h1 h3) ?_;cases hs:sound q
 ·have e:UL q=(q0,[]):=by simp[UL,hs]
  simp(disch:=omega)only[go_sem,e,q0];refine As _ ?_;refine .tup (Ai.AR ?_);simp(disch:=omega)only[go_sem]
  repeat'(with_reducible apply And.intro)
  all_goals(first|exact .AJ (by omega)|exact .agg (Ai.AR gI))
 have e:UL q=BT q:=by simp[UL,hs]
 rw[e];refine gO ?_;refine Ae (f164_ok q h1 h2 h3) ?_;refine gO ?_;refine Ac (α:=Queue × List AK) (fun x=>⟨[(1,.ptr 64 0),(2,.ptr 128 0),(4,.sl (.own 3072 0) 5 (x.2.map AK.c))],[(64,x.1.c),(128,q0.c)]⟩) (fun x=>x.2.length+BK x.1=BK q∧Sound x.1∧(BT x.1).1=(BT q).1∧x.2++(BT x.1).2=(BT q).2) (fun x=>BK x.1) (q,[]) ⟨by simp,(Ij q).1 hs,rfl,rfl⟩ ?_ ?_
 ·refine Imp.Ar ?_ ?_
  ·exact gI
  ·simp(disch:=omega)only[go_sem,q0]
 rintro⟨s,hs⟩ ⟨i1,i2,i3,i4⟩ J hJ
 replace i1:hs.length+BK s=BK q:=i1
 replace i2:Sound s:=i2
 replace i3:(BT s).1=(BT q).1:=i3
 replace i4:hs++(BT s).2=(BT q).2:=i4
 rw[Iq s]at i3 i4;have hsl:=Tn i2;have hlen:s.holds.length≤1000000∧s.waits.length≤1000000∧s.Ao.length≤1000000:=by unfold BG BK at hsl;omega
 refine gO ?_;refine Ae (f243_ok s hlen.1 hlen.2.1) ?_;have hvd:valid s=(match Bk s with|some w=>!Et s.res s.holds w.proc w.amt|none=>true):=by
  have:=(Ij s).2 i2;unfold valid;cases Bk s<;>simp[this]
 have fin:∀ (P:Prop),True:=fun _=>trivial
 cases hh:Bk s with
 |none =>
  simp only[hh]at i3 i4 hvd;simp(disch:=omega)only[go_sem,hvd];refine Bd ⟨[],[],[3072]⟩ _ (by(try simp(disch:=omega)only[go_sem,Dp,JQ])<;>rfl) ⟨rfl,rfl⟩ (by simp[lk]) ?_ trivial;simp(disch:=omega)only[go_sem,← i3,← i4,append_nil]
 |some w =>
  simp only[hh]at i3 i4 hvd;have hsz:=GZ hh;cases hr:Et s.res s.holds w.proc w.amt
  ·simp only[hr,false_eq_true,if_false,zF]at i3 i4 hvd;simp(disch:=omega)only[go_sem,hvd];refine Bd ⟨[],[],[3072]⟩ _ (by(try simp(disch:=omega)only[go_sem,Dp,JQ])<;>rfl) ⟨rfl,rfl⟩ (by simp[lk]) ?_ trivial;simp(disch:=omega)only[go_sem,← i3,← i4,append_nil]
  simp only[hr,if_true,zT]at i3 i4 hvd;have step:∀ st',Imp ⟨C0,[],[]⟩ st' ⟨[(1,.ptr 64 0),(2,.ptr 128 0),(4,.sl (.own 3072 0) 5 ((hs++[AK.mk w.proc w.amt]).map AK.c))],[(64,(CK s w).c),(128,q0.c)]⟩→J st':=fun st' h =>
   hJ st' (CK s w,hs++[AK.mk w.proc w.amt]) ⟨by simp;omega,JZ i2 hh hr,i3,by rw[← i4];simp⟩ (by simp;omega) h
  have hbound:hs.length+1≤4294967296:=by unfold BK at i1;omega
  simp(disch:=omega)only[go_sem,hvd];refine Ae (f283_ok s) ?_;cases hc:s.Ao with
  | cons a l =>
   have hp:CK s w = { s with holds:=B5 s.holds w.proc w.amt,Ao:=l }:=by unfold CK;simp only[hc]
   rw[hp]at step;have z1:(0<(l.length:Int)+1)=True:=eq_true (by omega);have z2:(l.map AP.c).take (l.length+1-1)=l.map AP.c:=List.take_of_length_le (by simp);simp(disch:=omega)only[go_sem,hc,hh,z1,z2];refine Ae (f165_ok s.holds w.proc w.amt hlen.1) ?_;simp(disch:=omega)only[go_sem,hc,hh,z1,z2];refine step _ (Imp.Ar ?_ ?_)
   ·simp(disch:=omega)only[go_sem];exact .sl (by simp[AK.c])
   ·simp(disch:=omega)only[go_sem,z2]
  | nil =>
   have hp:CK s w = { s with holds:=B5 s.holds w.proc w.amt,waits:=s.waits.drop 1 }:=by unfold CK;simp only[hc]
   rw[hp]at step;have hw:1≤s.waits.length:=by unfold BK at hsz;rw[hc]at hsz;simp at hsz;omega
   have z2:((s.waits.map AP.c).drop 1).take (s.waits.length-1)=(s.waits.drop 1).map AP.c:=by rw[← List.map_drop];exact List.take_of_length_le (by simp)
   simp(disch:=omega)only[go_sem,hc,hh,z2];refine Ae (f165_ok s.holds w.proc w.amt hlen.1) ?_;simp(disch:=omega)only[go_sem,hc,hh,z2];refine step _ (Imp.Ar ?_ ?_)
   ·simp(disch:=omega)only[go_sem];exact .sl (by simp[AK.c])
   ·simp(disch:=omega)only[go_sem,hc,z2,map_nil]
def f167_ok(q:Queue)(hs:Sound q)(h1:q.holds.length≤1000000)(h2:q.Ao.length≤1000000)(h3:q.waits.length≤1000000):Ad C0 167 [.agg q.c] [] (.tup [.agg (ET q).c,AL (BT q).2,I 0]) []:=by
 refine Ad.go f167 ?_;unfold f167;refine gO ?_;refine Ae (f245_ok q h1 h2 h3) ?_;have e:UL q=BT q:=by simp[UL,(Ij q).2 hs]
 have eg:(BT q).1.gen=q.gen:=(P4 q).2;rw[e];refine gO ?_;refine Ae (f187_ok q.gen) ?_;refine gO ?_;refine As _ ?_;simp(disch:=omega)only[go_sem,ET,eg]
def iF{q:Queue}(h:valid q=true)(p:Ab):Me q p=B2 (Bp q) p:=by
 have hs:=((BE q).1 h).1;have hz:∀ x∈q.holds,x.amt.zero=false:=fun x hx=>by
  have hs':=(Ij q).2 hs;simp only[sound,and_eq_true]at hs';have:=(C7 q.res q.holds).1 (by simp_all);exact Gd (this.2.2.1 x hx).2
 have e1:B2 (Bp q) p=true↔inQ q p:=by rw[← Ea];simp[B2]
 have e2:Me q p=true↔inQ q p:=by
  unfold Me inQ Aq;rw[Bool.or_eq_true,Option.isSome_map,List.find?_isSome];constructor
  ·rintro(⟨w,hw,h2⟩|h2)
   ·have h3:w.proc=p:=by simpa using h2
    rcases mem_append.1 hw with h|h
    ·exact .inr (.inl ⟨w,h,h3⟩)
    ·exact .inr (.inr ⟨w,h,h3⟩)
   ·exact .inl (Ic (by simpa using h2))
  ·rintro(⟨x,hx,h2⟩|⟨w,hw,h2⟩|⟨w,hw,h2⟩)
   ·right;unfold At;cases hf:q.holds.find? (fun h=>decide (h.proc=p)) with
    |none=>rw[List.find?_eq_none]at hf;exact absurd h2 (by simpa using hf x hx)
    |some y=>simp[hz y (List.mem_of_find?_eq_some hf)]
   ·exact .inl ⟨w,mem_append.2 (.inl hw),by simp[h2]⟩
   ·exact .inl ⟨w,mem_append.2 (.inr hw),by simp[h2]⟩
 exact Bool.eq_iff_iff.2 (e2.trans e1.symm)
def f110_ok(q:Queue)(p:Ab)(h:BG q≤100):Ad C0 110 [.agg q.c,.agg p.c] [] (.tup [.agg (FC q p).1.c,AL (FC q p).2.1,I (FC q p).2.2]) []:=by
 obtain⟨h1,h2,h3⟩:=Bu h;refine Ad.go f110 ?_;unfold f110;refine gO ?_;refine Ae (f158_ok q h1 h3) ?_;cases hv:valid q
 ·have e:FC q p=(q0,[],2):=by simp[FC,hv]
  simp(disch:=omega)only[go_sem,zF,e,q0];refine As _ ?_;refine .tup (Ai.AR ?_);simp(disch:=omega)only[go_sem]
  repeat'(with_reducible apply And.intro)
  all_goals(first|exact .AJ (by omega)|exact .agg (Ai.AR gI))
 refine gO ?_;refine Ae (f109_ok q p (by omega)) ?_;rw[iF hv p];cases hp:B2 (Bp q) p
 ·have e:FC q p=(q0,[],10):=by simp[FC,hv,hp]
  simp(disch:=omega)only[go_sem,zF,e,q0];refine As _ ?_;refine .tup (Ai.AR ?_);simp(disch:=omega)only[go_sem]
  repeat'(with_reducible apply And.intro)
  all_goals(first|exact .AJ (by omega)|exact .agg (Ai.AR gI))
 have e:FC q p=(ET (Bw q p),(BT (Bw q p)).2,0):=by simp[FC,hv,hp]
 rw[e];refine gO ?_;refine Ae (f164_ok q h1 h2 h3) ?_;refine gO ?_;refine Ae (f165_ok q.holds p ⟨0,0⟩ h1) ?_;refine gO ?_;refine Ae (f166_ok q.Ao p h2) ?_;refine gO ?_;refine Ae (f166_ok q.waits p h3) ?_;refine gO ?_;have ha:=X7 q p;obtain⟨g1,g2,g3⟩:=Bu (q:=Bw q p) (by omega);refine Ah (f167_ok (Bw q p) (Ii ((BE q).1 hv).1 p) g1 g2 g3) (by simp(disch:=omega)only[go_sem,Bw]) rfl ?_;refine gO ?_;exact AQ _
mutual
def DM:Expr→Int→Int × Int
 |.mk _ _ kids,lv=>if 4<lv∨24<kids.length then (25,0) else Fp kids lv 1 0
def Fp:List Expr→Int→Int→Int→Int × Int
 |[],_,n,m=>(n,m+1)
 | e::l,lv,n,m=>if 24<n+(DM e (lv+1)).1 then (25,0) else Fp l lv (n+(DM e (lv+1)).1) (max m (DM e (lv+1)).2)
end
def G7(e:Expr)(lv:Int):DM e lv=if 4<lv∨24<e.kids.length then (25,0) else Fp e.kids lv 1 0:=by
 cases e;simp only[DM];rfl
def sbd(lv:Int)(x:Int × Int):Prop:=1≤x.1∧x.1≤25∧0≤x.2∧x.2≤5-lv
def Wu(lv:Int)(h1:1≤lv)(h4:lv≤4):∀ (l:List Expr) (n m:Int),(∀ e∈l,sbd (lv+1) (DM e (lv+1)))→1≤n→n≤24→0≤m→m≤4-lv→sbd lv (Fp l lv n m)
 |[],n,m,_,hn,hn2,hd,hd2=>by simp only[Fp,sbd];omega
 | e::l,n,m,hk,hn,hn2,hd,hd2=>by
  obtain⟨b1,b2,b3,b4⟩:=hk e (by simp);simp only[Fp];split
  ·simp only[sbd];omega
  ·exact Wu lv h1 h4 l _ _ (fun e' he=>hk e' (by simp[he])) (by omega) (by omega) (by omega) (by omega)
def JY:∀ (N:Nat) (e:Expr),SizeOf.sizeOf e<N→∀ lv:Int,1≤lv→lv≤5→sbd lv (DM e lv)
 | 0,_,h,_,_,_=>by omega
 | N+1,e,h,lv,h1,h5=>by
  rw[G7];split
  ·simp only[sbd];omega
  ·rename_i hc;exact Wu lv h1 (by omega) _ _ _ (fun e' he=>JY N e' (by have:=DB he;omega) _ (by omega) (by omega)) (by omega) (by omega) (by omega) (by omega)
def f273_ok:∀ (N:Nat) (e:Expr),SizeOf.sizeOf e<N→∀ lv:Int,1≤lv→lv≤5 →
 Ad C0 273 [.agg e.c,I lv] [] (.tup [I (DM e lv).1,I (DM e lv).2]) []
 | 0,_,h,_,_,_=>by omega
 | N+1,e,h,lv,h1,h5=>by
  refine Ad.lens f273 fun hlen=>?_
  simp only[ED,lens,Expr.BV,length_map,and_true,true_and]at hlen;refine Ad.go f273 ?_;unfold f273
  by_cases hc:4<lv∨24<e.kids.length
  ·have em:DM e lv=(25,0):=by rw[G7,if_pos hc]
   simp(disch:=omega)only[go_sem,em]
   repeat'(with_reducible refine And.intro (fun h=>?_) (fun h=>?_))
   all_goals(try(exfalso;simp_all;omega))
   all_goals(refine Cn _ ?_)
   all_goals simp(disch:=omega)only[go_sem]
  have em:DM e lv=Fp e.kids lv 1 0:=by rw[G7,if_neg hc]
  have hc1:(4<lv)=False:=by simp;omega
  have hc2:(24<(e.kids.length:Int))=False:=by simp;omega
  simp(disch:=omega)only[go_sem,em,hc1,hc2,decide_false];refine Ac (α:=Nat × Int × Int) (fun q=>⟨[(8,I q.1),(1,I lv),(2,.ptr 128 0),(6,I q.2.1),(7,I q.2.2)],[(128,e.c)]⟩)
   (fun q=>q.1≤e.kids.length∧1≤q.2.1∧q.2.1≤24∧0≤q.2.2∧q.2.2≤4-lv∧Fp (e.kids.drop q.1) lv q.2.1 q.2.2=Fp e.kids lv 1 0) (fun q=>e.kids.length-q.1) (0,1,0) ⟨by simp,by simp,by simp,by simp,by simp;omega,by simp⟩ ?_ ?_
  ·refine Imp.Ar ?_ ?_
   ·exact gI
   ·exact gI
  rintro⟨i,n,m⟩ ⟨hi,hm0,hm,hd0,hd,hr⟩ J hJ
  replace hi:i≤e.kids.length:=hi
  replace hm0:1≤n:=hm0
  replace hm:n≤24:=hm
  replace hd0:0≤m:=hd0
  replace hd:m≤4-lv:=hd
  replace hr:Fp (e.kids.drop i) lv n m=Fp e.kids lv 1 0:=hr
  refine gO ?_;refine ⟨fun hlt=>?_,fun hge=>?_⟩
  ·have hlt':i<e.kids.length:=by simp at hlt;omega
   have hb:e.kids[i]?=some e.kids[i]:=gE hlt';have hsz:=DB (getElem_mem hlt');have hdr:e.kids.drop i=e.kids[i]::e.kids.drop (i+1):=drop_eq_getElem_cons hlt';generalize e.kids[i]=b at hb hsz hdr;rw[hdr]at hr;simp only[Fp]at hr;simp(disch:=omega)only[go_sem,gm,hb]
   first|(refine Ae (f273_ok N b (by omega) (lv+1) (by omega) (by omega)) ?_)|(refine Av (f273_ok N b (by omega) (lv+1) (by omega) (by omega)) ?_)
   obtain⟨b1,b2,b3,b4⟩:=JY N b (by omega) (lv+1) (by omega) (by omega);generalize DM b (lv+1)=x at hr b1 b2 b3 b4
   by_cases h24:24<n+x.1
   ·have d24:(24<n+x.1)=True:=eq_true h24;rw[if_pos h24]at hr;simp(disch:=omega)only[go_sem,d24]
    repeat'(with_reducible refine And.intro (fun h=>?_) (fun h=>?_))
    all_goals(refine Cn _ ?_)
    all_goals simp(disch:=omega)only[go_sem,← hr]
   ·have d24:(24<n+x.1)=False:=eq_false h24;rw[if_neg h24]at hr;simp(disch:=omega)only[go_sem,d24,decide_false]
    by_cases hmx:m<x.2
    ·have e1:max m x.2=x.2:=by omega
     have d1:(m<x.2)=True:=eq_true hmx;rw[e1]at hr;simp(disch:=omega)only[go_sem,d1];refine hJ _ (i+1,n+x.1,x.2) ⟨by simp;omega,by simp;omega,by simp;omega,by simp;omega,by simp;omega,hr⟩ (by simp;omega) (Imp.Ar ?_ ?_)
     ·exact gI
     ·exact gI
    ·have e1:max m x.2=m:=by omega
     have d1:(m<x.2)=False:=eq_false hmx;rw[e1]at hr;simp(disch:=omega)only[go_sem,d1,decide_false];refine hJ _ (i+1,n+x.1,m) ⟨by simp;omega,by simp;omega,by simp;omega,by simp;omega,by simp;omega,hr⟩ (by simp;omega) (Imp.Ar ?_ ?_)
     ·exact gI
     ·exact gI
  ·have hil:i=e.kids.length:=by simp at hge;omega
   subst hil;rw[List.drop_length]at hr;simp only[Fp]at hr;simp(disch:=omega)only[go_sem,← hr];exact AQ _
def GC(e:Expr):Int:=if 24<(DM e 1).1 then 0 else (DM e 1).1
def f232_ok(e:Expr):Ad C0 232 [.agg e.c] [] (I (GC e)) []:=by
 refine Ad.go f232 ?_;unfold f232;refine gO ?_;refine Ae (f273_ok _ e (lt_succ_self _) 1 (by omega) (by omega)) ?_
 by_cases h24:24<(DM e 1).1
 ·have d24:(24<(DM e 1).1)=True:=eq_true h24;have en:GC e=0:=by simp[GC,h24]
  simp(disch:=omega)only[go_sem,d24,en];exact AQ _
 ·have d24:(24<(DM e 1).1)=False:=eq_false h24;have en:GC e=(DM e 1).1:=by simp[GC,h24]
  simp(disch:=omega)only[go_sem,d24,en,decide_false];exact AQ _
end Go.Rd
