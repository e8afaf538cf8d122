/- part 13 of the proof -/
import Derived.Test.YthachdiockkofaaGreatDoorS12
set_option linter.all false
open Go Go.Abs Go.Proofs
set_option maxRecDepth 100000
namespace Go.Rd
set_option maxHeartbeats 8000000
open List (drop_drop getElem_mem length_drop length_map length_take map_set mem_cons pairwise_cons take_add_one take_length)
open Bool (and_eq_true not_eq_true')
open Option (toList_some)
open Nat (lt_succ_self)
open Tryz
theorem L4:∀ (l:List Proc) (a b:Proc),C1 (l++[a]++[b])=if a=b then C1 (l++[a]) else C1 (l++[a])++[b]
 |[],a,b=>by
  by_cases h:a=b<;>simp[C1,h]
 |[x],a,b=>by
  have:=L4 [] a b;simp only[List.nil_append,List.cons_append]at this ⊢;simp only[C1]at this ⊢
  by_cases h:a=b<;>by_cases h':x=a<;>simp[h,h']at this ⊢<;>(try simp[C1])<;>simp_all
 | x::y::l,a,b=>by
  have:=L4 (y::l) a b;simp only[List.cons_append]at this ⊢;simp only[C1]
  by_cases h:x=y
  ·simp only[h,if_true];exact this
  ·simp only[h,if_false];rw[this]
   by_cases h':a=b<;>simp[h']
theorem ME:∀ l:List Proc,(C1 l).length≤l.length
 |[]=>by simp[C1]
 |[a]=>by simp[C1]
 | a::b::l=>by
  have:=ME (b::l);simp only[C1];split
  ·simp at this ⊢;omega
  ·simp at this ⊢;omega
theorem Hd{l:List Proc}{i:Nat}{b:Proc}(hb:l[i]?=some b):l.take (i+1)=l.take i++[b]:=by rw[take_add_one,hb];rfl
theorem L5{l:List Proc}{i:Nat}{a b:Proc}(ha:l[i]?=some a)(hb:l[i+1]?=some b):C1 (l.take (i+2))=if a=b then C1 (l.take (i+1)) else C1 (l.take (i+1))++[b]:=by
 rw[Hd hb,Hd ha,L4]
@[reducible] def KZ(r:Nat)(l:List Proc):AV:=.sl (.own r 0) 3 (l.map Proc.c)
theorem Yc(k:Nat)(cs es:List (List AV)):(over 0 k cs es).take k=es.take k:=by
 refine List.ext_getElem? fun i=>?_
 rw[List.getElem?_take,List.getElem?_take];split
 ·rename_i h;have hn:¬ (k≤i):=by omega
  simp only[over,List.getElem?_mapIdx,Nat.zero_add,hn,if_false];cases es[i]?<;>rfl
 ·rfl
theorem Uf{α:Type}{l cur:List α}{d i:Nat}(h:cur.drop d=l.drop d)(hi:d≤i):cur[i]?=l[i]?:=by
 have:=congrArg (fun x=>x[i-d]?) h;simp only[List.getElem?_drop]at this
 rwa [show d+(i-d)=i by omega]at this
theorem f198_ok(l:List Proc)(hl:l.length≤1000000):Ac C0 198 [KZ 0 l] [] (KZ 1 (C1 l)) []:=by
 refine Ac.go f198 ?_;unfold f198
 by_cases h2:l.length<2
 ·have e1:((l.length:Int)<2)=True:=eq_true (by omega);have e:C1 l=l:=by
   match l,h2 with
   |[],_=>rfl
   |[a],_=>rfl
   | a::b::l,h=>simp at h;omega
  simp(disch:=omega)only[go_sem,e1];refine A1 ⟨[(0,1)],[],[]⟩ _ rfl ⟨rfl,rfl⟩ (by simp[lk]) ?_ trivial;simp(disch:=omega)only[go_sem,e]
 have e1:((l.length:Int)<2)=False:=eq_false (by omega);simp(disch:=omega)only[go_sem,e1,decide_false];refine Aa (α:=Nat) (fun i=>⟨[(3,I (i+1:Nat)),(0,KZ 0 l)],[]⟩) (fun i=>i+1≤l.length∧C1 (l.take (i+1))=l.take (i+1)) (fun i=>l.length-i) 0 ⟨by omega,by
  match l,h2 with
  | a::b::l,_=>rfl
  |[a],h=>exact absurd (by simp) h
  |[],h=>exact absurd (by simp) h⟩ ?_ ?_
 ·exact Imp.weak gI gI
 rintro i ⟨hi,hc⟩ J hJ
 by_cases hlt:i+1<l.length
 ·have z1:(((i+1:Nat):Int)<l.length)=True:=eq_true (by omega);obtain⟨a,ha⟩:∃ a,l[i]?=some a:=⟨_,gE (by omega)⟩;obtain⟨b,hb⟩:∃ b,l[i+1]?=some b:=⟨_,gE (by omega)⟩;have z2:((i:Int)+1<l.length)=True:=eq_true (by omega);have z3:((i:Int)+1-1)=(i:Int):=by omega
  have z4:((i:Int)+1)=((i+1:Nat):Int):=rfl;simp(disch:=omega)only[go_sem,z1,z2];refine Aq 9 [([],[0]),([],[3]),([],[16,17]),([],[18]),([],[0]),([],[3]),([],[21]),([],[20,22]),([],[23])] fol ?_;simp(disch:=omega)only[go_sem,z3,gm,ha,hb];refine⟨fun h=>?_,fun h=>?_⟩;rotate_left
  ·have hne:a≠b:=fun e=>by simp[e]at h
   refine hJ _ (i+1) ⟨by omega,?_⟩ (by omega) AK;rw[L5 ha hb,if_neg hne,hc,← Hd hb]
  have hab:a=b:=by simp at h;exact h.symm
  have hcc:C1 (l.take (i+1+1))=l.take (i+1):=by rw[L5 ha hb,if_pos hab,hc]
  clear hJ h hb z1 z2 z3 z4 ha hab hc;generalize hm:i+1=m at hlt hcc;refine Aa (α:=List Proc × Nat × Nat) (fun x=>⟨[(5,I x.2.2),(3,I x.2.1),(4,.sl (.own 0 m) 3 ((x.1.drop m).map Proc.c)),(0,KZ 0 x.1)],[]⟩)
   (fun x=>x.1.length=l.length∧1≤x.2.2∧m+x.2.2≤l.length∧m≤x.2.1∧x.2.1+1≤m+x.2.2∧x.1.take x.2.1=C1 (l.take (m+x.2.2))∧x.1.drop (m+x.2.2-1)=l.drop (m+x.2.2-1)) (fun x=>l.length-m-x.2.2) (l,m,1) ⟨rfl,by simp,by simp;omega,by simp,by simp,by simp[hcc],rfl⟩ ?_ ?_
  ·refine Imp.weak ?_ gI;simp(disch:=omega)only[go_sem,hm];refine⟨.int (by omega),.sl ?_⟩;rw[List.map_drop];exact List.take_of_length_le (by simp)
  rintro⟨cur,k,j⟩ ⟨i1,i2,i3,i4,i5,i6,i7⟩ J hJ
  replace i1:cur.length=l.length:=i1
  replace i2:1≤j:=i2
  replace i3:m+j≤l.length:=i3
  replace i4:m≤k:=i4
  replace i5:k+1≤m+j:=i5
  replace i6:cur.take k=C1 (l.take (m+j)):=i6
  replace i7:cur.drop (m+j-1)=l.drop (m+j-1):=i7
  obtain⟨j,rfl⟩:∃ j',j=j'+1:=⟨j-1,by omega⟩
  by_cases hj:m+(j+1)<l.length
  ·have y1:((j:Int)+1<((l.length-m:Nat):Int))=True:=eq_true (by omega);obtain⟨x,hx⟩:∃ x,l[m+(j+1)]?=some x:=⟨_,gE hj⟩;obtain⟨y,hy⟩:∃ y,l[m+j]?=some y:=⟨_,gE (by omega)⟩;have cx:cur[m+(j+1)]?=some x:=by rw[Uf i7 (by omega),hx]
   have cy:cur[m+j]?=some y:=by rw[Uf i7 (by omega),hy]
   have hst:=L5 hy hx;have y3:((j:Int)+1-1)=(j:Int):=by omega
   obtain⟨z,hz⟩:∃ z,cur[k]?=some z:=⟨_,gE (by omega)⟩;have y4:(m≤k)=True:=eq_true i4;simp(disch:=omega)only[go_sem,length_drop,i1,y1];refine Aq 9 [([],[4]),([],[5]),([],[35,36]),([],[37]),([],[4]),([],[5]),([],[40]),([],[39,41]),([],[42])] fol ?_;simp(disch:=omega)only[go_sem,y3,y4,gm,List.getElem?_drop,cx,cy,hz,length_drop,i1];refine⟨fun h=>?_,fun h=>?_⟩
   ·have hne:y≠x:=fun e=>by simp[e]at h
    rw[if_neg hne]at hst;refine hJ _ (cur.set k x,k+1,j+1+1) ⟨by simp[i1],by simp,by simp;omega,by simp;omega,by simp;omega,?_,?_⟩ (by simp;omega) (Imp.weak ?_ gI)
    ·rw[show m+(j+1+1)=m+j+2 by omega,hst,show m+j+1=m+(j+1) by omega,← i6];rw[take_add_one,List.getElem?_set_self (by omega),List.take_set_of_le (by omega)];rfl
    ·rw[show m+(j+1+1)-1=m+(j+1) by omega,List.drop_set_of_lt (by omega)];have:=congrArg (List.drop 1) i7;rw[drop_drop,drop_drop,show m+(j+1)-1+1=m+(j+1) by omega]at this;exact this
    ·simp(disch:=omega)only[go_sem];have hs1:(cur.set k x).drop m=(cur.drop m).set (k-m) x:=by rw[List.drop_set,if_neg (by omega)]
     refine⟨.sl ?_,.sl ?_⟩
     ·rw[hs1,map_set];rfl
     ·rw[map_set];rfl
   ·have hne:y=x:=by simp at h;exact h.symm
    rw[if_pos hne]at hst;refine hJ _ (cur,k,j+1+1) ⟨i1,by simp,by simp;omega,i4,by simp;omega,?_,?_⟩ (by simp;omega) AK
    ·rw[show m+(j+1+1)=m+j+2 by omega,hst,show m+j+1=m+(j+1) by omega,← i6]
    ·rw[show m+(j+1+1)-1=m+(j+1) by omega];have:=congrArg (List.drop 1) i7;rw[drop_drop,drop_drop,show m+(j+1)-1+1=m+(j+1) by omega]at this;exact this
  ·have y1:((j:Int)+1<((l.length-m:Nat):Int))=False:=eq_false (by omega);have hmj:m+(j+1)=l.length:=by omega
   rw[hmj,take_length]at i6;have hkl:k≤l.length:=by omega
   have y4:(k≤l.length)=True:=eq_true hkl;have y5:(over 0 k (List.replicate (l.length-k) [.v (.int .i64 0),.v (.int .i64 0),.v (.int .i64 0)]) (cur.map Proc.c)).take k=(C1 l).map Proc.c:=by rw[Yc,← List.map_take,i6]
   clear hJ;simp(disch:=omega)only[go_sem,length_drop,i1,y1,decide_false,y4,Nat.sub_zero,G8,length_take,Nat.min_self];refine A1 ⟨[(0,1)],[],[]⟩ _ rfl ⟨rfl,rfl⟩ (by simp[lk]) ?_ trivial;simp(disch:=omega)only[go_sem,y5]
 ·have hil:i+1=l.length:=by omega
  have z1:((i:Int)+1<l.length)=False:=eq_false (by omega);rw[hil,take_length]at hc;simp(disch:=omega)only[go_sem,z1,decide_false];refine A1 ⟨[(0,1)],[],[]⟩ _ rfl ⟨rfl,rfl⟩ (by simp[lk]) ?_ trivial;simp(disch:=omega)only[go_sem,hc]
theorem ZH{cs es:List (List AV)}(h:cs.length=es.length):over 0 0 cs es=cs:=by
 refine List.ext_getElem? fun i=>?_
 simp only[over,List.getElem?_mapIdx,Nat.zero_add,Nat.zero_le,if_true,Nat.sub_zero]
 by_cases hi:i<es.length
 ·rw[gE hi,gE (by omega)];simp
 ·rw[List.getElem?_eq_none (l:=es) (by omega),List.getElem?_eq_none (l:=cs) (by omega)];rfl
def Hv(l:List Proc):Prop:=l.Pairwise fun a b=>AT a b<0
theorem N6(x:Proc):∀ l:List Proc,x∈C1 l↔x∈l
 |[]=>by simp[C1]
 |[a]=>by simp[C1]
 | a::b::l=>by
  have:=N6 x (b::l);simp only[C1];split
  ·rename_i h;subst h;rw[this];simp
  ·simp only[mem_cons]at this ⊢;rw[this]
theorem TK:∀ l:List Proc,(l.Pairwise fun a b=>AT a b≤0)→Hv (C1 l)
 |[],_=>by simp[C1,Hv]
 |[a],_=>by simp[C1,Hv]
 | a::b::l,h=>by
  have hp:=pairwise_cons.1 h;have ih:=TK (b::l) hp.2;simp only[C1];split
  ·exact ih
  ·rename_i hne;refine pairwise_cons.2 ⟨fun x hx=>?_,ih⟩;rw[N6]at hx;have h1:=hp.1 x hx;have h2:=hp.1 b (by simp);have hb:AT b x≤0:=by
    rcases mem_cons.1 hx with e|e
    ·subst e;rw[BT];omega
    ·exact(pairwise_cons.1 hp.2).1 x e
   have hab:AT a b<0:=by
    rcases Int.lt_or_eq_of_le h2 with h|h
    ·exact h
    ·exact absurd (FM h) hne
   rcases Int.lt_or_eq_of_le hb with h|h
   ·exact Cz hab h
   ·rw[← FM h];exact hab
theorem X6(x:Proc)(l:List Proc):x∈Lb l↔x∈l:=by
 unfold Lb;exact List.mem_mergeSort
theorem Wx(l:List Proc):(Lb l).Pairwise fun a b=>AT a b≤0:=by
 have:=List.pairwise_mergeSort (le:=fun x y=>!(Go.Proofs.ltOf AT) y x) (fun a b c h1 h2=>by
  rw[Iu]at *;simp only[not_eq_true',decide_eq_false_iff_not]at *;intro h;have e1:=Cs a b;have e2:=Cs b c
  by_cases h3:AT a b=0
  ·rw[FM h3]at h;exact h2 h
  ·exact h2 (Cz h (by omega))) (fun a b=>by
  rw[Iu,Iu];have:=Cs a b;simp only[Bool.or_eq_true,not_eq_true',decide_eq_false_iff_not];omega) l
 refine List.Pairwise.imp (fun {a b} h=>?_) this;rw[Iu]at h;have:=Cs a b;simp only[not_eq_true',decide_eq_false_iff_not]at h;omega
theorem JA:∀ {l m:List Proc},Hv l→Hv m→(∀ x,x∈l↔x∈m)→l=m
 |[],[],_,_,_=>rfl
 |[],b::m,_,_,h=>by have:=(h b).2 (by simp);cases this
 | a::l,[],_,_,h=>by have:=(h a).1 (by simp);cases this
 | a::l,b::m,hl,hm,h=>by
  have h1:=pairwise_cons.1 hl;have h2:=pairwise_cons.1 hm;have hab:a=b:=by
   have ha:=(h a).1 (by simp);have hb:=(h b).2 (by simp);rcases mem_cons.1 ha with e|e
   ·exact e
   ·rcases mem_cons.1 hb with e'|e'
    ·exact e'.symm
    ·have k1:=h2.1 a e;have k2:=h1.1 b e';have:=Cs a b;omega
  subst hab;have:l=m:=JA h1.2 h2.2 fun x=>by
   have hx:=h x;simp only[mem_cons]at hx;constructor
   ·intro hm';rcases hx.1 (.inr hm') with e|e
    ·subst e;have:=h1.1 x hm';rw[BT]at this;omega
    ·exact e
   ·intro hm';rcases hx.2 (.inr hm') with e|e
    ·subst e;have:=h2.1 x hm';rw[BT]at this;omega
    ·exact e
  rw[this]
theorem Lf{l:List Proc}(h:Hv l):l.Nodup:=by
 refine List.Pairwise.imp (fun {a b} h e=>?_) h;subst e;rw[BT]at h;omega
def Uj(p:Proc):List Proc→List Proc
 |[]=>[p]
 | x::l=>if AT p x<0 then p::x::l else if p=x then x::l else x::Uj p l
def Uk:List Proc→List Proc
 |[]=>[]
 | p::l=>Uj p (Uk l)
theorem Qm(p x:Proc):∀ l:List Proc,x∈Uj p l↔x=p∨x∈l
 |[]=>by simp[Uj]
 | y::l=>by
  have:=Qm p x l;simp only[Uj];split
  ·simp
  ·split
   ·rename_i h;subst h;simp
   ·simp only[mem_cons,this];constructor
    ·rintro(h|h|h)
     ·exact .inr (.inl h)
     ·exact .inl h
     ·exact .inr (.inr h)
    ·rintro(h|h|h)
     ·exact .inr (.inl h)
     ·exact .inl h
     ·exact .inr (.inr h)
theorem TL(p:Proc):∀ l:List Proc,Hv l→Hv (Uj p l)
 |[],_=>by simp[Uj,Hv]
 | y::l,h=>by
  have hp:=pairwise_cons.1 h;simp only[Uj];split
  ·rename_i hlt;refine pairwise_cons.2 ⟨fun x hx=>?_,h⟩;rcases mem_cons.1 hx with e|e
   ·rw[e];exact hlt
   ·exact Cz hlt (hp.1 x e)
  ·split
   ·exact h
   ·rename_i h1 h2;refine pairwise_cons.2 ⟨fun x hx=>?_,TL p l hp.2⟩;rcases(Qm p x l).1 hx with e|e
    ·subst e;have h3:=Cs x y;have h4:AT x y≠0:=fun e=>h2 (FM e)
     omega
    ·exact hp.1 x e
theorem Qn(x:Proc):∀ l:List Proc,x∈Uk l↔x∈l
 |[]=>by simp[Uk]
 | y::l=>by simp only[Uk,Qm,Qn x l,mem_cons]
theorem PA:∀ l:List Proc,Hv (Uk l)
 |[]=>by simp[Uk,Hv]
 | y::l=>TL y _ (PA l)
theorem PL(l:List Proc):C1 (Lb l)=Uk l:=JA (TK _ (Wx l)) (PA l) fun x=>by rw[N6,X6,Qn]
def Ki(l:List Proc):List Proc:=Uk l
theorem HI(x:Proc)(l:List Proc):x∈Ki l↔x∈l:=Qn x l
theorem DT(l:List Proc):Hv (Ki l):=PA l
theorem J4(l:List Proc):(Lb l).length=l.length:=by simp[Lb]
theorem f131_ok(l:List Proc)(hl:l.length≤1000000):Ac C0 131 [AD l] [] (AD (Ki l)) []:=by
 refine Ac.go f131 ?_;unfold f131;have hb:l.length≤4294967296:=by omega
 refine gO ?_;refine YI (Y5 l hl) rfl ?_;have ho:over 0 0 ((Lb l).map Proc.c) (l.map Proc.c)=(Lb l).map Proc.c:=ZH (by simp[J4]);simp(disch:=omega)only[go_sem,ho];refine Be ⟨⟨[(320,0)],[],[]⟩,[(1,576)],[]⟩ (f198_ok (Lb l) (by rw[J4];exact hl)) gI rfl trivial (.inl rfl) ?_;refine gO ?_;refine CT ⟨[],[],[576]⟩ _ ?_;simp(disch:=omega)only[go_sem,Ki,PL]
theorem f148_ok(l:List Proc)(p:Proc)(hl:l.length≤1000000):Ac C0 148 [AD l,.agg p.c] [] (I (match l.findIdx? (fun x=>decide (x=p)) with|some i=>i|none=>-1)) []:=by
 refine Ac.go f148 ?_;unfold f148;refine gO ?_;refine Aa (α:=Nat) (fun i=>⟨[(8,I i),(7,I l.length),(0,AD l),(3,.ptr 192 0)],[(192,p.c)]⟩) (fun i=>i≤(l).length∧(l.take i).find? (fun x=>decide (x=p))=none) (fun i=>(l).length-i) 0 ⟨by omega,rfl⟩ ?_ ?_
 ·exact Ca
 rintro i ⟨hi,hP⟩ J hJ;refine gO ?_;refine ⟨fun hlt=>?_,fun hge=>?_⟩;rotate_left;have hil:i=(l).length:=by simp at hge;omega
 rotate_left;obtain⟨b,hb⟩:∃ b,(l)[i]?=some b:=⟨_,gE (by simp at hlt;omega)⟩;have hbm:=mG hb;have hlt2:i<(l).length:=by simp at hlt;omega
 refine Aq 5 [([],[3]),([],[0]),([],[5]),([],[12,13]),([],[14])] fol ?_;simp(disch:=omega)only[go_sem,gm,hb]
 ·refine⟨fun h=>?_,fun h=>?_⟩
  ·have e:l.findIdx? (fun x=>decide (x=p))=some i:=F9 hP b hb (by simp at h;simp[h]);simp(disch:=omega)only[go_sem,e];exact AH _
  ·refine hJ _ (i+1) ⟨by simp at hlt;omega,(by rw[BU hP hb];simp at h;simp[Ne.symm h])⟩ (by simp at hlt;omega) AK
 ·subst hil;rw[take_length]at hP;have e:l.findIdx? (fun x=>decide (x=p))=none:=by
   rw[List.findIdx?_eq_none_iff];rw[List.find?_eq_none]at hP;intro x hx;simpa using hP x hx
  simp(disch:=omega)only[go_sem,e];exact AH _
theorem f111_ok(l:List Proc)(p:Proc)(hl:l.length≤1000000):Ac C0 111 [AD l,.agg p.c] [] (B (Br l p)) []:=by
 refine Ac.go f111 ?_;unfold f111;refine gO ?_;refine Ab (f148_ok l p hl) ?_;refine gO ?_;refine A1 ⟨[],[],[]⟩ _ rfl ⟨rfl,rfl⟩ (by simp) ?_ trivial;refine wb ?_;unfold Br;cases h:l.findIdx? (fun x=>decide (x=p)) with
 |none =>
  rw[List.findIdx?_eq_none_iff]at h;have:p∉l:=fun hp=>by simpa using h p hp
  simp[this]
 |some i =>
  have:=(List.findIdx?_eq_some_iff_getElem.1 h);obtain⟨h1,h2,_⟩:=this;have hm:p∈l:=by simp at h2;rw[← h2];exact getElem_mem h1
  simp[hm]
theorem f59_ok(l:List Proc)(p:Proc)(hl:l.length≤1000000):Ac C0 59 [AD l,.agg p.c] [] (B (Br l p)) []:=by
 refine Ac.go f59 ?_;unfold f59;refine gO ?_;refine Ab (f111_ok l p hl) ?_;refine gO ?_;exact AH _
theorem Y6(l:List Hold)(hl:l.length≤1000000):Ac C0 199 [AB l] [] (KZ 0 (CL l)) []:=by
 refine Ac.go f199 ?_;unfold f199;refine gO ?_;refine Aa (α:=Nat) (fun i=>⟨[(8,I i),(7,I l.length),(6,AB l),(3,.sl (.own 1024 0) 3 ((CL (l.take i)).map Proc.c))],[]⟩) (fun i=>i≤(l).length∧True) (fun i=>(l).length-i) 0 ⟨by omega,trivial⟩ ?_ ?_
 ·exact Ca
 rintro i ⟨hi,hP⟩ J hJ;refine gO ?_;refine ⟨fun hlt=>?_,fun hge=>?_⟩;rotate_left;have hil:i=(l).length:=by simp at hge;omega
 rotate_left;obtain⟨b,hb⟩:∃ b,(l)[i]?=some b:=⟨_,gE (by simp at hlt;omega)⟩;have hbm:=mG hb;simp(disch:=omega)only[go_sem,gm,hb]
 ·simp(disch:=omega)only[go_sem,CL];refine hJ _ (i+1) ⟨by simp at hlt;omega,trivial⟩ (by simp at hlt;omega) (Imp.weak ?_ ?_)
  all_goals(try simp(disch:=omega)only[go_sem])
  all_goals(try(repeat'(with_reducible apply And.intro)))
  all_goals(first|exact .AA (by omega)|exact .Az (by omega)|exact .sl (by simp[CL,take_add_one,hb,Proc.c])|exact .int (by simp[CL,take_add_one,hb,Proc.c])|exact .eq (by simp[CL,take_add_one,hb,Proc.c]))
 ·subst hil;refine A1 ⟨[(1024,0)],[],[]⟩ _ rfl ⟨rfl,rfl⟩ (by simp[lk]) ?_ trivial;simp(disch:=omega)only[go_sem,take_length]
def A6(q:Queue):List Proc:=Ki (CL q.holds++BI (q.convs++q.waits))
theorem f132_ok(q:Queue)(h:BA q≤1000000):Ac C0 132 [.agg q.c] [] (AD (A6 q)) []:=by
 have h1:q.holds.length≤1000000:=by unfold BA at h;omega
 have h2:q.convs.length+q.waits.length≤1000000:=by unfold BA Bq at h;omega
 have h3:(CL q.holds).length+(BI (q.convs++q.waits)).length≤1000000:=by simp[CL,BI];unfold BA Bq at h;omega
 have h4:(CL q.holds).length+(BI (q.convs++q.waits)).length≤4294967296:=by omega
 refine Ac.go f132 ?_;unfold f132;refine gO ?_;refine Aq 4 [([],[1]),([],[3]),([],[4]),([],[1])] fol ?_;refine gO ?_;refine Ao ⟨⟨[],[],[]⟩,[(0,320)],[]⟩ (Y6 q.holds h1) gI rfl rfl trivial (.inl rfl) ?_;refine gO ?_;refine Ab (f147_ok q h2) ?_;refine gO ?_;refine HV [512] (f131_ok (CL q.holds++BI (q.convs++q.waits)) (by simpa using h3)) (by simp(disch:=omega)only[go_sem];exact .sl (by simp)) rfl ?_;refine gO ?_;refine B0 _ ?_;simp(disch:=omega)only[go_sem,A6]
def q0:Queue:=⟨⟨[],0,0,0⟩,[],[],[],0⟩
def E9(q:Queue)(p:Proc):Queue × List Hold × Int:=if valid q then (if Br (A6 q) p then (El (Ba q p),(Bz (Ba q p)).2,0) else (q0,[],10)) else (q0,[],2)
theorem NB(l:List Proc):(Ki l).length≤l.length:=by
 have:=ME (Lb l);rw[J4,PL]at this;exact this
theorem Ic(q:Queue):(A6 q).length≤BA q:=by
 have:=NB (CL q.holds++BI (q.convs++q.waits));unfold A6 BA Bq;simp[CL,BI]at this ⊢;omega
theorem f133_ok(q:Queue)(p:Proc)(h:BA q+1≤1000000):Ac C0 133 [.agg q.c,.agg p.c] [] (.tup [.agg (E9 q p).1.c,AB (E9 q p).2.1,I (E9 q p).2.2]) []:=by
 have h1:q.holds.length≤1000000:=by unfold BA at h;omega
 have h2:q.convs.length≤1000000:=by unfold BA Bq at h;omega
 have h3:q.waits.length≤1000000:=by unfold BA Bq at h;omega
 refine Ac.go f133 ?_;unfold f133;refine gO ?_;refine Ab (f101_ok q h1 h3) ?_;cases hv:valid q
 ·have e:E9 q p=(q0,[],2):=by simp[E9,hv]
  simp(disch:=omega)only[go_sem,Bool.not_false,e,q0];refine Ap _ ?_;refine .tup (Ah.AE ?_);simp(disch:=omega)only[go_sem]
  repeat'(with_reducible apply And.intro)
  all_goals(first|exact .Az (by omega)|exact .agg (Ah.AE gI))
 simp(disch:=omega)only[go_sem,Bool.not_true];refine Aq 3 [([],[2]),([],[12]),([],[3])] fol ?_;refine gO ?_;refine Al (f132_ok q (by omega)) ?_;refine gO ?_;refine Ab (f59_ok (A6 q) p (by have:=Ic q;omega)) ?_;refine gO ?_;refine And.intro (fun hh=>?_) (fun hh=>?_)
 ·have hh':Br (A6 q) p=false:=by simpa using hh
  have e:E9 q p=(q0,[],10):=by simp[E9,hv,hh']
  simp(disch:=omega)only[go_sem,e,q0];refine Ap _ ?_;refine .tup (Ah.AE ?_);simp(disch:=omega)only[go_sem]
  repeat'(with_reducible apply And.intro)
  all_goals(first|exact .Az (by omega)|exact .agg (Ah.AE gI))
 have hh':Br (A6 q) p=true:=by simpa using hh
 have e:E9 q p=(El (Ba q p),(Bz (Ba q p)).2,0):=by simp[E9,hv,hh']
 simp(disch:=omega)only[go_sem,e];refine Ab (f200_ok q h1 h2 h3) ?_;refine gO ?_;refine Be ⟨⟨[],[(448,63),(192,127)],[]⟩,[],[]⟩ (f201_ok q p h) gI rfl gI (.inl rfl) ?_;refine gO ?_;exact AH _
structure Few(s:WS):Prop where
 nq:s.queues.length≤100
 nn:s.needs.length≤100
 aq:∀ q∈s.queues,BA q≤100
def Ar(l:List Queue):List Proc:=Ki (l.flatMap A6)
def EK(l:List Need):List Proc:=l.map (·.proc)
def Am(s:WS):List Proc:=Ki (Ar s.queues++EK s.needs)
theorem KE{l:List Queue}(h:∀ q∈l,BA q≤100):(l.flatMap A6).length≤l.length*100:=by
 induction l with
 | nil=>simp
 | cons q l ih =>
  have h1:=Ic q;have h2:=h q (by simp);have h3:=ih fun q' hq=>h q' (by simp[hq])
  simp only[List.flatMap_cons,List.length_append,List.length_cons];omega
theorem f130_ok(l:List Queue)(h1:l.length≤100)(h2:∀ q∈l,BA q≤100):Ac C0 130 [Ay l] [] (AD (Ar l)) []:=by
 refine Ac.go f130 ?_;unfold f130;refine gO ?_;refine Aa (α:=Nat) (fun i=>⟨[(8,I i),(7,I l.length),(6,Ay l),(3,.sl (.own 960 0) 3 (((l.take i).flatMap A6).map Proc.c))],[]⟩) (fun i=>i≤(l).length∧True) (fun i=>(l).length-i) 0 ⟨by omega,trivial⟩ ?_ ?_
 ·exact Ca
 rintro i ⟨hi,hP⟩ J hJ;refine gO ?_;refine ⟨fun hlt=>?_,fun hge=>?_⟩;rotate_left;have hil:i=(l).length:=by simp at hge;omega
 rotate_left;obtain⟨b,hb⟩:∃ b,(l)[i]?=some b:=⟨_,gE (by simp at hlt;omega)⟩;have hbm:=mG hb;simp(disch:=omega)only[go_sem,gm,hb]
 ·have hfl:=KE (l:=l.take i) fun q hq=>h2 q (List.mem_of_mem_take hq)
  have hq:=Ic b;have hb2:=h2 b hbm;have hbd:((l.take i).flatMap A6).length+(A6 b).length≤4294967296:=by simp only[length_take]at hfl;omega
  refine Ab (f132_ok b (by omega)) ?_;refine gO ?_;refine hJ _ (i+1) ⟨by simp at hlt;omega,trivial⟩ (by simp at hlt;omega) (Imp.weak ?_ ?_)
  all_goals(try simp(disch:=omega)only[go_sem])
  all_goals(try(repeat'(with_reducible apply And.intro)))
  all_goals(first|exact .AA (by omega)|exact .Az (by omega)|exact .sl (by simp[take_add_one,hb])|exact .int (by simp[take_add_one,hb])|exact .eq (by simp[take_add_one,hb]))
 ·subst hil;have hfl:=KE h2;refine HV [960] (f131_ok (l.flatMap A6) (by omega)) (by simp(disch:=omega)only[go_sem,take_length]) rfl ?_;refine gO ?_;refine B0 _ ?_;simp(disch:=omega)only[go_sem,Ar]
theorem OV{l:List Queue}(h:∀ q∈l,BA q≤100):(Ar l).length≤l.length*100:=Nat.le_trans (NB _) (KE h)
theorem f73_ok(s:WS)(h:Few s):Ac C0 73 [.agg s.c] [] (AD (Am s)) []:=by
 have hq:=OV h.aq;have h1:=h.nq;have h2:=h.nn;have hbd:(Ar s.queues).length≤4294967296:=by omega
 refine Ac.go f73 ?_;unfold f73;refine gO ?_;refine Ab (f130_ok s.queues h.nq h.aq) ?_;refine gO ?_;refine Aa (α:=Nat) (fun i=>⟨[(13,I i),(12,I s.needs.length),(11,Ho s.needs),(3,.sl (.own 1344 0) 3 ((Ar s.queues++EK (s.needs.take i)).map Proc.c))],[]⟩) (fun i=>i≤(s.needs).length∧True) (fun i=>(s.needs).length-i) 0 ⟨by omega,trivial⟩ ?_ ?_
 ·refine Imp.ren ⟨[(576,1344)],[],[]⟩ ⟨rfl,rfl⟩ (by simp[lk]) ?_ ?_
  all_goals(try simp(disch:=omega)only[go_sem])
  all_goals(try(repeat'(with_reducible apply And.intro)))
  all_goals(first|exact .AA (by omega)|exact .Az (by omega)|exact .sl (by simp[EK])|exact .int (by simp[EK])|exact .eq (by simp[EK]))
 rintro i ⟨hi,hP⟩ J hJ;refine gO ?_;refine ⟨fun hlt=>?_,fun hge=>?_⟩;rotate_left;have hil:i=(s.needs).length:=by simp at hge;omega
 rotate_left;obtain⟨b,hb⟩:∃ b,(s.needs)[i]?=some b:=⟨_,gE (by simp at hlt;omega)⟩;have hbm:=mG hb;simp(disch:=omega)only[go_sem,gm,hb]
 ·have hbd2:(Ar s.queues).length+(EK (s.needs.take i)).length+1≤4294967296:=by simp[EK];omega
  simp(disch:=omega)only[go_sem,EK];refine hJ _ (i+1) ⟨by simp at hlt;omega,trivial⟩ (by simp at hlt;omega) (Imp.weak ?_ ?_)
  all_goals(try simp(disch:=omega)only[go_sem])
  all_goals(try(repeat'(with_reducible apply And.intro)))
  all_goals(first|exact .AA (by omega)|exact .Az (by omega)|exact .sl (by simp[EK,take_add_one,hb,Proc.c])|exact .int (by simp[EK,take_add_one,hb,Proc.c])|exact .eq (by simp[EK,take_add_one,hb,Proc.c]))
 ·subst hil;refine HV [1344] (f131_ok (Ar s.queues++EK s.needs) (by simp[EK];omega)) (by simp(disch:=omega)only[go_sem,take_length]) rfl ?_;refine gO ?_;refine B0 _ ?_;simp(disch:=omega)only[go_sem,Am]
def BG(q:Queue)(p:Proc):Queue:=if valid q&&Br (A6 q) p then { El (Ba q p) with gen:=q.gen } else q
def Od(l:List Need)(p:Proc):List Need:=l.filter fun n=>decide (n.proc≠p)
def BX(s:WS)(p:Proc):WS:=⟨s.queues.map fun q=>BG q p,Od s.needs p⟩
@[reducible] def wsz:List AV:=[.sl .no 8 [],.sl .no 9 []]
@[go_sem] theorem fU(p q:Proc):(AT p q !=0) = !decide (p=q):=by
 by_cases h:p=q
 ·subst h;simp[BT]
 ·have:AT p q≠0:=fun e=>h (FM e)
  simp[h,this]
@[go_sem] theorem eD(p q:Proc):(AT p q==0)=decide (p=q):=by
 by_cases h:p=q
 ·subst h;simp[BT]
 ·have:AT p q≠0:=fun e=>h (FM e)
  simp[h,this]
theorem f74_ok(s:WS)(p:Proc)(h:Few s):Ac C0 74 [.agg s.c,.agg p.c] [] (.agg (BX s p).c) []:=by
 have hn1:=h.nq;have hn2:=h.nn;refine Ac.go f74 ?_;unfold f74;refine gO ?_;refine Aa (α:=Nat) (fun i=>⟨[(17,I i),(16,I s.queues.length),(15,Ay s.queues),(2,.ptr 128 0),(3,.ptr 192 0),(5,.ptr 320 0),(4,.ptr 256 0)],[(128,s.c),(192,p.c),(256,wsz),(320,[.sl (.own 2752 0) 8 (((s.queues.take i).map fun q=>BG q p).map Queue.c),.v (.slice none 0 0)])]⟩) (fun i=>i≤(s.queues).length∧True) (fun i=>(s.queues).length-i) 0 ⟨by omega,trivial⟩ ?_ ?_
 ·exact Ca
 rintro i ⟨hi,hP⟩ J hJ;refine gO ?_;refine ⟨fun hlt=>?_,fun hge=>?_⟩;rotate_left;have hil:i=(s.queues).length:=by simp at hge;omega
 rotate_left;obtain⟨b,hb⟩:∃ b,(s.queues)[i]?=some b:=⟨_,gE (by simp at hlt;omega)⟩;have hbm:=mG hb;simp(disch:=omega)only[go_sem,gm,hb]
 ·have ha:=h.aq b hbm;have hbd:i+1≤4294967296:=by simp at hlt;omega
  have hbd':min i s.queues.length+1≤4294967296:=by omega
  have fin:∀ q,BG b p=q→∀ st',Imp ⟨C0,[],[]⟩ st' ⟨[(17,I (i+1:Nat)),(16,I s.queues.length),(15,Ay s.queues),(2,.ptr 128 0),(3,.ptr 192 0),(5,.ptr 320 0),(4,.ptr 256 0)],[(128,s.c),(192,p.c),(256,wsz),(320,[.sl (.own 2752 0) 8 (((s.queues.take i).map fun q=>BG q p).map Queue.c++[q.c]),.v (.slice none 0 0)])]⟩→J st':=fun q hq st' h=>by
   refine hJ st' (i+1) ⟨by simp at hlt;omega,trivial⟩ (by simp at hlt;omega) ?_;have e:((s.queues.take (i+1)).map fun q=>BG q p).map Queue.c=((s.queues.take i).map fun q=>BG q p).map Queue.c++[q.c]:=by
    rw[take_add_one,hb];simp[hq]
   rw[e];exact h
  clear hJ;refine Aq 3 [([],[7]),([],[21]),([],[3])] fol ?_;refine gO ?_;refine Al (f132_ok b (by omega)) ?_;refine gO ?_;refine Ab (f59_ok (A6 b) p (by have:=Ic b;omega)) ?_;cases hp:Br (A6 b) p
  ·simp(disch:=omega)only[go_sem,length_map,length_take];refine fin b (by simp[BG,hp]) _ (Imp.weak gI ?_);simp(disch:=omega)only[go_sem]
  refine gO ?_;refine Ab (f133_ok b p (by omega)) ?_;cases hv:valid b
  ·have e:E9 b p=(q0,[],2):=by simp[E9,hv]
   simp(disch:=omega)only[go_sem,e,length_map,length_take];refine fin b (by simp[BG,hv]) _ (Imp.weak gI ?_);simp(disch:=omega)only[go_sem]
  ·have e:E9 b p=(El (Ba b p),(Bz (Ba b p)).2,0):=by simp[E9,hv,hp]
   simp(disch:=omega)only[go_sem,e,length_map,length_take];refine fin { El (Ba b p) with gen:=b.gen } (by simp[BG,hv,hp]) _ (Imp.weak gI ?_);simp(disch:=omega)only[go_sem]
 subst hil;rw[take_length];clear hJ;refine Aa (α:=Nat) (fun i=>⟨[(49,I i),(48,I s.needs.length),(47,Ho s.needs),(3,.ptr 192 0),(5,.ptr 320 0),(4,.ptr 256 0)],[(192,p.c),(256,wsz),(320,[.sl (.own 2752 0) 8 ((s.queues.map fun q=>BG q p).map Queue.c),.sl (.own 3968 0) 9 ((Od (s.needs.take i) p).map Need.c)])]⟩) (fun i=>i≤(s.needs).length∧True) (fun i=>(s.needs).length-i) 0 ⟨by omega,trivial⟩ ?_ ?_
 ·exact Ca
 rintro i ⟨hi,hP⟩ J hJ;refine gO ?_;refine ⟨fun hlt=>?_,fun hge=>?_⟩;rotate_left;have hil:i=(s.needs).length:=by simp at hge;omega
 rotate_left;obtain⟨b,hb⟩:∃ b,(s.needs)[i]?=some b:=⟨_,gE (by simp at hlt;omega)⟩;have hbm:=mG hb;simp(disch:=omega)only[go_sem,gm,hb]
 ·have hbd:(Od (s.needs.take i) p).length+1≤4294967296:=by
   have:(Od (s.needs.take i) p).length≤(s.needs.take i).length:=List.length_filter_le _ _;rw[length_take]at this;omega
  refine Ab (f61_ok b.proc p) ?_;refine gO ?_;have e1:Od (s.needs.take (i+1)) p=if b.proc=p then Od (s.needs.take i) p else Od (s.needs.take i) p++[b]:=by
   simp only[Od,take_add_one,hb,toList_some,List.filter_append,List.filter_cons,List.filter_nil]
   by_cases h:b.proc=p<;>simp[h]
  refine And.intro (fun hh=>?_) (fun hh=>?_)
  ·have hne:¬ b.proc=p:=by simpa using hh
   rw[if_neg hne]at e1;refine hJ _ (i+1) ⟨by simp at hlt;omega,trivial⟩ (by simp at hlt;omega) (Imp.weak gI ?_);rw[e1];refine gO ?_;exact .sl (by simp[Need.c])
  ·have hne:b.proc=p:=by simpa using hh
   rw[if_pos hne]at e1;refine hJ _ (i+1) ⟨by simp at hlt;omega,trivial⟩ (by simp at hlt;omega) (Imp.weak gI ?_);rw[e1];simp(disch:=omega)only[go_sem]
 ·subst hil;simp(disch:=omega)only[go_sem,take_length];refine CT ⟨[],[],[2752,3968]⟩ _ ?_;simp(disch:=omega)only[go_sem,BX];exact .eq (by simp)
def DU(l:List Atom)(a:Atom):List Atom:=if a∈l then l else l++[a]
mutual
def XA:List Atom→Expr→List Atom
 | l,.mk _ a kids=>if kids.length=0 then DU l a else XB l kids
def XB:List Atom→List Expr→List Atom
 | l,[]=>l
 | l,e::es=>XB (XA l e) es
end
theorem TU(l:List Atom)(e:Expr):XA l e=if e.kids.length=0 then DU l e.atom else XB l e.kids:=by
 cases e;simp only[XA];rfl
def Ad(e:Expr):List Atom:=if A5 e then XA [] e else []
def F2(l:List Atom)(a:Atom):Int:=match l.findIdx? (fun x=>decide (x=a)) with|some i=>i|none=>-1
theorem f268_ok(l:List Atom)(p:Atom)(hl:l.length≤1000000):Ac C0 268 [Bn l,.agg p.c] [] (I (F2 l p)) []:=by
 refine Ac.go f268 ?_;unfold f268;refine gO ?_;refine Aa (α:=Nat) (fun i=>⟨[(8,I i),(7,I l.length),(0,Bn l),(3,.ptr 192 0)],[(192,p.c)]⟩) (fun i=>i≤(l).length∧(l.take i).find? (fun x=>decide (x=p))=none) (fun i=>(l).length-i) 0 ⟨by omega,rfl⟩ ?_ ?_
 ·exact Ca
 rintro i ⟨hi,hP⟩ J hJ;refine gO ?_;refine ⟨fun hlt=>?_,fun hge=>?_⟩;rotate_left;have hil:i=(l).length:=by simp at hge;omega
 rotate_left;obtain⟨b,hb⟩:∃ b,(l)[i]?=some b:=⟨_,gE (by simp at hlt;omega)⟩;have hbm:=mG hb;have hlt2:i<(l).length:=by simp at hlt;omega
 refine Aq 5 [([],[3]),([],[0]),([],[5]),([],[12,13]),([],[14])] fol ?_;simp(disch:=omega)only[go_sem,gm,hb]
 ·refine⟨fun h=>?_,fun h=>?_⟩
  ·have e:F2 l p=i:=by unfold F2;rw[F9 hP b hb (by simp at h;simp[h])]
   simp(disch:=omega)only[go_sem,e];exact AH _
  ·refine hJ _ (i+1) ⟨by simp at hlt;omega,(by rw[BU hP hb];simp at h;simp[Ne.symm h])⟩ (by simp at hlt;omega) AK
 ·subst hil;rw[take_length]at hP;have e:F2 l p = -1:=by
   unfold F2;have:l.findIdx? (fun x=>decide (x=p))=none:=by
    rw[List.findIdx?_eq_none_iff];rw[List.find?_eq_none]at hP;intro x hx;simpa using hP x hx
   rw[this]
  simp(disch:=omega)only[go_sem,e];exact AH _
theorem TN(l:List Atom)(p:Atom):decide (0≤F2 l p)=decide (p∈l):=by
 unfold F2;cases h:l.findIdx? (fun x=>decide (x=p)) with
 |none =>
  rw[List.findIdx?_eq_none_iff]at h;have:p∉l:=fun hp=>by simpa using h p hp
  simp[this]
 |some i =>
  obtain⟨h1,h2,_⟩:=(List.findIdx?_eq_some_iff_getElem.1 h);have hm:p∈l:=by simp at h2;rw[← h2];exact getElem_mem h1
  simp[hm]
theorem f217_ok(l:List Atom)(p:Atom)(hl:l.length≤1000000):Ac C0 217 [Bn l,.agg p.c] [] (B (decide (p∈l))) []:=by
 refine Ac.go f217 ?_;unfold f217;refine gO ?_;refine Ab (f268_ok l p hl) ?_;have:=TN l p;simp(disch:=omega)only[go_sem,this];exact AH _
theorem W1{l:List Atom}{a:Atom}(h:((ET l a).1==0)=true):(ET l a).2=DU l a:=by
 unfold ET at h ⊢;cases hf:l.find? (hit a) with
 |some b =>
  rw[hf]at h;simp only at h ⊢
  by_cases e:a=b
  ·subst e;simp[DU,List.mem_of_find?_eq_some hf]
  ·simp[e]at h
 |none =>
  rw[hf]at h;simp only at h ⊢
  by_cases h8:l.length=8
  ·simp[h8]at h
  ·have:a∉l:=fun hm=>by
    rw[List.find?_eq_none]at hf;have:=hf a hm;simp[hit]at this
   simp[h8,DU,this]
theorem R9:∀ (es:List Expr) (l:List Atom),(∀ e∈es,∀ l,(prop e l).1=true→XA l e=(prop e l).2)→(BW es l).1=true→XB l es=(BW es l).2
 |[],l,_,_=>by simp[XB,BW]
 | e::es,l,hk,h=>by
  simp only[BW]at h ⊢;split at h
  ·rename_i h1;rw[if_pos h1];simp only[XB];rw[hk e (by simp) l h1];exact R9 es _ (fun e' he=>hk e' (by simp[he])) h
  ·cases h
theorem Ig:∀ (N:Nat) (e:Expr),SizeOf.sizeOf e<N→∀ l:List Atom,(prop e l).1=true→XA l e=(prop e l).2
 | 0,_,h,_,_=>by omega
 | N+1,e,h,l,hp=>by
  rw[DD]at hp ⊢;rw[TU];split at hp
  ·rename_i hk;rw[if_pos hk,if_pos hk];split at hp
   ·rename_i h1;rw[if_pos h1];exact(W1 hp).symm
   ·cases hp
  ·rename_i hk;rw[if_neg hk,if_neg hk];split at hp
   ·cases hp
   ·rename_i h1;rw[if_neg h1];exact R9 _ _ (fun e' he l' hl'=>Ig N e' (by have:=DY he;omega) l' hl') hp
theorem f141_ok:∀ (N:Nat) (e:Expr),SizeOf.sizeOf e<N→∀ l:List Atom,l.length≤8→(prop e l).1=true →
 Ac C0 141 [CG 0 l,.agg e.c] [] (CG 1 (prop e l).2) []
 | 0,_,h,_,_,_=>by omega
 | N+1,e,h,l,hl,hpr=>by
  refine Ac.lens f141 fun hlen=>?_
  simp only[Fz,lens,Expr.FF,length_map,and_true,true_and]at hlen;have hp0:=hpr;rw[DD]at hpr;refine Ac.go f141 ?_;unfold f141
  by_cases hk:e.kids.length=0
  ·have e1:((e.kids.length:Int)==0)=true:=by simp[hk]
   rw[if_pos hk]at hpr;have hc:=Ig (N+1) e h l hp0;rw[TU,if_pos hk]at hc;simp(disch:=omega)only[go_sem,e1];refine Dq [0] (f217_ok l e.atom (by omega)) gI rfl trivial ?_
   by_cases hm:e.atom∈l
   ·have e2:(decide (e.atom∈l))=true:=by simp[hm]
    have e3:(prop e l).2=l:=by rw[← hc];simp[DU,hm]
    simp(disch:=omega)only[go_sem,e2,e3];refine A1 ⟨[(0,1)],[],[]⟩ _ rfl ⟨rfl,rfl⟩ (by simp[lk]) ?_ trivial;simp(disch:=omega)only[go_sem]
   ·have e2:(decide (e.atom∈l))=false:=by simp[hm]
    have e3:(prop e l).2=l++[e.atom]:=by rw[← hc];simp[DU,hm]
    simp(disch:=omega)only[go_sem,e2,e3];refine A1 ⟨[(1280,1)],[],[]⟩ _ rfl ⟨rfl,rfl⟩ (by simp[lk]) ?_ trivial;refine gO ?_;exact .sl (by simp[Atom.c])
  have e1:((e.kids.length:Int)==0)=false:=by simp only[beq_eq_false_iff_ne,ne_eq];omega
  rw[if_neg hk]at hpr;split at hpr
  ·cases hpr
  rename_i hbad;have ep:prop e l=BW e.kids l:=by rw[DD,if_neg hk,if_neg hbad]
  simp(disch:=omega)only[go_sem,e1,ep];refine Aa (α:=Nat × List Atom) (fun q=>⟨[(24,I q.1),(23,I e.kids.length),(22,Gy e.kids),(0,CG 1920 q.2)],[]⟩)
   (fun q=>q.1≤e.kids.length∧q.2.length≤8∧(BW (e.kids.drop q.1) q.2).1=true∧BW (e.kids.drop q.1) q.2=BW e.kids l) (fun q=>e.kids.length-q.1) (0,l) ⟨by simp,hl,by simpa using hpr,by simp⟩ ?_ ?_
  ·refine Imp.ren ⟨[(0,1920)],[],[]⟩ ⟨rfl,rfl⟩ (by simp[lk]) ?_ ?_
   ·exact gI
   ·exact gI
  rintro⟨i,m⟩ ⟨hi,hm,hb1,hr⟩ J hJ
  replace hi:i≤e.kids.length:=hi
  replace hm:m.length≤8:=hm
  replace hb1:(BW (e.kids.drop i) m).1=true:=hb1
  replace hr:BW (e.kids.drop i) m=BW e.kids l:=hr
  refine gO ?_;refine ⟨fun hlt=>?_,fun hge=>?_⟩
  ·have hlt':i<e.kids.length:=by simp at hlt;omega
   have hb:e.kids[i]?=some e.kids[i]:=gE hlt';have hsz:=DY (getElem_mem hlt');have hdr:e.kids.drop i=e.kids[i]::e.kids.drop (i+1):=List.drop_eq_getElem_cons hlt';generalize e.kids[i]=b at hb hsz hdr;rw[hdr]at hr hb1;simp only[BW]at hr hb1;have hx1:(prop b m).1=true:=by
    split at hb1
    ·assumption
    ·cases hb1
   rw[if_pos hx1]at hr hb1;simp(disch:=omega)only[go_sem,gm,hb];refine Be ⟨⟨[(1920,0)],[],[]⟩,[(1,1921)],[]⟩ (f141_ok N b (by omega) m hm hx1) gI rfl gI (.inl rfl) ?_;have hx:=Pr N b (by omega) m hm;refine gO ?_;refine hJ _ (i+1,(prop b m).2) ⟨by simp;omega,hx,hb1,hr⟩ (by simp;omega) (Imp.ren ⟨[(1921,1920)],[],[]⟩ ⟨rfl,rfl⟩ (by simp[lk]) ?_ ?_)
   ·exact gI
   ·exact gI
  ·have hil:i=e.kids.length:=by simp at hge;omega
   subst hil;rw[List.drop_length]at hr;simp only[BW]at hr;simp(disch:=omega)only[go_sem,← hr];refine A1 ⟨[(1920,1)],[],[]⟩ _ rfl ⟨rfl,rfl⟩ (by simp[lk]) ?_ trivial;simp(disch:=omega)only[go_sem]
theorem E1{e:Expr}(h:A5 e=true):(prop e []).1=true:=by
 simp only[A5,and_eq_true]at h;exact h.2
theorem CS(e:Expr):(Ad e).length≤8:=by
 unfold Ad;split
 ·rename_i h;rw[Ig _ e (lt_succ_self _) [] (E1 h)];exact Pr _ e (lt_succ_self _) [] (by simp)
 ·simp
theorem f87_ok(e:Expr):Ac C0 87 [.agg e.c] [] (Bn (Ad e)) []:=by
 refine Ac.go f87 ?_;unfold f87;refine gO ?_;refine Ab (f103_ok e) ?_;cases h:A5 e
 ·have e1:Ad e=[]:=by simp[Ad,h]
  simp(disch:=omega)only[go_sem,e1];refine A1 ⟨[],[],[]⟩ _ rfl ⟨rfl,rfl⟩ (by simp[lk]) ?_ trivial;exact .Az (by omega)
 ·have hp:=E1 h;have e1:Ad e=(prop e []).2:=by
   simp only[Ad,h,if_true];exact Ig _ e (lt_succ_self _) [] hp
  simp(disch:=omega)only[go_sem,e1];refine Be ⟨⟨[],[],[]⟩,[(1,448)],[]⟩ (f141_ok _ e (lt_succ_self _) [] (by simp) hp) (by simp(disch:=omega)only[go_sem,CG,List.map_nil]) rfl gI (.inl rfl) ?_;refine gO ?_;refine CT ⟨[],[],[448]⟩ _ ?_;simp(disch:=omega)only[go_sem,CG]
@[reducible] def It(l:List Bool):AV:=.sl .no 1 (l.map fun b=>[B b])
def DF(l:List Atom)(set:List Bool)(a:Atom):Bool:=match l.findIdx? (fun x=>decide (x=a)) with
 |some i=>set.getD i false
 |none=>false
@[reducible] def SK(l:List Atom)(set:List Bool):AV:=.agg [Bn l,It set]
theorem f218_ok(l:List Atom)(set:List Bool)(a:Atom)(hl:l.length≤1000000):Ac C0 218 [SK l set,.agg a.c] [] (B (DF l set a)) []:=by
 refine Ac.go f218 ?_;unfold f218;refine gO ?_;refine Ab (f268_ok l a hl) ?_;cases hi:l.findIdx? (fun x=>decide (x=a)) with
 |none =>
  have e1:F2 l a = -1:=by simp[F2,hi]
  have e2:DF l set a=false:=by simp[DF,hi]
  simp(disch:=omega)only[go_sem,e1];refine Ap _ ?_;exact wb (by simp[e2])
 |some i =>
  have e1:F2 l a=i:=by simp[F2,hi]
  by_cases h:i<set.length
  ·have e3:((i:Int)<set.length)=True:=eq_true (by omega);have e4:set[i]?=some (set.getD i false):=by rw[gE h];simp[List.getD,h]
   have e2:DF l set a=set.getD i false:=by simp[DF,hi]
   simp(disch:=omega)only[go_sem,e1,e3,gm,e4];refine Ap _ ?_;exact wb (by rw[e2])
  ·have e3:((i:Int)<set.length)=False:=eq_false (by omega);have e2:DF l set a=false:=by simp[DF,hi,List.getD,h]
   simp(disch:=omega)only[go_sem,e1,e3,decide_false];refine Ap _ ?_;exact wb (by simp[e2])
mutual
def En(has:Atom→Bool):Expr→Bool
 |.mk k a kids=>if kids.length=0 then has a else decide (k≤Cu has kids)
def Cu(has:Atom→Bool):List Expr→Int
 |[]=>0
 | e::es=>(if En has e=true then 1 else 0)+Cu has es
end
theorem I3(has:Atom→Bool)(e:Expr):En has e=if e.kids.length=0 then has e.atom else decide (e.k≤Cu has e.kids):=by
 cases e;simp only[En];rfl
theorem Ku(has:Atom→Bool):∀ (l:List Expr) (i:Nat) (b:Expr),l[i]?=some b→Cu has (l.take (i+1))=Cu has (l.take i)+(if En has b=true then 1 else 0)
 |[],i,b,h=>by simp at h
 | e::l,0,b,h=>by simp at h;subst h;simp[Cu]
 | e::l,i+1,b,h=>by
  have:=Ku has l i b (by simpa using h);simp only[List.take_succ_cons,Cu];rw[this];omega
theorem NC(has:Atom→Bool):∀ l:List Expr,0≤Cu has l∧Cu has l≤l.length
 |[]=>by simp[Cu]
 | e::l=>by
  have:=NC has l;simp only[Cu,List.length_cons];split<;>omega
theorem f219_ok(l:List Atom)(set:List Bool)(hl:l.length≤1000000):∀ (N:Nat) (e:Expr),SizeOf.sizeOf e<N →
 Ac C0 219 [.agg e.c,.mv 218 [SK l set]] [] (B (En (DF l set) e)) []
 | 0,_,h=>by omega
 | N+1,e,h=>by
  refine Ac.lens f219 fun hlen=>?_
  simp only[Fz,lens,Expr.FF,length_map,and_true,true_and]at hlen;refine Ac.go f219 ?_;unfold f219
  by_cases hk:e.kids.length=0
  ·have e1:((e.kids.length:Int)==0)=true:=by simp[hk]
   have ee:En (DF l set) e=DF l set e.atom:=by rw[I3,if_pos hk]
   simp(disch:=omega)only[go_sem,e1,ee];refine Ab (f218_ok l set e.atom hl) ?_;refine gO ?_;exact AH _
  have e1:((e.kids.length:Int)==0)=false:=by simp only[beq_eq_false_iff_ne,ne_eq];omega
  have ee:En (DF l set) e=decide (e.k≤Cu (DF l set) e.kids):=by rw[I3,if_neg hk]
  simp(disch:=omega)only[go_sem,e1,ee];refine Aa (α:=Nat) (fun i=>⟨[(19,I i),(18,I e.kids.length),(17,Gy e.kids),(1,.mv 218 [SK l set]),(2,.ptr 128 0),(5,I (Cu (DF l set) (e.kids.take i)))],[(128,e.c)]⟩) (fun i=>i≤(e.kids).length∧True) (fun i=>(e.kids).length-i) 0 ⟨by omega,trivial⟩ ?_ ?_
  ·refine Imp.weak ?_ ?_
   all_goals(try simp(disch:=omega)only[go_sem])
   all_goals(try(repeat'(with_reducible apply And.intro)))
   all_goals(first|exact .AA (by omega)|exact .Az (by omega)|exact .sl (by simp[Cu])|exact .int (by simp[Cu])|exact .eq (by simp[Cu]))
  rintro i ⟨hi,hP⟩ J hJ;refine gO ?_;refine ⟨fun hlt=>?_,fun hge=>?_⟩;rotate_left;have hil:i=(e.kids).length:=by simp at hge;omega
  rotate_left;obtain⟨b,hb⟩:∃ b,(e.kids)[i]?=some b:=⟨_,gE (by simp at hlt;omega)⟩;have hbm:=mG hb;simp(disch:=omega)only[go_sem,gm,hb]
  ·have hsz:=DY hbm;have hct:=Ku (DF l set) e.kids i b hb;have hbd:=NC (DF l set) (e.kids.take i);have hlt':i<e.kids.length:=by simp at hlt;omega
   have hml:(e.kids.take i).length≤i:=by simp;omega
   refine Ab (f219_ok l set hl N b (by omega)) ?_;refine gO ?_;refine And.intro (fun hh=>?_) (fun hh=>?_)
   ·rw[if_pos hh]at hct;refine hJ _ (i+1) ⟨by omega,trivial⟩ (by omega) (Imp.weak ?_ ?_)
    ·simp(disch:=omega)only[go_sem];exact .int hct.symm
    ·simp(disch:=omega)only[go_sem,Expr.FF]
   ·rw[if_neg (by simp[hh])]at hct;refine hJ _ (i+1) ⟨by omega,trivial⟩ (by omega) (Imp.weak ?_ ?_)
    ·simp(disch:=omega)only[go_sem];exact .int (by omega)
    ·simp(disch:=omega)only[go_sem,Expr.FF]
  ·subst hil;simp(disch:=omega)only[go_sem,take_length];exact AH _
def EI(e:Expr)(set:List Bool):Bool:=!decide ((Ad e).length=0)&&En (DF (Ad e) set) e
theorem f142_ok(e:Expr)(l:List Atom)(set:List Bool)(hl:l.length≤1000000):Ac C0 142 [.agg e.c,Bn l,It set] [] (B (En (DF l set) e)) []:=by
 refine Ac.go f142 ?_;unfold f142;refine gO ?_;refine Ab (f219_ok l set hl _ e (lt_succ_self _)) ?_;refine gO ?_;exact AH _
theorem f209_ok(e:Expr)(set:List Bool):Ac C0 209 [.agg e.c,It set] [] (B (EI e set)) []:=by
 have hl:=CS e;refine Ac.go f209 ?_;unfold f209;refine gO ?_;refine Ab (f87_ok e) ?_
 by_cases h0:(Ad e).length=0
 ·have e1:(0<((Ad e).length:Int))=False:=eq_false (by omega);simp(disch:=omega)only[go_sem,e1,decide_false];refine Ap _ ?_;exact wb (by simp[EI,h0])
 ·have e1:(0<((Ad e).length:Int))=True:=eq_true (by omega);simp(disch:=omega)only[go_sem,e1,decide_true];refine Ab (f142_ok e (Ad e) set (by omega)) ?_;refine gO ?_;refine Ap _ ?_;exact wb (by simp[EI,h0])
def BL(l:List Queue)(p:Proc)(name:Bs):Bool:=l.foldl (fun w q=>if q.res.name==name then (Aj q p).isSome else w) false
theorem Ts{l:List Queue}{i:Nat}{b:Queue}(p:Proc)(name:Bs)(hb:l[i]?=some b):BL (l.take (i+1)) p name=if b.res.name==name then (Aj b p).isSome else BL (l.take i) p name:=by
 unfold BL;rw[take_add_one,hb,toList_some,List.foldl_append];rfl
def G1(s:WS)(n:Need):List Bool:=(Ad n.expr).map fun a=>!BL s.queues n.proc a.name
theorem f210_ok(s:WS)(n:Need)(h:Few s):Ac C0 210 [.agg s.c,.agg n.c] [] (It (G1 s n)) []:=by
 have hl:=CS n.expr;have hn1:=h.nq;refine Ac.go f210 ?_;unfold f210;refine gO ?_;refine Ab (f87_ok n.expr) ?_;refine gO ?_;refine Aa (α:=Nat) (fun i=>⟨[(15,I i),(14,I (Ad n.expr).length),(13,Bn (Ad n.expr)),(2,.ptr 128 0),(3,.ptr 192 0),(5,.sl (.own 2816 0) 1 (((Ad n.expr).take i).map fun a=>[B (!BL s.queues n.proc a.name)]))],[(128,s.c),(192,n.c)]⟩) (fun i=>i≤((Ad n.expr)).length∧True) (fun i=>((Ad n.expr)).length-i) 0 ⟨by omega,trivial⟩ ?_ ?_
 ·exact Ca
 rintro i ⟨hi,hP⟩ J hJ;refine gO ?_;refine ⟨fun hlt=>?_,fun hge=>?_⟩;rotate_left;have hil:i=((Ad n.expr)).length:=by simp at hge;omega
 rotate_left;obtain⟨b,hb⟩:∃ b,((Ad n.expr))[i]?=some b:=⟨_,gE (by simp at hlt;omega)⟩;have hbm:=mG hb;simp(disch:=omega)only[go_sem,gm,hb]
 ·have step:∀ st',Imp ⟨C0,[],[]⟩ st' ⟨[(15,I (i+1:Nat)),(14,I (Ad n.expr).length),(13,Bn (Ad n.expr)),(2,.ptr 128 0),(3,.ptr 192 0),(5,.sl (.own 2816 0) 1 (((Ad n.expr).take i).map (fun a=>[B (!BL s.queues n.proc a.name)])++[[B (!BL s.queues n.proc b.name)]]))],[(128,s.c),(192,n.c)]⟩→J st':=fun st' h=>by
   refine hJ st' (i+1) ⟨by simp at hlt;omega,trivial⟩ (by simp at hlt;omega) ?_;have e:((Ad n.expr).take (i+1)).map (fun a=>[B (!BL s.queues n.proc a.name)])=((Ad n.expr).take i).map (fun a=>[B (!BL s.queues n.proc a.name)])++[[B (!BL s.queues n.proc b.name)]]:=by
    rw[take_add_one,hb];simp
   rw[e];exact h
  have hbd:min i (Ad n.expr).length+1≤4294967296:=by omega
  refine Aa (α:=Nat) (fun j=>⟨[(22,I j),(21,I s.queues.length),(20,Ay s.queues),(8,B (BL (s.queues.take j) n.proc b.name)),(7,.ptr 448 0),(15,I i),(14,I (Ad n.expr).length),(13,Bn (Ad n.expr)),(2,.ptr 128 0),(3,.ptr 192 0),(5,.sl (.own 2816 0) 1 (((Ad n.expr).take i).map fun a=>[B (!BL s.queues n.proc a.name)]))],[(448,b.c),(128,s.c),(192,n.c)]⟩) (fun j=>j≤s.queues.length) (fun j=>s.queues.length-j) 0 (by omega) ?_ ?_
  ·refine Imp.weak ?_ ?_
   ·simp(disch:=omega)only[go_sem,List.take_zero];exact .eq rfl
   ·exact gI
  rintro j hj J2 hJ2;refine gO ?_;refine And.intro (fun hlt2=>?_) (fun hge2=>?_)
  ·obtain⟨q,hq⟩:∃ q,s.queues[j]?=some q:=⟨_,gE (by simp at hlt2;omega)⟩;have hqm:=mG hq;have hqa:=h.aq q hqm;have hq2:q.convs.length+q.waits.length≤1000000:=by unfold BA Bq at hqa;omega
   have hw:=Ts n.proc b.name hq;simp(disch:=omega)only[go_sem,gm,hq];refine And.intro (fun hh=>?_) (fun hh=>?_)
   ·refine Ab (f228_ok q n.proc hq2) ?_;refine gO ?_;rw[if_pos hh]at hw;refine hJ2 _ (j+1) (by simp at hlt2;omega) (by simp at hlt2;omega) (Imp.weak ?_ gI);rw[hw];simp(disch:=omega)only[go_sem]
   ·rw[if_neg (by simp[hh])]at hw;refine hJ2 _ (j+1) (by simp at hlt2;omega) (by simp at hlt2;omega) (Imp.weak ?_ gI);rw[hw];simp(disch:=omega)only[go_sem]
  ·have hjl:j=s.queues.length:=by simp at hge2;omega
   subst hjl;clear hJ2;simp(disch:=omega)only[go_sem,take_length,length_map,length_take];exact step _ AK
 ·subst hil;refine CT ⟨[],[],[2816]⟩ _ ?_;simp(disch:=omega)only[go_sem,take_length];exact .sl (by simp[G1])
theorem Cx{α:Type}{f:Nat→α→Bool}{l:List α}:BO f l=true↔∀ i b,l[i]?=some b→f i b=true:=by
 unfold BO;rw[List.all_eq_true];constructor
 ·intro h i b hb;exact h (b,i) (by rw[List.mk_mem_zipIdx_iff_getElem?];exact hb)
 ·rintro h ⟨b,i⟩ hm;rw[List.mk_mem_zipIdx_iff_getElem?]at hm;exact h i b hm
theorem Ae{α:Type}{l:List α}{i:Nat}{b:α}(h:l[i]?=some b):i<l.length:=by
 rcases Nat.lt_or_ge i l.length with h'|h'
 ·exact h'
 ·rw[List.getElem?_eq_none h']at h;cases h
theorem get_eq{α:Type}{l:List α}{i:Nat}{b:α}(h:l[i]?=some b):l[i]'(Ae h)=b:=by
 rw[gE (Ae h)]at h;exact Option.some.inj h
def QP(l:List Wait):Prop:=l.Pairwise fun a b=>a.proc≠b.proc
theorem Vn(l:List Wait):(∀ (i:Nat) (w:Wait),l[i]?=some w→E2 l w.proc=(i:Int))↔QP l:=by
 unfold QP;rw[List.pairwise_iff_getElem];constructor
 ·intro h i j hi hj hij he;have h1:=h i l[i] (gE hi);have h2:=h j l[j] (gE hj);rw[he,h2]at h1;omega
 ·intro h i w hw;have hi:=Ae hw;have hwe:=get_eq hw;have:l.findIdx? (fun x=>decide (x.proc=w.proc))=some i:=by
   rw[List.findIdx?_eq_some_iff_getElem];refine⟨hi,by simp[hwe],fun j hj=>?_⟩;have:=h j i (by omega) hi hj;rw[hwe]at this;simpa using this
  simp[E2,this]
def L2(l:List Hold):Prop:=l.Pairwise fun a b=>AT a.proc b.proc<0
theorem al(l:List Hold):(∀ i h,l[i]?=some h→(decide (i=0)||decide (AT (l.getD (i-1) h0).proc h.proc<0))=true)↔L2 l:=by
 unfold L2;rw[List.pairwise_iff_getElem];constructor
 ·intro h;have step:∀ i (hi:i+1<l.length),AT l[i].proc l[i+1].proc<0:=fun i hi=>by
   have:=h (i+1) l[i+1] (gE hi);simp only[Nat.add_sub_cancel,Bool.or_eq_true,decide_eq_true_eq]at this;rcases this with h'|h'
   ·omega
   ·simpa [List.getD,gE (show i<l.length by omega)]using h'
  have far:∀ d i (hi:i+d+1<l.length),AT l[i].proc l[i+d+1].proc<0:=by
   intro d
   induction d with
   | zero=>intro i hi;exact step i hi
   | succ d ih =>
    intro i hi;have h1:=ih i (by omega);have h2:=step (i+d+1) (by omega);exact Cz h1 h2
  intro i j hi hj hij;obtain⟨d,rfl⟩:∃ d,j=i+d+1:=⟨j-i-1,by omega⟩;exact far d i hj
 ·intro h i b hb;cases i with
  | zero=>simp
  | succ i =>
   have hi:=Ae hb;have hbe:=get_eq hb;have:=h i (i+1) (by omega) hi (by omega);rw[hbe]at this;simp[List.getD,gE (show i<l.length by omega),this]
theorem CJ(r:Res)(l:List Hold):A4 r l=true↔r.shaped=true∧l.length≤8∧(∀ h∈l,h.proc.ok=true∧r.fits h.amt=true)∧L2 l∧r.compat (l.map (·.amt))=true:=by
 unfold A4;simp only[and_eq_true,decide_eq_true_eq,Cx,DR];rw[← al];constructor
 ·rintro⟨⟨⟨h1,h2⟩,h3⟩,h4⟩;refine⟨h1,h2,fun h hm=>?_,fun i h hi=>(h3 i h hi).2,h4⟩;obtain⟨i,hi,he⟩:=List.getElem_of_mem hm;have:=h3 i h (by rw[gE hi,he]);exact this.1
 ·rintro⟨h1,h2,h3,h4,h5⟩;exact⟨⟨⟨h1,h2⟩,fun i h hi=>⟨h3 h (mG hi),h4 i h hi⟩⟩,h5⟩
theorem Bk(q:Queue):DQ q=true↔q.convs.length≤8∧QP q.convs∧∀ w∈q.convs,(Ak q.holds w.proc).zero=false∧q.res.fits w.amt=true∧q.res.covers w.amt (Ak q.holds w.proc)=true∧w.amt≠Ak q.holds w.proc∧w.prio=0∧w.passed=0:=by
 unfold DQ;simp only[and_eq_true,decide_eq_true_eq,Cx,GO];rw[← Vn];constructor
 ·rintro⟨h1,h2⟩;refine⟨h1,fun i w hi=>(h2 i w hi).1.1.1.1.1.1,fun w hm=>?_⟩;obtain⟨i,hi,he⟩:=List.getElem_of_mem hm;have:=h2 i w (by rw[gE hi,he]);simp at this;obtain⟨⟨⟨⟨⟨⟨_,a⟩,b⟩,c⟩,d⟩,e⟩,f⟩:=this;exact⟨by simpa using a,b,c,d,e,f⟩
 ·rintro⟨h1,h2,h3⟩;refine⟨h1,fun i w hi=>?_⟩;obtain⟨a,b,c,d,e,f⟩:=h3 w (mG hi);exact⟨⟨⟨⟨⟨⟨h2 i w hi,by simp[a]⟩,b⟩,c⟩,by simpa using d⟩,by simpa using e⟩,by simpa using f⟩
theorem B7(l:List Wait):CY l=true↔l.length≤8∧QP l∧∀ w∈l,w.ok=true:=by
 unfold CY;simp only[and_eq_true,decide_eq_true_eq,Cx,ER];rw[← Vn];constructor
 ·rintro⟨h1,h2⟩;refine⟨h1,fun i w hi=>(h2 i w hi).2,fun w hm=>?_⟩;obtain⟨i,hi,he⟩:=List.getElem_of_mem hm;exact(h2 i w (by rw[gE hi,he])).1
 ·rintro⟨h1,h2,h3⟩;exact⟨h1,fun i w hi=>⟨h3 w (mG hi),h2 i w hi⟩⟩
theorem A8(q:Queue):DS q=true↔CY q.waits=true∧q.holds.length+q.waits.length≤8∧∀ w∈q.waits,q.res.fits w.amt=true∧(Ak q.holds w.proc).zero=true:=by
 unfold DS;simp only[and_eq_true,decide_eq_true_eq,List.all_eq_true,GR,and_assoc]
structure Sound(q:Queue):Prop where
 res:Gq q.res=true
 holds:A4 q.res q.holds=true
 convs:DQ q=true
 waits:DS q=true
 gen:0≤q.gen∧q.gen≤1073741824
theorem HN(q:Queue):sound q=true↔Sound q:=by
 unfold sound;simp only[and_eq_true,decide_eq_true_eq];exact⟨fun⟨⟨⟨⟨⟨a,b⟩,c⟩,d⟩,e⟩,f⟩=>⟨a,b,c,d,e,f⟩,fun h=>⟨⟨⟨⟨⟨h.res,h.holds⟩,h.convs⟩,h.waits⟩,h.gen.1⟩,h.gen.2⟩⟩
theorem FW{α:Type}{f g:α→Bool}(h:∀ x,f x=true→g x=true):∀ l:List α,(l.filter g).find? f=l.find? f
 |[]=>rfl
 | x::l=>by
  simp only[List.filter_cons,List.find?_cons];cases hf:f x
  ·cases g x
   ·simpa using FW h l
   ·simp only[if_true,List.find?_cons,hf];exact FW h l
  ·simp[h x hf,hf]
theorem NQ{l:List Hold}{p p':Proc}(h:p'≠p):Ak (As l p) p'=Ak l p':=by
 unfold Ak As;rw[FW];intro x hx;simp at hx ⊢;rw[hx];exact h
theorem Ep{l:List Hold}{p p':Proc}{a:Amt}(h:p'≠p):Ak (BK l p a) p'=Ak l p':=by
 rw[← NQ (l:=l) h];unfold BK;split
 ·rfl
 ·unfold Ak;generalize B8 (As l p) p=k
  conv=>rhs;rw[← List.take_append_drop k (As l p)]
  rw[List.find?_append,List.find?_append,List.find?_cons];have:decide (p=p')=false:=by simpa using Ne.symm h
  simp[this]
theorem NG{l:List Hold}{p:Proc}(h:(Ak l p).zero=false):(As l p).length+1≤l.length:=by
 unfold Ak at h;cases hf:l.find? (fun h=>decide (h.proc=p)) with
 |none=>rw[hf]at h;simp[Amt.zero]at h
 |some x =>
  have hm:=List.mem_of_find?_eq_some hf;have hx:=List.find?_some hf;unfold As;have:(l.filter fun h=>decide (h.proc≠p)).length<l.length:=by
   rw[List.length_filter_lt_length_iff_exists];exact⟨x,hm,by simpa using hx⟩
  omega
theorem Ps{l:List Hold}{p:Proc}{a:Amt}:(BK l p a).length≤(As l p).length+1:=by
 have h2:=Lw (As l p) p;unfold BK;split
 ·omega
 ·simp;omega
theorem FN{r:Res}{a:Amt}(h:r.fits a=true):a.zero=false:=by
 simp only[Res.fits,and_eq_true]at h;obtain⟨h1,h2⟩:=h;split at h2
 ·simp[AX,between]at h2;simp[Amt.zero];omega
 ·simp[between]at h2;simp[Amt.zero];omega
theorem Jd{l:List Hold}{p:Proc}{h:Hold}:h∈As l p↔h∈l∧h.proc≠p:=by simp[As]
theorem Qo{l:List Hold}{p:Proc}{a:Amt}(ha:a.zero=false){h:Hold}:h∈BK l p a↔(h∈l∧h.proc≠p)∨h=⟨p,a⟩:=by
 unfold BK;rw[ha];simp only[Bool.false_eq_true,if_false,List.mem_append,mem_cons];rw[← Jd]
 conv=>rhs;rw[← List.take_append_drop (B8 (As l p) p) (As l p),List.mem_append]
 constructor
 ·rintro(h|h|h)
  ·exact .inl (.inl h)
  ·exact .inr h
  ·exact .inl (.inr h)
 ·rintro((h|h)|h)
  ·exact .inl h
  ·exact .inr (.inr h)
  ·exact .inr (.inl h)
end Go.Rd
