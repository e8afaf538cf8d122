/- part 13 of the proof -/
import Derived.Test.YthachdiockkofaaGreatDoorW12
set_option linter.all false
open Go Go.Abs Go.Proofs
set_option maxRecDepth 100000
namespace Go.Rd
set_option maxHeartbeats 8000000
open List (drop_drop getElem_mem length_drop length_map length_take map_set mem_cons pairwise_cons take_add_one take_length)
open Bool (and_eq_true not_eq_true')
open Option (toList_some)
open Nat (lt_succ_self)
open Tryz
theorem Ma:∀ (l:List Ae) (a b:Ae),Dn (l++[a]++[b])=if a=b then Dn (l++[a]) else Dn (l++[a])++[b]
 |[],a,b=>by
  by_cases h:a=b<;>simp[Dn,h]
 |[x],a,b=>by
  have:=Ma [] a b;simp only[List.nil_append,List.cons_append]at this ⊢;simp only[Dn]at this ⊢
  by_cases h:a=b<;>by_cases h':x=a<;>simp[h,h']at this ⊢<;>(try simp[Dn])<;>simp_all
 | x::y::l,a,b=>by
  have:=Ma (y::l) a b;simp only[List.cons_append]at this ⊢;simp only[Dn]
  by_cases h:x=y
  ·simp only[h,if_true];exact this
  ·simp only[h,if_false];rw[this]
   by_cases h':a=b<;>simp[h']
theorem MO:∀ l:List Ae,(Dn l).length≤l.length
 |[]=>by simp[Dn]
 |[a]=>by simp[Dn]
 | a::b::l=>by
  have:=MO (b::l);simp only[Dn];split
  ·simp at this ⊢;omega
  ·simp at this ⊢;omega
theorem G3{l:List Ae}{i:Nat}{b:Ae}(hb:l[i]?=some b):l.take (i+1)=l.take i++[b]:=by rw[take_add_one,hb];rfl
theorem Mb{l:List Ae}{i:Nat}{a b:Ae}(ha:l[i]?=some a)(hb:l[i+1]?=some b):Dn (l.take (i+2))=if a=b then Dn (l.take (i+1)) else Dn (l.take (i+1))++[b]:=by
 rw[G3 hb,G3 ha,Ma]
@[reducible] def KY(r:Nat)(l:List Ae):AV:=.sl (.own r 0) 3 (l.map Ae.c)
theorem Yi(k:Nat)(cs es:List (List AV)):(over 0 k cs es).take k=es.take k:=by
 refine List.ext_getElem? fun i=>?_
 rw[List.getElem?_take,List.getElem?_take];split
 ·rename_i h;have hn:¬ (k≤i):=by omega
  simp only[over,List.getElem?_mapIdx,Nat.zero_add,hn,if_false];cases es[i]?<;>rfl
 ·rfl
theorem Um{α:Type}{l cur:List α}{d i:Nat}(h:cur.drop d=l.drop d)(hi:d≤i):cur[i]?=l[i]?:=by
 have:=congrArg (fun x=>x[i-d]?) h;simp only[List.getElem?_drop]at this
 rwa [show d+(i-d)=i by omega]at this
theorem f198_ok(l:List Ae)(hl:l.length≤1000000):Ad C0 198 [KY 0 l] [] (KY 1 (Dn l)) []:=by
 refine Ad.go f198 ?_;unfold f198
 by_cases h2:l.length<2
 ·have e1:((l.length:Int)<2)=True:=eq_true (by omega);have e:Dn l=l:=by
   match l,h2 with
   |[],_=>rfl
   |[a],_=>rfl
   | a::b::l,h=>simp at h;omega
  simp(disch:=omega)only[go_sem,e1];refine Bc ⟨[(0,1)],[],[]⟩ _ rfl ⟨rfl,rfl⟩ (by simp[lk]) ?_ trivial;simp(disch:=omega)only[go_sem,e]
 have e1:((l.length:Int)<2)=False:=eq_false (by omega);simp(disch:=omega)only[go_sem,e1,decide_false];refine Ab (α:=Nat) (fun i=>⟨[(3,I (i+1:Nat)),(0,KY 0 l)],[]⟩) (fun i=>i+1≤l.length∧Dn (l.take (i+1))=l.take (i+1)) (fun i=>l.length-i) 0 ⟨by omega,by
  match l,h2 with
  | a::b::l,_=>rfl
  |[a],h=>exact absurd (by simp) h
  |[],h=>exact absurd (by simp) h⟩ ?_ ?_
 ·exact Imp.Am gI gI
 rintro i ⟨hi,hc⟩ J hJ
 by_cases hlt:i+1<l.length
 ·have z1:(((i+1:Nat):Int)<l.length)=True:=eq_true (by omega);obtain⟨a,ha⟩:∃ a,l[i]?=some a:=⟨_,gE (by omega)⟩;obtain⟨b,hb⟩:∃ b,l[i+1]?=some b:=⟨_,gE (by omega)⟩;have z2:((i:Int)+1<l.length)=True:=eq_true (by omega);have z3:((i:Int)+1-1)=(i:Int):=by omega
  have z4:((i:Int)+1)=((i+1:Nat):Int):=rfl;simp(disch:=omega)only[go_sem,z1,z2];refine Aq 9 [([],[0]),([],[3]),([],[16,17]),([],[18]),([],[0]),([],[3]),([],[21]),([],[20,22]),([],[23])] fol ?_;simp(disch:=omega)only[go_sem,z3,gm,ha,hb];refine⟨fun h=>?_,fun h=>?_⟩;rotate_left
  ·have hne:a≠b:=fun e=>by simp[e]at h
   refine hJ _ (i+1) ⟨by omega,?_⟩ (by omega) AR;rw[Mb ha hb,if_neg hne,hc,← G3 hb]
  have hab:a=b:=by simp at h;exact h.symm
  have hcc:Dn (l.take (i+1+1))=l.take (i+1):=by rw[Mb ha hb,if_pos hab,hc]
  clear hJ h hb z1 z2 z3 z4 ha hab hc;generalize hm:i+1=m at hlt hcc;refine Ab (α:=List Ae × Nat × Nat) (fun x=>⟨[(5,I x.2.2),(3,I x.2.1),(4,.sl (.own 0 m) 3 ((x.1.drop m).map Ae.c)),(0,KY 0 x.1)],[]⟩)
   (fun x=>x.1.length=l.length∧1≤x.2.2∧m+x.2.2≤l.length∧m≤x.2.1∧x.2.1+1≤m+x.2.2∧x.1.take x.2.1=Dn (l.take (m+x.2.2))∧x.1.drop (m+x.2.2-1)=l.drop (m+x.2.2-1)) (fun x=>l.length-m-x.2.2) (l,m,1) ⟨rfl,by simp,by simp;omega,by simp,by simp,by simp[hcc],rfl⟩ ?_ ?_
  ·refine Imp.Am ?_ gI;simp(disch:=omega)only[go_sem,hm];refine⟨.int (by omega),.sl ?_⟩;rw[List.map_drop];exact List.take_of_length_le (by simp)
  rintro⟨cur,k,j⟩ ⟨i1,i2,i3,i4,i5,i6,i7⟩ J hJ
  replace i1:cur.length=l.length:=i1
  replace i2:1≤j:=i2
  replace i3:m+j≤l.length:=i3
  replace i4:m≤k:=i4
  replace i5:k+1≤m+j:=i5
  replace i6:cur.take k=Dn (l.take (m+j)):=i6
  replace i7:cur.drop (m+j-1)=l.drop (m+j-1):=i7
  obtain⟨j,rfl⟩:∃ j',j=j'+1:=⟨j-1,by omega⟩
  by_cases hj:m+(j+1)<l.length
  ·have y1:((j:Int)+1<((l.length-m:Nat):Int))=True:=eq_true (by omega);obtain⟨x,hx⟩:∃ x,l[m+(j+1)]?=some x:=⟨_,gE hj⟩;obtain⟨y,hy⟩:∃ y,l[m+j]?=some y:=⟨_,gE (by omega)⟩;have cx:cur[m+(j+1)]?=some x:=by rw[Um i7 (by omega),hx]
   have cy:cur[m+j]?=some y:=by rw[Um i7 (by omega),hy]
   have hst:=Mb hy hx;have y3:((j:Int)+1-1)=(j:Int):=by omega
   obtain⟨z,hz⟩:∃ z,cur[k]?=some z:=⟨_,gE (by omega)⟩;have y4:(m≤k)=True:=eq_true i4;simp(disch:=omega)only[go_sem,length_drop,i1,y1];refine Aq 9 [([],[4]),([],[5]),([],[35,36]),([],[37]),([],[4]),([],[5]),([],[40]),([],[39,41]),([],[42])] fol ?_;simp(disch:=omega)only[go_sem,y3,y4,gm,List.getElem?_drop,cx,cy,hz,length_drop,i1];refine⟨fun h=>?_,fun h=>?_⟩
   ·have hne:y≠x:=fun e=>by simp[e]at h
    rw[if_neg hne]at hst;refine hJ _ (cur.set k x,k+1,j+1+1) ⟨by simp[i1],by simp,by simp;omega,by simp;omega,by simp;omega,?_,?_⟩ (by simp;omega) (Imp.Am ?_ gI)
    ·rw[show m+(j+1+1)=m+j+2 by omega,hst,show m+j+1=m+(j+1) by omega,← i6];rw[take_add_one,List.getElem?_set_self (by omega),List.take_set_of_le (by omega)];rfl
    ·rw[show m+(j+1+1)-1=m+(j+1) by omega,List.drop_set_of_lt (by omega)];have:=congrArg (List.drop 1) i7;rw[drop_drop,drop_drop,show m+(j+1)-1+1=m+(j+1) by omega]at this;exact this
    ·simp(disch:=omega)only[go_sem];have hs1:(cur.set k x).drop m=(cur.drop m).set (k-m) x:=by rw[List.drop_set,if_neg (by omega)]
     refine⟨.sl ?_,.sl ?_⟩
     ·rw[hs1,map_set];rfl
     ·rw[map_set];rfl
   ·have hne:y=x:=by simp at h;exact h.symm
    rw[if_pos hne]at hst;refine hJ _ (cur,k,j+1+1) ⟨i1,by simp,by simp;omega,i4,by simp;omega,?_,?_⟩ (by simp;omega) AR
    ·rw[show m+(j+1+1)=m+j+2 by omega,hst,show m+j+1=m+(j+1) by omega,← i6]
    ·rw[show m+(j+1+1)-1=m+(j+1) by omega];have:=congrArg (List.drop 1) i7;rw[drop_drop,drop_drop,show m+(j+1)-1+1=m+(j+1) by omega]at this;exact this
  ·have y1:((j:Int)+1<((l.length-m:Nat):Int))=False:=eq_false (by omega);have hmj:m+(j+1)=l.length:=by omega
   rw[hmj,take_length]at i6;have hkl:k≤l.length:=by omega
   have y4:(k≤l.length)=True:=eq_true hkl;have y5:(over 0 k (List.replicate (l.length-k) [.v (.int .i64 0),.v (.int .i64 0),.v (.int .i64 0)]) (cur.map Ae.c)).take k=(Dn l).map Ae.c:=by rw[Yi,← List.map_take,i6]
   clear hJ;simp(disch:=omega)only[go_sem,length_drop,i1,y1,decide_false,y4,Nat.sub_zero,GY,length_take,Nat.min_self];refine Bc ⟨[(0,1)],[],[]⟩ _ rfl ⟨rfl,rfl⟩ (by simp[lk]) ?_ trivial;simp(disch:=omega)only[go_sem,y5]
 ·have hil:i+1=l.length:=by omega
  have z1:((i:Int)+1<l.length)=False:=eq_false (by omega);rw[hil,take_length]at hc;simp(disch:=omega)only[go_sem,z1,decide_false];refine Bc ⟨[(0,1)],[],[]⟩ _ rfl ⟨rfl,rfl⟩ (by simp[lk]) ?_ trivial;simp(disch:=omega)only[go_sem,hc]
theorem ZU{cs es:List (List AV)}(h:cs.length=es.length):over 0 0 cs es=cs:=by
 refine List.ext_getElem? fun i=>?_
 simp only[over,List.getElem?_mapIdx,Nat.zero_add,Nat.zero_le,if_true,Nat.sub_zero]
 by_cases hi:i<es.length
 ·rw[gE hi,gE (by omega)];simp
 ·rw[List.getElem?_eq_none (l:=es) (by omega),List.getElem?_eq_none (l:=cs) (by omega)];rfl
def H9(l:List Ae):Prop:=l.Pairwise fun a b=>Bo a b<0
theorem Oh(x:Ae):∀ l:List Ae,x∈Dn l↔x∈l
 |[]=>by simp[Dn]
 |[a]=>by simp[Dn]
 | a::b::l=>by
  have:=Oh x (b::l);simp only[Dn];split
  ·rename_i h;subst h;rw[this];simp
  ·simp only[mem_cons]at this ⊢;rw[this]
theorem TQ:∀ l:List Ae,(l.Pairwise fun a b=>Bo a b≤0)→H9 (Dn l)
 |[],_=>by simp[Dn,H9]
 |[a],_=>by simp[Dn,H9]
 | a::b::l,h=>by
  have hp:=pairwise_cons.1 h;have ih:=TQ (b::l) hp.2;simp only[Dn];split
  ·exact ih
  ·rename_i hne;refine pairwise_cons.2 ⟨fun x hx=>?_,ih⟩;rw[Oh]at hx;have h1:=hp.1 x hx;have h2:=hp.1 b (by simp);have hb:Bo b x≤0:=by
    rcases mem_cons.1 hx with e|e
    ·subst e;rw[DI];omega
    ·exact(pairwise_cons.1 hp.2).1 x e
   have hab:Bo a b<0:=by
    rcases Int.lt_or_eq_of_le h2 with h|h
    ·exact h
    ·exact absurd (FX h) hne
   rcases Int.lt_or_eq_of_le hb with h|h
   ·exact Dt hab h
   ·rw[← FX h];exact hab
theorem Yc(x:Ae)(l:List Ae):x∈K9 l↔x∈l:=by
 unfold K9;exact List.mem_mergeSort
theorem WB(l:List Ae):(K9 l).Pairwise fun a b=>Bo a b≤0:=by
 have:=List.pairwise_mergeSort (le:=fun x y=>!(Go.Proofs.ltOf Bo) y x) (fun a b c h1 h2=>by
  rw[Ih]at *;simp only[not_eq_true',decide_eq_false_iff_not]at *;intro h;have e1:=C3 a b;have e2:=C3 b c
  by_cases h3:Bo a b=0
  ·rw[FX h3]at h;exact h2 h
  ·exact h2 (Dt h (by omega))) (fun a b=>by
  rw[Ih,Ih];have:=C3 a b;simp only[Bool.or_eq_true,not_eq_true',decide_eq_false_iff_not];omega) l
 refine List.Pairwise.imp (fun {a b} h=>?_) this;rw[Ih]at h;have:=C3 a b;simp only[not_eq_true',decide_eq_false_iff_not]at h;omega
theorem MF:∀ {l m:List Ae},H9 l→H9 m→(∀ x,x∈l↔x∈m)→l=m
 |[],[],_,_,_=>rfl
 |[],b::m,_,_,h=>by have:=(h b).2 (by simp);cases this
 | a::l,[],_,_,h=>by have:=(h a).1 (by simp);cases this
 | a::l,b::m,hl,hm,h=>by
  have h1:=pairwise_cons.1 hl;have h2:=pairwise_cons.1 hm;have hab:a=b:=by
   have ha:=(h a).1 (by simp);have hb:=(h b).2 (by simp);rcases mem_cons.1 ha with e|e
   ·exact e
   ·rcases mem_cons.1 hb with e'|e'
    ·exact e'.symm
    ·have k1:=h2.1 a e;have k2:=h1.1 b e';have:=C3 a b;omega
  subst hab;have:l=m:=MF h1.2 h2.2 fun x=>by
   have hx:=h x;simp only[mem_cons]at hx;constructor
   ·intro hm';rcases hx.1 (.inr hm') with e|e
    ·subst e;have:=h1.1 x hm';rw[DI]at this;omega
    ·exact e
   ·intro hm';rcases hx.2 (.inr hm') with e|e
    ·subst e;have:=h2.1 x hm';rw[DI]at this;omega
    ·exact e
  rw[this]
theorem HA{l:List Ae}(h:H9 l):l.Nodup:=by
 refine List.Pairwise.imp (fun {a b} h e=>?_) h;subst e;rw[DI]at h;omega
def Uq(p:Ae):List Ae→List Ae
 |[]=>[p]
 | x::l=>if Bo p x<0 then p::x::l else if p=x then x::l else x::Uq p l
def Ur:List Ae→List Ae
 |[]=>[]
 | p::l=>Uq p (Ur l)
theorem QC(p x:Ae):∀ l:List Ae,x∈Uq p l↔x=p∨x∈l
 |[]=>by simp[Uq]
 | y::l=>by
  have:=QC p x l;simp only[Uq];split
  ·simp
  ·split
   ·rename_i h;subst h;simp
   ·simp only[mem_cons,this];constructor
    ·rintro(h|h|h)
     ·exact .inr (.inl h)
     ·exact .inl h
     ·exact .inr (.inr h)
    ·rintro(h|h|h)
     ·exact .inr (.inl h)
     ·exact .inl h
     ·exact .inr (.inr h)
theorem TR(p:Ae):∀ l:List Ae,H9 l→H9 (Uq p l)
 |[],_=>by simp[Uq,H9]
 | y::l,h=>by
  have hp:=pairwise_cons.1 h;simp only[Uq];split
  ·rename_i hlt;refine pairwise_cons.2 ⟨fun x hx=>?_,h⟩;rcases mem_cons.1 hx with e|e
   ·rw[e];exact hlt
   ·exact Dt hlt (hp.1 x e)
  ·split
   ·exact h
   ·rename_i h1 h2;refine pairwise_cons.2 ⟨fun x hx=>?_,TR p l hp.2⟩;rcases(QC p x l).1 hx with e|e
    ·subst e;have h3:=C3 x y;have h4:Bo x y≠0:=fun e=>h2 (FX e)
     omega
    ·exact hp.1 x e
theorem QD(x:Ae):∀ l:List Ae,x∈Ur l↔x∈l
 |[]=>by simp[Ur]
 | y::l=>by simp only[Ur,QC,QD x l,mem_cons]
theorem PL:∀ l:List Ae,H9 (Ur l)
 |[]=>by simp[Ur,H9]
 | y::l=>TR y _ (PL l)
theorem P3(l:List Ae):Dn (K9 l)=Ur l:=MF (TQ _ (WB l)) (PL l) fun x=>by rw[Oh,Yc,QD]
def J8(l:List Ae):List Ae:=Ur l
theorem HH(x:Ae)(l:List Ae):x∈J8 l↔x∈l:=QD x l
theorem EC(l:List Ae):H9 (J8 l):=PL l
theorem JV(l:List Ae):(K9 l).length=l.length:=by simp[K9]
theorem f131_ok(l:List Ae)(hl:l.length≤1000000):Ad C0 131 [Ax l] [] (Ax (J8 l)) []:=by
 refine Ad.go f131 ?_;unfold f131;have hb:l.length≤4294967296:=by omega
 refine gO ?_;refine YQ (Y9 l hl) rfl ?_;have ho:over 0 0 ((K9 l).map Ae.c) (l.map Ae.c)=(K9 l).map Ae.c:=ZU (by simp[JV]);simp(disch:=omega)only[go_sem,ho];refine Bn ⟨⟨[(320,0)],[],[]⟩,[(1,576)],[]⟩ (f198_ok (K9 l) (by rw[JV];exact hl)) gI rfl trivial (.inl rfl) ?_;refine gO ?_;refine Cf ⟨[],[],[576]⟩ _ ?_;simp(disch:=omega)only[go_sem,J8,P3]
theorem f148_ok(l:List Ae)(p:Ae)(hl:l.length≤1000000):Ad C0 148 [Ax l,.agg p.c] [] (I (match l.findIdx? (fun x=>decide (x=p)) with|some i=>i|none=>-1)) []:=by
 refine Ad.go f148 ?_;unfold f148;refine gO ?_;refine Ab (α:=Nat) (fun i=>⟨[(8,I i),(7,I l.length),(0,Ax l),(3,.ptr 192 0)],[(192,p.c)]⟩) (fun i=>i≤(l).length∧(l.take i).find? (fun x=>decide (x=p))=none) (fun i=>(l).length-i) 0 ⟨by omega,rfl⟩ ?_ ?_
 ·exact BB
 rintro i ⟨hi,hP⟩ J hJ;refine gO ?_;refine ⟨fun hlt=>?_,fun hge=>?_⟩;rotate_left;have hil:i=(l).length:=by simp at hge;omega
 rotate_left;obtain⟨b,hb⟩:∃ b,(l)[i]?=some b:=⟨_,gE (by simp at hlt;omega)⟩;have hbm:=mG hb;have hlt2:i<(l).length:=by simp at hlt;omega
 refine Aq 5 [([],[3]),([],[0]),([],[5]),([],[12,13]),([],[14])] fol ?_;simp(disch:=omega)only[go_sem,gm,hb]
 ·refine⟨fun h=>?_,fun h=>?_⟩
  ·have e:l.findIdx? (fun x=>decide (x=p))=some i:=FA hP b hb (by simp at h;simp[h]);simp(disch:=omega)only[go_sem,e];exact AE _
  ·refine hJ _ (i+1) ⟨by simp at hlt;omega,(by rw[BS hP hb];simp at h;simp[Ne.symm h])⟩ (by simp at hlt;omega) AR
 ·subst hil;rw[take_length]at hP;have e:l.findIdx? (fun x=>decide (x=p))=none:=by
   rw[List.findIdx?_eq_none_iff];rw[List.find?_eq_none]at hP;intro x hx;simpa using hP x hx
  simp(disch:=omega)only[go_sem,e];exact AE _
theorem f111_ok(l:List Ae)(p:Ae)(hl:l.length≤1000000):Ad C0 111 [Ax l,.agg p.c] [] (B (Be l p)) []:=by
 refine Ad.go f111 ?_;unfold f111;refine gO ?_;refine Ac (f148_ok l p hl) ?_;refine gO ?_;refine Bc ⟨[],[],[]⟩ _ rfl ⟨rfl,rfl⟩ (by simp) ?_ trivial;refine wb ?_;unfold Be;cases h:l.findIdx? (fun x=>decide (x=p)) with
 |none =>
  rw[List.findIdx?_eq_none_iff]at h;have:p∉l:=fun hp=>by simpa using h p hp
  simp[this]
 |some i =>
  have:=(List.findIdx?_eq_some_iff_getElem.1 h);obtain⟨h1,h2,_⟩:=this;have hm:p∈l:=by simp at h2;rw[← h2];exact getElem_mem h1
  simp[hm]
theorem f59_ok(l:List Ae)(p:Ae)(hl:l.length≤1000000):Ad C0 59 [Ax l,.agg p.c] [] (B (Be l p)) []:=by
 refine Ad.go f59 ?_;unfold f59;refine gO ?_;refine Ac (f111_ok l p hl) ?_;refine gO ?_;exact AE _
theorem Za(l:List AO)(hl:l.length≤1000000):Ad C0 199 [AH l] [] (KY 0 (CY l)) []:=by
 refine Ad.go f199 ?_;unfold f199;refine gO ?_;refine Ab (α:=Nat) (fun i=>⟨[(8,I i),(7,I l.length),(6,AH l),(3,.sl (.own 1024 0) 3 ((CY (l.take i)).map Ae.c))],[]⟩) (fun i=>i≤(l).length∧True) (fun i=>(l).length-i) 0 ⟨by omega,trivial⟩ ?_ ?_
 ·exact BB
 rintro i ⟨hi,hP⟩ J hJ;refine gO ?_;refine ⟨fun hlt=>?_,fun hge=>?_⟩;rotate_left;have hil:i=(l).length:=by simp at hge;omega
 rotate_left;obtain⟨b,hb⟩:∃ b,(l)[i]?=some b:=⟨_,gE (by simp at hlt;omega)⟩;have hbm:=mG hb;simp(disch:=omega)only[go_sem,gm,hb]
 ·simp(disch:=omega)only[go_sem,CY];refine hJ _ (i+1) ⟨by simp at hlt;omega,trivial⟩ (by simp at hlt;omega) (Imp.Am ?_ ?_)
  all_goals(try simp(disch:=omega)only[go_sem])
  all_goals(try(repeat'(with_reducible apply And.intro)))
  all_goals(first|exact .AG (by omega)|exact .Az (by omega)|exact .sl (by simp[CY,take_add_one,hb,Ae.c])|exact .int (by simp[CY,take_add_one,hb,Ae.c])|exact .eq (by simp[CY,take_add_one,hb,Ae.c]))
 ·subst hil;refine Bc ⟨[(1024,0)],[],[]⟩ _ rfl ⟨rfl,rfl⟩ (by simp[lk]) ?_ trivial;simp(disch:=omega)only[go_sem,take_length]
def Br(q:Queue):List Ae:=J8 (CY q.holds++Bt (q.An++q.waits))
theorem f132_ok(q:Queue)(h:BC q≤1000000):Ad C0 132 [.agg q.c] [] (Ax (Br q)) []:=by
 have h1:q.holds.length≤1000000:=by unfold BC at h;omega
 have h2:q.An.length+q.waits.length≤1000000:=by unfold BC BQ at h;omega
 have h3:(CY q.holds).length+(Bt (q.An++q.waits)).length≤1000000:=by simp[CY,Bt];unfold BC BQ at h;omega
 have h4:(CY q.holds).length+(Bt (q.An++q.waits)).length≤4294967296:=by omega
 refine Ad.go f132 ?_;unfold f132;refine gO ?_;refine Aq 4 [([],[1]),([],[3]),([],[4]),([],[1])] fol ?_;refine gO ?_;refine Aw ⟨⟨[],[],[]⟩,[(0,320)],[]⟩ (Za q.holds h1) gI rfl rfl trivial (.inl rfl) ?_;refine gO ?_;refine Ac (f147_ok q h2) ?_;refine gO ?_;refine FW [512] (f131_ok (CY q.holds++Bt (q.An++q.waits)) (by simpa using h3)) (by simp(disch:=omega)only[go_sem];exact .sl (by simp)) rfl ?_;refine gO ?_;refine B8 _ ?_;simp(disch:=omega)only[go_sem,Br]
def q0:Queue:=⟨⟨[],0,0,0⟩,[],[],[],0⟩
def E9(q:Queue)(p:Ae):Queue × List AO × Int:=if valid q then (if Be (Br q) p then (Fh (B3 q p),(B1 (B3 q p)).2,0) else (q0,[],10)) else (q0,[],2)
theorem NR(l:List Ae):(J8 l).length≤l.length:=by
 have:=MO (K9 l);rw[JV,P3]at this;exact this
theorem H5(q:Queue):(Br q).length≤BC q:=by
 have:=NR (CY q.holds++Bt (q.An++q.waits));unfold Br BC BQ;simp[CY,Bt]at this ⊢;omega
theorem f133_ok(q:Queue)(p:Ae)(h:BC q+1≤1000000):Ad C0 133 [.agg q.c,.agg p.c] [] (.tup [.agg (E9 q p).1.c,AH (E9 q p).2.1,I (E9 q p).2.2]) []:=by
 have h1:q.holds.length≤1000000:=by unfold BC at h;omega
 have h2:q.An.length≤1000000:=by unfold BC BQ at h;omega
 have h3:q.waits.length≤1000000:=by unfold BC BQ at h;omega
 refine Ad.go f133 ?_;unfold f133;refine gO ?_;refine Ac (f101_ok q h1 h3) ?_;cases hv:valid q
 ·have e:E9 q p=(q0,[],2):=by simp[E9,hv]
  simp(disch:=omega)only[go_sem,Bool.not_false,e,q0];refine Ap _ ?_;refine .tup (Aj.AM ?_);simp(disch:=omega)only[go_sem]
  repeat'(with_reducible apply And.intro)
  all_goals(first|exact .Az (by omega)|exact .agg (Aj.AM gI))
 simp(disch:=omega)only[go_sem,Bool.not_true];refine Aq 3 [([],[2]),([],[12]),([],[3])] fol ?_;refine gO ?_;refine Ar (f132_ok q (by omega)) ?_;refine gO ?_;refine Ac (f59_ok (Br q) p (by have:=H5 q;omega)) ?_;refine gO ?_;refine And.intro (fun hh=>?_) (fun hh=>?_)
 ·have hh':Be (Br q) p=false:=by simpa using hh
  have e:E9 q p=(q0,[],10):=by simp[E9,hv,hh']
  simp(disch:=omega)only[go_sem,e,q0];refine Ap _ ?_;refine .tup (Aj.AM ?_);simp(disch:=omega)only[go_sem]
  repeat'(with_reducible apply And.intro)
  all_goals(first|exact .Az (by omega)|exact .agg (Aj.AM gI))
 have hh':Be (Br q) p=true:=by simpa using hh
 have e:E9 q p=(Fh (B3 q p),(B1 (B3 q p)).2,0):=by simp[E9,hv,hh']
 simp(disch:=omega)only[go_sem,e];refine Ac (f200_ok q h1 h2 h3) ?_;refine gO ?_;refine Bn ⟨⟨[],[(448,63),(192,127)],[]⟩,[],[]⟩ (f201_ok q p h) gI rfl gI (.inl rfl) ?_;refine gO ?_;exact AE _
structure Few(s:WS):Prop where
 nq:s.Aa.length≤100
 nn:s.Ao.length≤100
 aq:∀ q∈s.Aa,BC q≤100
def AN(l:List Queue):List Ae:=J8 (l.flatMap Br)
def Cp(l:List Need):List Ae:=l.map (·.proc)
def Ah(s:WS):List Ae:=J8 (AN s.Aa++Cp s.Ao)
theorem KE{l:List Queue}(h:∀ q∈l,BC q≤100):(l.flatMap Br).length≤l.length*100:=by
 induction l with
 | nil=>simp
 | cons q l ih =>
  have h1:=H5 q;have h2:=h q (by simp);have h3:=ih fun q' hq=>h q' (by simp[hq])
  simp only[List.flatMap_cons,List.length_append,List.length_cons];omega
theorem f130_ok(l:List Queue)(h1:l.length≤100)(h2:∀ q∈l,BC q≤100):Ad C0 130 [Ay l] [] (Ax (AN l)) []:=by
 refine Ad.go f130 ?_;unfold f130;refine gO ?_;refine Ab (α:=Nat) (fun i=>⟨[(8,I i),(7,I l.length),(6,Ay l),(3,.sl (.own 960 0) 3 (((l.take i).flatMap Br).map Ae.c))],[]⟩) (fun i=>i≤(l).length∧True) (fun i=>(l).length-i) 0 ⟨by omega,trivial⟩ ?_ ?_
 ·exact BB
 rintro i ⟨hi,hP⟩ J hJ;refine gO ?_;refine ⟨fun hlt=>?_,fun hge=>?_⟩;rotate_left;have hil:i=(l).length:=by simp at hge;omega
 rotate_left;obtain⟨b,hb⟩:∃ b,(l)[i]?=some b:=⟨_,gE (by simp at hlt;omega)⟩;have hbm:=mG hb;simp(disch:=omega)only[go_sem,gm,hb]
 ·have hfl:=KE (l:=l.take i) fun q hq=>h2 q (List.mem_of_mem_take hq)
  have hq:=H5 b;have hb2:=h2 b hbm;have hbd:((l.take i).flatMap Br).length+(Br b).length≤4294967296:=by simp only[length_take]at hfl;omega
  refine Ac (f132_ok b (by omega)) ?_;refine gO ?_;refine hJ _ (i+1) ⟨by simp at hlt;omega,trivial⟩ (by simp at hlt;omega) (Imp.Am ?_ ?_)
  all_goals(try simp(disch:=omega)only[go_sem])
  all_goals(try(repeat'(with_reducible apply And.intro)))
  all_goals(first|exact .AG (by omega)|exact .Az (by omega)|exact .sl (by simp[take_add_one,hb])|exact .int (by simp[take_add_one,hb])|exact .eq (by simp[take_add_one,hb]))
 ·subst hil;have hfl:=KE h2;refine FW [960] (f131_ok (l.flatMap Br) (by omega)) (by simp(disch:=omega)only[go_sem,take_length]) rfl ?_;refine gO ?_;refine B8 _ ?_;simp(disch:=omega)only[go_sem,AN]
theorem KZ{l:List Queue}(h:∀ q∈l,BC q≤100):(AN l).length≤l.length*100:=Nat.le_trans (NR _) (KE h)
theorem f73_ok(s:WS)(h:Few s):Ad C0 73 [.agg s.c] [] (Ax (Ah s)) []:=by
 have hq:=KZ h.aq;have h1:=h.nq;have h2:=h.nn;have hbd:(AN s.Aa).length≤4294967296:=by omega
 refine Ad.go f73 ?_;unfold f73;refine gO ?_;refine Ac (f130_ok s.Aa h.nq h.aq) ?_;refine gO ?_;refine Ab (α:=Nat) (fun i=>⟨[(13,I i),(12,I s.Ao.length),(11,DU s.Ao),(3,.sl (.own 1344 0) 3 ((AN s.Aa++Cp (s.Ao.take i)).map Ae.c))],[]⟩) (fun i=>i≤(s.Ao).length∧True) (fun i=>(s.Ao).length-i) 0 ⟨by omega,trivial⟩ ?_ ?_
 ·refine Imp.ren ⟨[(576,1344)],[],[]⟩ ⟨rfl,rfl⟩ (by simp[lk]) ?_ ?_
  all_goals(try simp(disch:=omega)only[go_sem])
  all_goals(try(repeat'(with_reducible apply And.intro)))
  all_goals(first|exact .AG (by omega)|exact .Az (by omega)|exact .sl (by simp[Cp])|exact .int (by simp[Cp])|exact .eq (by simp[Cp]))
 rintro i ⟨hi,hP⟩ J hJ;refine gO ?_;refine ⟨fun hlt=>?_,fun hge=>?_⟩;rotate_left;have hil:i=(s.Ao).length:=by simp at hge;omega
 rotate_left;obtain⟨b,hb⟩:∃ b,(s.Ao)[i]?=some b:=⟨_,gE (by simp at hlt;omega)⟩;have hbm:=mG hb;simp(disch:=omega)only[go_sem,gm,hb]
 ·have hbd2:(AN s.Aa).length+(Cp (s.Ao.take i)).length+1≤4294967296:=by simp[Cp];omega
  simp(disch:=omega)only[go_sem,Cp];refine hJ _ (i+1) ⟨by simp at hlt;omega,trivial⟩ (by simp at hlt;omega) (Imp.Am ?_ ?_)
  all_goals(try simp(disch:=omega)only[go_sem])
  all_goals(try(repeat'(with_reducible apply And.intro)))
  all_goals(first|exact .AG (by omega)|exact .Az (by omega)|exact .sl (by simp[Cp,take_add_one,hb,Ae.c])|exact .int (by simp[Cp,take_add_one,hb,Ae.c])|exact .eq (by simp[Cp,take_add_one,hb,Ae.c]))
 ·subst hil;refine FW [1344] (f131_ok (AN s.Aa++Cp s.Ao) (by simp[Cp];omega)) (by simp(disch:=omega)only[go_sem,take_length]) rfl ?_;refine gO ?_;refine B8 _ ?_;simp(disch:=omega)only[go_sem,Ah]
def Cd(q:Queue)(p:Ae):Queue:=if valid q&&Be (Br q) p then { Fh (B3 q p) with gen:=q.gen } else q
def Jf(l:List Need)(p:Ae):List Need:=l.filter fun n=>decide (n.proc≠p)
def BP(s:WS)(p:Ae):WS:=⟨s.Aa.map fun q=>Cd q p,Jf s.Ao p⟩
@[reducible] def wsz:List AV:=[.sl .no 8 [],.sl .no 9 []]
@[go_sem] theorem fT(p q:Ae):(Bo p q !=0) = !decide (p=q):=by
 by_cases h:p=q
 ·subst h;simp[DI]
 ·have:Bo p q≠0:=fun e=>h (FX e)
  simp[h,this]
@[go_sem] theorem eE(p q:Ae):(Bo p q==0)=decide (p=q):=by
 by_cases h:p=q
 ·subst h;simp[DI]
 ·have:Bo p q≠0:=fun e=>h (FX e)
  simp[h,this]
theorem f74_ok(s:WS)(p:Ae)(h:Few s):Ad C0 74 [.agg s.c,.agg p.c] [] (.agg (BP s p).c) []:=by
 have hn1:=h.nq;have hn2:=h.nn;refine Ad.go f74 ?_;unfold f74;refine gO ?_;refine Ab (α:=Nat) (fun i=>⟨[(17,I i),(16,I s.Aa.length),(15,Ay s.Aa),(2,.ptr 128 0),(3,.ptr 192 0),(5,.ptr 320 0),(4,.ptr 256 0)],[(128,s.c),(192,p.c),(256,wsz),(320,[.sl (.own 2752 0) 8 (((s.Aa.take i).map fun q=>Cd q p).map Queue.c),.v (.slice none 0 0)])]⟩) (fun i=>i≤(s.Aa).length∧True) (fun i=>(s.Aa).length-i) 0 ⟨by omega,trivial⟩ ?_ ?_
 ·exact BB
 rintro i ⟨hi,hP⟩ J hJ;refine gO ?_;refine ⟨fun hlt=>?_,fun hge=>?_⟩;rotate_left;have hil:i=(s.Aa).length:=by simp at hge;omega
 rotate_left;obtain⟨b,hb⟩:∃ b,(s.Aa)[i]?=some b:=⟨_,gE (by simp at hlt;omega)⟩;have hbm:=mG hb;simp(disch:=omega)only[go_sem,gm,hb]
 ·have ha:=h.aq b hbm;have hbd:i+1≤4294967296:=by simp at hlt;omega
  have hbd':min i s.Aa.length+1≤4294967296:=by omega
  have fin:∀ q,Cd b p=q→∀ st',Imp ⟨C0,[],[]⟩ st' ⟨[(17,I (i+1:Nat)),(16,I s.Aa.length),(15,Ay s.Aa),(2,.ptr 128 0),(3,.ptr 192 0),(5,.ptr 320 0),(4,.ptr 256 0)],[(128,s.c),(192,p.c),(256,wsz),(320,[.sl (.own 2752 0) 8 (((s.Aa.take i).map fun q=>Cd q p).map Queue.c++[q.c]),.v (.slice none 0 0)])]⟩→J st':=fun q hq st' h=>by
   refine hJ st' (i+1) ⟨by simp at hlt;omega,trivial⟩ (by simp at hlt;omega) ?_;have e:((s.Aa.take (i+1)).map fun q=>Cd q p).map Queue.c=((s.Aa.take i).map fun q=>Cd q p).map Queue.c++[q.c]:=by
    rw[take_add_one,hb];simp[hq]
   rw[e];exact h
  clear hJ;refine Aq 3 [([],[7]),([],[21]),([],[3])] fol ?_;refine gO ?_;refine Ar (f132_ok b (by omega)) ?_;refine gO ?_;refine Ac (f59_ok (Br b) p (by have:=H5 b;omega)) ?_;cases hp:Be (Br b) p
  ·simp(disch:=omega)only[go_sem,length_map,length_take];refine fin b (by simp[Cd,hp]) _ (Imp.Am gI ?_);simp(disch:=omega)only[go_sem]
  refine gO ?_;refine Ac (f133_ok b p (by omega)) ?_;cases hv:valid b
  ·have e:E9 b p=(q0,[],2):=by simp[E9,hv]
   simp(disch:=omega)only[go_sem,e,length_map,length_take];refine fin b (by simp[Cd,hv]) _ (Imp.Am gI ?_);simp(disch:=omega)only[go_sem]
  ·have e:E9 b p=(Fh (B3 b p),(B1 (B3 b p)).2,0):=by simp[E9,hv,hp]
   simp(disch:=omega)only[go_sem,e,length_map,length_take];refine fin { Fh (B3 b p) with gen:=b.gen } (by simp[Cd,hv,hp]) _ (Imp.Am gI ?_);simp(disch:=omega)only[go_sem]
 subst hil;rw[take_length];clear hJ;refine Ab (α:=Nat) (fun i=>⟨[(49,I i),(48,I s.Ao.length),(47,DU s.Ao),(3,.ptr 192 0),(5,.ptr 320 0),(4,.ptr 256 0)],[(192,p.c),(256,wsz),(320,[.sl (.own 2752 0) 8 ((s.Aa.map fun q=>Cd q p).map Queue.c),.sl (.own 3968 0) 9 ((Jf (s.Ao.take i) p).map Need.c)])]⟩) (fun i=>i≤(s.Ao).length∧True) (fun i=>(s.Ao).length-i) 0 ⟨by omega,trivial⟩ ?_ ?_
 ·exact BB
 rintro i ⟨hi,hP⟩ J hJ;refine gO ?_;refine ⟨fun hlt=>?_,fun hge=>?_⟩;rotate_left;have hil:i=(s.Ao).length:=by simp at hge;omega
 rotate_left;obtain⟨b,hb⟩:∃ b,(s.Ao)[i]?=some b:=⟨_,gE (by simp at hlt;omega)⟩;have hbm:=mG hb;simp(disch:=omega)only[go_sem,gm,hb]
 ·have hbd:(Jf (s.Ao.take i) p).length+1≤4294967296:=by
   have:(Jf (s.Ao.take i) p).length≤(s.Ao.take i).length:=List.length_filter_le _ _;rw[length_take]at this;omega
  refine Ac (f61_ok b.proc p) ?_;refine gO ?_;have e1:Jf (s.Ao.take (i+1)) p=if b.proc=p then Jf (s.Ao.take i) p else Jf (s.Ao.take i) p++[b]:=by
   simp only[Jf,take_add_one,hb,toList_some,List.filter_append,List.filter_cons,List.filter_nil]
   by_cases h:b.proc=p<;>simp[h]
  refine And.intro (fun hh=>?_) (fun hh=>?_)
  ·have hne:¬ b.proc=p:=by simpa using hh
   rw[if_neg hne]at e1;refine hJ _ (i+1) ⟨by simp at hlt;omega,trivial⟩ (by simp at hlt;omega) (Imp.Am gI ?_);rw[e1];refine gO ?_;exact .sl (by simp[Need.c])
  ·have hne:b.proc=p:=by simpa using hh
   rw[if_pos hne]at e1;refine hJ _ (i+1) ⟨by simp at hlt;omega,trivial⟩ (by simp at hlt;omega) (Imp.Am gI ?_);rw[e1];simp(disch:=omega)only[go_sem]
 ·subst hil;simp(disch:=omega)only[go_sem,take_length];refine Cf ⟨[],[],[2752,3968]⟩ _ ?_;simp(disch:=omega)only[go_sem,BP];exact .eq (by simp)
def Ds(l:List Atom)(a:Atom):List Atom:=if a∈l then l else l++[a]
mutual
def P1:List Atom→Expr→List Atom
 | l,.mk _ a kids=>if kids.length=0 then Ds l a else P2 l kids
def P2:List Atom→List Expr→List Atom
 | l,[]=>l
 | l,e::es=>P2 (P1 l e) es
end
theorem MN(l:List Atom)(e:Expr):P1 l e=if e.kids.length=0 then Ds l e.atom else P2 l e.kids:=by
 cases e;simp only[P1];rfl
def Ag(e:Expr):List Atom:=if A4 e then P1 [] e else []
def FU(l:List Atom)(a:Atom):Int:=match l.findIdx? (fun x=>decide (x=a)) with|some i=>i|none=>-1
theorem f268_ok(l:List Atom)(p:Atom)(hl:l.length≤1000000):Ad C0 268 [Bv l,.agg p.c] [] (I (FU l p)) []:=by
 refine Ad.go f268 ?_;unfold f268;refine gO ?_;refine Ab (α:=Nat) (fun i=>⟨[(8,I i),(7,I l.length),(0,Bv l),(3,.ptr 192 0)],[(192,p.c)]⟩) (fun i=>i≤(l).length∧(l.take i).find? (fun x=>decide (x=p))=none) (fun i=>(l).length-i) 0 ⟨by omega,rfl⟩ ?_ ?_
 ·exact BB
 rintro i ⟨hi,hP⟩ J hJ;refine gO ?_;refine ⟨fun hlt=>?_,fun hge=>?_⟩;rotate_left;have hil:i=(l).length:=by simp at hge;omega
 rotate_left;obtain⟨b,hb⟩:∃ b,(l)[i]?=some b:=⟨_,gE (by simp at hlt;omega)⟩;have hbm:=mG hb;have hlt2:i<(l).length:=by simp at hlt;omega
 refine Aq 5 [([],[3]),([],[0]),([],[5]),([],[12,13]),([],[14])] fol ?_;simp(disch:=omega)only[go_sem,gm,hb]
 ·refine⟨fun h=>?_,fun h=>?_⟩
  ·have e:FU l p=i:=by unfold FU;rw[FA hP b hb (by simp at h;simp[h])]
   simp(disch:=omega)only[go_sem,e];exact AE _
  ·refine hJ _ (i+1) ⟨by simp at hlt;omega,(by rw[BS hP hb];simp at h;simp[Ne.symm h])⟩ (by simp at hlt;omega) AR
 ·subst hil;rw[take_length]at hP;have e:FU l p = -1:=by
   unfold FU;have:l.findIdx? (fun x=>decide (x=p))=none:=by
    rw[List.findIdx?_eq_none_iff];rw[List.find?_eq_none]at hP;intro x hx;simpa using hP x hx
   rw[this]
  simp(disch:=omega)only[go_sem,e];exact AE _
theorem TT(l:List Atom)(p:Atom):decide (0≤FU l p)=decide (p∈l):=by
 unfold FU;cases h:l.findIdx? (fun x=>decide (x=p)) with
 |none =>
  rw[List.findIdx?_eq_none_iff]at h;have:p∉l:=fun hp=>by simpa using h p hp
  simp[this]
 |some i =>
  obtain⟨h1,h2,_⟩:=(List.findIdx?_eq_some_iff_getElem.1 h);have hm:p∈l:=by simp at h2;rw[← h2];exact getElem_mem h1
  simp[hm]
theorem f217_ok(l:List Atom)(p:Atom)(hl:l.length≤1000000):Ad C0 217 [Bv l,.agg p.c] [] (B (decide (p∈l))) []:=by
 refine Ad.go f217 ?_;unfold f217;refine gO ?_;refine Ac (f268_ok l p hl) ?_;have:=TT l p;simp(disch:=omega)only[go_sem,this];exact AE _
theorem W6{l:List Atom}{a:Atom}(h:((EV l a).1==0)=true):(EV l a).2=Ds l a:=by
 unfold EV at h ⊢;cases hf:l.find? (hit a) with
 |some b =>
  rw[hf]at h;simp only at h ⊢
  by_cases e:a=b
  ·subst e;simp[Ds,List.mem_of_find?_eq_some hf]
  ·simp[e]at h
 |none =>
  rw[hf]at h;simp only at h ⊢
  by_cases h8:l.length=8
  ·simp[h8]at h
  ·have:a∉l:=fun hm=>by
    rw[List.find?_eq_none]at hf;have:=hf a hm;simp[hit]at this
   simp[h8,Ds,this]
theorem Sm:∀ (es:List Expr) (l:List Atom),(∀ e∈es,∀ l,(prop e l).1=true→P1 l e=(prop e l).2)→(B5 es l).1=true→P2 l es=(B5 es l).2
 |[],l,_,_=>by simp[P2,B5]
 | e::es,l,hk,h=>by
  simp only[B5]at h ⊢;split at h
  ·rename_i h1;rw[if_pos h1];simp only[P2];rw[hk e (by simp) l h1];exact Sm es _ (fun e' he=>hk e' (by simp[he])) h
  ·cases h
theorem G1:∀ (N:Nat) (e:Expr),SizeOf.sizeOf e<N→∀ l:List Atom,(prop e l).1=true→P1 l e=(prop e l).2
 | 0,_,h,_,_=>by omega
 | N+1,e,h,l,hp=>by
  rw[Dz]at hp ⊢;rw[MN];split at hp
  ·rename_i hk;rw[if_pos hk,if_pos hk];split at hp
   ·rename_i h1;rw[if_pos h1];exact(W6 hp).symm
   ·cases hp
  ·rename_i hk;rw[if_neg hk,if_neg hk];split at hp
   ·cases hp
   ·rename_i h1;rw[if_neg h1];exact Sm _ _ (fun e' he l' hl'=>G1 N e' (by have:=CX he;omega) l' hl') hp
theorem f141_ok:∀ (N:Nat) (e:Expr),SizeOf.sizeOf e<N→∀ l:List Atom,l.length≤8→(prop e l).1=true →
 Ad C0 141 [CS 0 l,.agg e.c] [] (CS 1 (prop e l).2) []
 | 0,_,h,_,_,_=>by omega
 | N+1,e,h,l,hl,hpr=>by
  refine Ad.lens f141 fun hlen=>?_
  simp only[D9,lens,Expr.By,length_map,and_true,true_and]at hlen;have hp0:=hpr;rw[Dz]at hpr;refine Ad.go f141 ?_;unfold f141
  by_cases hk:e.kids.length=0
  ·have e1:((e.kids.length:Int)==0)=true:=by simp[hk]
   rw[if_pos hk]at hpr;have hc:=G1 (N+1) e h l hp0;rw[MN,if_pos hk]at hc;simp(disch:=omega)only[go_sem,e1];refine C2 [0] (f217_ok l e.atom (by omega)) gI rfl trivial ?_
   by_cases hm:e.atom∈l
   ·have e2:(decide (e.atom∈l))=true:=by simp[hm]
    have e3:(prop e l).2=l:=by rw[← hc];simp[Ds,hm]
    simp(disch:=omega)only[go_sem,e2,e3];refine Bc ⟨[(0,1)],[],[]⟩ _ rfl ⟨rfl,rfl⟩ (by simp[lk]) ?_ trivial;simp(disch:=omega)only[go_sem]
   ·have e2:(decide (e.atom∈l))=false:=by simp[hm]
    have e3:(prop e l).2=l++[e.atom]:=by rw[← hc];simp[Ds,hm]
    simp(disch:=omega)only[go_sem,e2,e3];refine Bc ⟨[(1280,1)],[],[]⟩ _ rfl ⟨rfl,rfl⟩ (by simp[lk]) ?_ trivial;refine gO ?_;exact .sl (by simp[Atom.c])
  have e1:((e.kids.length:Int)==0)=false:=by simp only[beq_eq_false_iff_ne,ne_eq];omega
  rw[if_neg hk]at hpr;split at hpr
  ·cases hpr
  rename_i hbad;have ep:prop e l=B5 e.kids l:=by rw[Dz,if_neg hk,if_neg hbad]
  simp(disch:=omega)only[go_sem,e1,ep];refine Ab (α:=Nat × List Atom) (fun q=>⟨[(24,I q.1),(23,I e.kids.length),(22,EJ e.kids),(0,CS 1920 q.2)],[]⟩)
   (fun q=>q.1≤e.kids.length∧q.2.length≤8∧(B5 (e.kids.drop q.1) q.2).1=true∧B5 (e.kids.drop q.1) q.2=B5 e.kids l) (fun q=>e.kids.length-q.1) (0,l) ⟨by simp,hl,by simpa using hpr,by simp⟩ ?_ ?_
  ·refine Imp.ren ⟨[(0,1920)],[],[]⟩ ⟨rfl,rfl⟩ (by simp[lk]) ?_ ?_
   ·exact gI
   ·exact gI
  rintro⟨i,m⟩ ⟨hi,hm,hb1,hr⟩ J hJ
  replace hi:i≤e.kids.length:=hi
  replace hm:m.length≤8:=hm
  replace hb1:(B5 (e.kids.drop i) m).1=true:=hb1
  replace hr:B5 (e.kids.drop i) m=B5 e.kids l:=hr
  refine gO ?_;refine ⟨fun hlt=>?_,fun hge=>?_⟩
  ·have hlt':i<e.kids.length:=by simp at hlt;omega
   have hb:e.kids[i]?=some e.kids[i]:=gE hlt';have hsz:=CX (getElem_mem hlt');have hdr:e.kids.drop i=e.kids[i]::e.kids.drop (i+1):=List.drop_eq_getElem_cons hlt';generalize e.kids[i]=b at hb hsz hdr;rw[hdr]at hr hb1;simp only[B5]at hr hb1;have hx1:(prop b m).1=true:=by
    split at hb1
    ·assumption
    ·cases hb1
   rw[if_pos hx1]at hr hb1;simp(disch:=omega)only[go_sem,gm,hb];refine Bn ⟨⟨[(1920,0)],[],[]⟩,[(1,1921)],[]⟩ (f141_ok N b (by omega) m hm hx1) gI rfl gI (.inl rfl) ?_;have hx:=PA N b (by omega) m hm;refine gO ?_;refine hJ _ (i+1,(prop b m).2) ⟨by simp;omega,hx,hb1,hr⟩ (by simp;omega) (Imp.ren ⟨[(1921,1920)],[],[]⟩ ⟨rfl,rfl⟩ (by simp[lk]) ?_ ?_)
   ·exact gI
   ·exact gI
  ·have hil:i=e.kids.length:=by simp at hge;omega
   subst hil;rw[List.drop_length]at hr;simp only[B5]at hr;simp(disch:=omega)only[go_sem,← hr];refine Bc ⟨[(1920,1)],[],[]⟩ _ rfl ⟨rfl,rfl⟩ (by simp[lk]) ?_ trivial;simp(disch:=omega)only[go_sem]
theorem Eh{e:Expr}(h:A4 e=true):(prop e []).1=true:=by
 simp only[A4,and_eq_true]at h;exact h.2
theorem Cj(e:Expr):(Ag e).length≤8:=by
 unfold Ag;split
 ·rename_i h;rw[G1 _ e (lt_succ_self _) [] (Eh h)];exact PA _ e (lt_succ_self _) [] (by simp)
 ·simp
theorem f87_ok(e:Expr):Ad C0 87 [.agg e.c] [] (Bv (Ag e)) []:=by
 refine Ad.go f87 ?_;unfold f87;refine gO ?_;refine Ac (f103_ok e) ?_;cases h:A4 e
 ·have e1:Ag e=[]:=by simp[Ag,h]
  simp(disch:=omega)only[go_sem,e1];refine Bc ⟨[],[],[]⟩ _ rfl ⟨rfl,rfl⟩ (by simp[lk]) ?_ trivial;exact .Az (by omega)
 ·have hp:=Eh h;have e1:Ag e=(prop e []).2:=by
   simp only[Ag,h,if_true];exact G1 _ e (lt_succ_self _) [] hp
  simp(disch:=omega)only[go_sem,e1];refine Bn ⟨⟨[],[],[]⟩,[(1,448)],[]⟩ (f141_ok _ e (lt_succ_self _) [] (by simp) hp) (by simp(disch:=omega)only[go_sem,CS,List.map_nil]) rfl gI (.inl rfl) ?_;refine gO ?_;refine Cf ⟨[],[],[448]⟩ _ ?_;simp(disch:=omega)only[go_sem,CS]
@[reducible] def GN(l:List Bool):AV:=.sl .no 1 (l.map fun b=>[B b])
def DD(l:List Atom)(set:List Bool)(a:Atom):Bool:=match l.findIdx? (fun x=>decide (x=a)) with
 |some i=>set.getD i false
 |none=>false
@[reducible] def SW(l:List Atom)(set:List Bool):AV:=.agg [Bv l,GN set]
theorem f218_ok(l:List Atom)(set:List Bool)(a:Atom)(hl:l.length≤1000000):Ad C0 218 [SW l set,.agg a.c] [] (B (DD l set a)) []:=by
 refine Ad.go f218 ?_;unfold f218;refine gO ?_;refine Ac (f268_ok l a hl) ?_;cases hi:l.findIdx? (fun x=>decide (x=a)) with
 |none =>
  have e1:FU l a = -1:=by simp[FU,hi]
  have e2:DD l set a=false:=by simp[DD,hi]
  simp(disch:=omega)only[go_sem,e1];refine Ap _ ?_;exact wb (by simp[e2])
 |some i =>
  have e1:FU l a=i:=by simp[FU,hi]
  by_cases h:i<set.length
  ·have e3:((i:Int)<set.length)=True:=eq_true (by omega);have e4:set[i]?=some (set.getD i false):=by rw[gE h];simp[List.getD,h]
   have e2:DD l set a=set.getD i false:=by simp[DD,hi]
   simp(disch:=omega)only[go_sem,e1,e3,gm,e4];refine Ap _ ?_;exact wb (by rw[e2])
  ·have e3:((i:Int)<set.length)=False:=eq_false (by omega);have e2:DD l set a=false:=by simp[DD,hi,List.getD,h]
   simp(disch:=omega)only[go_sem,e1,e3,decide_false];refine Ap _ ?_;exact wb (by simp[e2])
mutual
def DL(has:Atom→Bool):Expr→Bool
 |.mk k a kids=>if kids.length=0 then has a else decide (k≤Ck has kids)
def Ck(has:Atom→Bool):List Expr→Int
 |[]=>0
 | e::es=>(if DL has e=true then 1 else 0)+Ck has es
end
theorem HC(has:Atom→Bool)(e:Expr):DL has e=if e.kids.length=0 then has e.atom else decide (e.k≤Ck has e.kids):=by
 cases e;simp only[DL];rfl
theorem Kt(has:Atom→Bool):∀ (l:List Expr) (i:Nat) (b:Expr),l[i]?=some b→Ck has (l.take (i+1))=Ck has (l.take i)+(if DL has b=true then 1 else 0)
 |[],i,b,h=>by simp at h
 | e::l,0,b,h=>by simp at h;subst h;simp[Ck]
 | e::l,i+1,b,h=>by
  have:=Kt has l i b (by simpa using h);simp only[List.take_succ_cons,Ck];rw[this];omega
theorem NS(has:Atom→Bool):∀ l:List Expr,0≤Ck has l∧Ck has l≤l.length
 |[]=>by simp[Ck]
 | e::l=>by
  have:=NS has l;simp only[Ck,List.length_cons];split<;>omega
theorem f219_ok(l:List Atom)(set:List Bool)(hl:l.length≤1000000):∀ (N:Nat) (e:Expr),SizeOf.sizeOf e<N →
 Ad C0 219 [.agg e.c,.mv 218 [SW l set]] [] (B (DL (DD l set) e)) []
 | 0,_,h=>by omega
 | N+1,e,h=>by
  refine Ad.lens f219 fun hlen=>?_
  simp only[D9,lens,Expr.By,length_map,and_true,true_and]at hlen;refine Ad.go f219 ?_;unfold f219
  by_cases hk:e.kids.length=0
  ·have e1:((e.kids.length:Int)==0)=true:=by simp[hk]
   have ee:DL (DD l set) e=DD l set e.atom:=by rw[HC,if_pos hk]
   simp(disch:=omega)only[go_sem,e1,ee];refine Ac (f218_ok l set e.atom hl) ?_;refine gO ?_;exact AE _
  have e1:((e.kids.length:Int)==0)=false:=by simp only[beq_eq_false_iff_ne,ne_eq];omega
  have ee:DL (DD l set) e=decide (e.k≤Ck (DD l set) e.kids):=by rw[HC,if_neg hk]
  simp(disch:=omega)only[go_sem,e1,ee];refine Ab (α:=Nat) (fun i=>⟨[(19,I i),(18,I e.kids.length),(17,EJ e.kids),(1,.mv 218 [SW l set]),(2,.ptr 128 0),(5,I (Ck (DD l set) (e.kids.take i)))],[(128,e.c)]⟩) (fun i=>i≤(e.kids).length∧True) (fun i=>(e.kids).length-i) 0 ⟨by omega,trivial⟩ ?_ ?_
  ·refine Imp.Am ?_ ?_
   all_goals(try simp(disch:=omega)only[go_sem])
   all_goals(try(repeat'(with_reducible apply And.intro)))
   all_goals(first|exact .AG (by omega)|exact .Az (by omega)|exact .sl (by simp[Ck])|exact .int (by simp[Ck])|exact .eq (by simp[Ck]))
  rintro i ⟨hi,hP⟩ J hJ;refine gO ?_;refine ⟨fun hlt=>?_,fun hge=>?_⟩;rotate_left;have hil:i=(e.kids).length:=by simp at hge;omega
  rotate_left;obtain⟨b,hb⟩:∃ b,(e.kids)[i]?=some b:=⟨_,gE (by simp at hlt;omega)⟩;have hbm:=mG hb;simp(disch:=omega)only[go_sem,gm,hb]
  ·have hsz:=CX hbm;have hct:=Kt (DD l set) e.kids i b hb;have hbd:=NS (DD l set) (e.kids.take i);have hlt':i<e.kids.length:=by simp at hlt;omega
   have hml:(e.kids.take i).length≤i:=by simp;omega
   refine Ac (f219_ok l set hl N b (by omega)) ?_;refine gO ?_;refine And.intro (fun hh=>?_) (fun hh=>?_)
   ·rw[if_pos hh]at hct;refine hJ _ (i+1) ⟨by omega,trivial⟩ (by omega) (Imp.Am ?_ ?_)
    ·simp(disch:=omega)only[go_sem];exact .int hct.symm
    ·simp(disch:=omega)only[go_sem,Expr.By]
   ·rw[if_neg (by simp[hh])]at hct;refine hJ _ (i+1) ⟨by omega,trivial⟩ (by omega) (Imp.Am ?_ ?_)
    ·simp(disch:=omega)only[go_sem];exact .int (by omega)
    ·simp(disch:=omega)only[go_sem,Expr.By]
  ·subst hil;simp(disch:=omega)only[go_sem,take_length];exact AE _
def DR(e:Expr)(set:List Bool):Bool:=!decide ((Ag e).length=0)&&DL (DD (Ag e) set) e
theorem f142_ok(e:Expr)(l:List Atom)(set:List Bool)(hl:l.length≤1000000):Ad C0 142 [.agg e.c,Bv l,GN set] [] (B (DL (DD l set) e)) []:=by
 refine Ad.go f142 ?_;unfold f142;refine gO ?_;refine Ac (f219_ok l set hl _ e (lt_succ_self _)) ?_;refine gO ?_;exact AE _
theorem f209_ok(e:Expr)(set:List Bool):Ad C0 209 [.agg e.c,GN set] [] (B (DR e set)) []:=by
 have hl:=Cj e;refine Ad.go f209 ?_;unfold f209;refine gO ?_;refine Ac (f87_ok e) ?_
 by_cases h0:(Ag e).length=0
 ·have e1:(0<((Ag e).length:Int))=False:=eq_false (by omega);simp(disch:=omega)only[go_sem,e1,decide_false];refine Ap _ ?_;exact wb (by simp[DR,h0])
 ·have e1:(0<((Ag e).length:Int))=True:=eq_true (by omega);simp(disch:=omega)only[go_sem,e1,decide_true];refine Ac (f142_ok e (Ag e) set (by omega)) ?_;refine gO ?_;refine Ap _ ?_;exact wb (by simp[DR,h0])
def CR(l:List Queue)(p:Ae)(name:Bs):Bool:=l.foldl (fun w q=>if q.res.name==name then (As q p).isSome else w) false
theorem Ty{l:List Queue}{i:Nat}{b:Queue}(p:Ae)(name:Bs)(hb:l[i]?=some b):CR (l.take (i+1)) p name=if b.res.name==name then (As b p).isSome else CR (l.take i) p name:=by
 unfold CR;rw[take_add_one,hb,toList_some,List.foldl_append];rfl
def CU(s:WS)(n:Need):List Bool:=(Ag n.expr).map fun a=>!CR s.Aa n.proc a.name
theorem f210_ok(s:WS)(n:Need)(h:Few s):Ad C0 210 [.agg s.c,.agg n.c] [] (GN (CU s n)) []:=by
 have hl:=Cj n.expr;have hn1:=h.nq;refine Ad.go f210 ?_;unfold f210;refine gO ?_;refine Ac (f87_ok n.expr) ?_;refine gO ?_;refine Ab (α:=Nat) (fun i=>⟨[(15,I i),(14,I (Ag n.expr).length),(13,Bv (Ag n.expr)),(2,.ptr 128 0),(3,.ptr 192 0),(5,.sl (.own 2816 0) 1 (((Ag n.expr).take i).map fun a=>[B (!CR s.Aa n.proc a.name)]))],[(128,s.c),(192,n.c)]⟩) (fun i=>i≤((Ag n.expr)).length∧True) (fun i=>((Ag n.expr)).length-i) 0 ⟨by omega,trivial⟩ ?_ ?_
 ·exact BB
 rintro i ⟨hi,hP⟩ J hJ;refine gO ?_;refine ⟨fun hlt=>?_,fun hge=>?_⟩;rotate_left;have hil:i=((Ag n.expr)).length:=by simp at hge;omega
 rotate_left;obtain⟨b,hb⟩:∃ b,((Ag n.expr))[i]?=some b:=⟨_,gE (by simp at hlt;omega)⟩;have hbm:=mG hb;simp(disch:=omega)only[go_sem,gm,hb]
 ·have step:∀ st',Imp ⟨C0,[],[]⟩ st' ⟨[(15,I (i+1:Nat)),(14,I (Ag n.expr).length),(13,Bv (Ag n.expr)),(2,.ptr 128 0),(3,.ptr 192 0),(5,.sl (.own 2816 0) 1 (((Ag n.expr).take i).map (fun a=>[B (!CR s.Aa n.proc a.name)])++[[B (!CR s.Aa n.proc b.name)]]))],[(128,s.c),(192,n.c)]⟩→J st':=fun st' h=>by
   refine hJ st' (i+1) ⟨by simp at hlt;omega,trivial⟩ (by simp at hlt;omega) ?_;have e:((Ag n.expr).take (i+1)).map (fun a=>[B (!CR s.Aa n.proc a.name)])=((Ag n.expr).take i).map (fun a=>[B (!CR s.Aa n.proc a.name)])++[[B (!CR s.Aa n.proc b.name)]]:=by
    rw[take_add_one,hb];simp
   rw[e];exact h
  have hbd:min i (Ag n.expr).length+1≤4294967296:=by omega
  refine Ab (α:=Nat) (fun j=>⟨[(22,I j),(21,I s.Aa.length),(20,Ay s.Aa),(8,B (CR (s.Aa.take j) n.proc b.name)),(7,.ptr 448 0),(15,I i),(14,I (Ag n.expr).length),(13,Bv (Ag n.expr)),(2,.ptr 128 0),(3,.ptr 192 0),(5,.sl (.own 2816 0) 1 (((Ag n.expr).take i).map fun a=>[B (!CR s.Aa n.proc a.name)]))],[(448,b.c),(128,s.c),(192,n.c)]⟩) (fun j=>j≤s.Aa.length) (fun j=>s.Aa.length-j) 0 (by omega) ?_ ?_
  ·refine Imp.Am ?_ ?_
   ·simp(disch:=omega)only[go_sem,List.take_zero];exact .eq rfl
   ·exact gI
  rintro j hj J2 hJ2;refine gO ?_;refine And.intro (fun hlt2=>?_) (fun hge2=>?_)
  ·obtain⟨q,hq⟩:∃ q,s.Aa[j]?=some q:=⟨_,gE (by simp at hlt2;omega)⟩;have hqm:=mG hq;have hqa:=h.aq q hqm;have hq2:q.An.length+q.waits.length≤1000000:=by unfold BC BQ at hqa;omega
   have hw:=Ty n.proc b.name hq;simp(disch:=omega)only[go_sem,gm,hq];refine And.intro (fun hh=>?_) (fun hh=>?_)
   ·refine Ac (f228_ok q n.proc hq2) ?_;refine gO ?_;rw[if_pos hh]at hw;refine hJ2 _ (j+1) (by simp at hlt2;omega) (by simp at hlt2;omega) (Imp.Am ?_ gI);rw[hw];simp(disch:=omega)only[go_sem]
   ·rw[if_neg (by simp[hh])]at hw;refine hJ2 _ (j+1) (by simp at hlt2;omega) (by simp at hlt2;omega) (Imp.Am ?_ gI);rw[hw];simp(disch:=omega)only[go_sem]
  ·have hjl:j=s.Aa.length:=by simp at hge2;omega
   subst hjl;clear hJ2;simp(disch:=omega)only[go_sem,take_length,length_map,length_take];exact step _ AR
 ·subst hil;refine Cf ⟨[],[],[2816]⟩ _ ?_;simp(disch:=omega)only[go_sem,take_length];exact .sl (by simp[CU])
theorem EB{α:Type}{f:Nat→α→Bool}{l:List α}:B2 f l=true↔∀ i b,l[i]?=some b→f i b=true:=by
 unfold B2;rw[List.all_eq_true];constructor
 ·intro h i b hb;exact h (b,i) (by rw[List.mk_mem_zipIdx_iff_getElem?];exact hb)
 ·rintro h ⟨b,i⟩ hm;rw[List.mk_mem_zipIdx_iff_getElem?]at hm;exact h i b hm
theorem At{α:Type}{l:List α}{i:Nat}{b:α}(h:l[i]?=some b):i<l.length:=by
 rcases Nat.lt_or_ge i l.length with h'|h'
 ·exact h'
 ·rw[List.getElem?_eq_none h']at h;cases h
theorem get_eq{α:Type}{l:List α}{i:Nat}{b:α}(h:l[i]?=some b):l[i]'(At h)=b:=by
 rw[gE (At h)]at h;exact Option.some.inj h
def Q2(l:List AS):Prop:=l.Pairwise fun a b=>a.proc≠b.proc
theorem Vq(l:List AS):(∀ (i:Nat) (w:AS),l[i]?=some w→E3 l w.proc=(i:Int))↔Q2 l:=by
 unfold Q2;rw[List.pairwise_iff_getElem];constructor
 ·intro h i j hi hj hij he;have h1:=h i l[i] (gE hi);have h2:=h j l[j] (gE hj);rw[he,h2]at h1;omega
 ·intro h i w hw;have hi:=At hw;have hwe:=get_eq hw;have:l.findIdx? (fun x=>decide (x.proc=w.proc))=some i:=by
   rw[List.findIdx?_eq_some_iff_getElem];refine⟨hi,by simp[hwe],fun j hj=>?_⟩;have:=h j i (by omega) hi hj;rw[hwe]at this;simpa using this
  simp[E3,this]
def L6(l:List AO):Prop:=l.Pairwise fun a b=>Bo a.proc b.proc<0
theorem aL(l:List AO):(∀ i h,l[i]?=some h→(decide (i=0)||decide (Bo (l.getD (i-1) h0).proc h.proc<0))=true)↔L6 l:=by
 unfold L6;rw[List.pairwise_iff_getElem];constructor
 ·intro h;have step:∀ i (hi:i+1<l.length),Bo l[i].proc l[i+1].proc<0:=fun i hi=>by
   have:=h (i+1) l[i+1] (gE hi);simp only[Nat.add_sub_cancel,Bool.or_eq_true,decide_eq_true_eq]at this;rcases this with h'|h'
   ·omega
   ·simpa [List.getD,gE (show i<l.length by omega)]using h'
  have far:∀ d i (hi:i+d+1<l.length),Bo l[i].proc l[i+d+1].proc<0:=by
   intro d
   induction d with
   | zero=>intro i hi;exact step i hi
   | succ d ih =>
    intro i hi;have h1:=ih i (by omega);have h2:=step (i+d+1) (by omega);exact Dt h1 h2
  intro i j hi hj hij;obtain⟨d,rfl⟩:∃ d,j=i+d+1:=⟨j-i-1,by omega⟩;exact far d i hj
 ·intro h i b hb;cases i with
  | zero=>simp
  | succ i =>
   have hi:=At hb;have hbe:=get_eq hb;have:=h i (i+1) (by omega) hi (by omega);rw[hbe]at this;simp[List.getD,gE (show i<l.length by omega),this]
theorem CW(r:Res)(l:List AO):Ba r l=true↔r.shaped=true∧l.length≤8∧(∀ h∈l,h.proc.ok=true∧r.fits h.amt=true)∧L6 l∧r.compat (l.map (·.amt))=true:=by
 unfold Ba;simp only[and_eq_true,decide_eq_true_eq,EB,D3];rw[← aL];constructor
 ·rintro⟨⟨⟨h1,h2⟩,h3⟩,h4⟩;refine⟨h1,h2,fun h hm=>?_,fun i h hi=>(h3 i h hi).2,h4⟩;obtain⟨i,hi,he⟩:=List.getElem_of_mem hm;have:=h3 i h (by rw[gE hi,he]);exact this.1
 ·rintro⟨h1,h2,h3,h4,h5⟩;exact⟨⟨⟨h1,h2⟩,fun i h hi=>⟨h3 h (mG hi),h4 i h hi⟩⟩,h5⟩
theorem BK(q:Queue):D2 q=true↔q.An.length≤8∧Q2 q.An∧∀ w∈q.An,(AB q.holds w.proc).zero=false∧q.res.fits w.amt=true∧q.res.covers w.amt (AB q.holds w.proc)=true∧w.amt≠AB q.holds w.proc∧w.prio=0∧w.Df=0:=by
 unfold D2;simp only[and_eq_true,decide_eq_true_eq,EB,GH];rw[← Vq];constructor
 ·rintro⟨h1,h2⟩;refine⟨h1,fun i w hi=>(h2 i w hi).1.1.1.1.1.1,fun w hm=>?_⟩;obtain⟨i,hi,he⟩:=List.getElem_of_mem hm;have:=h2 i w (by rw[gE hi,he]);simp at this;obtain⟨⟨⟨⟨⟨⟨_,a⟩,b⟩,c⟩,d⟩,e⟩,f⟩:=this;exact⟨by simpa using a,b,c,d,e,f⟩
 ·rintro⟨h1,h2,h3⟩;refine⟨h1,fun i w hi=>?_⟩;obtain⟨a,b,c,d,e,f⟩:=h3 w (mG hi);exact⟨⟨⟨⟨⟨⟨h2 i w hi,by simp[a]⟩,b⟩,c⟩,by simpa using d⟩,by simpa using e⟩,by simpa using f⟩
theorem Cv(l:List AS):Dm l=true↔l.length≤8∧Q2 l∧∀ w∈l,w.ok=true:=by
 unfold Dm;simp only[and_eq_true,decide_eq_true_eq,EB,ET];rw[← Vq];constructor
 ·rintro⟨h1,h2⟩;refine⟨h1,fun i w hi=>(h2 i w hi).2,fun w hm=>?_⟩;obtain⟨i,hi,he⟩:=List.getElem_of_mem hm;exact(h2 i w (by rw[gE hi,he])).1
 ·rintro⟨h1,h2,h3⟩;exact⟨h1,fun i w hi=>⟨h3 w (mG hi),h2 i w hi⟩⟩
theorem Bz(q:Queue):D4 q=true↔Dm q.waits=true∧q.holds.length+q.waits.length≤8∧∀ w∈q.waits,q.res.fits w.amt=true∧(AB q.holds w.proc).zero=true:=by
 unfold D4;simp only[and_eq_true,decide_eq_true_eq,List.all_eq_true,GL,and_assoc]
structure Sound(q:Queue):Prop where
 res:LS q.res=true
 holds:Ba q.res q.holds=true
 An:D2 q=true
 waits:D4 q=true
 gen:0≤q.gen∧q.gen≤1073741824
theorem GD(q:Queue):sound q=true↔Sound q:=by
 unfold sound;simp only[and_eq_true,decide_eq_true_eq];exact⟨fun⟨⟨⟨⟨⟨a,b⟩,c⟩,d⟩,e⟩,f⟩=>⟨a,b,c,d,e,f⟩,fun h=>⟨⟨⟨⟨⟨h.res,h.holds⟩,h.An⟩,h.waits⟩,h.gen.1⟩,h.gen.2⟩⟩
theorem GR{α:Type}{f g:α→Bool}(h:∀ x,f x=true→g x=true):∀ l:List α,(l.filter g).find? f=l.find? f
 |[]=>rfl
 | x::l=>by
  simp only[List.filter_cons,List.find?_cons];cases hf:f x
  ·cases g x
   ·simpa using GR h l
   ·simp only[if_true,List.find?_cons,hf];exact GR h l
  ·simp[h x hf,hf]
theorem N3{l:List AO}{p p':Ae}(h:p'≠p):AB (AK l p) p'=AB l p':=by
 unfold AB AK;rw[GR];intro x hx;simp at hx ⊢;rw[hx];exact h
theorem F1{l:List AO}{p p':Ae}{a:Amt}(h:p'≠p):AB (BX l p a) p'=AB l p':=by
 rw[← N3 (l:=l) h];unfold BX;split
 ·rfl
 ·unfold AB;generalize Cl (AK l p) p=k
  conv=>rhs;rw[← List.take_append_drop k (AK l p)]
  rw[List.find?_append,List.find?_append,List.find?_cons];have:decide (p=p')=false:=by simpa using Ne.symm h
  simp[this]
theorem Lh{l:List AO}{p:Ae}(h:(AB l p).zero=false):(AK l p).length+1≤l.length:=by
 unfold AB at h;cases hf:l.find? (fun h=>decide (h.proc=p)) with
 |none=>rw[hf]at h;simp[Amt.zero]at h
 |some x =>
  have hm:=List.mem_of_find?_eq_some hf;have hx:=List.find?_some hf;unfold AK;have:(l.filter fun h=>decide (h.proc≠p)).length<l.length:=by
   rw[List.length_filter_lt_length_iff_exists];exact⟨x,hm,by simpa using hx⟩
  omega
theorem Ny{l:List AO}{p:Ae}{a:Amt}:(BX l p a).length≤(AK l p).length+1:=by
 have h2:=LA (AK l p) p;unfold BX;split
 ·omega
 ·simp;omega
theorem Hv{r:Res}{a:Amt}(h:r.fits a=true):a.zero=false:=by
 simp only[Res.fits,and_eq_true]at h;obtain⟨h1,h2⟩:=h;split at h2
 ·simp[Bf,AL]at h2;simp[Amt.zero];omega
 ·simp[AL]at h2;simp[Amt.zero];omega
theorem HG{l:List AO}{p:Ae}{h:AO}:h∈AK l p↔h∈l∧h.proc≠p:=by simp[AK]
theorem KQ{l:List AO}{p:Ae}{a:Amt}(ha:a.zero=false){h:AO}:h∈BX l p a↔(h∈l∧h.proc≠p)∨h=⟨p,a⟩:=by
 unfold BX;rw[ha];simp only[Bool.false_eq_true,if_false,List.mem_append,mem_cons];rw[← HG]
 conv=>rhs;rw[← List.take_append_drop (Cl (AK l p) p) (AK l p),List.mem_append]
 constructor
 ·rintro(h|h|h)
  ·exact .inl (.inl h)
  ·exact .inr h
  ·exact .inl (.inr h)
 ·rintro((h|h)|h)
  ·exact .inl h
  ·exact .inr (.inr h)
  ·exact .inr (.inl h)
end Go.Rd
