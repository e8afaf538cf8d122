/- part 10 of the proof -/
import Derived.Test.YteliegkcmjimoaaGreatDoorX09
set_option linter.all false
open Go Go.Abs Go.Proofs
set_option maxRecDepth 100000
namespace Go.Rd
set_option maxHeartbeats 8000000
open List (drop_drop getElem_mem length_cons length_drop length_map length_take map_set mem_cons pairwise_cons take_add_one take_length)
open Bool (and_eq_true not_eq_true')
open Nat (le_trans lt_succ_self)
open Tryz
def Qs:∀ (l:List Ac) (a b:Ac),Ek (l++[a]++[b])=if a=b then Ek (l++[a]) else Ek (l++[a])++[b]
 |[],a,b=>by by_cases h:a=b<;>simp[Ek,h]
 |[x],a,b=>by
  have:=Qs [] a b;simp only[List.nil_append,List.cons_append]at this ⊢;simp only[Ek]at this ⊢
  by_cases h:a=b<;>by_cases h':x=a<;>simp[h,h']at this ⊢<;>(try simp[Ek])<;>simp_all
 | x::y::l,a,b=>by
  have:=Qs (y::l) a b;simp only[List.cons_append]at this ⊢;simp only[Ek]
  by_cases h:x=y
  ·simp only[h,if_true];exact this
  ·simp only[h,if_false];rw[this]
   by_cases h':a=b<;>simp[h']
def Rl:∀ l:List Ac,(Ek l).length<=l.length
 |[]=>by simp[Ek]
 |[a]=>by simp[Ek]
 | a::b::l=>by
  have:=Rl (b::l);simp only[Ek];split
  ·simp at this ⊢;omega
  ·simp at this ⊢;omega
theorem JG{l:List Ac}{i:Nat}{b:Ac}(hb:l[i]?=some b):l.take (i+1)=l.take i++[b]:=by rw[take_add_one,hb];rfl
def Qt{l:List Ac}{i:Nat}{a b:Ac}(ha:l[i]?=some a)(hb:l[i+1]?=some b):Ek (l.take (i+2))=if a=b then Ek (l.take (i+1)) else Ek (l.take (i+1))++[b]:=by rw[JG hb,JG ha,Qs]
@[reducible] def O2(r:Nat)(l:List Ac):AV:=.sl (.own r 0) 3 (l.map Ac.c)
theorem oQ(k:Nat)(cs es:List (List AV)):(over 0 k cs es).take k=es.take k:=by
 refine List.ext_getElem? λi=>?_
 rw[List.getElem?_take,List.getElem?_take];split
 ·rename_i h;have hn:¬ (k<=i):=by omega
  simp only[over,List.getElem?_mapIdx,Nat.zero_add,hn,if_false];cases es[i]?<;>rfl
 ·rfl
def dw{α:Type}{l cur:List α}{d i:Nat}(h:cur.drop d=l.drop d)(hi:d<=i):cur[i]?=l[i]?:=by
 have:=congrArg (λx=>x[i-d]?) h;simp only[List.getElem?_drop]at this
 rwa [show d+(i-d)=i by omega]at this
def vv(l:List Ac)(hl:l.length<=1000000):Ad C0 133 [O2 0 l] [] (O2 1 (Ek l)) []:=by
 refine Ad.go f133 ?_;unfold f133
 by_cases h2:l.length<2
 ·have e1:((l.length:Int)<2)=True:=eq_true (by omega);have e:Ek l=l:=by
   match l,h2 with
   |[],_=>rfl
   |[a],_=>rfl
   | a::b::l,h=>simp at h;omega
  simp(disch:=omega)only[go_sem,e1];refine AY ⟨[(0,1)],[],[]⟩ _ rfl ⟨rfl,rfl⟩ (by simp[lk]) ?_ trivial;simp(disch:=omega)only[go_sem,e]
 have e1:((l.length:Int)<2)=False:=eq_false (by omega);simp(disch:=omega)only[go_sem,e1,decide_false];refine Ao (α:=Nat) (λi=>⟨[(3,I (i+1:Nat)),(0,O2 0 l)],[]⟩) (λi=>i+1<=l.length/\Ek (l.take (i+1))=l.take (i+1)) (λi=>l.length-i) 0 ⟨by omega,by
  match l,h2 with
  | a::b::l,_=>rfl
  |[a],h=>exact absurd (by simp) h
  |[],h=>exact absurd (by simp) h⟩ ?_ ?_
 ·exact AT.Aq gI gI
 rintro i ⟨hi,hc⟩ J hJ
 by_cases AP:i+1<l.length
 ·have z1:(((i+1:Nat):Int)<l.length)=True:=eq_true (by omega);obtain⟨a,ha⟩:∃ a,l[i]?=some a:=⟨_,gE (by omega)⟩;obtain⟨b,hb⟩:∃ b,l[i+1]?=some b:=⟨_,gE (by omega)⟩;have z2:((i:Int)+1<l.length)=True:=eq_true (by omega);have z3:((i:Int)+1-1)=(i:Int):=by omega
  have z4:((i:Int)+1)=((i+1:Nat):Int):=rfl;simp(disch:=omega)only[go_sem,z1,z2];refine Ay 9 [([],[0]),([],[3]),([],[16,17]),([],[18]),([],[0]),([],[3]),([],[21]),([],[20,22]),([],[23])] B6 ?_;simp(disch:=omega)only[go_sem,z3,gm,ha,hb];refine⟨λh=>?_,λh=>?_⟩;rotate_left
  ·have CZ:a≠b:=λe=>by simp[e]at h
   refine hJ _ (i+1) ⟨by omega,?_⟩ (by omega) AK;rw[Qt ha hb,if_neg CZ,hc,<- JG hb]
  have LP:a=b:=by simp at h;exact h.symm
  have hcc:Ek (l.take (i+1+1))=l.take (i+1):=by rw[Qt ha hb,if_pos LP,hc]
  clear hJ h hb z1 z2 z3 z4 ha LP hc;generalize hm:i+1=m at AP hcc;refine Ao (α:=List Ac × Nat × Nat) (λx=>⟨[(5,I x.2.2),(3,I x.2.1),(4,.sl (.own 0 m) 3 ((x.1.drop m).map Ac.c)),(0,O2 0 x.1)],[]⟩)
   (λx=>x.1.length=l.length/\1<=x.2.2/\m+x.2.2<=l.length/\m<=x.2.1/\x.2.1+1<=m+x.2.2/\x.1.take x.2.1=Ek (l.take (m+x.2.2))/\x.1.drop (m+x.2.2-1)=l.drop (m+x.2.2-1)) (λx=>l.length-m-x.2.2) (l,m,1) ⟨rfl,by simp,by simp;omega,by simp,by simp,by simp[hcc],rfl⟩ ?_ ?_
  ·refine AT.Aq ?_ gI;simp(disch:=omega)only[go_sem,hm];refine⟨.int (by omega),.sl ?_⟩;rw[List.map_drop];exact List.take_of_length_le (by simp)
  rintro⟨cur,k,j⟩ ⟨i1,i2,i3,i4,i5,i6,i7⟩ J hJ
  replace i1:cur.length=l.length:=i1
  replace i2:1<=j:=i2
  replace i3:m+j<=l.length:=i3
  replace i4:m<=k:=i4
  replace i5:k+1<=m+j:=i5
  replace i6:cur.take k=Ek (l.take (m+j)):=i6
  replace i7:cur.drop (m+j-1)=l.drop (m+j-1):=i7
  obtain⟨j,rfl⟩:∃ j',j=j'+1:=⟨j-1,by omega⟩
  by_cases hj:m+(j+1)<l.length
  ·have y1:((j:Int)+1<((l.length-m:Nat):Int))=True:=eq_true (by omega);obtain⟨x,hx⟩:∃ x,l[m+(j+1)]?=some x:=⟨_,gE hj⟩;obtain⟨y,hy⟩:∃ y,l[m+j]?=some y:=⟨_,gE (by omega)⟩;have cx:cur[m+(j+1)]?=some x:=by rw[dw i7 (by omega),hx]
   have cy:cur[m+j]?=some y:=by rw[dw i7 (by omega),hy]
   have GR:=Qt hy hx;have y3:((j:Int)+1-1)=(j:Int):=by omega
   obtain⟨z,hz⟩:∃ z,cur[k]?=some z:=⟨_,gE (by omega)⟩;have y4:(m<=k)=True:=eq_true i4;simp(disch:=omega)only[go_sem,length_drop,i1,y1];refine Ay 9 [([],[4]),([],[5]),([],[35,36]),([],[37]),([],[4]),([],[5]),([],[40]),([],[39,41]),([],[42])] B6 ?_;simp(disch:=omega)only[go_sem,y3,y4,gm,List.getElem?_drop,cx,cy,hz,length_drop,i1];refine⟨λh=>?_,λh=>?_⟩
   ·have CZ:y≠x:=λe=>by simp[e]at h
    rw[if_neg CZ]at GR;refine hJ _ (cur.set k x,k+1,j+1+1) ⟨by simp[i1],by simp,by simp;omega,by simp;omega,by simp;omega,?_,?_⟩ (by simp;omega) (AT.Aq ?_ gI)
    ·rw[show m+(j+1+1)=m+j+2 by omega,GR,show m+j+1=m+(j+1) by omega,<- i6];rw[take_add_one,List.getElem?_set_self (by omega),List.take_set_of_le (by omega)];rfl
    ·rw[show m+(j+1+1)-1=m+(j+1) by omega,List.drop_set_of_lt (by omega)];have:=congrArg (List.drop 1) i7;rw[drop_drop,drop_drop,show m+(j+1)-1+1=m+(j+1) by omega]at this;exact this
    ·simp(disch:=omega)only[go_sem];have bt:(cur.set k x).drop m=(cur.drop m).set (k-m) x:=by rw[List.drop_set,if_neg (by omega)]
     refine⟨.sl ?_,.sl ?_⟩
     ·rw[bt,map_set];rfl
     ·rw[map_set];rfl
   ·have CZ:y=x:=by simp at h;exact h.symm
    rw[if_pos CZ]at GR;refine hJ _ (cur,k,j+1+1) ⟨i1,by simp,by simp;omega,i4,by simp;omega,?_,?_⟩ (by simp;omega) AK
    ·rw[show m+(j+1+1)=m+j+2 by omega,GR,show m+j+1=m+(j+1) by omega,<- i6]
    ·rw[show m+(j+1+1)-1=m+(j+1) by omega];have:=congrArg (List.drop 1) i7;rw[drop_drop,drop_drop,show m+(j+1)-1+1=m+(j+1) by omega]at this;exact this
  ·have y1:((j:Int)+1<((l.length-m:Nat):Int))=False:=eq_false (by omega);have hmj:m+(j+1)=l.length:=by omega
   rw[hmj,take_length]at i6;have X7:k<=l.length:=by omega
   have y4:(k<=l.length)=True:=eq_true X7;have y5:(over 0 k (List.replicate (l.length-k) [.v (.int .i64 0),.v (.int .i64 0),.v (.int .i64 0)]) (cur.map Ac.c)).take k=(Ek l).map Ac.c:=by rw[oQ,<- List.map_take,i6]
   clear hJ;simp(disch:=omega)only[go_sem,length_drop,i1,y1,decide_false,y4,Nat.sub_zero,Jy,length_take,Nat.min_self];refine AY ⟨[(0,1)],[],[]⟩ _ rfl ⟨rfl,rfl⟩ (by simp[lk]) ?_ trivial;simp(disch:=omega)only[go_sem,y5]
 ·have Ba:i+1=l.length:=by omega
  have z1:((i:Int)+1<l.length)=False:=eq_false (by omega);rw[Ba,take_length]at hc;simp(disch:=omega)only[go_sem,z1,decide_false];refine AY ⟨[(0,1)],[],[]⟩ _ rfl ⟨rfl,rfl⟩ (by simp[lk]) ?_ trivial;simp(disch:=omega)only[go_sem,hc]
theorem sX{cs es:List (List AV)}(h:cs.length=es.length):over 0 0 cs es=cs:=by
 refine List.ext_getElem? λi=>?_
 simp only[over,List.getElem?_mapIdx,Nat.zero_add,Nat.zero_le,if_true,Nat.sub_zero]
 by_cases hi:i<es.length
 ·rw[gE hi,gE (by omega)];simp
 ·rw[List.getElem?_eq_none (l:=es) (by omega),List.getElem?_eq_none (l:=cs) (by omega)];rfl
def K9(l:List Ac):Prop:=l.Pairwise λa b=>BF a b<0
def Tm(x:Ac):∀ l:List Ac,x∈Ek l↔x∈l
 |[]=>by simp[Ek]
 |[a]=>by simp[Ek]
 | a::b::l=>by
  have:=Tm x (b::l);simp only[Ek];split
  ·rename_i h;subst h;rw[this];simp
  ·simp only[mem_cons]at this ⊢;rw[this]
def cJ:∀ l:List Ac,(l.Pairwise λa b=>BF a b<=0)->K9 (Ek l)
 |[],_=>by simp[Ek,K9]
 |[a],_=>by simp[Ek,K9]
 | a::b::l,h=>by
  have hp:=pairwise_cons.1 h;have ih:=cJ (b::l) hp.2;simp only[Ek];split
  ·exact ih
  ·rename_i CZ;refine pairwise_cons.2 ⟨λx hx=>?_,ih⟩;rw[Tm]at hx;have h1:=hp.1 x hx;have h2:=hp.1 b (by simp);have hb:BF b x<=0:=by
    rcases mem_cons.1 hx with e|e
    ·subst e;rw[CJ];omega
    ·exact(pairwise_cons.1 hp.2).1 x e
   have LP:BF a b<0:=by
    rcases Int.lt_or_eq_of_le h2 with h|h
    ·exact h
    ·exact absurd (FL h) CZ
   rcases Int.lt_or_eq_of_le hb with h|h
   ·exact DQ LP h
   ·rw[<- FL h];exact LP
def oC(x:Ac)(l:List Ac):x∈Pb l↔x∈l:=by
 unfold Pb;exact List.mem_mergeSort
def jF(l:List Ac):(Pb l).Pairwise λa b=>BF a b<=0:=by
 have:=List.pairwise_mergeSort (le:=λx y=>!(Go.Proofs.ltOf BF) y x) (λa b c h1 h2=>by
  rw[Li]at *;simp only[not_eq_true',decide_eq_false_iff_not]at *;intro h;have e1:=DP a b;have e2:=DP b c
  by_cases h3:BF a b=0
  ·rw[FL h3]at h;exact h2 h
  ·exact h2 (DQ h (by omega))) (λa b=>by
  rw[Li,Li];have:=DP a b;simp only[Bool.or_eq_true,not_eq_true',decide_eq_false_iff_not];omega) l
 refine List.Pairwise.imp (λ{a b} h=>?_) this;rw[Li]at h;have:=DP a b;simp only[not_eq_true',decide_eq_false_iff_not]at h;omega
def Rb:∀ {l m:List Ac},K9 l->K9 m->(∀ x,x∈l↔x∈m)->l=m
 |[],[],_,_,_=>rfl
 |[],b::m,_,_,h=>by have:=(h b).2 (by simp);cases this
 | a::l,[],_,_,h=>by have:=(h a).1 (by simp);cases this
 | a::l,b::m,hl,hm,h=>by
  have h1:=pairwise_cons.1 hl;have h2:=pairwise_cons.1 hm;have LP:a=b:=by
   have ha:=(h a).1 (by simp);have hb:=(h b).2 (by simp);rcases mem_cons.1 ha with e|e
   ·exact e
   ·rcases mem_cons.1 hb with e'|e'
    ·exact e'.symm
    ·have k1:=h2.1 a e;have k2:=h1.1 b e';have:=DP a b;omega
  subst LP;have:l=m:=Rb h1.2 h2.2 λx=>by
   have hx:=h x;simp only[mem_cons]at hx;constructor
   ·intro pH;rcases hx.1 (.inr pH) with e|e
    ·subst e;have:=h1.1 x pH;rw[CJ]at this;omega
    ·exact e
   ·intro pH;rcases hx.2 (.inr pH) with e|e
    ·subst e;have:=h2.1 x pH;rw[CJ]at this;omega
    ·exact e
  rw[this]
theorem IL{l:List Ac}(h:K9 l):l.Nodup:=by
 refine List.Pairwise.imp (λ{a b} h e=>?_) h;subst e;rw[CJ]at h;omega
def dM(p:Ac):List Ac->List Ac
 |[]=>[p]
 | x::l=>if BF p x<0 then p::x::l else if p=x then x::l else x::dM p l
def dN:List Ac->List Ac
 |[]=>[]
 | p::l=>dM p (dN l)
def W9(p x:Ac):∀ l:List Ac,x∈dM p l↔x=p\/x∈l
 |[]=>by simp[dM]
 | y::l=>by
  have:=W9 p x l;simp only[dM];split
  ·simp
  ·split
   ·rename_i h;subst h;simp
   ·simp only[mem_cons,this];constructor
    ·rintro(h|h|h)
     ·exact .inr (.inl h)
     ·exact .inl h
     ·exact .inr (.inr h)
    ·rintro(h|h|h)
     ·exact .inr (.inl h)
     ·exact .inl h
     ·exact .inr (.inr h)
def cM(p:Ac):∀ l:List Ac,K9 l->K9 (dM p l)
 |[],_=>by simp[dM,K9]
 | y::l,h=>by
  have hp:=pairwise_cons.1 h;simp only[dM];split
  ·rename_i AP;refine pairwise_cons.2 ⟨λx hx=>?_,h⟩;rcases mem_cons.1 hx with e|e
   ·rw[e];exact AP
   ·exact DQ AP (hp.1 x e)
  ·split
   ·exact h
   ·rename_i h1 h2;refine pairwise_cons.2 ⟨λx hx=>?_,cM p l hp.2⟩;rcases(W9 p x l).1 hx with e|e
    ·subst e;have h3:=DP x y;have h4:BF x y≠0:=λe=>h2 (FL e)
     omega
    ·exact hp.1 x e
def Xa(x:Ac):∀ l:List Ac,x∈dN l↔x∈l
 |[]=>by simp[dN]
 | y::l=>by simp only[dN,W9,Xa x l,mem_cons]
def VN:∀ l:List Ac,K9 (dN l)
 |[]=>by simp[dN,K9]
 | y::l=>cM y _ (VN l)
def V3(l:List Ac):Ek (Pb l)=dN l:=Rb (cJ _ (jF l)) (VN l) λx=>by rw[Tm,oC,Xa]
def NU(l:List Ac):List Ac:=dN l
theorem Mn(x:Ac)(l:List Ac):x∈NU l↔x∈l:=Xa x l
theorem Fk(l:List Ac):K9 (NU l):=VN l
def ND(l:List Ac):(Pb l).length=l.length:=by simp[Pb]
def il(l:List Ac)(hl:l.length<=1000000):Ad C0 80 [AL l] [] (AL (NU l)) []:=by
 refine Ad.go f80 ?_;unfold f80;have hb:l.length<=4294967296:=by omega
 simp(disch:=omega)only[go_sem];refine qg (qK l hl) rfl ?_;have ho:over 0 0 ((Pb l).map Ac.c) (l.map Ac.c)=(Pb l).map Ac.c:=sX (by simp[ND]);simp(disch:=omega)only[go_sem,ho];refine By ⟨⟨[(320,0)],[],[]⟩,[(1,576)],[]⟩ (vv (Pb l) (by rw[ND];exact hl)) gI rfl trivial (.inl rfl) ?_;simp(disch:=omega)only[go_sem];refine CU ⟨[],[],[576]⟩ _ ?_;simp(disch:=omega)only[go_sem,NU,V3]
def vt(l:List Ac)(p:Ac)(hl:l.length<=1000000):Ad C0 126 [AL l,.agg p.c] [] (I (match l.findIdx? (λx=>decide (x=p)) with|some i=>i|none=>-1)) []:=by
 refine Ad.go f126 ?_;unfold f126;refine gO ?_;refine AF (l) (λi=>⟨[(8,I i),(7,I l.length),(0,AL l),(3,.ptr 192 0)],[(192,p.c)]⟩) (λi=>(l.take i).find? (λx=>decide (x=p))=none) rfl ?_ ?_
 ·exact Ce
 rintro i ⟨hi,hP⟩ J hJ;refine gO ?_;refine Bo hi (λAP b hb Cg AX=>?_) λBa=>?_
 refine Ay 5 [([],[3]),([],[0]),([],[5]),([],[12,13]),([],[14])] B6 ?_;simp(disch:=omega)only[go_sem,gm,hb]
 ·refine⟨λh=>?_,λh=>?_⟩
  ·have e:l.findIdx? (λx=>decide (x=p))=some i:=Hj hP b hb (by simp at h;simp[h]);simp(disch:=omega)only[go_sem,e];exact AQ _
  ·refine hJ _ (i+1) ⟨by omega,(by rw[Cp hP hb];simp at h;simp[Ne.symm h])⟩ (by omega) AK
 ·subst Ba;rw[take_length]at hP;have e:l.findIdx? (λx=>decide (x=p))=none:=by
   rw[List.findIdx?_eq_none_iff];rw[List.find?_eq_none]at hP;intro x hx;simpa using hP x hx
  simp(disch:=omega)only[go_sem,e];exact AQ _
def AaF(l:List Ac)(p:Ac)(hl:l.length<=1000000):Ad C0 76 [AL l,.agg p.c] [] (B (Br l p)) []:=by
 refine Ad.go f76 ?_;unfold f76;refine gO ?_;refine Ab (vt l p hl) ?_;refine gO ?_;refine AY ⟨[],[],[]⟩ _ rfl ⟨rfl,rfl⟩ (by simp) ?_ trivial;refine wb ?_;unfold Br;cases h:l.findIdx? (λx=>decide (x=p)) with
 |none =>
  rw[List.findIdx?_eq_none_iff]at h;have:p∉l:=λhp=>by simpa using h p hp
  simp[this]
 |some i =>
  have:=(List.findIdx?_eq_some_iff_getElem.1 h);obtain⟨h1,h2,_⟩:=this;have hm:p∈l:=by simp at h2;rw[<- h2];exact getElem_mem h1
  simp[hm]
def KE(l:List Ac)(p:Ac)(hl:l.length<=1000000):Ad C0 34 [AL l,.agg p.c] [] (B (Br l p)) []:=by
 refine Ad.go f34 ?_;unfold f34;refine gO ?_;refine Ab (AaF l p hl) ?_;refine gO ?_;exact AQ _
def qM(l:List A9)(hl:l.length<=1000000):Ad C0 182 [Bg l] [] (O2 0 (D7 l)) []:=by
 refine Ad.go f182 ?_;unfold f182;refine gO ?_;refine AF (l) (λi=>⟨[(8,I i),(7,I l.length),(6,Bg l),(3,.sl (.own 1024 0) 3 ((D7 (l.take i)).map Ac.c))],[]⟩) (λi=>True) trivial ?_ ?_
 ·exact Ce
 rintro i ⟨hi,hP⟩ J hJ;refine gO ?_;refine Bo hi (λAP b hb Cg AX=>?_) λBa=>?_
 simp(disch:=omega)only[go_sem,gm,hb]
 ·simp(disch:=omega)only[go_sem,D7];refine hJ _ (i+1) ⟨by omega,trivial⟩ (by omega) (AT.Aq ?_ ?_)
  all_goals(try simp(disch:=omega)only[go_sem])
  all_goals(try(repeat'(with_reducible apply And.intro)))
  all_goals(first|exact .Cr (by omega)|exact .A8 (by omega)|exact .sl (by simp[D7,take_add_one,hb,Ac.c])|exact .int (by simp[D7,take_add_one,hb,Ac.c])|exact .eq (by simp[D7,take_add_one,hb,Ac.c]))
 ·subst Ba;refine AY ⟨[(1024,0)],[],[]⟩ _ rfl ⟨rfl,rfl⟩ (by simp[lk]) ?_ trivial;simp(disch:=omega)only[go_sem,take_length]
def BU(q:Queue):List Ac:=NU (D7 q.holds++C3 (q.As++q.waits))
def aG(q:Queue)(h:BS q<=1000000):Ad C0 130 [.agg q.c] [] (AL (BU q)) []:=by
 have h1:q.holds.length<=1000000:=by unfold BS at h;omega
 have h2:q.As.length+q.waits.length<=1000000:=by unfold BS B7 at h;omega
 have h3:(D7 q.holds).length+(C3 (q.As++q.waits)).length<=1000000:=by simp[D7,C3];unfold BS B7 at h;omega
 have h4:(D7 q.holds).length+(C3 (q.As++q.waits)).length<=4294967296:=by omega
 refine Ad.go f130 ?_;unfold f130;refine gO ?_;refine Ay 4 [([],[1]),([],[3]),([],[4]),([],[1])] B6 ?_;refine gO ?_;refine AO ⟨⟨[],[],[]⟩,[(0,320)],[]⟩ (qM q.holds h1) gI rfl rfl trivial (.inl rfl) ?_;refine gO ?_;refine Ab (vO q h2) ?_;refine gO ?_;refine FU [512] (il (D7 q.holds++C3 (q.As++q.waits)) (by simpa using h3)) (by simp(disch:=omega)only[go_sem];exact .sl (by simp)) rfl ?_;refine gO ?_;refine CT _ ?_;simp(disch:=omega)only[go_sem,BU]
def q0:Queue:=⟨⟨[],0,0,0⟩,[],[],[],0⟩
def Ge(q:Queue)(p:Ac):Queue × List A9 × Int:=if valid q then (if Br (BU q) p then (Ee (B8 q p),(Co (B8 q p)).2,0) else (q0,[],10)) else (q0,[],2)
def SH(l:List Ac):(NU l).length<=l.length:=by
 have:=Rl (Pb l);rw[ND,V3]at this;exact this
def KW(q:Queue):(BU q).length<=BS q:=by
 have:=SH (D7 q.holds++C3 (q.As++q.waits));unfold BU BS B7;simp[D7,C3]at this ⊢;omega
def vu(q:Queue)(p:Ac)(h:BS q+1<=1000000):Ad C0 131 [.agg q.c,.agg p.c] [] (.BC [.agg (Ge q p).1.c,Bg (Ge q p).2.1,I (Ge q p).2.2]) []:=by
 have h1:q.holds.length<=1000000:=by unfold BS at h;omega
 have h2:q.As.length<=1000000:=by unfold BS B7 at h;omega
 have h3:q.waits.length<=1000000:=by unfold BS B7 at h;omega
 refine Ad.go f131 ?_;unfold f131;refine gO ?_;refine Ab (Wn q h1 h3) ?_;cases hv:valid q
 ·have e:Ge q p=(q0,[],2):=by simp[Ge,hv]
  simp(disch:=omega)only[go_sem,Bool.not_false,e,q0];refine Al _ ?_;refine .BC (Ae.AJ ?_);simp(disch:=omega)only[go_sem]
  repeat'(with_reducible apply And.intro)
  all_goals(first|exact .A8 (by omega)|exact .agg (Ae.AJ gI))
 simp(disch:=omega)only[go_sem,Bool.not_true];refine Ay 3 [([],[2]),([],[12]),([],[3])] B6 ?_;refine gO ?_;refine Ax (aG q (by omega)) ?_;refine gO ?_;refine Ab (KE (BU q) p (by have:=KW q;omega)) ?_;refine gO ?_;refine And.intro (λhh=>?_) (λhh=>?_)
 ·have hh':Br (BU q) p=false:=by simpa using hh
  have e:Ge q p=(q0,[],10):=by simp[Ge,hv,hh']
  simp(disch:=omega)only[go_sem,e,q0];refine Al _ ?_;refine .BC (Ae.AJ ?_);simp(disch:=omega)only[go_sem]
  repeat'(with_reducible apply And.intro)
  all_goals(first|exact .A8 (by omega)|exact .agg (Ae.AJ gI))
 have hh':Br (BU q) p=true:=by simpa using hh
 have e:Ge q p=(Ee (B8 q p),(Co (B8 q p)).2,0):=by simp[Ge,hv,hh']
 simp(disch:=omega)only[go_sem,e];refine Ab (aL q h1 h2 h3) ?_;refine gO ?_;refine By ⟨⟨[],[(448,63),(192,127)],[]⟩,[],[]⟩ (vP q p h) gI rfl gI (.inl rfl) ?_;refine gO ?_;exact AQ _
structure Iy(s:WS):Prop where
 nq:s.Aa.length<=100
 nn:s.Aw.length<=100
 aq:∀ q∈s.Aa,BS q<=100
def AM(l:List Queue):List Ac:=NU (l.flatMap BU)
def Dp(l:List Need):List Ac:=l.map (·.proc)
def Ag(s:WS):List Ac:=NU (AM s.Aa++Dp s.Aw)
def OE{l:List Queue}(h:∀ q∈l,BS q<=100):(l.flatMap BU).length<=l.length*100:=by
 induction l with
 | nil=>simp
 | cons q l ih =>
  have h1:=KW q;have h2:=h q (by simp);have h3:=ih λq' hq=>h q' (by simp[hq])
  simp only[List.flatMap_cons,List.length_append,length_cons];omega
def AaG(l:List Queue)(h1:l.length<=100)(h2:∀ q∈l,BS q<=100):Ad C0 79 [AN l] [] (AL (AM l)) []:=by
 refine Ad.go f79 ?_;unfold f79;refine gO ?_;refine AF (l) (λi=>⟨[(8,I i),(7,I l.length),(6,AN l),(3,.sl (.own 960 0) 3 (((l.take i).flatMap BU).map Ac.c))],[]⟩) (λi=>True) trivial ?_ ?_
 ·exact Ce
 rintro i ⟨hi,hP⟩ J hJ;refine gO ?_;refine Bo hi (λAP b hb Cg AX=>?_) λBa=>?_
 simp(disch:=omega)only[go_sem,gm,hb]
 ·have Me:=OE (l:=l.take i) λq hq=>h2 q (List.mem_of_mem_take hq)
  have hq:=KW b;have Ss:=h2 b Cg;have ID:((l.take i).flatMap BU).length+(BU b).length<=4294967296:=by simp only[length_take]at Me;omega
  refine Ab (aG b (by omega)) ?_;refine gO ?_;refine hJ _ (i+1) ⟨by omega,trivial⟩ (by omega) (AT.Aq ?_ ?_)
  all_goals(try simp(disch:=omega)only[go_sem])
  all_goals(try(repeat'(with_reducible apply And.intro)))
  all_goals(first|exact .Cr (by omega)|exact .A8 (by omega)|exact .sl (by simp[take_add_one,hb])|exact .int (by simp[take_add_one,hb])|exact .eq (by simp[take_add_one,hb]))
 ·subst Ba;have Me:=OE h2;refine FU [960] (il (l.flatMap BU) (by omega)) (by simp(disch:=omega)only[go_sem,take_length]) rfl ?_;refine gO ?_;refine CT _ ?_;simp(disch:=omega)only[go_sem,AM]
def O3{l:List Queue}(h:∀ q∈l,BS q<=100):(AM l).length<=l.length*100:=le_trans (SH _) (OE h)
def LB(s:WS)(h:Iy s):Ad C0 36 [.agg s.c] [] (AL (Ag s)) []:=by
 have hq:=O3 h.aq;have h1:=h.nq;have h2:=h.nn;have ID:(AM s.Aa).length<=4294967296:=by omega
 refine Ad.go f36 ?_;unfold f36;refine gO ?_;refine Ab (AaG s.Aa h.nq h.aq) ?_;refine gO ?_;refine AF (s.Aw) (λi=>⟨[(13,I i),(12,I s.Aw.length),(11,Io s.Aw),(3,.sl (.own 1344 0) 3 ((AM s.Aa++Dp (s.Aw.take i)).map Ac.c))],[]⟩) (λi=>True) trivial ?_ ?_
 ·refine AT.CX ⟨[(576,1344)],[],[]⟩ ⟨rfl,rfl⟩ (by simp[lk]) ?_ ?_
  all_goals(try simp(disch:=omega)only[go_sem])
  all_goals(try(repeat'(with_reducible apply And.intro)))
  all_goals(first|exact .Cr (by omega)|exact .A8 (by omega)|exact .sl (by simp[Dp])|exact .int (by simp[Dp])|exact .eq (by simp[Dp]))
 rintro i ⟨hi,hP⟩ J hJ;refine gO ?_;refine Bo hi (λAP b hb Cg AX=>?_) λBa=>?_
 simp(disch:=omega)only[go_sem,gm,hb]
 ·have w7:(AM s.Aa).length+(Dp (s.Aw.take i)).length+1<=4294967296:=by simp[Dp];omega
  simp(disch:=omega)only[go_sem,Dp];refine hJ _ (i+1) ⟨by omega,trivial⟩ (by omega) (AT.Aq ?_ ?_)
  all_goals(try simp(disch:=omega)only[go_sem])
  all_goals(try(repeat'(with_reducible apply And.intro)))
  all_goals(first|exact .Cr (by omega)|exact .A8 (by omega)|exact .sl (by simp[Dp,take_add_one,hb,Ac.c])|exact .int (by simp[Dp,take_add_one,hb,Ac.c])|exact .eq (by simp[Dp,take_add_one,hb,Ac.c]))
 ·subst Ba;refine FU [1344] (il (AM s.Aa++Dp s.Aw) (by simp[Dp];omega)) (by simp(disch:=omega)only[go_sem,take_length]) rfl ?_;refine gO ?_;refine CT _ ?_;simp(disch:=omega)only[go_sem,Ag]
def Cd(q:Queue)(p:Ac):Queue:=if valid q&&Br (BU q) p then { Ee (B8 q p) with gen:=q.gen } else q
def E7(l:List Need)(p:Ac):List Need:=l.filter λn=>decide (n.proc≠p)
def BW(s:WS)(p:Ac):WS:=⟨s.Aa.map λq=>Cd q p,E7 s.Aw p⟩
@[reducible] def jO:List AV:=[.sl .no 8 [],.sl .no 9 []]
@[go_sem] theorem AfZ(p q:Ac):(BF p q !=0) = !decide (p=q):=by
 by_cases h:p=q
 ·subst h;simp[CJ]
 ·have:BF p q≠0:=λe=>h (FL e)
  simp[h,this]
@[go_sem] theorem Ad0(p q:Ac):(BF p q==0)=decide (p=q):=by
 by_cases h:p=q
 ·subst h;simp[CJ]
 ·have:BF p q≠0:=λe=>h (FL e)
  simp[h,this]
def aU(s:WS)(p:Ac)(h:Iy s):Ad C0 78 [.agg s.c,.agg p.c] [] (.agg (BW s p).c) []:=by
 have dD:=h.nq;have Y4:=h.nn;refine Ad.go f78 ?_;unfold f78;refine gO ?_;refine AF (s.Aa) (λi=>⟨[(17,I i),(16,I s.Aa.length),(15,AN s.Aa),(2,.ptr 128 0),(3,.ptr 192 0),(5,.ptr 320 0),(4,.ptr 256 0)],[(128,s.c),(192,p.c),(256,jO),(320,[.sl (.own 2752 0) 8 (((s.Aa.take i).map λq=>Cd q p).map Queue.c),.v (.slice none 0 0)])]⟩) (λi=>True) trivial ?_ ?_
 ·exact Ce
 rintro i ⟨hi,hP⟩ J hJ;refine gO ?_;refine Bo hi (λAP b hb Cg AX=>?_) λBa=>?_
 simp(disch:=omega)only[go_sem,gm,hb]
 ·have ha:=h.aq b Cg;have ID:i+1<=4294967296:=by omega
  have Aa1:min i s.Aa.length+1<=4294967296:=by omega
  have fin:∀ q,Cd b p=q->∀ st',AT ⟨C0,[]⟩ st' ⟨[(17,I (i+1:Nat)),(16,I s.Aa.length),(15,AN s.Aa),(2,.ptr 128 0),(3,.ptr 192 0),(5,.ptr 320 0),(4,.ptr 256 0)],[(128,s.c),(192,p.c),(256,jO),(320,[.sl (.own 2752 0) 8 (((s.Aa.take i).map λq=>Cd q p).map Queue.c++[q.c]),.v (.slice none 0 0)])]⟩->J st':=λq hq st' h=>by
   refine hJ st' (i+1) ⟨by omega,trivial⟩ (by omega) ?_;have e:((s.Aa.take (i+1)).map λq=>Cd q p).map Queue.c=((s.Aa.take i).map λq=>Cd q p).map Queue.c++[q.c]:=by rw[take_add_one,hb];simp[hq]
   rw[e];exact h
  clear hJ;refine Ay 3 [([],[7]),([],[21]),([],[3])] B6 ?_;refine gO ?_;refine Ax (aG b (by omega)) ?_;refine gO ?_;refine Ab (KE (BU b) p (by have:=KW b;omega)) ?_;cases hp:Br (BU b) p
  ·simp(disch:=omega)only[go_sem,length_map,length_take];refine fin b (by simp[Cd,hp]) _ (AT.Aq gI ?_);simp(disch:=omega)only[go_sem]
  refine gO ?_;refine Ab (vu b p (by omega)) ?_;cases hv:valid b
  ·have e:Ge b p=(q0,[],2):=by simp[Ge,hv]
   simp(disch:=omega)only[go_sem,e,length_map,length_take];refine fin b (by simp[Cd,hv]) _ (AT.Aq gI ?_);simp(disch:=omega)only[go_sem]
  ·have e:Ge b p=(Ee (B8 b p),(Co (B8 b p)).2,0):=by simp[Ge,hv,hp]
   simp(disch:=omega)only[go_sem,e,length_map,length_take];refine fin { Ee (B8 b p) with gen:=b.gen } (by simp[Cd,hv,hp]) _ (AT.Aq gI ?_);simp(disch:=omega)only[go_sem]
 subst Ba;rw[take_length];clear hJ;refine AF (s.Aw) (λi=>⟨[(49,I i),(48,I s.Aw.length),(47,Io s.Aw),(3,.ptr 192 0),(5,.ptr 320 0),(4,.ptr 256 0)],[(192,p.c),(256,jO),(320,[.sl (.own 2752 0) 8 ((s.Aa.map λq=>Cd q p).map Queue.c),.sl (.own 3968 0) 9 ((E7 (s.Aw.take i) p).map Need.c)])]⟩) (λi=>True) trivial ?_ ?_
 ·exact Ce
 rintro i ⟨hi,hP⟩ J hJ;refine gO ?_;refine Bo hi (λAP b hb Cg AX=>?_) λBa=>?_
 simp(disch:=omega)only[go_sem,gm,hb]
 ·have ID:(E7 (s.Aw.take i) p).length+1<=4294967296:=by
   have:(E7 (s.Aw.take i) p).length<=(s.Aw.take i).length:=List.length_filter_le _ _;rw[length_take]at this;omega
  refine Ab (LC b.proc p) ?_;refine gO ?_;have e1:E7 (s.Aw.take (i+1)) p=if b.proc=p then E7 (s.Aw.take i) p else E7 (s.Aw.take i) p++[b]:=by
   simp only[E7,take_add_one,hb,Option.toList_some,List.filter_append,List.filter_cons,List.filter_nil]
   by_cases h:b.proc=p<;>simp[h]
  refine And.intro (λhh=>?_) (λhh=>?_)
  ·have CZ:¬ b.proc=p:=by simpa using hh
   rw[if_neg CZ]at e1;refine hJ _ (i+1) ⟨by omega,trivial⟩ (by omega) (AT.Aq gI ?_);rw[e1];refine gO ?_;exact .sl (by simp[Need.c])
  ·have CZ:b.proc=p:=by simpa using hh
   rw[if_pos CZ]at e1;refine hJ _ (i+1) ⟨by omega,trivial⟩ (by omega) (AT.Aq gI ?_);rw[e1];simp(disch:=omega)only[go_sem]
 ·subst Ba;simp(disch:=omega)only[go_sem,take_length];refine CU ⟨[],[],[2752,3968]⟩ _ ?_;simp(disch:=omega)only[go_sem,BW];exact .eq (by simp)
def Fl(l:List Atom)(a:Atom):List Atom:=if a∈l then l else l++[a]
mutual
def nf:List Atom->Expr->List Atom
 | l,.mk _ a kids=>if kids.length=0 then Fl l a else ng l kids
def ng:List Atom->List Expr->List Atom
 | l,[]=>l
 | l,e::es=>ng (nf l e) es
end
theorem cY(l:List Atom)(e:Expr):nf l e=if e.kids.length=0 then Fl l e.atom else ng l e.kids:=by cases e;simp only[nf];rfl
def Ah(e:Expr):List Atom:=if BM e then nf [] e else []
def H5(l:List Atom)(a:Atom):Int:=match l.findIdx? (λx=>decide (x=a)) with|some i=>i|none=>-1
def lp(l:List Atom)(p:Atom)(hl:l.length<=1000000):Ad C0 300 [BG l,.agg p.c] [] (I (H5 l p)) []:=by
 refine Ad.go f300 ?_;unfold f300;refine gO ?_;refine AF (l) (λi=>⟨[(8,I i),(7,I l.length),(0,BG l),(3,.ptr 192 0)],[(192,p.c)]⟩) (λi=>(l.take i).find? (λx=>decide (x=p))=none) rfl ?_ ?_
 ·exact Ce
 rintro i ⟨hi,hP⟩ J hJ;refine gO ?_;refine Bo hi (λAP b hb Cg AX=>?_) λBa=>?_
 refine Ay 5 [([],[3]),([],[0]),([],[5]),([],[12,13]),([],[14])] B6 ?_;simp(disch:=omega)only[go_sem,gm,hb]
 ·refine⟨λh=>?_,λh=>?_⟩
  ·have e:H5 l p=i:=by unfold H5;rw[Hj hP b hb (by simp at h;simp[h])]
   simp(disch:=omega)only[go_sem,e];exact AQ _
  ·refine hJ _ (i+1) ⟨by omega,(by rw[Cp hP hb];simp at h;simp[Ne.symm h])⟩ (by omega) AK
 ·subst Ba;rw[take_length]at hP;have e:H5 l p = -1:=by
   unfold H5;have:l.findIdx? (λx=>decide (x=p))=none:=by
    rw[List.findIdx?_eq_none_iff];rw[List.find?_eq_none]at hP;intro x hx;simpa using hP x hx
   rw[this]
  simp(disch:=omega)only[go_sem,e];exact AQ _
def cO(l:List Atom)(p:Atom):decide (0<=H5 l p)=decide (p∈l):=by
 unfold H5;cases h:l.findIdx? (λx=>decide (x=p)) with
 |none =>
  rw[List.findIdx?_eq_none_iff]at h;have:p∉l:=λhp=>by simpa using h p hp
  simp[this]
 |some i =>
  obtain⟨h1,h2,_⟩:=(List.findIdx?_eq_some_iff_getElem.1 h);have hm:p∈l:=by simp at h2;rw[<- h2];exact getElem_mem h1
  simp[hm]
def wM(l:List Atom)(p:Atom)(hl:l.length<=1000000):Ad C0 299 [BG l,.agg p.c] [] (B (decide (p∈l))) []:=by
 refine Ad.go f299 ?_;unfold f299;refine gO ?_;refine Ab (lp l p hl) ?_;have:=cO l p;simp(disch:=omega)only[go_sem,this];exact AQ _
def l9{l:List Atom}{a:Atom}(h:((Gl l a).1==0)=true):(Gl l a).2=Fl l a:=by
 unfold Gl at h ⊢;cases hf:l.find? (pF a) with
 |some b =>
  rw[hf]at h;simp only at h ⊢
  by_cases e:a=b
  ·subst e;simp[Fl,List.mem_of_find?_eq_some hf]
  ·simp[e]at h
 |none =>
  rw[hf]at h;simp only at h ⊢
  by_cases h8:l.length=8
  ·simp[h8]at h
  ·have:a∉l:=λhm=>by
    rw[List.find?_eq_none]at hf;have:=hf a hm;simp[pF]at this
   simp[h8,Fl,this]
def ZC:∀ (es:List Expr) (l:List Atom),(∀ e∈es,∀ l,(prop e l).1=true->nf l e=(prop e l).2)->(C4 es l).1=true->ng l es=(C4 es l).2
 |[],l,_,_=>by simp[ng,C4]
 | e::es,l,hk,h=>by
  simp only[C4]at h ⊢;split at h
  ·rename_i h1;rw[if_pos h1];simp only[ng];rw[hk e (by simp) l h1];exact ZC es _ (λe' he=>hk e' (by simp[he])) h
  ·cases h
def KY:∀ (N:Nat) (e:Expr),SizeOf.sizeOf e<N->∀ l:List Atom,(prop e l).1=true->nf l e=(prop e l).2
 | 0,_,h,_,_=>by omega
 | N+1,e,h,l,hp=>by
  rw[EW]at hp ⊢;rw[cY];split at hp
  ·rename_i hk;rw[if_pos hk,if_pos hk];split at hp
   ·rename_i h1;rw[if_pos h1];exact(l9 hp).symm
   ·cases hp
  ·rename_i hk;rw[if_neg hk,if_neg hk];split at hp
   ·cases hp
   ·rename_i h1;rw[if_neg h1];exact ZC _ _ (λe' he l' bj=>KY N e' (by have:=EM he;omega) l' bj) hp
def lh:∀ (N:Nat) (e:Expr),SizeOf.sizeOf e<N->∀ l:List Atom,l.length<=8->(prop e l).1=true ->
 Ad C0 281 [DY 0 l,.agg e.c] [] (DY 1 (prop e l).2) []
 | 0,_,h,_,_,_=>by omega
 | N+1,e,h,l,hl,Vq=>by
  refine Ad.lens f281 λhlen=>?_
  simp only[FZ,lens,Expr.Dg,length_map,and_true,true_and]at hlen;have uF:=Vq;rw[EW]at Vq;refine Ad.go f281 ?_;unfold f281
  by_cases hk:e.kids.length=0
  ·have e1:((e.kids.length:Int)==0)=true:=by simp[hk]
   rw[if_pos hk]at Vq;have hc:=KY (N+1) e h l uF;rw[cY,if_pos hk]at hc;simp(disch:=omega)only[go_sem,e1];refine B4 [0] (wM l e.atom (by omega)) gI rfl trivial ?_
   by_cases hm:e.atom∈l
   ·have e2:(decide (e.atom∈l))=true:=by simp[hm]
    have e3:(prop e l).2=l:=by rw[<- hc];simp[Fl,hm]
    simp(disch:=omega)only[go_sem,e2,e3];refine AY ⟨[(0,1)],[],[]⟩ _ rfl ⟨rfl,rfl⟩ (by simp[lk]) ?_ trivial;simp(disch:=omega)only[go_sem]
   ·have e2:(decide (e.atom∈l))=false:=by simp[hm]
    have e3:(prop e l).2=l++[e.atom]:=by rw[<- hc];simp[Fl,hm]
    simp(disch:=omega)only[go_sem,e2,e3];refine AY ⟨[(1280,1)],[],[]⟩ _ rfl ⟨rfl,rfl⟩ (by simp[lk]) ?_ trivial;refine gO ?_;exact .sl (by simp[Atom.c])
  have e1:((e.kids.length:Int)==0)=false:=by simp only[beq_eq_false_iff_ne,ne_eq];omega
  rw[if_neg hk]at Vq;split at Vq
  ·cases Vq
  rename_i S1;have ep:prop e l=C4 e.kids l:=by rw[EW,if_neg hk,if_neg S1]
  simp(disch:=omega)only[go_sem,e1,ep];refine Ao (α:=Nat × List Atom) (λq=>⟨[(24,I q.1),(23,I e.kids.length),(22,JP e.kids),(0,DY 1920 q.2)],[]⟩)
   (λq=>q.1<=e.kids.length/\q.2.length<=8/\(C4 (e.kids.drop q.1) q.2).1=true/\C4 (e.kids.drop q.1) q.2=C4 e.kids l) (λq=>e.kids.length-q.1) (0,l) ⟨by simp,hl,by simpa using Vq,by simp⟩ ?_ ?_
  ·refine AT.CX ⟨[(0,1920)],[],[]⟩ ⟨rfl,rfl⟩ (by simp[lk]) ?_ ?_
   ·exact gI
   ·exact gI
  rintro⟨i,m⟩ ⟨hi,hm,UL,hr⟩ J hJ
  replace hi:i<=e.kids.length:=hi
  replace hm:m.length<=8:=hm
  replace UL:(C4 (e.kids.drop i) m).1=true:=UL
  replace hr:C4 (e.kids.drop i) m=C4 e.kids l:=hr
  refine gO ?_;refine ⟨λAP=>?_,λJX=>?_⟩
  ·have H0:i<e.kids.length:=by simp at AP;omega
   have hb:e.kids[i]?=some e.kids[i]:=gE H0;have Hb:=EM (getElem_mem H0);have bf:e.kids.drop i=e.kids[i]::e.kids.drop (i+1):=List.drop_eq_getElem_cons H0;generalize e.kids[i]=b at hb Hb bf;rw[bf]at hr UL;simp only[C4]at hr UL;have Vt:(prop b m).1=true:=by
    split at UL
    ·assumption
    ·cases UL
   rw[if_pos Vt]at hr UL;simp(disch:=omega)only[go_sem,gm,hb];refine By ⟨⟨[(1920,0)],[],[]⟩,[(1,1921)],[]⟩ (lh N b (by omega) m hm Vt) gI rfl gI (.inl rfl) ?_;have hx:=VB N b (by omega) m hm;refine gO ?_;refine hJ _ (i+1,(prop b m).2) ⟨by simp;omega,hx,UL,hr⟩ (by simp;omega) (AT.CX ⟨[(1921,1920)],[],[]⟩ ⟨rfl,rfl⟩ (by simp[lk]) ?_ ?_)
   ·exact gI
   ·exact gI
  ·have Ba:i=e.kids.length:=by simp at JX;omega
   subst Ba;rw[List.drop_length]at hr;simp only[C4]at hr;simp(disch:=omega)only[go_sem,<- hr];refine AY ⟨[(1920,1)],[],[]⟩ _ rfl ⟨rfl,rfl⟩ (by simp[lk]) ?_ trivial;simp(disch:=omega)only[go_sem]
def GC{e:Expr}(h:BM e=true):(prop e []).1=true:=by
 simp only[BM,and_eq_true]at h;exact h.2
theorem Dt(e:Expr):(Ah e).length<=8:=by
 unfold Ah;split
 ·rename_i h;rw[KY _ e (lt_succ_self _) [] (GC h)];exact VB _ e (lt_succ_self _) [] (by simp)
 ·simp
def kS(e:Expr):Ad C0 235 [.agg e.c] [] (BG (Ah e)) []:=by
 refine Ad.go f235 ?_;unfold f235;refine gO ?_;refine Ab (ra e) ?_;cases h:BM e
 ·have e1:Ah e=[]:=by simp[Ah,h]
  simp(disch:=omega)only[go_sem,e1];refine AY ⟨[],[],[]⟩ _ rfl ⟨rfl,rfl⟩ (by simp[lk]) ?_ trivial;exact .A8 (by omega)
 ·have hp:=GC h;have e1:Ah e=(prop e []).2:=by
   simp only[Ah,h,if_true];exact KY _ e (lt_succ_self _) [] hp
  simp(disch:=omega)only[go_sem,e1];refine By ⟨⟨[],[],[]⟩,[(1,448)],[]⟩ (lh _ e (lt_succ_self _) [] (by simp) hp) (by simp(disch:=omega)only[go_sem,DY,List.map_nil]) rfl gI (.inl rfl) ?_;refine gO ?_;refine CU ⟨[],[],[448]⟩ _ ?_;simp(disch:=omega)only[go_sem,DY]
@[reducible] def KA(l:List Bool):AV:=.sl .no 1 (l.map λb=>[B b])
def E1(l:List Atom)(set:List Bool)(a:Atom):Bool:=match l.findIdx? (λx=>decide (x=a)) with
 |some i=>set.getD i false
 |none=>false
@[reducible] def ar(l:List Atom)(set:List Bool):AV:=.agg [BG l,KA set]
theorem wD(l:List Atom)(set:List Bool)(a:Atom)(hl:l.length<=1000000):Ad C0 282 [ar l set,.agg a.c] [] (B (E1 l set a)) []:=by
 refine Ad.go f282 ?_;unfold f282;refine gO ?_;refine Ab (lp l a hl) ?_;cases hi:l.findIdx? (λx=>decide (x=a)) with
 |none =>
  have e1:H5 l a = -1:=by simp[H5,hi]
  have e2:E1 l set a=false:=by simp[E1,hi]
  simp only[go_sem,e1];refine Al _ ?_;exact wb (by grind)
 |some i =>
  have e1:H5 l a=i:=by simp[H5,hi]
  by_cases h:i<set.length
  ·have e3:((i:Int)<set.length)=True:=eq_true (by omega);have e4:set[i]?=some (set.getD i false):=by grind
   have e2:E1 l set a=set.getD i false:=by simp[E1,hi]
   simp only[go_sem,e1,e3,e4];refine Al _ ?_;exact wb (by rw[e2])
  ·have e3:((i:Int)<set.length)=False:=eq_false (by omega);have e2:E1 l set a=false:=by grind[E1]
   simp only[go_sem,e1,e3];refine Al _ ?_;exact wb (by grind)
mutual
def FW(has:Atom->Bool):Expr->Bool
 |.mk k a kids=>if kids.length=0 then has a else decide (k<=DR has kids)
def DR(has:Atom->Bool):List Expr->Int
 |[]=>0
 | e::es=>(if FW has e=true then 1 else 0)+DR has es
end
theorem L2(has:Atom->Bool)(e:Expr):FW has e=if e.kids.length=0 then has e.atom else decide (e.k<=DR has e.kids):=by cases e;simp only[FW];rfl
def Oq(has:Atom->Bool):∀ (l:List Expr) (i:Nat) (b:Expr),l[i]?=some b->DR has (l.take (i+1))=DR has (l.take i)+(if FW has b=true then 1 else 0)
 |[],i,b,h=>by grind
 | e::l,0,b,h=>by grind[DR]
 | e::l,i+1,b,h=>by
  have:=Oq has l i b (by simpa using h);simp only[List.take_succ_cons,DR];rw[this];omega
def SI(has:Atom->Bool):∀ l:List Expr,0<=DR has l/\DR has l<=l.length
 |[]=>by simp[DR]
 | e::l=>by
  have:=SI has l;simp only[DR,length_cons];split<;>omega
def lj(l:List Atom)(set:List Bool)(hl:l.length<=1000000):∀ (N:Nat) (e:Expr),SizeOf.sizeOf e<N ->
 Ad C0 283 [.agg e.c,.mv 282 [ar l set]] [] (B (FW (E1 l set) e)) []
 | 0,_,h=>by omega
 | N+1,e,h=>by
  refine Ad.lens f283 λhlen=>?_
  simp[FZ,lens,Expr.Dg,length_map,and_true,true_and]at hlen;refine Ad.go f283 ?_;unfold f283
  by_cases hk:e.kids.length=0
  ·have e1:((e.kids.length:Int)==0)=true:=by grind
   have ee:FW (E1 l set) e=E1 l set e.atom:=by rw[L2,if_pos hk]
   simp only[go_sem,e1,ee];refine Ab (wD l set e.atom hl) (gO ?_);exact AQ _
  have e1:((e.kids.length:Int)==0)=false:=by grind
  have ee:FW (E1 l set) e=decide (e.k<=DR (E1 l set) e.kids):=by rw[L2,if_neg hk]
  refine gS ?_;refine AF (e.kids) (λi=>⟨[(19,I i),(18,I e.kids.length),(17,JP e.kids),(1,.mv 282 [ar l set]),(2,.ptr 128 0),(5,I (DR (E1 l set) (e.kids.take i)))],[(128,e.c)]⟩) (λi=>True) trivial ?_ ?_
  ·refine AT.Aq ?_ ?_
   all_goals(try simp(disch:=omega)only[go_sem])
   all_goals(try(repeat'(with_reducible apply And.intro)))
   all_goals(first|exact .Cr (by omega)|exact .A8 (by omega)|exact .sl (by simp[DR])|exact .int (by simp[DR])|exact .eq (by simp[DR]))
  rintro i ⟨hi,hP⟩ J hJ;refine gO ?_;refine Bo hi (λAP b hb Cg AX=>?_) λBa=>?_
  simp(disch:=omega)only[go_sem,hb]
  ·have Hb:=EM Cg;have iz:=Oq (E1 l set) e.kids i b hb;have ID:=SI (E1 l set) (e.kids.take i);have Y2:(e.kids.take i).length<=i:=by grind
   refine Ab (lj l set hl N b (by omega)) (gO ?_);refine And.intro (λhh=>?_) (λhh=>?_)
   ·rw[if_pos hh]at iz;refine hJ _ (i+1) ⟨by omega,trivial⟩ (by omega) (AT.Aq ?_ ?_)
    ·refine gO ?_;exact .int iz.symm
    ·exact gI
   ·rw[if_neg (by grind)]at iz;refine hJ _ (i+1) ⟨by omega,trivial⟩ (by omega) (AT.Aq ?_ ?_)
    ·refine gO ?_;exact .int (by omega)
    ·exact gI
  ·subst Ba;refine gO ?_;exact AQ _
def Gc(e:Expr)(set:List Bool):Bool:=!decide ((Ah e).length=0)&&FW (E1 (Ah e) set) e
def wg(e:Expr)(l:List Atom)(set:List Bool)(hl:l.length<=1000000):Ad C0 236 [.agg e.c,BG l,KA set] [] (B (FW (E1 l set) e)) []:=by
 refine Ad.go f236 ?_;unfold f236;refine gO ?_;refine Ab (lj l set hl _ e (lt_succ_self _)) (gO ?_);exact AQ _
def vM(e:Expr)(set:List Bool):Ad C0 180 [.agg e.c,KA set] [] (B (Gc e set)) []:=by
 have hl:=Dt e;refine Ad.go f180 ?_;unfold f180;refine gO ?_;refine Ab (kS e) ?_
 by_cases h0:(Ah e).length=0
 ·have e1:(0<((Ah e).length:Int))=False:=eq_false (by omega);simp only[go_sem,e1];refine Al _ ?_;exact wb (by simp[Gc,h0])
 ·have e1:(0<((Ah e).length:Int))=True:=eq_true (by omega);refine gS ?_;refine Ab (wg e (Ah e) set (by omega)) (gO ?_);refine Al _ ?_;exact wb (by simp[Gc,h0])
def DX(l:List Queue)(p:Ac)(name:Bs):Bool:=l.foldl (λw q=>if q.res.name==name then (Ar q p).isSome else w) false
def b8{l:List Queue}{i:Nat}{b:Queue}(p:Ac)(name:Bs)(hb:l[i]?=some b):DX (l.take (i+1)) p name=if b.res.name==name then (Ar b p).isSome else DX (l.take i) p name:=by grind[DX,take_add_one]
def ET(s:WS)(n:Need):List Bool:=(Ah n.expr).map λa=>!DX s.Aa n.proc a.name
def vN(s:WS)(n:Need)(h:Iy s):Ad C0 181 [.agg s.c,.agg n.c] [] (KA (ET s n)) []:=by
 have hl:=Dt n.expr;have dD:=h.nq;refine Ad.go f181 ?_;unfold f181;refine gO ?_;refine Ab (kS n.expr) (gO ?_);refine AF ((Ah n.expr)) (λi=>⟨[(15,I i),(14,I (Ah n.expr).length),(13,BG (Ah n.expr)),(2,.ptr 128 0),(3,.ptr 192 0),(5,.sl (.own 2816 0) 1 (((Ah n.expr).take i).map λa=>[B (!DX s.Aa n.proc a.name)]))],[(128,s.c),(192,n.c)]⟩) (λi=>True) trivial ?_ ?_
 ·exact Ce
 rintro i ⟨hi,hP⟩ J hJ;refine gO ?_;refine Bo hi (λAP b hb Cg AX=>?_) λBa=>?_
 simp(disch:=omega)only[go_sem,hb]
 ·have step:∀ st',AT ⟨C0,[]⟩ st' ⟨[(15,I (i+1:Nat)),(14,I (Ah n.expr).length),(13,BG (Ah n.expr)),(2,.ptr 128 0),(3,.ptr 192 0),(5,.sl (.own 2816 0) 1 (((Ah n.expr).take i).map (λa=>[B (!DX s.Aa n.proc a.name)])++[[B (!DX s.Aa n.proc b.name)]]))],[(128,s.c),(192,n.c)]⟩->J st':=λst' h=>by
   refine hJ st' (i+1) ⟨by omega,trivial⟩ (by omega) ?_;have e:((Ah n.expr).take (i+1)).map (λa=>[B (!DX s.Aa n.proc a.name)])=((Ah n.expr).take i).map (λa=>[B (!DX s.Aa n.proc a.name)])++[[B (!DX s.Aa n.proc b.name)]]:=by grind[take_add_one]
   rw[e];exact h
  have ID:min i (Ah n.expr).length+1<=4294967296:=by omega
  refine Ao (α:=Nat) (λj=>⟨[(22,I j),(21,I s.Aa.length),(20,AN s.Aa),(8,B (DX (s.Aa.take j) n.proc b.name)),(7,.ptr 448 0),(15,I i),(14,I (Ah n.expr).length),(13,BG (Ah n.expr)),(2,.ptr 128 0),(3,.ptr 192 0),(5,.sl (.own 2816 0) 1 (((Ah n.expr).take i).map λa=>[B (!DX s.Aa n.proc a.name)]))],[(448,b.c),(128,s.c),(192,n.c)]⟩) (λj=>j<=s.Aa.length) (λj=>s.Aa.length-j) 0 (by omega) ?_ ?_
  ·refine AT.Aq ?_ ?_
   ·refine gO ?_;exact .eq rfl
   ·exact gI
  rintro j hj J2 Vo;refine gO ?_;refine And.intro (λAX=>?_) (λAeF=>?_)
  ·obtain⟨q,hq⟩:∃ q,s.Aa[j]?=some q:=⟨_,gE (by grind)⟩;have UQ:=mG hq;have hqa:=h.aq q UQ;have y9:q.As.length+q.waits.length<=1000000:=by grind[BS,B7]
   have hw:=b8 n.proc b.name hq;simp(disch:=omega)only[go_sem,hq];refine And.intro (λhh=>?_) (λhh=>?_)
   ·refine Ab (kT q n.proc y9) (gO ?_);rw[if_pos hh]at hw;refine Vo _ (j+1) (by grind) (by grind) (AT.Aq ?_ gI);rw[hw];exact gI
   ·rw[if_neg (by grind)]at hw;refine Vo _ (j+1) (by grind) (by grind) (AT.Aq ?_ gI);rw[hw];exact gI
  ·have hjl:j=s.Aa.length:=by grind
   subst hjl;clear Vo;refine gO ?_;exact step _ AK
 ·subst Ba;refine CU ⟨[],[],[2816]⟩ _ (gO ?_);exact .sl (by simp[ET])
def CY{α:Type}{f:Nat->α->Bool}{l:List α}:Cu f l=true↔∀ i b,l[i]?=some b->f i b=true:=by
 unfold Cu;rw[List.all_eq_true];constructor<;>simp_all[List.mk_mem_zipIdx_iff_getElem?]
def Au{α:Type}{l:List α}{i:Nat}{b:α}(h:l[i]?=some b):i<l.length:=by grind
def get_eq{α:Type}{l:List α}{i:Nat}{b:α}(h:l[i]?=some b):l[i]'(Au h)=b:=by grind
def ZU(l:List Bh):Prop:=l.Pairwise λa b=>a.proc≠b.proc
def fQ(l:List Bh):(∀ (i:Nat) (w:Bh),l[i]?=some w->FG l w.proc=(i:Int))↔ZU l:=by grind[ZU,List.pairwise_iff_getElem,List.findIdx?_eq_some_iff_getElem,FG]
def Qp(l:List A9):Prop:=l.Pairwise λa b=>BF a.proc b.proc<0
def uR(l:List A9):(∀ i h,l[i]?=some h->(decide (i=0)||decide (BF (l.getD (i-1) h0).proc h.proc<0))=true)↔Qp l:=by
 unfold Qp;rw[List.pairwise_iff_getElem];constructor
 ·intro h;have step:∀ i (hi:i+1<l.length),BF l[i].proc l[i+1].proc<0:=λi hi=>by
   have:=h (i+1) l[i+1] (gE hi);simp only[Nat.add_sub_cancel,Bool.or_eq_true,decide_eq_true_eq]at this;rcases this with h'|h'
   ·omega
   ·simpa [List.getD,gE (show i<l.length by omega)]using h'
  have far:∀ d i (hi:i+d+1<l.length),BF l[i].proc l[i+d+1].proc<0:=by
   intro d
   induction d with
   | zero=>omega
   | succ d ih =>
    intro i hi;have h1:=ih i (by omega);have h2:=step (i+d+1) (by omega);exact DQ h1 h2
  intro i j hi hj UN;obtain⟨d,rfl⟩:∃ d,j=i+d+1:=⟨j-i-1,by omega⟩;simp_all
 grind
def Dk(r:BE)(l:List A9):BV r l=true↔r.shaped=true/\l.length<=8/\(∀ h∈l,h.proc.ok=true/\r.fits h.AH=true)/\Qp l/\r.compat (l.map (·.AH))=true:=by
 unfold BV;simp only[and_eq_true,decide_eq_true_eq,CY,Fg];rw[<- uR];constructor
 ·rintro⟨⟨⟨h1,h2⟩,h3⟩,h4⟩;refine⟨h1,h2,λh hm=>?_,λi h hi=>(h3 i h hi).2,h4⟩;obtain⟨i,hi,he⟩:=List.getElem_of_mem hm;have:=h3 i h (by grind);exact this.1
 grind
theorem Cf(q:Queue):Fe q=true↔q.As.length<=8/\ZU q.As/\∀ w∈q.As,(Am q.holds w.proc).zero=false/\q.res.fits w.AH=true/\q.res.covers w.AH (Am q.holds w.proc)=true/\w.AH≠Am q.holds w.proc/\w.prio=0/\w.Ec=0:=by
 unfold Fe;simp only[and_eq_true,decide_eq_true_eq,CY,Ja];rw[<- fQ];constructor
 ·rintro⟨h1,h2⟩;refine⟨h1,λi w hi=>(h2 i w hi).1.1.1.1.1.1,λw hm=>?_⟩;grind[List.getElem_of_mem]
 grind
def CS(l:List Bh):Ef l=true↔l.length<=8/\ZU l/\∀ w∈l,w.ok=true:=by
 unfold Ef;simp only[and_eq_true,decide_eq_true_eq,CY,Ht];rw[<- fQ];constructor
 ·rintro⟨h1,h2⟩;refine⟨h1,λi w hi=>(h2 i w hi).2,λw hm=>?_⟩;obtain⟨i,hi,he⟩:=List.getElem_of_mem hm;exact(h2 i w (by grind)).1
 grind
theorem BX(q:Queue):Fi q=true↔Ef q.waits=true/\q.holds.length+q.waits.length<=8/\∀ w∈q.waits,q.res.fits w.AH=true/\(Am q.holds w.proc).zero=true:=by simp_all[Fi,Ji,and_assoc]
structure Sound(q:Queue):Prop where
 res:Is q.res=true
 holds:BV q.res q.holds=true
 As:Fe q=true
 waits:Fi q=true
 gen:0<=q.gen/\q.gen<=1073741824
theorem Kr(q:Queue):sound q=true↔Sound q:=by
 unfold sound;simp;exact⟨fun⟨⟨⟨⟨⟨a,b⟩,c⟩,d⟩,e⟩,f⟩=>⟨a,b,c,d,e,f⟩,λh=>⟨⟨⟨⟨⟨h.res,h.holds⟩,h.As⟩,h.waits⟩,h.gen.1⟩,h.gen.2⟩⟩
def Oz{α:Type}{f g:α->Bool}(h:∀ x,f x=true->g x=true):∀ l:List α,(l.filter g).find? f=l.find? f
 |[]=>rfl
 | x::l=>by
  simp[List.filter_cons,List.find?_cons];cases hf:f x
  ·cases g x<;>simp_all[Oz]
  grind
def SX{l:List A9}{p p':Ac}(h:p'≠p):Am (AR l p) p'=Am l p':=by grind[Am,AR]
theorem FY{l:List A9}{p p':Ac}{a:BR}(h:p'≠p):Am (CO l p a) p'=Am l p':=by
 rw[<- SX (l:=l) h];unfold CO;split
 ·rfl
 ·unfold Am;generalize Dd (AR l p) p=k
  conv=>rhs;rw[<- List.take_append_drop k (AR l p)]
  grind
def SJ{l:List A9}{p:Ac}(h:(Am l p).zero=false):(AR l p).length+1<=l.length:=by
 unfold Am at h;cases hf:l.find? (λh=>decide (h.proc=p)) with
 |none=>grind[BR.zero]
 |some x =>
  have hm:=List.mem_of_find?_eq_some hf;have hx:=List.find?_some hf;unfold AR;have:(l.filter λh=>decide (h.proc≠p)).length<l.length:=by
   rw[List.length_filter_lt_length_iff_exists];grind
  omega
theorem VD{l:List A9}{p:Ac}{a:BR}:(CO l p a).length<=(AR l p).length+1:=by grind[CO]
theorem Jb{r:BE}{a:BR}(h:r.fits a=true):a.zero=false:=by
 simp only[BE.fits,and_eq_true]at h;grind[BK,A7,BR.zero]
theorem Mm{l:List A9}{p:Ac}{h:A9}:h∈AR l p↔h∈l/\h.proc≠p:=by simp[AR]
theorem Xc{l:List A9}{p:Ac}{a:BR}(ha:a.zero=false){h:A9}:h∈CO l p a↔(h∈l/\h.proc≠p)\/h=⟨p,a⟩:=by
 unfold CO;rw[ha];simp only[Bool.false_eq_true,if_false,List.mem_append,mem_cons];rw[<- Mm]
 conv=>rhs;rw[<- List.take_append_drop (Dd (AR l p) p) (AR l p),List.mem_append]
 grind
def fp{s s':List Bool}{m:Int}(h:∀ k,s'.getD k false=true->s.getD k false=true)(hs:Fz s m=true):Fz s' m=true:=by grind[Fz]
def Js(s:List Bool)(i k:Nat):(s.set i true).getD k false=(if i=k/\i<s.length then true else s.getD k false):=by grind
def aw{r:BE}{l' l:List BR}(GJ:l'.Sublist l):∀ {s s':Int} {seen Qd:List Bool},s'<=s->Qd.length=seen.length->(∀ k,Qd.getD k false=true->seen.getD k false=true)->Cl r l s seen=true->Cl r l' s' Qd=true:=by
 induction GJ with
 | slnil=>intros;rfl
 | cons a GJ ih =>
  intro s s' seen Qd hs hlen hk h;simp only[Cl,and_eq_true]at h;obtain⟨⟨h1,h2⟩,h3⟩:=h;have hu:=Lt h1;split at h3
  ·exact ih (by omega) hlen hk h3
  ·rw[and_eq_true]at h3;refine ih (by omega) (by grind) (λk pG=>?_) h3.2;grind
 | cons_cons a GJ ih =>
  intro s s' seen Qd hs hlen hk h;simp only[Cl,and_eq_true,not_eq_true',decide_eq_false_iff_not]at h ⊢;obtain⟨⟨h1,h2⟩,h3⟩:=h;refine⟨⟨h1,by omega⟩,?_⟩;split at h3
  ·grind
  ·rename_i hm;rw[if_neg hm];rw[and_eq_true]at h3 ⊢;refine⟨fp hk h3.1,ih (by omega) (by grind) (λk pG=>?_) h3.2⟩;rw[Js]at pG ⊢;grind
def gP{r:BE}{l' l:List BR}(GJ:l'.Sublist l)(h:r.compat l=true):r.compat l'=true:=by
 simp[BE.compat]at *;exact⟨h.1,aw GJ (Int.le_refl _) rfl (λ_ h=>h) h.2⟩
def Lq{r:BE}{l' l:List A9}(GJ:l'.Sublist l)(h:BV r l=true):BV r l'=true:=by
 rw[Dk]at *;obtain⟨h1,h2,h3,h4,h5⟩:=h;exact⟨h1,le_trans GJ.length_le h2,λx hx=>h3 x (GJ.subset hx),h4.sublist GJ,gP (GJ.map _) h5⟩
theorem HU(l:List A9)(p:Ac):CO l p ⟨0,0⟩=AR l p:=by simp[CO,BR.zero]
theorem MD{q:Queue}(h:Sound q)(p:Ac):Sound (B8 q p):=by
 have hd:(AR q.holds p).length<=q.holds.length:=List.length_filter_le _ _;have hw:=Cq q.waits p;have hc:=Cq q.As p;refine⟨h.res,?_,?_,?_,h.gen⟩
 ·simp[B8,HU];exact Lq List.filter_sublist h.holds
 ·have:=(Cf q).1 h.As;rw[Cf];simp only[B8,HU];refine⟨by omega,this.2.1.sublist List.filter_sublist,λw hw=>?_⟩;simp_all[Bv,SX]
 ·have:=(BX q).1 h.waits;rw[BX];obtain⟨a,b,c⟩:=this;rw[CS]at a;simp[B8,HU,CS];refine⟨⟨by omega,a.2.1.sublist List.filter_sublist,λw hw=>?_⟩,by omega,λw hw=>?_⟩<;>simp_all[Bv,SX]
def PU{q:Queue}{w:Bh}(h:F3 q.res q.holds w.proc w.AH=true):q.res.fits w.AH=true/\w.proc.ok=true/\BV q.res (CO q.holds w.proc w.AH)=true:=by simp_all[F3]
def ME{q:Queue}{w:Bh}(h:Sound q)(hh:BZ q=some w)(hr:F3 q.res q.holds w.proc w.AH=true):Sound (DH q w):=by
 obtain⟨r1,r2,r3⟩:=PU hr;have hcv:=(Cf q).1 h.As;have XT:=(BX q).1 h.waits;obtain⟨a,b,c⟩:=XT;rw[CS]at a;cases hc:q.As with
 | cons w' l =>
  have WI:w'=w:=by grind[BZ]
  subst WI;have hp:DH q w' = { q with holds:=CO q.holds w'.proc w'.AH,As:=l }:=by grind[DH]
  rw[hp];have hu:=hcv.2.1;rw[hc]at hu;have iM:=pairwise_cons.1 hu;have AeG:=(hcv.2.2 w' (by grind)).1;refine⟨h.res,r3,?_,?_,h.gen⟩
  ·rw[Cf];have:=hcv.1;rw[hc]at this;simp only[length_cons]at this;refine⟨by grind,iM.2,λx hx=>?_⟩;grind[FY]
  ·rw[BX];simp[CS];refine⟨a,?_,λx hx=>?_⟩
   ·have h1:=SJ AeG;have h2:=VD (l:=q.holds) (p:=w'.proc) (a:=w'.AH);omega
   ·have xp:=c x hx;have CZ:x.proc≠w'.proc:=λe=>by grind
    rw[FY CZ];exact xp
 | nil =>
  cases hw:q.waits with
  | nil=>simp[BZ,hc,hw]at hh
  | cons w' l =>
   have WI:w'=w:=by grind[BZ]
   subst WI;have hp:DH q w' = { q with holds:=CO q.holds w'.proc w'.AH,waits:=l }:=by grind[DH]
   rw[hp];rw[hw]at a b;have iM:=pairwise_cons.1 a.2.1;simp only[length_cons]at a b;refine⟨h.res,r3,?_,?_,h.gen⟩
   ·grind[Cf]
   ·rw[BX];simp[CS];refine⟨⟨by omega,iM.2,λx hx=>a.2.2 x (by simp[hx])⟩,?_,λx hx=>?_⟩<;>grind[VD,AR,FY]
def MB(q:Queue):Prop:=∀ w,BZ q=some w->F3 q.res q.holds w.proc w.AH=false
theorem BN(q:Queue):valid q=true↔Sound q/\MB q:=by
 unfold valid MB;rw[and_eq_true,Kr];grind
theorem Xm(q:Queue)(w:Bh):(DH q w).res=q.res/\(DH q w).gen=q.gen:=by unfold DH;grind
def I8{P:Queue->Prop}(hP:∀ q w,P q->BZ q=some w->F3 q.res q.holds w.proc w.AH=true->P (DH q w)):∀ (n:Nat) (q:Queue),B7 q=n->P q->P (Co q).1/\MB (Co q).1
 | n,q,hn,hq=>by
  rw[Kx];cases hh:BZ q with
  |none=>exact⟨hq,λw hw=>by grind⟩
  |some w =>
   simp only;cases hr:F3 q.res q.holds w.proc w.AH
   ·exact⟨hq,λw' WI=>by grind⟩
   ·have hs:=Km hh;exact I8 hP (B7 (DH q w)) (DH q w) rfl (hP q w hq hh hr)
termination_by n q hn=>B7 q
decreasing_by omega
def ZN{q:Queue}(h:Sound q):Sound (Co q).1/\MB (Co q).1:=I8 (λ_ _ h hh hr=>ME h hh hr) _ q rfl h
def U2(q:Queue):(Co q).1.res=q.res/\(Co q).1.gen=q.gen:=(I8 (P:=λx=>x.res=q.res/\x.gen=q.gen) (λx w h _ _=>by grind[Xm]) _ q rfl ⟨rfl,rfl⟩).1
def jP(q:Queue):BS (Co q).1<=BS q:=(I8 (P:=λx=>BS x<=BS q) (λx w h hh _=>le_trans (cG hh) h) _ q rfl (Nat.le_refl _)).1
def TD{q:Queue}(h:Sound q/\MB q){g:Int}(hg:0<=g/\g<=1073741824):Sound { q with gen:=g }/\MB { q with gen:=g }:=by
 refine⟨⟨h.1.res,h.1.holds,?_,?_,hg⟩,λw hw=>h.2 w hw⟩
 ·rw[Cf];exact(Cf q).1 h.1.As
 ·rw[BX];exact(BX q).1 h.1.waits
theorem I6{q:Queue}(h:valid q=true)(p:Ac):valid (Cd q p)=true:=by
 unfold Cd;split
 ·rw[BN]at h ⊢;have h1:=ZN (MD h.1 p);exact TD h1 h.1.gen
 omega
theorem ZF(q:Queue)(p:Ac):(Cd q p).res=q.res:=by
 unfold Cd;split
 ·exact(U2 (B8 q p)).1
 ·rfl
def jW(q:Queue)(p:Ac):BS (B8 q p)<=BS q:=by grind[AR,Cq,BS,B7,B8,HU]
def oU(q:Queue)(p:Ac):BS (Cd q p)<=BS q:=by
 unfold Cd;split
 ·exact le_trans (jP (B8 q p)) (jW q p)
 omega
end Go.Rd
