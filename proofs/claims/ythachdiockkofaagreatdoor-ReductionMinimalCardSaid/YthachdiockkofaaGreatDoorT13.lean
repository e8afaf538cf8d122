/- part 13 of the proof -/
import Derived.Test.YthachdiockkofaaGreatDoorT12
set_option linter.all false
open Go Go.Abs Go.Proofs
set_option maxRecDepth 100000
namespace Go.Rd
set_option maxHeartbeats 8000000
open List (drop_drop getElem_mem length_drop length_map length_take map_set mem_cons pairwise_cons take_add_one take_length)
open Bool (and_eq_true not_eq_true')
open Option (toList_some)
open Nat (lt_succ_self)
open Tryz
theorem K4:∀ (l:List Proc) (a b:Proc),CM (l++[a]++[b])=if a=b then CM (l++[a]) else CM (l++[a])++[b]
 |[],a,b=>by
  by_cases h:a=b<;>simp[CM,h]
 |[x],a,b=>by
  have:=K4 [] a b
  simp only[List.nil_append,List.cons_append]at this ⊢
  simp only[CM]at this ⊢
  by_cases h:a=b<;>by_cases h':x=a<;>simp[h,h']at this ⊢<;>(try simp[CM])<;>simp_all
 | x::y::l,a,b=>by
  have:=K4 (y::l) a b
  simp only[List.cons_append]at this ⊢
  simp only[CM]
  by_cases h:x=y
  ·simp only[h,if_true];exact this
  ·simp only[h,if_false]
   rw[this]
   by_cases h':a=b<;>simp[h']
theorem LF:∀ l:List Proc,(CM l).length≤l.length
 |[]=>by simp[CM]
 |[a]=>by simp[CM]
 | a::b::l=>by
  have:=LF (b::l)
  simp only[CM]
  split
  ·simp at this ⊢;omega
  ·simp at this ⊢;omega
theorem Gk{l:List Proc}{i:Nat}{b:Proc}(hb:l[i]?=some b):l.take (i+1)=l.take i++[b]:=by rw[take_add_one,hb];rfl
theorem K5{l:List Proc}{i:Nat}{a b:Proc}(ha:l[i]?=some a)(hb:l[i+1]?=some b):CM (l.take (i+2))=if a=b then CM (l.take (i+1)) else CM (l.take (i+1))++[b]:=by
 rw[Gk hb,Gk ha,K4]
@[reducible] def J0(r:Nat)(l:List Proc):AV:=.sl (.own r 0) 3 (l.map Proc.c)
theorem Wg(k:Nat)(cs es:List (List AV)):(over 0 k cs es).take k=es.take k:=by
 refine List.ext_getElem? fun i=>?_
 rw[List.getElem?_take,List.getElem?_take]
 split
 ·rename_i h
  have hn:¬ (k≤i):=by omega
  simp only[over,List.getElem?_mapIdx,Nat.zero_add,hn,if_false]
  cases es[i]?<;>rfl
 ·rfl
theorem SM{α:Type}{l cur:List α}{d i:Nat}(h:cur.drop d=l.drop d)(hi:d≤i):cur[i]?=l[i]?:=by
 have:=congrArg (fun x=>x[i-d]?) h
 simp only[List.getElem?_drop]at this
 rwa [show d+(i-d)=i by omega]at this
theorem f198_ok(l:List Proc)(hl:l.length≤1000000):Ac C0 198 [J0 0 l] [] (J0 1 (CM l)) []:=by
 refine Ac.go f198 ?_
 unfold f198
 by_cases h2:l.length<2
 ·have e1:((l.length:Int)<2)=True:=eq_true (by omega)
  have e:CM l=l:=by
   match l,h2 with
   |[],_=>rfl
   |[a],_=>rfl
   | a::b::l,h=>simp at h;omega
  simp(disch:=omega)only[go_sem,e1]
  refine AU ⟨[(0,1)],[],[]⟩ _ rfl ⟨rfl,rfl⟩ (by simp[lk]) ?_ trivial
  simp(disch:=omega)only[go_sem,e]
 have e1:((l.length:Int)<2)=False:=eq_false (by omega)
 simp(disch:=omega)only[go_sem,e1,decide_false]
 refine Ab (α:=Nat) (fun i=>⟨[(3,I (i+1:Nat)),(0,J0 0 l)],[]⟩) (fun i=>i+1≤l.length∧CM (l.take (i+1))=l.take (i+1)) (fun i=>l.length-i) 0 ⟨by omega,by
  match l,h2 with
  | a::b::l,_=>rfl
  |[a],h=>exact absurd (by simp) h
  |[],h=>exact absurd (by simp) h⟩ ?_ ?_
 ·exact Imp.weak (by simp(disch:=omega)only[go_sem]) (by simp(disch:=omega)only[go_sem])
 rintro i ⟨hi,hc⟩ J hJ
 by_cases hlt:i+1<l.length
 ·have z1:(((i+1:Nat):Int)<l.length)=True:=eq_true (by omega)
  obtain⟨a,ha⟩:∃ a,l[i]?=some a:=⟨_,gE (by omega)⟩
  obtain⟨b,hb⟩:∃ b,l[i+1]?=some b:=⟨_,gE (by omega)⟩
  have z2:((i:Int)+1<l.length)=True:=eq_true (by omega)
  have z3:((i:Int)+1-1)=(i:Int):=by omega
  have z4:((i:Int)+1)=((i+1:Nat):Int):=rfl
  simp(disch:=omega)only[go_sem,z1,z2]
  refine Aj 9 [([],[0]),([],[3]),([],[16,17]),([],[18]),([],[0]),([],[3]),([],[21]),([],[20,22]),([],[23])] fol ?_
  simp(disch:=omega)only[go_sem,z3,gm,ha,hb]
  refine⟨fun h=>?_,fun h=>?_⟩
  rotate_left
  ·have hne:a≠b:=fun e=>by simp[e]at h
   refine hJ _ (i+1) ⟨by omega,?_⟩ (by omega) AE
   rw[K5 ha hb,if_neg hne,hc,← Gk hb]
  have hab:a=b:=by simp at h;exact h.symm
  have hcc:CM (l.take (i+1+1))=l.take (i+1):=by rw[K5 ha hb,if_pos hab,hc]
  clear hJ h hb z1 z2 z3 z4 ha hab hc
  generalize hm:i+1=m at hlt hcc
  refine Ab (α:=List Proc × Nat × Nat) (fun x=>⟨[(5,I x.2.2),(3,I x.2.1),(4,.sl (.own 0 m) 3 ((x.1.drop m).map Proc.c)),(0,J0 0 x.1)],[]⟩)
   (fun x=>x.1.length=l.length∧1≤x.2.2∧m+x.2.2≤l.length∧m≤x.2.1∧x.2.1+1≤m+x.2.2∧x.1.take x.2.1=CM (l.take (m+x.2.2))∧x.1.drop (m+x.2.2-1)=l.drop (m+x.2.2-1)) (fun x=>l.length-m-x.2.2) (l,m,1) ⟨rfl,by simp,by simp;omega,by simp,by simp,by simp[hcc],rfl⟩ ?_ ?_
  ·refine Imp.weak ?_ (by simp(disch:=omega)only[go_sem])
   simp(disch:=omega)only[go_sem,hm]
   refine⟨.int (by omega),.sl ?_⟩
   rw[List.map_drop];exact List.take_of_length_le (by simp)
  rintro⟨cur,k,j⟩ ⟨i1,i2,i3,i4,i5,i6,i7⟩ J hJ
  replace i1:cur.length=l.length:=i1
  replace i2:1≤j:=i2
  replace i3:m+j≤l.length:=i3
  replace i4:m≤k:=i4
  replace i5:k+1≤m+j:=i5
  replace i6:cur.take k=CM (l.take (m+j)):=i6
  replace i7:cur.drop (m+j-1)=l.drop (m+j-1):=i7
  obtain⟨j,rfl⟩:∃ j',j=j'+1:=⟨j-1,by omega⟩
  by_cases hj:m+(j+1)<l.length
  ·have y1:((j:Int)+1<((l.length-m:Nat):Int))=True:=eq_true (by omega)
   obtain⟨x,hx⟩:∃ x,l[m+(j+1)]?=some x:=⟨_,gE hj⟩
   obtain⟨y,hy⟩:∃ y,l[m+j]?=some y:=⟨_,gE (by omega)⟩
   have cx:cur[m+(j+1)]?=some x:=by rw[SM i7 (by omega),hx]
   have cy:cur[m+j]?=some y:=by rw[SM i7 (by omega),hy]
   have hst:=K5 hy hx
   have y3:((j:Int)+1-1)=(j:Int):=by omega
   obtain⟨z,hz⟩:∃ z,cur[k]?=some z:=⟨_,gE (by omega)⟩
   have y4:(m≤k)=True:=eq_true i4
   simp(disch:=omega)only[go_sem,length_drop,i1,y1]
   refine Aj 9 [([],[4]),([],[5]),([],[35,36]),([],[37]),([],[4]),([],[5]),([],[40]),([],[39,41]),([],[42])] fol ?_
   simp(disch:=omega)only[go_sem,y3,y4,gm,List.getElem?_drop,cx,cy,hz,length_drop,i1]
   refine⟨fun h=>?_,fun h=>?_⟩
   ·have hne:y≠x:=fun e=>by simp[e]at h
    rw[if_neg hne]at hst
    refine hJ _ (cur.set k x,k+1,j+1+1) ⟨by simp[i1],by simp,by simp;omega,by simp;omega,by simp;omega,?_,?_⟩ (by simp;omega) (Imp.weak ?_ (by simp(disch:=omega)only[go_sem]))
    ·rw[show m+(j+1+1)=m+j+2 by omega,hst,show m+j+1=m+(j+1) by omega,← i6]
     rw[take_add_one,List.getElem?_set_self (by omega),List.take_set_of_le (by omega)]
     rfl
    ·rw[show m+(j+1+1)-1=m+(j+1) by omega,List.drop_set_of_lt (by omega)]
     have:=congrArg (List.drop 1) i7
     rw[drop_drop,drop_drop,show m+(j+1)-1+1=m+(j+1) by omega]at this
     exact this
    ·simp(disch:=omega)only[go_sem]
     have hs1:(cur.set k x).drop m=(cur.drop m).set (k-m) x:=by rw[List.drop_set,if_neg (by omega)]
     refine⟨.sl ?_,.sl ?_⟩
     ·rw[hs1,map_set];rfl
     ·rw[map_set];rfl
   ·have hne:y=x:=by simp at h;exact h.symm
    rw[if_pos hne]at hst
    refine hJ _ (cur,k,j+1+1) ⟨i1,by simp,by simp;omega,i4,by simp;omega,?_,?_⟩ (by simp;omega) AE
    ·rw[show m+(j+1+1)=m+j+2 by omega,hst,show m+j+1=m+(j+1) by omega,← i6]
    ·rw[show m+(j+1+1)-1=m+(j+1) by omega]
     have:=congrArg (List.drop 1) i7
     rw[drop_drop,drop_drop,show m+(j+1)-1+1=m+(j+1) by omega]at this
     exact this
  ·have y1:((j:Int)+1<((l.length-m:Nat):Int))=False:=eq_false (by omega)
   have hmj:m+(j+1)=l.length:=by omega
   rw[hmj,take_length]at i6
   have hkl:k≤l.length:=by omega
   have y4:(k≤l.length)=True:=eq_true hkl
   have y5:(over 0 k (List.replicate (l.length-k) [.v (.int .i64 0),.v (.int .i64 0),.v (.int .i64 0)]) (cur.map Proc.c)).take k=(CM l).map Proc.c:=by rw[Wg,← List.map_take,i6]
   clear hJ
   simp(disch:=omega)only[go_sem,length_drop,i1,y1,decide_false,y4,Nat.sub_zero,Ge,length_take,Nat.min_self]
   refine AU ⟨[(0,1)],[],[]⟩ _ rfl ⟨rfl,rfl⟩ (by simp[lk]) ?_ trivial
   simp(disch:=omega)only[go_sem,y5]
 ·have hil:i+1=l.length:=by omega
  have z1:((i:Int)+1<l.length)=False:=eq_false (by omega)
  rw[hil,take_length]at hc
  simp(disch:=omega)only[go_sem,z1,decide_false]
  refine AU ⟨[(0,1)],[],[]⟩ _ rfl ⟨rfl,rfl⟩ (by simp[lk]) ?_ trivial
  simp(disch:=omega)only[go_sem,hc]
theorem XC{cs es:List (List AV)}(h:cs.length=es.length):over 0 0 cs es=cs:=by
 refine List.ext_getElem? fun i=>?_
 simp only[over,List.getElem?_mapIdx,Nat.zero_add,Nat.zero_le,if_true,Nat.sub_zero]
 by_cases hi:i<es.length
 ·rw[gE hi,gE (by omega)]
  simp
 ·rw[List.getElem?_eq_none (l:=es) (by omega),List.getElem?_eq_none (l:=cs) (by omega)]
  rfl
def Hn(l:List Proc):Prop:=l.Pairwise fun a b=>A2 a b<0
theorem MW(x:Proc):∀ l:List Proc,x∈CM l↔x∈l
 |[]=>by simp[CM]
 |[a]=>by simp[CM]
 | a::b::l=>by
  have:=MW x (b::l)
  simp only[CM]
  split
  ·rename_i h
   subst h
   rw[this];simp
  ·simp only[mem_cons]at this ⊢
   rw[this]
theorem Sg:∀ l:List Proc,(l.Pairwise fun a b=>A2 a b≤0)→Hn (CM l)
 |[],_=>by simp[CM,Hn]
 |[a],_=>by simp[CM,Hn]
 | a::b::l,h=>by
  have hp:=pairwise_cons.1 h
  have ih:=Sg (b::l) hp.2
  simp only[CM]
  split
  ·exact ih
  ·rename_i hne
   refine pairwise_cons.2 ⟨fun x hx=>?_,ih⟩
   rw[MW]at hx
   have h1:=hp.1 x hx
   have h2:=hp.1 b (by simp)
   have hb:A2 b x≤0:=by
    rcases mem_cons.1 hx with e|e
    ·subst e;rw[C6];omega
    ·exact(pairwise_cons.1 hp.2).1 x e
   have hab:A2 a b<0:=by
    rcases Int.lt_or_eq_of_le h2 with h|h
    ·exact h
    ·exact absurd (Fi h) hne
   rcases Int.lt_or_eq_of_le hb with h|h
   ·exact CR hab h
   ·rw[← Fi h];exact hab
theorem Wa(x:Proc)(l:List Proc):x∈Kc l↔x∈l:=by
 unfold Kc
 exact List.mem_mergeSort
theorem UJ(l:List Proc):(Kc l).Pairwise fun a b=>A2 a b≤0:=by
 have:=List.pairwise_mergeSort (le:=fun x y=>!(Go.Proofs.ltOf A2) y x) (fun a b c h1 h2=>by
  rw[Ht]at *
  simp only[not_eq_true',decide_eq_false_iff_not]at *
  intro h
  have e1:=Cx a b
  have e2:=Cx b c
  by_cases h3:A2 a b=0
  ·rw[Fi h3]at h;exact h2 h
  ·exact h2 (CR h (by omega))) (fun a b=>by
  rw[Ht,Ht]
  have:=Cx a b
  simp only[Bool.or_eq_true,not_eq_true',decide_eq_false_iff_not]
  omega) l
 refine List.Pairwise.imp (fun {a b} h=>?_) this
 rw[Ht]at h
 have:=Cx a b
 simp only[not_eq_true',decide_eq_false_iff_not]at h
 omega
theorem Ly:∀ {l m:List Proc},Hn l→Hn m→(∀ x,x∈l↔x∈m)→l=m
 |[],[],_,_,_=>rfl
 |[],b::m,_,_,h=>by have:=(h b).2 (by simp);cases this
 | a::l,[],_,_,h=>by have:=(h a).1 (by simp);cases this
 | a::l,b::m,hl,hm,h=>by
  have h1:=pairwise_cons.1 hl
  have h2:=pairwise_cons.1 hm
  have hab:a=b:=by
   have ha:=(h a).1 (by simp)
   have hb:=(h b).2 (by simp)
   rcases mem_cons.1 ha with e|e
   ·exact e
   ·rcases mem_cons.1 hb with e'|e'
    ·exact e'.symm
    ·have k1:=h2.1 a e
     have k2:=h1.1 b e'
     have:=Cx a b
     omega
  subst hab
  have:l=m:=Ly h1.2 h2.2 fun x=>by
   have hx:=h x
   simp only[mem_cons]at hx
   constructor
   ·intro hm'
    rcases hx.1 (.inr hm') with e|e
    ·subst e;have:=h1.1 x hm';rw[C6]at this;omega
    ·exact e
   ·intro hm'
    rcases hx.2 (.inr hm') with e|e
    ·subst e;have:=h2.1 x hm';rw[C6]at this;omega
    ·exact e
  rw[this]
theorem FG{l:List Proc}(h:Hn l):l.Nodup:=by
 refine List.Pairwise.imp (fun {a b} h e=>?_) h
 subst e;rw[C6]at h;omega
def SR(p:Proc):List Proc→List Proc
 |[]=>[p]
 | x::l=>if A2 p x<0 then p::x::l else if p=x then x::l else x::SR p l
def SS:List Proc→List Proc
 |[]=>[]
 | p::l=>SR p (SS l)
theorem Pc(p x:Proc):∀ l:List Proc,x∈SR p l↔x=p∨x∈l
 |[]=>by simp[SR]
 | y::l=>by
  have:=Pc p x l
  simp only[SR]
  split
  ·simp
  ·split
   ·rename_i h;subst h;simp
   ·simp only[mem_cons,this]
    constructor
    ·rintro(h|h|h)
     ·exact .inr (.inl h)
     ·exact .inl h
     ·exact .inr (.inr h)
    ·rintro(h|h|h)
     ·exact .inr (.inl h)
     ·exact .inl h
     ·exact .inr (.inr h)
theorem Sh(p:Proc):∀ l:List Proc,Hn l→Hn (SR p l)
 |[],_=>by simp[SR,Hn]
 | y::l,h=>by
  have hp:=pairwise_cons.1 h
  simp only[SR]
  split
  ·rename_i hlt
   refine pairwise_cons.2 ⟨fun x hx=>?_,h⟩
   rcases mem_cons.1 hx with e|e
   ·rw[e];exact hlt
   ·exact CR hlt (hp.1 x e)
  ·split
   ·exact h
   ·rename_i h1 h2
    refine pairwise_cons.2 ⟨fun x hx=>?_,Sh p l hp.2⟩
    rcases(Pc p x l).1 hx with e|e
    ·subst e
     have h3:=Cx x y
     have h4:A2 x y≠0:=fun e=>h2 (Fi e)
     omega
    ·exact hp.1 x e
theorem Pd(x:Proc):∀ l:List Proc,x∈SS l↔x∈l
 |[]=>by simp[SS]
 | y::l=>by simp only[SS,Pc,Pd x l,mem_cons]
theorem Ok:∀ l:List Proc,Hn (SS l)
 |[]=>by simp[SS,Hn]
 | y::l=>Sh y _ (Ok l)
theorem Oz(l:List Proc):CM (Kc l)=SS l:=Ly (Sg _ (UJ l)) (Ok l) fun x=>by rw[MW,Wa,Pd]
def Jk(l:List Proc):List Proc:=SS l
theorem GV(x:Proc)(l:List Proc):x∈Jk l↔x∈l:=Pd x l
theorem Dp(l:List Proc):Hn (Jk l):=Ok l
theorem I4(l:List Proc):(Kc l).length=l.length:=by simp[Kc]
theorem f131_ok(l:List Proc)(hl:l.length≤1000000):Ac C0 131 [Aq l] [] (Aq (Jk l)) []:=by
 refine Ac.go f131 ?_
 unfold f131
 have hb:l.length≤4294967296:=by omega
 refine gO ?_
 refine WI (WY l hl) rfl ?_
 have ho:over 0 0 ((Kc l).map Proc.c) (l.map Proc.c)=(Kc l).map Proc.c:=XC (by simp[I4])
 simp(disch:=omega)only[go_sem,ho]
 refine A7 ⟨⟨[(320,0)],[],[]⟩,[(1,576)],[]⟩ (f198_ok (Kc l) (by rw[I4];exact hl)) (by simp(disch:=omega)only[go_sem]) rfl trivial (.inl rfl) ?_
 refine gO ?_
 refine B3 ⟨[],[],[576]⟩ _ ?_
 simp(disch:=omega)only[go_sem,Jk,Oz]
theorem f148_ok(l:List Proc)(p:Proc)(hl:l.length≤1000000):Ac C0 148 [Aq l,.agg p.c] [] (I (match l.findIdx? (fun x=>decide (x=p)) with|some i=>i|none=>-1)) []:=by
 refine Ac.go f148 ?_
 unfold f148
 refine gO ?_
 refine Ab (α:=Nat) (fun i=>⟨[(8,I i),(7,I l.length),(0,Aq l),(3,.ptr 192 0)],[(192,p.c)]⟩) (fun i=>i≤(l).length∧(l.take i).find? (fun x=>decide (x=p))=none) (fun i=>(l).length-i) 0 ⟨by omega,rfl⟩ ?_ ?_
 ·exact Bu
 rintro i ⟨hi,hP⟩ J hJ
 refine gO ?_
 refine ⟨fun hlt=>?_,fun hge=>?_⟩
 rotate_left
 have hil:i=(l).length:=by simp at hge;omega
 rotate_left
 obtain⟨b,hb⟩:∃ b,(l)[i]?=some b:=⟨_,gE (by simp at hlt;omega)⟩
 have hbm:=mG hb
 have hlt2:i<(l).length:=by simp at hlt;omega
 refine Aj 5 [([],[3]),([],[0]),([],[5]),([],[12,13]),([],[14])] fol ?_
 simp(disch:=omega)only[go_sem,gm,hb]
 ·refine⟨fun h=>?_,fun h=>?_⟩
  ·have e:l.findIdx? (fun x=>decide (x=p))=some i:=Fp hP b hb (by simp at h;simp[h])
   simp(disch:=omega)only[go_sem,e]
   exact Av _
  ·refine hJ _ (i+1) ⟨by simp at hlt;omega,(by rw[BA hP hb];simp at h;simp[Ne.symm h])⟩ (by simp at hlt;omega) AE
 ·subst hil
  rw[take_length]at hP
  have e:l.findIdx? (fun x=>decide (x=p))=none:=by
   rw[List.findIdx?_eq_none_iff]
   rw[List.find?_eq_none]at hP
   intro x hx
   simpa using hP x hx
  simp(disch:=omega)only[go_sem,e]
  exact Av _
theorem f111_ok(l:List Proc)(p:Proc)(hl:l.length≤1000000):Ac C0 111 [Aq l,.agg p.c] [] (B (AK l p)) []:=by
 refine Ac.go f111 ?_
 unfold f111
 refine gO ?_
 refine Aa (f148_ok l p hl) ?_
 refine gO ?_
 refine AU ⟨[],[],[]⟩ _ rfl ⟨rfl,rfl⟩ (by simp) ?_ trivial
 refine wb ?_
 unfold AK
 cases h:l.findIdx? (fun x=>decide (x=p)) with
 |none =>
  rw[List.findIdx?_eq_none_iff]at h
  have:p∉l:=fun hp=>by simpa using h p hp
  simp[this]
 |some i =>
  have:=(List.findIdx?_eq_some_iff_getElem.1 h)
  obtain⟨h1,h2,_⟩:=this
  have hm:p∈l:=by simp at h2;rw[← h2];exact getElem_mem h1
  simp[hm]
theorem f59_ok(l:List Proc)(p:Proc)(hl:l.length≤1000000):Ac C0 59 [Aq l,.agg p.c] [] (B (AK l p)) []:=by
 refine Ac.go f59 ?_
 unfold f59
 refine gO ?_
 refine Aa (f111_ok l p hl) ?_
 refine gO ?_
 exact Av _
theorem WZ(l:List Hold)(hl:l.length≤1000000):Ac C0 199 [Ax l] [] (J0 0 (Ct l)) []:=by
 refine Ac.go f199 ?_
 unfold f199
 refine gO ?_
 refine Ab (α:=Nat) (fun i=>⟨[(8,I i),(7,I l.length),(6,Ax l),(3,.sl (.own 1024 0) 3 ((Ct (l.take i)).map Proc.c))],[]⟩) (fun i=>i≤(l).length∧True) (fun i=>(l).length-i) 0 ⟨by omega,trivial⟩ ?_ ?_
 ·exact Bu
 rintro i ⟨hi,hP⟩ J hJ
 refine gO ?_
 refine ⟨fun hlt=>?_,fun hge=>?_⟩
 rotate_left
 have hil:i=(l).length:=by simp at hge;omega
 rotate_left
 obtain⟨b,hb⟩:∃ b,(l)[i]?=some b:=⟨_,gE (by simp at hlt;omega)⟩
 have hbm:=mG hb
 simp(disch:=omega)only[go_sem,gm,hb]
 ·simp(disch:=omega)only[go_sem,Ct]
  refine hJ _ (i+1) ⟨by simp at hlt;omega,trivial⟩ (by simp at hlt;omega) (Imp.weak ?_ ?_)
  all_goals(try simp(disch:=omega)only[go_sem])
  all_goals(try(repeat'(with_reducible apply And.intro)))
  all_goals(first|exact .AA (by omega)|exact .Au (by omega)|exact .sl (by simp[Ct,take_add_one,hb,Proc.c])|exact .int (by simp[Ct,take_add_one,hb,Proc.c])|exact .eq (by simp[Ct,take_add_one,hb,Proc.c]))
 ·subst hil
  refine AU ⟨[(1024,0)],[],[]⟩ _ rfl ⟨rfl,rfl⟩ (by simp[lk]) ?_ trivial
  simp(disch:=omega)only[go_sem,take_length]
def Bm(q:Queue):List Proc:=Jk (Ct q.holds++BJ (q.convs++q.waits))
theorem f132_ok(q:Queue)(h:Br q≤1000000):Ac C0 132 [.agg q.c] [] (Aq (Bm q)) []:=by
 have h1:q.holds.length≤1000000:=by unfold Br at h;omega
 have h2:q.convs.length+q.waits.length≤1000000:=by unfold Br Bo at h;omega
 have h3:(Ct q.holds).length+(BJ (q.convs++q.waits)).length≤1000000:=by simp[Ct,BJ];unfold Br Bo at h;omega
 have h4:(Ct q.holds).length+(BJ (q.convs++q.waits)).length≤4294967296:=by omega
 refine Ac.go f132 ?_
 unfold f132
 refine gO ?_
 refine Aj 4 [([],[1]),([],[3]),([],[4]),([],[1])] fol ?_
 refine gO ?_
 refine An ⟨⟨[],[],[]⟩,[(0,320)],[]⟩ (WZ q.holds h1) (by simp(disch:=omega)only[go_sem]) rfl rfl trivial (.inl rfl) ?_
 refine gO ?_
 refine Aa (f147_ok q h2) ?_
 refine gO ?_
 refine EU [512] (f131_ok (Ct q.holds++BJ (q.convs++q.waits)) (by simpa using h3)) (by simp(disch:=omega)only[go_sem];exact .sl (by simp)) rfl ?_
 refine gO ?_
 refine BP _ ?_
 simp(disch:=omega)only[go_sem,Bm]
def q0:Queue:=⟨⟨[],0,0,0⟩,[],[],[],0⟩
def Ez(q:Queue)(p:Proc):Queue × List Hold × Int:=if valid q then (if AK (Bm q) p then (EH (BF q p),(BD (BF q p)).2,0) else (q0,[],10)) else (q0,[],2)
theorem Mw(l:List Proc):(Jk l).length≤l.length:=by
 have:=LF (Kc l)
 rw[I4,Oz]at this
 exact this
theorem Hi(q:Queue):(Bm q).length≤Br q:=by
 have:=Mw (Ct q.holds++BJ (q.convs++q.waits))
 unfold Bm Br Bo
 simp[Ct,BJ]at this ⊢
 omega
theorem f133_ok(q:Queue)(p:Proc)(h:Br q+1≤1000000):Ac C0 133 [.agg q.c,.agg p.c] [] (.tup [.agg (Ez q p).1.c,Ax (Ez q p).2.1,I (Ez q p).2.2]) []:=by
 have h1:q.holds.length≤1000000:=by unfold Br at h;omega
 have h2:q.convs.length≤1000000:=by unfold Br Bo at h;omega
 have h3:q.waits.length≤1000000:=by unfold Br Bo at h;omega
 refine Ac.go f133 ?_
 unfold f133
 refine gO ?_
 refine Aa (f101_ok q h1 h3) ?_
 cases hv:valid q
 ·have e:Ez q p=(q0,[],2):=by simp[Ez,hv]
  simp(disch:=omega)only[go_sem,Bool.not_false,e,q0]
  refine Ak _ ?_
  refine .tup (Af.AD ?_)
  simp(disch:=omega)only[go_sem]
  repeat'(with_reducible apply And.intro)
  all_goals(first|exact .Au (by omega)|exact .agg (Af.AD (by simp(disch:=omega)only[go_sem])))
 simp(disch:=omega)only[go_sem,Bool.not_true]
 refine Aj 3 [([],[2]),([],[12]),([],[3])] fol ?_
 refine gO ?_
 refine Ai (f132_ok q (by omega)) ?_
 refine gO ?_
 refine Aa (f59_ok (Bm q) p (by have:=Hi q;omega)) ?_
 refine gO ?_
 refine And.intro (fun hh=>?_) (fun hh=>?_)
 ·have hh':AK (Bm q) p=false:=by simpa using hh
  have e:Ez q p=(q0,[],10):=by simp[Ez,hv,hh']
  simp(disch:=omega)only[go_sem,e,q0]
  refine Ak _ ?_
  refine .tup (Af.AD ?_)
  simp(disch:=omega)only[go_sem]
  repeat'(with_reducible apply And.intro)
  all_goals(first|exact .Au (by omega)|exact .agg (Af.AD (by simp(disch:=omega)only[go_sem])))
 have hh':AK (Bm q) p=true:=by simpa using hh
 have e:Ez q p=(EH (BF q p),(BD (BF q p)).2,0):=by simp[Ez,hv,hh']
 simp(disch:=omega)only[go_sem,e]
 refine Aa (f200_ok q h1 h2 h3) ?_
 refine gO ?_
 refine A7 ⟨⟨[],[(448,63),(192,127)],[]⟩,[],[]⟩ (f201_ok q p h) (by simp(disch:=omega)only[go_sem]) rfl (by simp(disch:=omega)only[go_sem]) (.inl rfl) ?_
 refine gO ?_
 exact Av _
structure Few(s:WS):Prop where
 nq:s.queues.length≤100
 nn:s.needs.length≤100
 aq:∀ q∈s.queues,Br q≤100
def Aw(l:List Queue):List Proc:=Jk (l.flatMap Bm)
def B2(l:List Need):List Proc:=l.map (·.proc)
def Ah(s:WS):List Proc:=Jk (Aw s.queues++B2 s.needs)
theorem JL{l:List Queue}(h:∀ q∈l,Br q≤100):(l.flatMap Bm).length≤l.length*100:=by
 induction l with
 | nil=>simp
 | cons q l ih =>
  have h1:=Hi q
  have h2:=h q (by simp)
  have h3:=ih fun q' hq=>h q' (by simp[hq])
  simp only[List.flatMap_cons,List.length_append,List.length_cons]
  omega
theorem f130_ok(l:List Queue)(h1:l.length≤100)(h2:∀ q∈l,Br q≤100):Ac C0 130 [At l] [] (Aq (Aw l)) []:=by
 refine Ac.go f130 ?_
 unfold f130
 refine gO ?_
 refine Ab (α:=Nat) (fun i=>⟨[(8,I i),(7,I l.length),(6,At l),(3,.sl (.own 960 0) 3 (((l.take i).flatMap Bm).map Proc.c))],[]⟩) (fun i=>i≤(l).length∧True) (fun i=>(l).length-i) 0 ⟨by omega,trivial⟩ ?_ ?_
 ·exact Bu
 rintro i ⟨hi,hP⟩ J hJ
 refine gO ?_
 refine ⟨fun hlt=>?_,fun hge=>?_⟩
 rotate_left
 have hil:i=(l).length:=by simp at hge;omega
 rotate_left
 obtain⟨b,hb⟩:∃ b,(l)[i]?=some b:=⟨_,gE (by simp at hlt;omega)⟩
 have hbm:=mG hb
 simp(disch:=omega)only[go_sem,gm,hb]
 ·have hfl:=JL (l:=l.take i) fun q hq=>h2 q (List.mem_of_mem_take hq)
  have hq:=Hi b
  have hb2:=h2 b hbm
  have hbd:((l.take i).flatMap Bm).length+(Bm b).length≤4294967296:=by simp only[length_take]at hfl;omega
  refine Aa (f132_ok b (by omega)) ?_
  refine gO ?_
  refine hJ _ (i+1) ⟨by simp at hlt;omega,trivial⟩ (by simp at hlt;omega) (Imp.weak ?_ ?_)
  all_goals(try simp(disch:=omega)only[go_sem])
  all_goals(try(repeat'(with_reducible apply And.intro)))
  all_goals(first|exact .AA (by omega)|exact .Au (by omega)|exact .sl (by simp[take_add_one,hb])|exact .int (by simp[take_add_one,hb])|exact .eq (by simp[take_add_one,hb]))
 ·subst hil
  have hfl:=JL h2
  refine EU [960] (f131_ok (l.flatMap Bm) (by omega)) (by simp(disch:=omega)only[go_sem,take_length]) rfl ?_
  refine gO ?_
  refine BP _ ?_
  simp(disch:=omega)only[go_sem,Aw]
theorem J1{l:List Queue}(h:∀ q∈l,Br q≤100):(Aw l).length≤l.length*100:=Nat.le_trans (Mw _) (JL h)
theorem f73_ok(s:WS)(h:Few s):Ac C0 73 [.agg s.c] [] (Aq (Ah s)) []:=by
 have hq:=J1 h.aq
 have h1:=h.nq
 have h2:=h.nn
 have hbd:(Aw s.queues).length≤4294967296:=by omega
 refine Ac.go f73 ?_
 unfold f73
 refine gO ?_
 refine Aa (f130_ok s.queues h.nq h.aq) ?_
 refine gO ?_
 refine Ab (α:=Nat) (fun i=>⟨[(13,I i),(12,I s.needs.length),(11,FV s.needs),(3,.sl (.own 1344 0) 3 ((Aw s.queues++B2 (s.needs.take i)).map Proc.c))],[]⟩) (fun i=>i≤(s.needs).length∧True) (fun i=>(s.needs).length-i) 0 ⟨by omega,trivial⟩ ?_ ?_
 ·refine Imp.ren ⟨[(576,1344)],[],[]⟩ ⟨rfl,rfl⟩ (by simp[lk]) ?_ ?_
  all_goals(try simp(disch:=omega)only[go_sem])
  all_goals(try(repeat'(with_reducible apply And.intro)))
  all_goals(first|exact .AA (by omega)|exact .Au (by omega)|exact .sl (by simp[B2])|exact .int (by simp[B2])|exact .eq (by simp[B2]))
 rintro i ⟨hi,hP⟩ J hJ
 refine gO ?_
 refine ⟨fun hlt=>?_,fun hge=>?_⟩
 rotate_left
 have hil:i=(s.needs).length:=by simp at hge;omega
 rotate_left
 obtain⟨b,hb⟩:∃ b,(s.needs)[i]?=some b:=⟨_,gE (by simp at hlt;omega)⟩
 have hbm:=mG hb
 simp(disch:=omega)only[go_sem,gm,hb]
 ·have hbd2:(Aw s.queues).length+(B2 (s.needs.take i)).length+1≤4294967296:=by simp[B2];omega
  simp(disch:=omega)only[go_sem,B2]
  refine hJ _ (i+1) ⟨by simp at hlt;omega,trivial⟩ (by simp at hlt;omega) (Imp.weak ?_ ?_)
  all_goals(try simp(disch:=omega)only[go_sem])
  all_goals(try(repeat'(with_reducible apply And.intro)))
  all_goals(first|exact .AA (by omega)|exact .Au (by omega)|exact .sl (by simp[B2,take_add_one,hb,Proc.c])|exact .int (by simp[B2,take_add_one,hb,Proc.c])|exact .eq (by simp[B2,take_add_one,hb,Proc.c]))
 ·subst hil
  refine EU [1344] (f131_ok (Aw s.queues++B2 s.needs) (by simp[B2];omega)) (by simp(disch:=omega)only[go_sem,take_length]) rfl ?_
  refine gO ?_
  refine BP _ ?_
  simp(disch:=omega)only[go_sem,Ah]
def BV(q:Queue)(p:Proc):Queue:=if valid q&&AK (Bm q) p then { EH (BF q p) with gen:=q.gen } else q
def Iq(l:List Need)(p:Proc):List Need:=l.filter fun n=>decide (n.proc≠p)
def A3(s:WS)(p:Proc):WS:=⟨s.queues.map fun q=>BV q p,Iq s.needs p⟩
@[reducible] def wsz:List AV:=[.sl .no 8 [],.sl .no 9 []]
@[go_sem] theorem cl(p q:Proc):(A2 p q !=0) = !decide (p=q):=by
 by_cases h:p=q
 ·subst h;simp[C6]
 ·have:A2 p q≠0:=fun e=>h (Fi e)
  simp[h,this]
@[go_sem] theorem a6(p q:Proc):(A2 p q==0)=decide (p=q):=by
 by_cases h:p=q
 ·subst h;simp[C6]
 ·have:A2 p q≠0:=fun e=>h (Fi e)
  simp[h,this]
theorem f74_ok(s:WS)(p:Proc)(h:Few s):Ac C0 74 [.agg s.c,.agg p.c] [] (.agg (A3 s p).c) []:=by
 have hn1:=h.nq
 have hn2:=h.nn
 refine Ac.go f74 ?_
 unfold f74
 refine gO ?_
 refine Ab (α:=Nat) (fun i=>⟨[(17,I i),(16,I s.queues.length),(15,At s.queues),(2,.ptr 128 0),(3,.ptr 192 0),(5,.ptr 320 0),(4,.ptr 256 0)],[(128,s.c),(192,p.c),(256,wsz),(320,[.sl (.own 2752 0) 8 (((s.queues.take i).map fun q=>BV q p).map Queue.c),.v (.slice none 0 0)])]⟩) (fun i=>i≤(s.queues).length∧True) (fun i=>(s.queues).length-i) 0 ⟨by omega,trivial⟩ ?_ ?_
 ·exact Bu
 rintro i ⟨hi,hP⟩ J hJ
 refine gO ?_
 refine ⟨fun hlt=>?_,fun hge=>?_⟩
 rotate_left
 have hil:i=(s.queues).length:=by simp at hge;omega
 rotate_left
 obtain⟨b,hb⟩:∃ b,(s.queues)[i]?=some b:=⟨_,gE (by simp at hlt;omega)⟩
 have hbm:=mG hb
 simp(disch:=omega)only[go_sem,gm,hb]
 ·have ha:=h.aq b hbm
  have hbd:i+1≤4294967296:=by simp at hlt;omega
  have hbd':min i s.queues.length+1≤4294967296:=by omega
  have fin:∀ q,BV b p=q→∀ st',Imp ⟨C0,[],[]⟩ st' ⟨[(17,I (i+1:Nat)),(16,I s.queues.length),(15,At s.queues),(2,.ptr 128 0),(3,.ptr 192 0),(5,.ptr 320 0),(4,.ptr 256 0)],[(128,s.c),(192,p.c),(256,wsz),(320,[.sl (.own 2752 0) 8 (((s.queues.take i).map fun q=>BV q p).map Queue.c++[q.c]),.v (.slice none 0 0)])]⟩→J st':=fun q hq st' h=>by
   refine hJ st' (i+1) ⟨by simp at hlt;omega,trivial⟩ (by simp at hlt;omega) ?_
   have e:((s.queues.take (i+1)).map fun q=>BV q p).map Queue.c=((s.queues.take i).map fun q=>BV q p).map Queue.c++[q.c]:=by
    rw[take_add_one,hb];simp[hq]
   rw[e];exact h
  clear hJ
  refine Aj 3 [([],[7]),([],[21]),([],[3])] fol ?_
  refine gO ?_
  refine Ai (f132_ok b (by omega)) ?_
  refine gO ?_
  refine Aa (f59_ok (Bm b) p (by have:=Hi b;omega)) ?_
  cases hp:AK (Bm b) p
  ·simp(disch:=omega)only[go_sem,length_map,length_take]
   refine fin b (by simp[BV,hp]) _ (Imp.weak (by simp(disch:=omega)only[go_sem]) ?_)
   simp(disch:=omega)only[go_sem]
  refine gO ?_
  refine Aa (f133_ok b p (by omega)) ?_
  cases hv:valid b
  ·have e:Ez b p=(q0,[],2):=by simp[Ez,hv]
   simp(disch:=omega)only[go_sem,e,length_map,length_take]
   refine fin b (by simp[BV,hv]) _ (Imp.weak (by simp(disch:=omega)only[go_sem]) ?_)
   simp(disch:=omega)only[go_sem]
  ·have e:Ez b p=(EH (BF b p),(BD (BF b p)).2,0):=by simp[Ez,hv,hp]
   simp(disch:=omega)only[go_sem,e,length_map,length_take]
   refine fin { EH (BF b p) with gen:=b.gen } (by simp[BV,hv,hp]) _ (Imp.weak (by simp(disch:=omega)only[go_sem]) ?_)
   simp(disch:=omega)only[go_sem]
 subst hil
 rw[take_length]
 clear hJ
 refine Ab (α:=Nat) (fun i=>⟨[(49,I i),(48,I s.needs.length),(47,FV s.needs),(3,.ptr 192 0),(5,.ptr 320 0),(4,.ptr 256 0)],[(192,p.c),(256,wsz),(320,[.sl (.own 2752 0) 8 ((s.queues.map fun q=>BV q p).map Queue.c),.sl (.own 3968 0) 9 ((Iq (s.needs.take i) p).map Need.c)])]⟩) (fun i=>i≤(s.needs).length∧True) (fun i=>(s.needs).length-i) 0 ⟨by omega,trivial⟩ ?_ ?_
 ·exact Bu
 rintro i ⟨hi,hP⟩ J hJ
 refine gO ?_
 refine ⟨fun hlt=>?_,fun hge=>?_⟩
 rotate_left
 have hil:i=(s.needs).length:=by simp at hge;omega
 rotate_left
 obtain⟨b,hb⟩:∃ b,(s.needs)[i]?=some b:=⟨_,gE (by simp at hlt;omega)⟩
 have hbm:=mG hb
 simp(disch:=omega)only[go_sem,gm,hb]
 ·have hbd:(Iq (s.needs.take i) p).length+1≤4294967296:=by
   have:(Iq (s.needs.take i) p).length≤(s.needs.take i).length:=List.length_filter_le _ _
   rw[length_take]at this;omega
  refine Aa (f61_ok b.proc p) ?_
  refine gO ?_
  have e1:Iq (s.needs.take (i+1)) p=if b.proc=p then Iq (s.needs.take i) p else Iq (s.needs.take i) p++[b]:=by
   simp only[Iq,take_add_one,hb,toList_some,List.filter_append,List.filter_cons,List.filter_nil]
   by_cases h:b.proc=p<;>simp[h]
  refine And.intro (fun hh=>?_) (fun hh=>?_)
  ·have hne:¬ b.proc=p:=by simpa using hh
   rw[if_neg hne]at e1
   refine hJ _ (i+1) ⟨by simp at hlt;omega,trivial⟩ (by simp at hlt;omega) (Imp.weak (by simp(disch:=omega)only[go_sem]) ?_)
   rw[e1]
   refine gO ?_
   exact .sl (by simp[Need.c])
  ·have hne:b.proc=p:=by simpa using hh
   rw[if_pos hne]at e1
   refine hJ _ (i+1) ⟨by simp at hlt;omega,trivial⟩ (by simp at hlt;omega) (Imp.weak (by simp(disch:=omega)only[go_sem]) ?_)
   rw[e1]
   simp(disch:=omega)only[go_sem]
 ·subst hil
  simp(disch:=omega)only[go_sem,take_length]
  refine B3 ⟨[],[],[2752,3968]⟩ _ ?_
  simp(disch:=omega)only[go_sem,A3]
  exact .eq (by simp)
def Dq(l:List Atom)(a:Atom):List Atom:=if a∈l then l else l++[a]
mutual
def Vz:List Atom→Expr→List Atom
 | l,.mk _ a kids=>if kids.length=0 then Dq l a else VA l kids
def VA:List Atom→List Expr→List Atom
 | l,[]=>l
 | l,e::es=>VA (Vz l e) es
end
theorem Su(l:List Atom)(e:Expr):Vz l e=if e.kids.length=0 then Dq l e.atom else VA l e.kids:=by
 cases e;simp only[Vz];rfl
def Ag(e:Expr):List Atom:=if AQ e then Vz [] e else []
def Fg(l:List Atom)(a:Atom):Int:=match l.findIdx? (fun x=>decide (x=a)) with|some i=>i|none=>-1
theorem f268_ok(l:List Atom)(p:Atom)(hl:l.length≤1000000):Ac C0 268 [Be l,.agg p.c] [] (I (Fg l p)) []:=by
 refine Ac.go f268 ?_
 unfold f268
 refine gO ?_
 refine Ab (α:=Nat) (fun i=>⟨[(8,I i),(7,I l.length),(0,Be l),(3,.ptr 192 0)],[(192,p.c)]⟩) (fun i=>i≤(l).length∧(l.take i).find? (fun x=>decide (x=p))=none) (fun i=>(l).length-i) 0 ⟨by omega,rfl⟩ ?_ ?_
 ·exact Bu
 rintro i ⟨hi,hP⟩ J hJ
 refine gO ?_
 refine ⟨fun hlt=>?_,fun hge=>?_⟩
 rotate_left
 have hil:i=(l).length:=by simp at hge;omega
 rotate_left
 obtain⟨b,hb⟩:∃ b,(l)[i]?=some b:=⟨_,gE (by simp at hlt;omega)⟩
 have hbm:=mG hb
 have hlt2:i<(l).length:=by simp at hlt;omega
 refine Aj 5 [([],[3]),([],[0]),([],[5]),([],[12,13]),([],[14])] fol ?_
 simp(disch:=omega)only[go_sem,gm,hb]
 ·refine⟨fun h=>?_,fun h=>?_⟩
  ·have e:Fg l p=i:=by unfold Fg;rw[Fp hP b hb (by simp at h;simp[h])]
   simp(disch:=omega)only[go_sem,e]
   exact Av _
  ·refine hJ _ (i+1) ⟨by simp at hlt;omega,(by rw[BA hP hb];simp at h;simp[Ne.symm h])⟩ (by simp at hlt;omega) AE
 ·subst hil
  rw[take_length]at hP
  have e:Fg l p = -1:=by
   unfold Fg
   have:l.findIdx? (fun x=>decide (x=p))=none:=by
    rw[List.findIdx?_eq_none_iff]
    rw[List.find?_eq_none]at hP
    intro x hx
    simpa using hP x hx
   rw[this]
  simp(disch:=omega)only[go_sem,e]
  exact Av _
theorem Sj(l:List Atom)(p:Atom):decide (0≤Fg l p)=decide (p∈l):=by
 unfold Fg
 cases h:l.findIdx? (fun x=>decide (x=p)) with
 |none =>
  rw[List.findIdx?_eq_none_iff]at h
  have:p∉l:=fun hp=>by simpa using h p hp
  simp[this]
 |some i =>
  obtain⟨h1,h2,_⟩:=(List.findIdx?_eq_some_iff_getElem.1 h)
  have hm:p∈l:=by simp at h2;rw[← h2];exact getElem_mem h1
  simp[hm]
theorem f217_ok(l:List Atom)(p:Atom)(hl:l.length≤1000000):Ac C0 217 [Be l,.agg p.c] [] (B (decide (p∈l))) []:=by
 refine Ac.go f217 ?_
 unfold f217
 refine gO ?_
 refine Aa (f268_ok l p hl) ?_
 have:=Sj l p
 simp(disch:=omega)only[go_sem,this]
 exact Av _
theorem U7{l:List Atom}{a:Atom}(h:((Ef l a).1==0)=true):(Ef l a).2=Dq l a:=by
 unfold Ef at h ⊢
 cases hf:l.find? (hit a) with
 |some b =>
  rw[hf]at h
  simp only at h ⊢
  by_cases e:a=b
  ·subst e
   simp[Dq,List.mem_of_find?_eq_some hf]
  ·simp[e]at h
 |none =>
  rw[hf]at h
  simp only at h ⊢
  by_cases h8:l.length=8
  ·simp[h8]at h
  ·have:a∉l:=fun hm=>by
    rw[List.find?_eq_none]at hf
    have:=hf a hm
    simp[hit]at this
   simp[h8,Dq,this]
theorem QT:∀ (es:List Expr) (l:List Atom),(∀ e∈es,∀ l,(prop e l).1=true→Vz l e=(prop e l).2)→(BS es l).1=true→VA l es=(BS es l).2
 |[],l,_,_=>by simp[VA,BS]
 | e::es,l,hk,h=>by
  simp only[BS]at h ⊢
  split at h
  ·rename_i h1
   rw[if_pos h1]
   simp only[VA]
   rw[hk e (by simp) l h1]
   exact QT es _ (fun e' he=>hk e' (by simp[he])) h
  ·cases h
theorem Hj:∀ (N:Nat) (e:Expr),SizeOf.sizeOf e<N→∀ l:List Atom,(prop e l).1=true→Vz l e=(prop e l).2
 | 0,_,h,_,_=>by omega
 | N+1,e,h,l,hp=>by
  rw[Db]at hp ⊢
  rw[Su]
  split at hp
  ·rename_i hk
   rw[if_pos hk,if_pos hk]
   split at hp
   ·rename_i h1
    rw[if_pos h1]
    exact(U7 hp).symm
   ·cases hp
  ·rename_i hk
   rw[if_neg hk,if_neg hk]
   split at hp
   ·cases hp
   ·rename_i h1
    rw[if_neg h1]
    exact QT _ _ (fun e' he l' hl'=>Hj N e' (by have:=C4 he;omega) l' hl') hp
theorem f141_ok:∀ (N:Nat) (e:Expr),SizeOf.sizeOf e<N→∀ l:List Atom,l.length≤8→(prop e l).1=true →
 Ac C0 141 [Cr 0 l,.agg e.c] [] (Cr 1 (prop e l).2) []
 | 0,_,h,_,_,_=>by omega
 | N+1,e,h,l,hl,hpr=>by
  refine Ac.lens f141 fun hlen=>?_
  simp only[Ec,lens,Expr.Cb,length_map,and_true,true_and]at hlen
  have hp0:=hpr
  rw[Db]at hpr
  refine Ac.go f141 ?_
  unfold f141
  by_cases hk:e.kids.length=0
  ·have e1:((e.kids.length:Int)==0)=true:=by simp[hk]
   rw[if_pos hk]at hpr
   have hc:=Hj (N+1) e h l hp0
   rw[Su,if_pos hk]at hc
   simp(disch:=omega)only[go_sem,e1]
   refine Dr [0] (f217_ok l e.atom (by omega)) (by simp(disch:=omega)only[go_sem]) rfl trivial ?_
   by_cases hm:e.atom∈l
   ·have e2:(decide (e.atom∈l))=true:=by simp[hm]
    have e3:(prop e l).2=l:=by rw[← hc];simp[Dq,hm]
    simp(disch:=omega)only[go_sem,e2,e3]
    refine AU ⟨[(0,1)],[],[]⟩ _ rfl ⟨rfl,rfl⟩ (by simp[lk]) ?_ trivial
    simp(disch:=omega)only[go_sem]
   ·have e2:(decide (e.atom∈l))=false:=by simp[hm]
    have e3:(prop e l).2=l++[e.atom]:=by rw[← hc];simp[Dq,hm]
    simp(disch:=omega)only[go_sem,e2,e3]
    refine AU ⟨[(1280,1)],[],[]⟩ _ rfl ⟨rfl,rfl⟩ (by simp[lk]) ?_ trivial
    refine gO ?_
    exact .sl (by simp[Atom.c])
  have e1:((e.kids.length:Int)==0)=false:=by simp only[beq_eq_false_iff_ne,ne_eq];omega
  rw[if_neg hk]at hpr
  split at hpr
  ·cases hpr
  rename_i hbad
  have ep:prop e l=BS e.kids l:=by rw[Db,if_neg hk,if_neg hbad]
  simp(disch:=omega)only[go_sem,e1,ep]
  refine Ab (α:=Nat × List Atom) (fun q=>⟨[(24,I q.1),(23,I e.kids.length),(22,Fj e.kids),(0,Cr 1920 q.2)],[]⟩)
   (fun q=>q.1≤e.kids.length∧q.2.length≤8∧(BS (e.kids.drop q.1) q.2).1=true∧BS (e.kids.drop q.1) q.2=BS e.kids l) (fun q=>e.kids.length-q.1) (0,l) ⟨by simp,hl,by simpa using hpr,by simp⟩ ?_ ?_
  ·refine Imp.ren ⟨[(0,1920)],[],[]⟩ ⟨rfl,rfl⟩ (by simp[lk]) ?_ ?_
   ·exact gI
   ·exact gI
  rintro⟨i,m⟩ ⟨hi,hm,hb1,hr⟩ J hJ
  replace hi:i≤e.kids.length:=hi
  replace hm:m.length≤8:=hm
  replace hb1:(BS (e.kids.drop i) m).1=true:=hb1
  replace hr:BS (e.kids.drop i) m=BS e.kids l:=hr
  refine gO ?_
  refine ⟨fun hlt=>?_,fun hge=>?_⟩
  ·have hlt':i<e.kids.length:=by simp at hlt;omega
   have hb:e.kids[i]?=some e.kids[i]:=gE hlt'
   have hsz:=C4 (getElem_mem hlt')
   have hdr:e.kids.drop i=e.kids[i]::e.kids.drop (i+1):=List.drop_eq_getElem_cons hlt'
   generalize e.kids[i]=b at hb hsz hdr
   rw[hdr]at hr hb1
   simp only[BS]at hr hb1
   have hx1:(prop b m).1=true:=by
    split at hb1
    ·assumption
    ·cases hb1
   rw[if_pos hx1]at hr hb1
   simp(disch:=omega)only[go_sem,gm,hb]
   refine A7 ⟨⟨[(1920,0)],[],[]⟩,[(1,1921)],[]⟩ (f141_ok N b (by omega) m hm hx1) (by simp(disch:=omega)only[go_sem]) rfl (by simp(disch:=omega)only[go_sem]) (.inl rfl) ?_
   have hx:=Oa N b (by omega) m hm
   refine gO ?_
   refine hJ _ (i+1,(prop b m).2) ⟨by simp;omega,hx,hb1,hr⟩ (by simp;omega) (Imp.ren ⟨[(1921,1920)],[],[]⟩ ⟨rfl,rfl⟩ (by simp[lk]) ?_ ?_)
   ·exact gI
   ·exact gI
  ·have hil:i=e.kids.length:=by simp at hge;omega
   subst hil
   rw[List.drop_length]at hr
   simp only[BS]at hr
   simp(disch:=omega)only[go_sem,← hr]
   refine AU ⟨[(1920,1)],[],[]⟩ _ rfl ⟨rfl,rfl⟩ (by simp[lk]) ?_ trivial
   simp(disch:=omega)only[go_sem]
theorem En{e:Expr}(h:AQ e=true):(prop e []).1=true:=by
 simp only[AQ,and_eq_true]at h
 exact h.2
theorem Ci(e:Expr):(Ag e).length≤8:=by
 unfold Ag
 split
 ·rename_i h
  rw[Hj _ e (lt_succ_self _) [] (En h)]
  exact Oa _ e (lt_succ_self _) [] (by simp)
 ·simp
theorem f87_ok(e:Expr):Ac C0 87 [.agg e.c] [] (Be (Ag e)) []:=by
 refine Ac.go f87 ?_
 unfold f87
 refine gO ?_
 refine Aa (f103_ok e) ?_
 cases h:AQ e
 ·have e1:Ag e=[]:=by simp[Ag,h]
  simp(disch:=omega)only[go_sem,e1]
  refine AU ⟨[],[],[]⟩ _ rfl ⟨rfl,rfl⟩ (by simp[lk]) ?_ trivial
  exact .Au (by omega)
 ·have hp:=En h
  have e1:Ag e=(prop e []).2:=by
   simp only[Ag,h,if_true]
   exact Hj _ e (lt_succ_self _) [] hp
  simp(disch:=omega)only[go_sem,e1]
  refine A7 ⟨⟨[],[],[]⟩,[(1,448)],[]⟩ (f141_ok _ e (lt_succ_self _) [] (by simp) hp) (by simp(disch:=omega)only[go_sem,Cr,List.map_nil]) rfl (by simp(disch:=omega)only[go_sem]) (.inl rfl) ?_
  refine gO ?_
  refine B3 ⟨[],[],[448]⟩ _ ?_
  simp(disch:=omega)only[go_sem,Cr]
@[reducible] def G5(l:List Bool):AV:=.sl .no 1 (l.map fun b=>[B b])
def Dc(l:List Atom)(set:List Bool)(a:Atom):Bool:=match l.findIdx? (fun x=>decide (x=a)) with
 |some i=>set.getD i false
 |none=>false
@[reducible] def Rq(l:List Atom)(set:List Bool):AV:=.agg [Be l,G5 set]
theorem f218_ok(l:List Atom)(set:List Bool)(a:Atom)(hl:l.length≤1000000):Ac C0 218 [Rq l set,.agg a.c] [] (B (Dc l set a)) []:=by
 refine Ac.go f218 ?_
 unfold f218
 refine gO ?_
 refine Aa (f268_ok l a hl) ?_
 cases hi:l.findIdx? (fun x=>decide (x=a)) with
 |none =>
  have e1:Fg l a = -1:=by simp[Fg,hi]
  have e2:Dc l set a=false:=by simp[Dc,hi]
  simp(disch:=omega)only[go_sem,e1]
  refine Ak _ ?_
  exact wb (by simp[e2])
 |some i =>
  have e1:Fg l a=i:=by simp[Fg,hi]
  by_cases h:i<set.length
  ·have e3:((i:Int)<set.length)=True:=eq_true (by omega)
   have e4:set[i]?=some (set.getD i false):=by rw[gE h];simp[List.getD,h]
   have e2:Dc l set a=set.getD i false:=by simp[Dc,hi]
   simp(disch:=omega)only[go_sem,e1,e3,gm,e4]
   refine Ak _ ?_
   exact wb (by rw[e2])
  ·have e3:((i:Int)<set.length)=False:=eq_false (by omega)
   have e2:Dc l set a=false:=by simp[Dc,hi,List.getD,h]
   simp(disch:=omega)only[go_sem,e1,e3,decide_false]
   refine Ak _ ?_
   exact wb (by simp[e2])
mutual
def DO(has:Atom→Bool):Expr→Bool
 |.mk k a kids=>if kids.length=0 then has a else decide (k≤Cd has kids)
def Cd(has:Atom→Bool):List Expr→Int
 |[]=>0
 | e::es=>(if DO has e=true then 1 else 0)+Cd has es
end
theorem H8(has:Atom→Bool)(e:Expr):DO has e=if e.kids.length=0 then has e.atom else decide (e.k≤Cd has e.kids):=by
 cases e;simp only[DO];rfl
theorem Jy(has:Atom→Bool):∀ (l:List Expr) (i:Nat) (b:Expr),l[i]?=some b→Cd has (l.take (i+1))=Cd has (l.take i)+(if DO has b=true then 1 else 0)
 |[],i,b,h=>by simp at h
 | e::l,0,b,h=>by simp at h;subst h;simp[Cd]
 | e::l,i+1,b,h=>by
  have:=Jy has l i b (by simpa using h)
  simp only[List.take_succ_cons,Cd]
  rw[this];omega
theorem Mx(has:Atom→Bool):∀ l:List Expr,0≤Cd has l∧Cd has l≤l.length
 |[]=>by simp[Cd]
 | e::l=>by
  have:=Mx has l
  simp only[Cd,List.length_cons]
  split<;>omega
theorem f219_ok(l:List Atom)(set:List Bool)(hl:l.length≤1000000):∀ (N:Nat) (e:Expr),SizeOf.sizeOf e<N →
 Ac C0 219 [.agg e.c,.mv 218 [Rq l set]] [] (B (DO (Dc l set) e)) []
 | 0,_,h=>by omega
 | N+1,e,h=>by
  refine Ac.lens f219 fun hlen=>?_
  simp only[Ec,lens,Expr.Cb,length_map,and_true,true_and]at hlen
  refine Ac.go f219 ?_
  unfold f219
  by_cases hk:e.kids.length=0
  ·have e1:((e.kids.length:Int)==0)=true:=by simp[hk]
   have ee:DO (Dc l set) e=Dc l set e.atom:=by rw[H8,if_pos hk]
   simp(disch:=omega)only[go_sem,e1,ee]
   refine Aa (f218_ok l set e.atom hl) ?_
   refine gO ?_
   exact Av _
  have e1:((e.kids.length:Int)==0)=false:=by simp only[beq_eq_false_iff_ne,ne_eq];omega
  have ee:DO (Dc l set) e=decide (e.k≤Cd (Dc l set) e.kids):=by rw[H8,if_neg hk]
  simp(disch:=omega)only[go_sem,e1,ee]
  refine Ab (α:=Nat) (fun i=>⟨[(19,I i),(18,I e.kids.length),(17,Fj e.kids),(1,.mv 218 [Rq l set]),(2,.ptr 128 0),(5,I (Cd (Dc l set) (e.kids.take i)))],[(128,e.c)]⟩) (fun i=>i≤(e.kids).length∧True) (fun i=>(e.kids).length-i) 0 ⟨by omega,trivial⟩ ?_ ?_
  ·refine Imp.weak ?_ ?_
   all_goals(try simp(disch:=omega)only[go_sem])
   all_goals(try(repeat'(with_reducible apply And.intro)))
   all_goals(first|exact .AA (by omega)|exact .Au (by omega)|exact .sl (by simp[Cd])|exact .int (by simp[Cd])|exact .eq (by simp[Cd]))
  rintro i ⟨hi,hP⟩ J hJ
  refine gO ?_
  refine ⟨fun hlt=>?_,fun hge=>?_⟩
  rotate_left
  have hil:i=(e.kids).length:=by simp at hge;omega
  rotate_left
  obtain⟨b,hb⟩:∃ b,(e.kids)[i]?=some b:=⟨_,gE (by simp at hlt;omega)⟩
  have hbm:=mG hb
  simp(disch:=omega)only[go_sem,gm,hb]
  ·have hsz:=C4 hbm
   have hct:=Jy (Dc l set) e.kids i b hb
   have hbd:=Mx (Dc l set) (e.kids.take i)
   have hlt':i<e.kids.length:=by simp at hlt;omega
   have hml:(e.kids.take i).length≤i:=by simp;omega
   refine Aa (f219_ok l set hl N b (by omega)) ?_
   refine gO ?_
   refine And.intro (fun hh=>?_) (fun hh=>?_)
   ·rw[if_pos hh]at hct
    refine hJ _ (i+1) ⟨by omega,trivial⟩ (by omega) (Imp.weak ?_ ?_)
    ·simp(disch:=omega)only[go_sem]
     exact .int hct.symm
    ·simp(disch:=omega)only[go_sem,Expr.Cb]
   ·rw[if_neg (by simp[hh])]at hct
    refine hJ _ (i+1) ⟨by omega,trivial⟩ (by omega) (Imp.weak ?_ ?_)
    ·simp(disch:=omega)only[go_sem]
     exact .int (by omega)
    ·simp(disch:=omega)only[go_sem,Expr.Cb]
  ·subst hil
   simp(disch:=omega)only[go_sem,take_length]
   exact Av _
def D2(e:Expr)(set:List Bool):Bool:=!decide ((Ag e).length=0)&&DO (Dc (Ag e) set) e
theorem f142_ok(e:Expr)(l:List Atom)(set:List Bool)(hl:l.length≤1000000):Ac C0 142 [.agg e.c,Be l,G5 set] [] (B (DO (Dc l set) e)) []:=by
 refine Ac.go f142 ?_
 unfold f142
 refine gO ?_
 refine Aa (f219_ok l set hl _ e (lt_succ_self _)) ?_
 refine gO ?_
 exact Av _
theorem f209_ok(e:Expr)(set:List Bool):Ac C0 209 [.agg e.c,G5 set] [] (B (D2 e set)) []:=by
 have hl:=Ci e
 refine Ac.go f209 ?_
 unfold f209
 refine gO ?_
 refine Aa (f87_ok e) ?_
 by_cases h0:(Ag e).length=0
 ·have e1:(0<((Ag e).length:Int))=False:=eq_false (by omega)
  simp(disch:=omega)only[go_sem,e1,decide_false]
  refine Ak _ ?_
  exact wb (by simp[D2,h0])
 ·have e1:(0<((Ag e).length:Int))=True:=eq_true (by omega)
  simp(disch:=omega)only[go_sem,e1,decide_true]
  refine Aa (f142_ok e (Ag e) set (by omega)) ?_
  refine gO ?_
  refine Ak _ ?_
  exact wb (by simp[D2,h0])
def C1(l:List Queue)(p:Proc)(name:Bs):Bool:=l.foldl (fun w q=>if q.res.name==name then (Ao q p).isSome else w) false
theorem R0{l:List Queue}{i:Nat}{b:Queue}(p:Proc)(name:Bs)(hb:l[i]?=some b):C1 (l.take (i+1)) p name=if b.res.name==name then (Ao b p).isSome else C1 (l.take i) p name:=by
 unfold C1
 rw[take_add_one,hb,toList_some,List.foldl_append]
 rfl
def Er(s:WS)(n:Need):List Bool:=(Ag n.expr).map fun a=>!C1 s.queues n.proc a.name
theorem f210_ok(s:WS)(n:Need)(h:Few s):Ac C0 210 [.agg s.c,.agg n.c] [] (G5 (Er s n)) []:=by
 have hl:=Ci n.expr
 have hn1:=h.nq
 refine Ac.go f210 ?_
 unfold f210
 refine gO ?_
 refine Aa (f87_ok n.expr) ?_
 refine gO ?_
 refine Ab (α:=Nat) (fun i=>⟨[(15,I i),(14,I (Ag n.expr).length),(13,Be (Ag n.expr)),(2,.ptr 128 0),(3,.ptr 192 0),(5,.sl (.own 2816 0) 1 (((Ag n.expr).take i).map fun a=>[B (!C1 s.queues n.proc a.name)]))],[(128,s.c),(192,n.c)]⟩) (fun i=>i≤((Ag n.expr)).length∧True) (fun i=>((Ag n.expr)).length-i) 0 ⟨by omega,trivial⟩ ?_ ?_
 ·exact Bu
 rintro i ⟨hi,hP⟩ J hJ
 refine gO ?_
 refine ⟨fun hlt=>?_,fun hge=>?_⟩
 rotate_left
 have hil:i=((Ag n.expr)).length:=by simp at hge;omega
 rotate_left
 obtain⟨b,hb⟩:∃ b,((Ag n.expr))[i]?=some b:=⟨_,gE (by simp at hlt;omega)⟩
 have hbm:=mG hb
 simp(disch:=omega)only[go_sem,gm,hb]
 ·have step:∀ st',Imp ⟨C0,[],[]⟩ st' ⟨[(15,I (i+1:Nat)),(14,I (Ag n.expr).length),(13,Be (Ag n.expr)),(2,.ptr 128 0),(3,.ptr 192 0),(5,.sl (.own 2816 0) 1 (((Ag n.expr).take i).map (fun a=>[B (!C1 s.queues n.proc a.name)])++[[B (!C1 s.queues n.proc b.name)]]))],[(128,s.c),(192,n.c)]⟩→J st':=fun st' h=>by
   refine hJ st' (i+1) ⟨by simp at hlt;omega,trivial⟩ (by simp at hlt;omega) ?_
   have e:((Ag n.expr).take (i+1)).map (fun a=>[B (!C1 s.queues n.proc a.name)])=((Ag n.expr).take i).map (fun a=>[B (!C1 s.queues n.proc a.name)])++[[B (!C1 s.queues n.proc b.name)]]:=by
    rw[take_add_one,hb];simp
   rw[e];exact h
  have hbd:min i (Ag n.expr).length+1≤4294967296:=by omega
  refine Ab (α:=Nat) (fun j=>⟨[(22,I j),(21,I s.queues.length),(20,At s.queues),(8,B (C1 (s.queues.take j) n.proc b.name)),(7,.ptr 448 0),(15,I i),(14,I (Ag n.expr).length),(13,Be (Ag n.expr)),(2,.ptr 128 0),(3,.ptr 192 0),(5,.sl (.own 2816 0) 1 (((Ag n.expr).take i).map fun a=>[B (!C1 s.queues n.proc a.name)]))],[(448,b.c),(128,s.c),(192,n.c)]⟩) (fun j=>j≤s.queues.length) (fun j=>s.queues.length-j) 0 (by omega) ?_ ?_
  ·refine Imp.weak ?_ ?_
   ·simp(disch:=omega)only[go_sem,List.take_zero]
    exact .eq rfl
   ·exact gI
  rintro j hj J2 hJ2
  refine gO ?_
  refine And.intro (fun hlt2=>?_) (fun hge2=>?_)
  ·obtain⟨q,hq⟩:∃ q,s.queues[j]?=some q:=⟨_,gE (by simp at hlt2;omega)⟩
   have hqm:=mG hq
   have hqa:=h.aq q hqm
   have hq2:q.convs.length+q.waits.length≤1000000:=by unfold Br Bo at hqa;omega
   have hw:=R0 n.proc b.name hq
   simp(disch:=omega)only[go_sem,gm,hq]
   refine And.intro (fun hh=>?_) (fun hh=>?_)
   ·refine Aa (f228_ok q n.proc hq2) ?_
    refine gO ?_
    rw[if_pos hh]at hw
    refine hJ2 _ (j+1) (by simp at hlt2;omega) (by simp at hlt2;omega) (Imp.weak ?_ (by simp(disch:=omega)only[go_sem]))
    rw[hw]
    simp(disch:=omega)only[go_sem]
   ·rw[if_neg (by simp[hh])]at hw
    refine hJ2 _ (j+1) (by simp at hlt2;omega) (by simp at hlt2;omega) (Imp.weak ?_ (by simp(disch:=omega)only[go_sem]))
    rw[hw]
    simp(disch:=omega)only[go_sem]
  ·have hjl:j=s.queues.length:=by simp at hge2;omega
   subst hjl
   clear hJ2
   simp(disch:=omega)only[go_sem,take_length,length_map,length_take]
   exact step _ AE
 ·subst hil
  refine B3 ⟨[],[],[2816]⟩ _ ?_
  simp(disch:=omega)only[go_sem,take_length]
  exact .sl (by simp[Er])
theorem DU{α:Type}{f:Nat→α→Bool}{l:List α}:BE f l=true↔∀ i b,l[i]?=some b→f i b=true:=by
 unfold BE
 rw[List.all_eq_true]
 constructor
 ·intro h i b hb
  exact h (b,i) (by rw[List.mk_mem_zipIdx_iff_getElem?];exact hb)
 ·rintro h ⟨b,i⟩ hm
  rw[List.mk_mem_zipIdx_iff_getElem?]at hm
  exact h i b hm
theorem Al{α:Type}{l:List α}{i:Nat}{b:α}(h:l[i]?=some b):i<l.length:=by
 rcases Nat.lt_or_ge i l.length with h'|h'
 ·exact h'
 ·rw[List.getElem?_eq_none h']at h;cases h
theorem get_eq{α:Type}{l:List α}{i:Nat}{b:α}(h:l[i]?=some b):l[i]'(Al h)=b:=by
 rw[gE (Al h)]at h
 exact Option.some.inj h
def PB(l:List Wait):Prop:=l.Pairwise fun a b=>a.proc≠b.proc
theorem TM(l:List Wait):(∀ (i:Nat) (w:Wait),l[i]?=some w→Eo l w.proc=(i:Int))↔PB l:=by
 unfold PB
 rw[List.pairwise_iff_getElem]
 constructor
 ·intro h i j hi hj hij he
  have h1:=h i l[i] (gE hi)
  have h2:=h j l[j] (gE hj)
  rw[he,h2]at h1
  omega
 ·intro h i w hw
  have hi:=Al hw
  have hwe:=get_eq hw
  have:l.findIdx? (fun x=>decide (x.proc=w.proc))=some i:=by
   rw[List.findIdx?_eq_some_iff_getElem]
   refine⟨hi,by simp[hwe],fun j hj=>?_⟩
   have:=h j i (by omega) hi hj
   rw[hwe]at this
   simpa using this
  simp[Eo,this]
def K0(l:List Hold):Prop:=l.Pairwise fun a b=>A2 a.proc b.proc<0
theorem Yg(l:List Hold):(∀ i h,l[i]?=some h→(decide (i=0)||decide (A2 (l.getD (i-1) h0).proc h.proc<0))=true)↔K0 l:=by
 unfold K0
 rw[List.pairwise_iff_getElem]
 constructor
 ·intro h
  have step:∀ i (hi:i+1<l.length),A2 l[i].proc l[i+1].proc<0:=fun i hi=>by
   have:=h (i+1) l[i+1] (gE hi)
   simp only[Nat.add_sub_cancel,Bool.or_eq_true,decide_eq_true_eq]at this
   rcases this with h'|h'
   ·omega
   ·simpa [List.getD,gE (show i<l.length by omega)]using h'
  have far:∀ d i (hi:i+d+1<l.length),A2 l[i].proc l[i+d+1].proc<0:=by
   intro d
   induction d with
   | zero=>intro i hi;exact step i hi
   | succ d ih =>
    intro i hi
    have h1:=ih i (by omega)
    have h2:=step (i+d+1) (by omega)
    exact CR h1 h2
  intro i j hi hj hij
  obtain⟨d,rfl⟩:∃ d,j=i+d+1:=⟨j-i-1,by omega⟩
  exact far d i hj
 ·intro h i b hb
  cases i with
  | zero=>simp
  | succ i =>
   have hi:=Al hb
   have hbe:=get_eq hb
   have:=h i (i+1) (by omega) hi (by omega)
   rw[hbe]at this
   simp[List.getD,gE (show i<l.length by omega),this]
theorem DD(r:Res)(l:List Hold):AZ r l=true↔r.shaped=true∧l.length≤8∧(∀ h∈l,h.proc.ok=true∧r.fits h.amt=true)∧K0 l∧r.compat (l.map (·.amt))=true:=by
 unfold AZ
 simp only[and_eq_true,decide_eq_true_eq,DU,Dm]
 rw[← Yg]
 constructor
 ·rintro⟨⟨⟨h1,h2⟩,h3⟩,h4⟩
  refine⟨h1,h2,fun h hm=>?_,fun i h hi=>(h3 i h hi).2,h4⟩
  obtain⟨i,hi,he⟩:=List.getElem_of_mem hm
  have:=h3 i h (by rw[gE hi,he])
  exact this.1
 ·rintro⟨h1,h2,h3,h4,h5⟩
  exact⟨⟨⟨h1,h2⟩,fun i h hi=>⟨h3 h (mG hi),h4 i h hi⟩⟩,h5⟩
theorem Bq(q:Queue):Dl q=true↔q.convs.length≤8∧PB q.convs∧∀ w∈q.convs,(Ap q.holds w.proc).zero=false∧q.res.fits w.amt=true∧q.res.covers w.amt (Ap q.holds w.proc)=true∧w.amt≠Ap q.holds w.proc∧w.prio=0∧w.passed=0:=by
 unfold Dl
 simp only[and_eq_true,decide_eq_true_eq,DU,F2]
 rw[← TM]
 constructor
 ·rintro⟨h1,h2⟩
  refine⟨h1,fun i w hi=>(h2 i w hi).1.1.1.1.1.1,fun w hm=>?_⟩
  obtain⟨i,hi,he⟩:=List.getElem_of_mem hm
  have:=h2 i w (by rw[gE hi,he])
  simp at this
  obtain⟨⟨⟨⟨⟨⟨_,a⟩,b⟩,c⟩,d⟩,e⟩,f⟩:=this
  exact⟨by simpa using a,b,c,d,e,f⟩
 ·rintro⟨h1,h2,h3⟩
  refine⟨h1,fun i w hi=>?_⟩
  obtain⟨a,b,c,d,e,f⟩:=h3 w (mG hi)
  exact⟨⟨⟨⟨⟨⟨h2 i w hi,by simp[a]⟩,b⟩,c⟩,by simpa using d⟩,by simpa using e⟩,by simpa using f⟩
theorem Cl(l:List Wait):CL l=true↔l.length≤8∧PB l∧∀ w∈l,w.ok=true:=by
 unfold CL
 simp only[and_eq_true,decide_eq_true_eq,DU,Ed]
 rw[← TM]
 constructor
 ·rintro⟨h1,h2⟩
  refine⟨h1,fun i w hi=>(h2 i w hi).2,fun w hm=>?_⟩
  obtain⟨i,hi,he⟩:=List.getElem_of_mem hm
  exact(h2 i w (by rw[gE hi,he])).1
 ·rintro⟨h1,h2,h3⟩
  exact⟨h1,fun i w hi=>⟨h3 w (mG hi),h2 i w hi⟩⟩
theorem Bi(q:Queue):Dn q=true↔CL q.waits=true∧q.holds.length+q.waits.length≤8∧∀ w∈q.waits,q.res.fits w.amt=true∧(Ap q.holds w.proc).zero=true:=by
 unfold Dn
 simp only[and_eq_true,decide_eq_true_eq,List.all_eq_true,F5,and_assoc]
structure Sound(q:Queue):Prop where
 res:KM q.res=true
 holds:AZ q.res q.holds=true
 convs:Dl q=true
 waits:Dn q=true
 gen:0≤q.gen∧q.gen≤1073741824
theorem GX(q:Queue):sound q=true↔Sound q:=by
 unfold sound
 simp only[and_eq_true,decide_eq_true_eq]
 exact⟨fun⟨⟨⟨⟨⟨a,b⟩,c⟩,d⟩,e⟩,f⟩=>⟨a,b,c,d,e,f⟩,fun h=>⟨⟨⟨⟨⟨h.res,h.holds⟩,h.convs⟩,h.waits⟩,h.gen.1⟩,h.gen.2⟩⟩
theorem F8{α:Type}{f g:α→Bool}(h:∀ x,f x=true→g x=true):∀ l:List α,(l.filter g).find? f=l.find? f
 |[]=>rfl
 | x::l=>by
  simp only[List.filter_cons,List.find?_cons]
  cases hf:f x
  ·cases g x
   ·simpa using F8 h l
   ·simp only[if_true,List.find?_cons,hf];exact F8 h l
  ·simp[h x hf,hf]
theorem MI{l:List Hold}{p p':Proc}(h:p'≠p):Ap (Az l p) p'=Ap l p':=by
 unfold Ap Az
 rw[F8]
 intro x hx
 simp at hx ⊢
 rw[hx];exact h
theorem Fm{l:List Hold}{p p':Proc}{a:Amt}(h:p'≠p):Ap (BQ l p a) p'=Ap l p':=by
 rw[← MI (l:=l) h]
 unfold BQ
 split
 ·rfl
 ·unfold Ap
  generalize BW (Az l p) p=k
  conv=>rhs;rw[← List.take_append_drop k (Az l p)]
  rw[List.find?_append,List.find?_append,List.find?_cons]
  have:decide (p=p')=false:=by simpa using Ne.symm h
  simp[this]
theorem MC{l:List Hold}{p:Proc}(h:(Ap l p).zero=false):(Az l p).length+1≤l.length:=by
 unfold Ap at h
 cases hf:l.find? (fun h=>decide (h.proc=p)) with
 |none=>rw[hf]at h;simp[Amt.zero]at h
 |some x =>
  have hm:=List.mem_of_find?_eq_some hf
  have hx:=List.find?_some hf
  unfold Az
  have:(l.filter fun h=>decide (h.proc≠p)).length<l.length:=by
   rw[List.length_filter_lt_length_iff_exists]
   exact⟨x,hm,by simpa using hx⟩
  omega
theorem Oc{l:List Hold}{p:Proc}{a:Amt}:(BQ l p a).length≤(Az l p).length+1:=by
 have h2:=Kv (Az l p) p
 unfold BQ
 split
 ·omega
 ·simp;omega
theorem GL{r:Res}{a:Amt}(h:r.fits a=true):a.zero=false:=by
 simp only[Res.fits,and_eq_true]at h
 obtain⟨h1,h2⟩:=h
 split at h2
 ·simp[A1,between]at h2
  simp[Amt.zero]
  omega
 ·simp[between]at h2
  simp[Amt.zero]
  omega
theorem Ik{l:List Hold}{p:Proc}{h:Hold}:h∈Az l p↔h∈l∧h.proc≠p:=by simp[Az]
theorem Pf{l:List Hold}{p:Proc}{a:Amt}(ha:a.zero=false){h:Hold}:h∈BQ l p a↔(h∈l∧h.proc≠p)∨h=⟨p,a⟩:=by
 unfold BQ
 rw[ha]
 simp only[Bool.false_eq_true,if_false,List.mem_append,mem_cons]
 rw[← Ik]
 conv=>rhs;rw[← List.take_append_drop (BW (Az l p) p) (Az l p),List.mem_append]
 constructor
 ·rintro(h|h|h)
  ·exact .inl (.inl h)
  ·exact .inr h
  ·exact .inl (.inr h)
 ·rintro((h|h)|h)
  ·exact .inl h
  ·exact .inr (.inr h)
  ·exact .inr (.inl h)
end Go.Rd
