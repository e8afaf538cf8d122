/- part 31 of the proof -/
import Derived.Test.YthachdiockkofaaGreatDoorT30
set_option linter.all false
open Go Go.Abs Go.Proofs
set_option maxRecDepth 100000
namespace Go.Rd
set_option maxHeartbeats 8000000
open List (append_nil cons_append length_append length_map map_append map_cons map_nil mem_append nil_append take_add_one take_length)
open Option (toList_some)
open Nat (le_trans)
open Tryz
def shM(n:Int)(i:Nat):Int:=n.fdiv (2 ^ min (3*i) 64)
def FH(cat:List Res)(n:Int):Nat→List Atom
 | 0=>[]
 | i+1=>FH cat n i++[⟨(cat.getD i r0).name,IF (cat.getD i r0) (shM n i)⟩]
theorem K3(cat:List Res)(n:Int):∀ i,(FH cat n i).length=i
 | 0=>rfl
 | i+1=>by simp[FH,K3 cat n i]
def Nu(l:List Int)(cat:List Res)(a:Nat):Expr × Nat:=Cs l (FH cat (Ad l a 1048576).1 cat.length) 2 (Ad l a 1048576).2
theorem wrapu(i:Nat)(h:i≤1000):IntKind.u64.wrap (3*(i:Int))=3*i:=by
 simp only[IntKind.wrap,IntKind.signed,IntKind.bits,Bool.false_and,Bool.false_eq_true,if_false]
 omega
theorem f152_ok(l:List Int)(a:Nat)(cat:List Res)(hl:l.length≤1000000)(hc:1≤cat.length∧cat.length≤100)(hu:∀ r∈cat,r.units≤1000000):Ac C0 152 [.ptr 63 0,EA cat] [(63,CE l a)] (.agg (Nu l cat a).1.c) [(63,CE l (Nu l cat a).2)]:=by
 refine Ac.go f152 ?_
 unfold f152
 refine gO ?_
 refine call2 ⟨⟨[],[(63,63)],[]⟩,[],[]⟩ (f37_ok l a 1048576 hl (by omega)) ?_
 refine gO ?_
 have e:Nu l cat a=Cs l (FH cat (Ad l a 1048576).1 cat.length) 2 (Ad l a 1048576).2:=rfl
 rw[e]
 generalize (Ad l a 1048576).2=a1
 generalize (Ad l a 1048576).1=first
 refine Ab (α:=Nat) (fun i=>⟨[(7,I i),(6,.sl (.own 2176 0) 3 ((FH cat first i).map Atom.c)),(5,I first),(4,.ptr 256 0),(0,.ptr 63 0),(1,EA cat)],[(256,[I 0,.v (.string (str [])),I 0,I 0,.v (.slice none 0 0)]),(63,CE l a1)]⟩) (fun i=>i≤cat.length) (fun i=>cat.length-i) 0 (by omega) (Imp.weak ?_ ?_) ?_
 ·simp(disch:=omega)only[go_sem,FH,map_nil]
 ·exact gI
 rintro i hi J hJ
 simp(disch:=omega)only[go_sem,length_map]
 refine ⟨fun hlt=>?_,fun hge=>?_⟩
 ·have hlt2:i<cat.length:=by simp at hlt;omega
  obtain⟨r,hr⟩:∃ r,cat[i]?=some r:=⟨_,gE hlt2⟩
  have hgd:cat.getD i r0=r:=by simp[List.getD,hr]
  have hur:=hu r (mG hr)
  have hwu:=wrapu i (by omega)
  have hal:=K3 cat first i
  have han:FH cat first (i+1)=FH cat first i++[⟨r.name,IF r (shM first i)⟩]:=by rw[FH,hgd]
  have hsh:first.fdiv (2 ^ min (3*(i:Int)).toNat 64)=shM first i:=by rw[shM,show (3*(i:Int)).toNat=3*i by omega]
  have hbd:(FH cat first i).length+1≤4294967296:=by omega
  generalize FH cat first i=az at han hal hbd ⊢
  refine Aj 18 [([],[6]),([],[1]),([],[7]),([],[17,18]),([],[19]),([],[20]),([],[1]),([],[7]),([],[22,23]),([],[24]),([],[5]),([],[7]),([],[27]),([],[28]),([],[26,29]),([],[25,30]),([15],[21,31]),([15],[32])] fol ?_
  simp(disch:=omega)only[go_sem,gm,hr,hwu,eq_false (show ¬ (3*(i:Int))<0 by omega),hsh,Option.map_some]
  first|(refine Aa (f234_ok r (shM first i) hur) ?_)|(refine Ai (f234_ok r (shM first i) hur) ?_)
  refine gO ?_
  refine hJ _ (i+1) (by omega) (by omega) (Imp.weak ?_ ?_)
  ·simp(disch:=omega)only[go_sem]
   rw[han,map_append,map_cons,map_nil]
   exact .rfl
  ·exact gI
 have him:i=cat.length:=by simp at hge;omega
 subst him
 have hal:=K3 cat first cat.length
 refine Oq [2176] ⟨⟨[],[(63,63)],[]⟩,[],[]⟩ (f235_ok l (FH cat first cat.length) hl (by omega) 2 a1 (by omega)) (by simp(disch:=omega)only[go_sem]) rfl (by simp(disch:=omega)only[go_sem]) (.inl rfl) ?_
 refine gO ?_
 refine BU ⟨[],[(63,63)],[]⟩ _ ?_ ?_
 ·exact gI
 ·exact gI
def NT(l:List Int)(a:Nat):Int × Nat:=if (Ad l a 5).1=1 then (1+(Ad l (Ad l a 5).2 20).1,(Ad l (Ad l a 5).2 20).2) else (0,(Ad l a 5).2)
def Gi(l:List Int)(cat:List Res)(a:Nat):Req × Nat :=
 (⟨(Nu l cat (NT l (Ad l a 8).2).2).1,(Ad l a 8).1,(NT l (Ad l a 8).2).1⟩,(Nu l cat (NT l (Ad l a 8).2).2).2)
theorem f96_ok(l:List Int)(a:Nat)(cat:List Res)(hl:l.length≤1000000)(hc:1≤cat.length∧cat.length≤100)(hu:∀ r∈cat,r.units≤1000000):Ac C0 96 [.ptr 63 0,EA cat] [(63,CE l a)] (.agg (Gi l cat a).1.c) [(63,CE l (Gi l cat a).2)]:=by
 refine Ac.go f96 ?_
 unfold f96
 refine gO ?_
 refine call2 ⟨⟨[],[(63,63)],[]⟩,[],[]⟩ (f37_ok l a 8 hl (by omega)) ?_
 have e:Gi l cat a=(⟨(Nu l cat (NT l (Ad l a 8).2).2).1,(Ad l a 8).1,(NT l (Ad l a 8).2).1⟩,(Nu l cat (NT l (Ad l a 8).2).2).2):=rfl
 rw[e]
 generalize (Ad l a 8).2=a1
 generalize (Ad l a 8).1=prio
 refine gO ?_
 refine call2 ⟨⟨[],[(63,63)],[]⟩,[],[]⟩ (f37_ok l a1 5 hl (by omega)) ?_
 by_cases h1:(Ad l a1 5).1=1
 ·have e1:NT l a1=(1+(Ad l (Ad l a1 5).2 20).1,(Ad l (Ad l a1 5).2 20).2):=by simp only[NT,h1,if_true]
  rw[e1]
  have hb:=Du l (Ad l a1 5).2 20 (by omega)
  have hw:IntKind.i64.wrap (1+(Ad l (Ad l a1 5).2 20).1)=1+(Ad l (Ad l a1 5).2 20).1:=wrap64 _ (by omega) (by omega)
  simp(disch:=omega)only[go_sem,h1]
  refine call2 ⟨⟨[],[(63,63)],[]⟩,[],[]⟩ (f37_ok l (Ad l a1 5).2 20 hl (by omega)) ?_
  simp(disch:=omega)only[go_sem,hw]
  refine call2 ⟨⟨[],[(63,63)],[]⟩,[],[]⟩ (f152_ok l (Ad l (Ad l a1 5).2 20).2 cat hl hc hu) ?_
  refine gO ?_
  refine BU ⟨[],[(63,63)],[]⟩ _ ?_ ?_
  ·exact gI
  ·exact gI
 ·have e1:NT l a1=(0,(Ad l a1 5).2):=by simp only[NT,h1,if_false]
  rw[e1]
  have h1':((Ad l a1 5).1==1)=false:=by simpa using h1
  simp(disch:=omega)only[go_sem,h1']
  refine call2 ⟨⟨[],[(63,63)],[]⟩,[],[]⟩ (f152_ok l (Ad l a1 5).2 cat hl hc hu) ?_
  refine gO ?_
  refine BU ⟨[],[(63,63)],[]⟩ _ ?_ ?_
  ·exact gI
  ·exact gI
def Ek(l:List Int)(cat:List Res)(n:Int)(p:Proc)(a:Nat):Cmd × Nat :=
 if n=0 then (⟨1,p,Df,[],1+(Ad l a 9).1⟩,(Ad l a 9).2)
 else if n<9 then (⟨2,p,(Gi l cat a).1,[],0⟩,(Gi l cat a).2)
 else if n=9 then (⟨3,p,Df,[],0⟩,a)
 else if n=10 then (⟨4,p,Df,(cat.getD (Ad l a cat.length).1.toNat r0).name,0⟩,(Ad l a cat.length).2)
 else if n=11 then (⟨5,p,Df,[],1+(Ad l a 4).1⟩,(Ad l a 4).2)
 else if n=12 then (⟨6,p,Df,[],(Ad l a 5).1⟩,(Ad l a 5).2)
 else if n=13 then (⟨7,p,Df,[],0⟩,a)
 else if n=14 then (⟨8,p,Df,[],0⟩,a)
 else (⟨9,p,Df,[],(Ad l a 12).1⟩,(Ad l a 12).2)
def Em(l:List Int)(cat:List Res)(a:Nat):Cmd × Nat:=Ek l cat (Ad l a 16).1 (L9 (Ad l (Ad l a 16).2 6).1) (Ad l (Ad l a 16).2 6).2
theorem f50_ok(l:List Int)(a:Nat)(cat:List Res)(hl:l.length≤1000000)(hc:1≤cat.length∧cat.length≤100)(hu:∀ r∈cat,r.units≤1000000):Ac C0 50 [.ptr 63 0,EA cat] [(63,CE l a)] (.agg (Em l cat a).1.c) [(63,CE l (Em l cat a).2)]:=by
 refine Ac.go f50 ?_
 unfold f50
 refine gO ?_
 refine call2 ⟨⟨[],[(63,63)],[]⟩,[],[]⟩ (f37_ok l a 16 hl (by omega)) ?_
 refine gO ?_
 refine call2 ⟨⟨[],[(63,63)],[]⟩,[],[]⟩ (f37_ok l (Ad l a 16).2 6 hl (by omega)) ?_
 refine gO ?_
 refine Aa (Ze (Ad l (Ad l a 16).2 6).1) ?_
 have e:Em l cat a=Ek l cat (Ad l a 16).1 (L9 (Ad l (Ad l a 16).2 6).1) (Ad l (Ad l a 16).2 6).2:=rfl
 rw[e]
 generalize L9 (Ad l (Ad l a 16).2 6).1=p
 generalize (Ad l (Ad l a 16).2 6).2=a1
 generalize (Ad l a 16).1=n
 by_cases h0:n=0
 ·have ht:Ek l cat n p a1=(⟨1,p,Df,[],1+(Ad l a1 9).1⟩,(Ad l a1 9).2):=by simp[Ek,h0]
  have hb:=Du l a1 9 (by omega)
  have hw:IntKind.i64.wrap (1+(Ad l a1 9).1)=1+(Ad l a1 9).1:=wrap64 _ (by omega) (by omega)
  rw[ht]
  simp(disch:=omega)only[go_sem,h0]
  refine call2 ⟨⟨[],[(63,63)],[]⟩,[],[]⟩ (f37_ok l a1 9 hl (by omega)) ?_
  simp(disch:=omega)only[go_sem,hw]
  refine BU ⟨[],[(63,63)],[]⟩ _ ?_ ?_
  ·simp(disch:=omega)only[go_sem,Df,e0,a0,Expr.k,Expr.atom,Expr.kids,map_nil]
   exact .agg (Af.AD (by simp(disch:=omega)only[go_sem]))
  ·exact gI
 have h0':(n==0)=false:=by simpa using h0
 simp(disch:=omega)only[go_sem,h0']
 by_cases h1:n<9
 ·have ht:Ek l cat n p a1=(⟨2,p,(Gi l cat a1).1,[],0⟩,(Gi l cat a1).2):=by simp[Ek,h0,h1]
  rw[ht]
  simp(disch:=omega)only[go_sem,eq_true h1,decide_true]
  refine call2 ⟨⟨[],[(63,63)],[]⟩,[],[]⟩ (f96_ok l a1 cat hl hc hu) ?_
  refine gO ?_
  refine BU ⟨[],[(63,63)],[]⟩ _ ?_ ?_
  ·simp(disch:=omega)only[go_sem,Df,e0,a0,Expr.k,Expr.atom,Expr.kids,map_nil]
   try exact .agg (Af.AD (by simp(disch:=omega)only[go_sem]))
  ·exact gI
 simp(disch:=omega)only[go_sem,eq_false h1,decide_false]
 by_cases h2:n=9
 ·have ht:Ek l cat n p a1=(⟨3,p,Df,[],0⟩,a1):=by simp[Ek,h0,h2]
  rw[ht]
  simp(disch:=omega)only[go_sem,h2]
  refine BU ⟨[],[(63,63)],[]⟩ _ ?_ ?_
  ·simp(disch:=omega)only[go_sem,Df,e0,a0,Expr.k,Expr.atom,Expr.kids,map_nil]
   try exact .agg (Af.AD (by simp(disch:=omega)only[go_sem]))
  ·exact gI
 have h2':(n==9)=false:=by simpa using h2
 simp(disch:=omega)only[go_sem,h2']
 by_cases h3:n=10
 ·have ht:Ek l cat n p a1=(⟨4,p,Df,(cat.getD (Ad l a1 cat.length).1.toNat r0).name,0⟩,(Ad l a1 cat.length).2):=by simp[Ek,h3]
  obtain⟨b1,b2⟩:=Du l a1 cat.length (by omega)
  obtain⟨i,hi⟩:∃ i:Nat,(Ad l a1 cat.length).1=(i:Int):=⟨_,(Int.toNat_of_nonneg b1).symm⟩
  have hil:i<cat.length:=by omega
  have hr:cat[i]?=some cat[i]:=gE hil
  have hgd:cat.getD (Ad l a1 cat.length).1.toNat r0=cat[i]:=by rw[hi];simp[List.getD,hr]
  rw[ht,hgd]
  have hh37:=f37_ok l a1 cat.length hl (by omega)
  generalize (Ad l a1 cat.length).2=a2 at hh37 ⊢
  rw[hi]at hh37
  generalize cat[i]=r at hr ⊢
  simp(disch:=omega)only[go_sem,h3]
  refine CP (st':=⟨[(6,.ptr 384 0),(4,.ptr 256 0),(0,.ptr 63 0),(1,EA cat)],[(384,(⟨0,p,Df,[],0⟩:Cmd).c),(256,(⟨0,p0,Df,[],0⟩:Cmd).c),(63,CE l a1)]⟩) (Imp.weak ?_ ?_) ?_
  ·exact gI
  ·simp(disch:=omega)only[go_sem,Df,e0,a0,p0,Expr.k,Expr.atom,Expr.kids,map_nil]
  refine CA 4095 [(0,1,0),(1,2,0),(2,4,0),(3,8,4),(4,16,10),(5,32,17),(6,64,32),(7,128,64),(8,256,0),(9,512,272),(10,1024,1023),(11,2048,2047)] [0,1,2,4,256,3,5,257,6,258,12,260,7,259,13,261,14,262,268,15,263,269,30,270,31,271,286,63,287,798,127,319,799,255,383,831,511,895,1023,2047,4095] (fun m=>⟨sel m [(1,40,EA cat),(2,41,.ptr 63 0),(4,42,EA cat),(8,43,I cat.length),(16,44,I i),(32,45,.ep .no i r.c 0),(64,46,.ep .no i r.c 0),(128,47,.v (.string (str r.name))),(256,48,.ptr 384 0),(1024,49,.ptr 384 11)]++[(6,.ptr 384 0),(4,.ptr 256 0),(0,.ptr 63 0),(1,EA cat)],[(384,(⟨(if m / 512%2=1 then 4 else 0),p,Df,(if m / 2048%2=1 then r.name else []),0⟩:Cmd).c),(256,(⟨0,p0,Df,[],0⟩:Cmd).c),(63,CE l (if m / 16%2=1 then a2 else a1))]⟩) ?_ ?_ ?_ fol
  ·exact AE
  ·simp (maxSteps:=100000000)only[Cz,Cy,C9,C8,and_true,Nat.reduceDiv,Nat.reduceMod,Nat.reduceAnd,Nat.reduceEqDiff,reduceIte,true_and,and_false,false_and,and_self]
   repeat'(with_reducible refine And.intro ?_ ?_)
   all_goals simp(disch:=omega)only[go_sem,gm,hr,length_map,nil_append,cons_append]
   all_goals first|exact Imp.weak (by simp(disch:=omega)only[go_sem,nil_append,cons_append]) (by simp(disch:=omega)only[go_sem,nil_append,cons_append])|(refine call2 ⟨⟨[],[(63,63)],[]⟩,[],[]⟩ hh37 ?_;simp(disch:=omega)only[go_sem];exact Imp.weak (by simp(disch:=omega)only[go_sem,nil_append,cons_append]) (by simp(disch:=omega)only[go_sem,nil_append,cons_append]))
  refine gO ?_
  refine BU ⟨[],[(63,63)],[]⟩ _ ?_ ?_
  ·simp(disch:=omega)only[go_sem,Df,e0,a0,Expr.k,Expr.atom,Expr.kids,map_nil]
  ·exact gI
 have h3':(n==10)=false:=by simpa using h3
 simp(disch:=omega)only[go_sem,h3']
 by_cases h4:n=11
 ·have ht:Ek l cat n p a1=(⟨5,p,Df,[],1+(Ad l a1 4).1⟩,(Ad l a1 4).2):=by simp[Ek,h4]
  have hb:=Du l a1 4 (by omega)
  have hw:IntKind.i64.wrap (1+(Ad l a1 4).1)=1+(Ad l a1 4).1:=wrap64 _ (by omega) (by omega)
  rw[ht]
  simp(disch:=omega)only[go_sem,h4]
  refine call2 ⟨⟨[],[(63,63)],[]⟩,[],[]⟩ (f37_ok l a1 4 hl (by omega)) ?_
  simp(disch:=omega)only[go_sem,hw]
  refine BU ⟨[],[(63,63)],[]⟩ _ ?_ ?_
  ·simp(disch:=omega)only[go_sem,Df,e0,a0,Expr.k,Expr.atom,Expr.kids,map_nil]
   try exact .agg (Af.AD (by simp(disch:=omega)only[go_sem]))
  ·exact gI
 have h4':(n==11)=false:=by simpa using h4
 simp(disch:=omega)only[go_sem,h4']
 by_cases h5:n=12
 ·have ht:Ek l cat n p a1=(⟨6,p,Df,[],(Ad l a1 5).1⟩,(Ad l a1 5).2):=by simp[Ek,h5]
  rw[ht]
  simp(disch:=omega)only[go_sem,h5]
  refine call2 ⟨⟨[],[(63,63)],[]⟩,[],[]⟩ (f37_ok l a1 5 hl (by omega)) ?_
  refine gO ?_
  refine BU ⟨[],[(63,63)],[]⟩ _ ?_ ?_
  ·simp(disch:=omega)only[go_sem,Df,e0,a0,Expr.k,Expr.atom,Expr.kids,map_nil]
   try exact .agg (Af.AD (by simp(disch:=omega)only[go_sem]))
  ·exact gI
 have h5':(n==12)=false:=by simpa using h5
 simp(disch:=omega)only[go_sem,h5']
 by_cases h6:n=13
 ·have ht:Ek l cat n p a1=(⟨7,p,Df,[],0⟩,a1):=by simp[Ek,h6]
  rw[ht]
  simp(disch:=omega)only[go_sem,h6]
  refine BU ⟨[],[(63,63)],[]⟩ _ ?_ ?_
  ·simp(disch:=omega)only[go_sem,Df,e0,a0,Expr.k,Expr.atom,Expr.kids,map_nil]
   try exact .agg (Af.AD (by simp(disch:=omega)only[go_sem]))
  ·exact gI
 have h6':(n==13)=false:=by simpa using h6
 simp(disch:=omega)only[go_sem,h6']
 by_cases h7:n=14
 ·have ht:Ek l cat n p a1=(⟨8,p,Df,[],0⟩,a1):=by simp[Ek,h7]
  rw[ht]
  simp(disch:=omega)only[go_sem,h7]
  refine BU ⟨[],[(63,63)],[]⟩ _ ?_ ?_
  ·simp(disch:=omega)only[go_sem,Df,e0,a0,Expr.k,Expr.atom,Expr.kids,map_nil]
   try exact .agg (Af.AD (by simp(disch:=omega)only[go_sem]))
  ·exact gI
 have h7':(n==14)=false:=by simpa using h7
 have ht:Ek l cat n p a1=(⟨9,p,Df,[],(Ad l a1 12).1⟩,(Ad l a1 12).2):=by simp[Ek,h0,h1,h2,h3,h4,h5,h6,h7]
 rw[ht]
 simp(disch:=omega)only[go_sem,h7']
 refine call2 ⟨⟨[],[(63,63)],[]⟩,[],[]⟩ (f37_ok l a1 12 hl (by omega)) ?_
 refine gO ?_
 refine BU ⟨[],[(63,63)],[]⟩ _ ?_ ?_
 ·simp(disch:=omega)only[go_sem,Df,e0,a0,Expr.k,Expr.atom,Expr.kids,map_nil]
  try exact .agg (Af.AD (by simp(disch:=omega)only[go_sem]))
 ·exact gI
def Th:List Bs:=[[97],[98],[99],[100]]
def B8(l:List Int)(a:Nat):Nat→List Res × Nat
 | 0=>([],a)
 | i+1=>((B8 l a i).1++[⟨Th.getD i [],1,1,(Ad l (B8 l a i).2 4).1⟩],(Ad l (B8 l a i).2 4).2)
theorem IW(l:List Int)(a:Nat):∀ i,(B8 l a i).1.length=i
 | 0=>rfl
 | i+1=>by simp[B8,IW l a i]
def Hh(l:List Int)(name:Bs)(m:Int)(a:Nat):Res × Nat:=(⟨name,2,1+(Ad l a m).1,(Ad l (Ad l a m).2 4).1⟩,(Ad l (Ad l a m).2 4).2)
def B5(l:List Int)(a:Nat):List Res × Nat :=
 ((B8 l a 4).1++[(Hh l [112] 8 (B8 l a 4).2).1]++[(Hh l [113] 3 (Hh l [112] 8 (B8 l a 4).2).2).1],(Hh l [113] 3 (Hh l [112] 8 (B8 l a 4).2).2).2)
theorem f113_ok(l:List Int)(a:Nat)(hl:l.length≤1000000):Ac C0 113 [.ptr 63 0] [(63,CE l a)] (EA (B5 l a).1) [(63,CE l (B5 l a).2)]:=by
 refine Ac.go f113 ?_
 unfold f113
 refine gO ?_
 refine Ab (α:=Nat) (fun i=>⟨[(5,I i),(4,.sl (.own 384 0) 1 (Th.map fun s=>[.v (.string (str s))])),(3,.sl (.own 1408 0) 4 ((B8 l a i).1.map Res.c)),(0,.ptr 63 0)],[(63,CE l (B8 l a i).2)]⟩) (fun i=>i≤4) (fun i=>4-i) 0 (by omega) (Imp.weak ?_ ?_) ?_
 ·simp(disch:=omega)only[go_sem,B8,map_nil]
  exact .sl rfl
 ·simp(disch:=omega)only[go_sem,B8]
 rintro i hi J hJ
 have hn4:Th.length=4:=rfl
 simp(disch:=omega)only[go_sem,length_map,hn4]
 refine ⟨fun hlt=>?_,fun hge=>?_⟩
 ·have hlt2:i<4:=by simp at hlt;omega
  obtain⟨s,hs⟩:∃ s,Th[i]?=some s:=⟨_,gE (by rw[hn4];omega)⟩
  have hgd:Th.getD i []=s:=by simp[List.getD,hs]
  have hal:=IW l a i
  have han:B8 l a (i+1)=((B8 l a i).1++[⟨s,1,1,(Ad l (B8 l a i).2 4).1⟩],(Ad l (B8 l a i).2 4).2):=by rw[B8,hgd]
  generalize B8 l a i=ls at han hal ⊢
  obtain⟨ll,a1⟩:=ls
  simp only at han hal ⊢
  have hh37:=f37_ok l a1 4 hl (by omega)
  generalize (Ad l a1 4).2=a2 at hh37 han ⊢
  generalize (Ad l a1 4).1=v at hh37 han ⊢
  have hbd:ll.length+1≤4294967296:=by omega
  refine CP (st':=⟨[(5,I i),(4,.sl (.own 384 0) 1 (Th.map fun s=>[.v (.string (str s))])),(3,.sl (.own 1408 0) 4 (ll.map Res.c)),(0,.ptr 63 0)],[(63,CE l a1)]⟩) AE ?_
  refine CA 2047 [(0,1,0),(1,2,0),(2,4,0),(3,8,6),(4,16,8),(5,32,0),(6,64,32),(7,128,80),(8,256,128),(9,512,321),(10,1024,1023)] [0,1,2,4,32,3,5,33,6,34,36,96,7,35,37,97,14,38,98,100,15,39,99,101,30,46,102,31,47,103,62,110,63,111,126,127,254,255,510,511,1023,2047] (fun m=>⟨sel m [(1,13,(if m / 512%2=1 then .undef else .sl (.own 1408 0) 4 (ll.map Res.c))),(2,14,.sl (.own 384 0) 1 (Th.map fun s=>[.v (.string (str s))])),(4,15,I i),(8,16,.ep (.own 384 0) i [.v (.string (str s))] 0),(16,17,.v (.string (str s))),(32,18,.ptr 63 0),(64,19,I v),(128,20,.agg (⟨s,1,1,v⟩:Res).c),(256,21,.sl (.own 1344 0) 4 ([(⟨s,1,1,v⟩:Res)].map Res.c)),(512,22,.sl (.own 1408 0) 4 ((ll++[(⟨s,1,1,v⟩:Res)]).map Res.c))]++[(5,I i),(4,.sl (.own 384 0) 1 (Th.map fun s=>[.v (.string (str s))])),(3,(if m / 512%2=1 then (if m / 1024%2=1 then .sl (.own 1408 0) 4 ((ll++[(⟨s,1,1,v⟩:Res)]).map Res.c) else .undef) else .sl (.own 1408 0) 4 (ll.map Res.c))),(0,.ptr 63 0)],[(63,CE l (if m / 64%2=1 then a2 else a1))]⟩) ?_ ?_ ?_ fol
  ·exact AE
  ·simp (maxSteps:=100000000)only[Cz,Cy,C9,C8,and_true,Nat.reduceDiv,Nat.reduceMod,Nat.reduceAnd,Nat.reduceEqDiff,reduceIte,true_and,and_false,false_and,and_self]
   repeat'(with_reducible refine And.intro ?_ ?_)
   all_goals simp(disch:=omega)only[go_sem,gm,hs,length_map,nil_append,cons_append]
   all_goals first|exact Imp.weak (by simp(disch:=omega)only[go_sem,nil_append,cons_append,map_append,map_cons,map_nil]) (by simp(disch:=omega)only[go_sem,nil_append,cons_append,map_append,map_cons,map_nil])|(refine call2 ⟨⟨[],[(63,63)],[]⟩,[],[]⟩ hh37 ?_;simp(disch:=omega)only[go_sem];exact Imp.weak (by simp(disch:=omega)only[go_sem,nil_append,cons_append,map_append,map_cons,map_nil]) (by simp(disch:=omega)only[go_sem,nil_append,cons_append,map_append,map_cons,map_nil]))
  refine gO ?_
  refine hJ _ (i+1) (by omega) (by omega) (Imp.weak ?_ ?_)
  ·rw[han]
   simp(disch:=omega)only[go_sem]
  ·rw[han]
   simp(disch:=omega)only[go_sem]
 have him:i=4:=by simp at hge;omega
 subst him
 have hcm:B5 l a=((B8 l a 4).1++[(Hh l [112] 8 (B8 l a 4).2).1]++[(Hh l [113] 3 (Hh l [112] 8 (B8 l a 4).2).2).1],(Hh l [113] 3 (Hh l [112] 8 (B8 l a 4).2).2).2):=rfl
 rw[hcm]
 have hll:=IW l a 4
 generalize B8 l a 4=ls at hll ⊢
 obtain⟨ll,a1⟩:=ls
 simp only at hll ⊢
 obtain⟨b1,b2⟩:=Du l a1 8 (by omega)
 have hp1:Hh l [112] 8 a1=(⟨[112],2,1+(Ad l a1 8).1,(Ad l (Ad l a1 8).2 4).1⟩,(Ad l (Ad l a1 8).2 4).2):=rfl
 rw[hp1]
 have g1:=f37_ok l a1 8 hl (by omega)
 have g2:=f37_ok l (Ad l a1 8).2 4 hl (by omega)
 generalize (Ad l a1 8).2=a2 at g1 g2 ⊢
 generalize (Ad l a1 8).1=u1 at b1 b2 g1 ⊢
 simp only
 generalize (Ad l a2 4).2=a3 at g2 ⊢
 generalize (Ad l a2 4).1=h1 at g2 ⊢
 obtain⟨c1,c2⟩:=Du l a3 3 (by omega)
 have hp2:Hh l [113] 3 a3=(⟨[113],2,1+(Ad l a3 3).1,(Ad l (Ad l a3 3).2 4).1⟩,(Ad l (Ad l a3 3).2 4).2):=rfl
 rw[hp2]
 have g3:=f37_ok l a3 3 hl (by omega)
 have g4:=f37_ok l (Ad l a3 3).2 4 hl (by omega)
 generalize (Ad l a3 3).2=a4 at g3 g4 ⊢
 generalize (Ad l a3 3).1=u2 at c1 c2 g3 ⊢
 simp only
 generalize (Ad l a4 4).2=a5 at g4 ⊢
 generalize (Ad l a4 4).1=h2 at g4 ⊢
 have hw1:IntKind.i64.wrap (1+u1)=1+u1:=wrap64 _ (by omega) (by omega)
 have hw2:IntKind.i64.wrap (1+u2)=1+u2:=wrap64 _ (by omega) (by omega)
 have hbd1:ll.length+1≤4294967296:=by omega
 refine call2 ⟨⟨[],[(63,63)],[]⟩,[],[]⟩ g1 ?_
 simp(disch:=omega)only[go_sem,hw1]
 refine call2 ⟨⟨[],[(63,63)],[]⟩,[],[]⟩ g2 ?_
 refine gO ?_
 refine call2 ⟨⟨[],[(63,63)],[]⟩,[],[]⟩ g3 ?_
 simp(disch:=omega)only[go_sem,hw2]
 refine call2 ⟨⟨[],[(63,63)],[]⟩,[],[]⟩ g4 ?_
 have hbd2:ll.length+1+1≤4294967296:=by omega
 simp(disch:=omega)only[go_sem,length_append,length_map,List.length_singleton]
 refine BU ⟨[],[(63,63)],[2560]⟩ _ ?_ ?_
 ·simp(disch:=omega)only[go_sem]
  exact .sl (by rw[map_append,map_append];rfl)
 ·exact gI
@[reducible] def WK(l:List Cmd):AV:=.sl .no 13 (l.map Cmd.c)
theorem S2(l:List Int)(az:List Atom)(a:Nat):a≤(S1 l az a).2:=(Ew l a az.length).1
theorem SZ{f:Nat→Expr × Nat}(h:∀ a,a≤(f a).2):∀ n a,a≤(FC f n a).2
 | 0,a=>Nat.le_refl _
 | n+1,a=>le_trans (SZ h n a) (h _)
theorem Qv(l:List Int)(az:List Atom):∀ d a,a≤(Cs l az d a).2
 | 0,a=>S2 l az a
 | d+1,a=>by
  rw[Cs]
  have h1:=(Ew l a 4).1
  split
  ·exact le_trans h1 (S2 l az _)
  ·have h2:=(Ew l (Ad l a 4).2 3).1
   have h3:=(Ew l (Ad l (Ad l a 4).2 3).2 (1+(Ad l (Ad l a 4).2 3).1)).1
   exact le_trans (le_trans (le_trans h1 h2) h3) (SZ (fun a=>Qv l az d a) _ _)
theorem WW(l:List Int)(cat:List Res)(a:Nat):a≤(Nu l cat a).2:=le_trans (Ew l a 1048576).1 (Qv l _ 2 _)
theorem YA(l:List Int)(a:Nat):a≤(NT l a).2:=by
 have h1:=(Ew l a 5).1
 have h2:=(Ew l (Ad l a 5).2 20).1
 unfold NT
 split
 ·exact le_trans h1 h2
 ·exact h1
theorem Tv(l:List Int)(cat:List Res)(a:Nat):a≤(Gi l cat a).2:=by
 have h1:=(Ew l a 8).1
 have h2:=YA l (Ad l a 8).2
 exact le_trans (le_trans h1 h2) (WW l cat _)
theorem WD(l:List Int)(cat:List Res)(n:Int)(p:Proc)(a:Nat):a≤(Ek l cat n p a).2:=by
 unfold Ek
 repeat' split
 all_goals first|exact Nat.le_refl _|exact(Ew _ _ _).1|exact Tv _ _ _
theorem Jx(l:List Int)(cat:List Res)(a:Nat)(h:a<l.length):a<(Em l cat a).2:=by
 have h1:=(Ew l a 16).2 h
 have h2:=(Ew l (Ad l a 16).2 6).1
 have h3:=WD l cat (Ad l a 16).1 (L9 (Ad l (Ad l a 16).2 6).1) (Ad l (Ad l a 16).2 6).2
 show a<(Ek l cat (Ad l a 16).1 (L9 (Ad l (Ad l a 16).2 6).1) (Ad l (Ad l a 16).2 6).2).2
 omega
def Dw(l:List Int)(a:Nat):Nat→List Cmd × Nat
 | 0=>([],a)
 | i+1=>((Dw l a i).1++[⟨1,L9 i,Df,[],1+(Ad l (Dw l a i).2 9).1⟩],(Ad l (Dw l a i).2 9).2)
theorem IZ(l:List Int)(a:Nat):∀ i,(Dw l a i).1.length=i
 | 0=>rfl
 | i+1=>by simp[Dw,IZ l a i]
def H5(l:List Int)(cat:List Res)(a:Nat):List Cmd :=
 if h:a<l.length then (Em l cat a).1::H5 l cat (Em l cat a).2 else []
 termination_by l.length-a
 decreasing_by have:=Jx l cat a h;omega
def E4(l:List Int):List Res × List Cmd:=((B5 l 0).1,(Dw l (B5 l 0).2 4).1++H5 l (B5 l 0).1 (Dw l (B5 l 0).2 4).2)
theorem L1(l:List Int)(a:Nat):∀ i,∀ r∈(B8 l a i).1,r.units=1
 | 0,r,h=>by simp[B8]at h
 | i+1,r,h=>by
  simp only[B8,mem_append,List.mem_singleton]at h
  rcases h with h|rfl
  ·exact L1 l a i r h
  ·rfl
theorem LB(l:List Int)(a:Nat):(B5 l a).1.length=6:=by simp[B5,IW]
theorem Ou(l:List Int)(a:Nat):∀ r∈(B5 l a).1,r.units≤1000000:=fun r h=>by
 simp only[B5,mem_append,List.mem_singleton]at h
 rcases h with (h|rfl)|rfl
 ·have:=L1 l a 4 r h
  omega
 ·have:=(Du l (B8 l a 4).2 8 (by omega)).2
  simp only[Hh];omega
 ·have:=(Du l (Hh l [112] 8 (B8 l a 4).2).2 3 (by omega)).2
  simp only[Hh]at this ⊢;omega
theorem f65_ok(l:List Int)(hl:l.length≤1000000):Ac C0 65 [Hz l] [] (.tup [EA (E4 l).1,WK (E4 l).2]) []:=by
 refine Ac.go f65 ?_
 unfold f65
 refine gO ?_
 refine call2 ⟨⟨[],[(640,63)],[]⟩,[],[]⟩ (f113_ok l 0 hl) ?_
 refine gO ?_
 have hcl:=LB l 0
 have hcu:=Ou l 0
 have hsm:E4 l=((B5 l 0).1,(Dw l (B5 l 0).2 4).1++H5 l (B5 l 0).1 (Dw l (B5 l 0).2 4).2):=rfl
 rw[hsm]
 generalize (B5 l 0).2=a0' at hcl ⊢
 generalize (B5 l 0).1=cat at hcl hcu ⊢
 refine Ab (α:=Nat) (fun i=>⟨[(7,I i),(6,.sl (.own 1600 0) 13 ((Dw l a0' i).1.map Cmd.c)),(5,EA cat),(4,.ptr 640 0)],[(640,CE l (Dw l a0' i).2)]⟩) (fun i=>i≤4) (fun i=>4-i) 0 (by omega) (Imp.weak ?_ ?_) ?_
 ·simp(disch:=omega)only[go_sem,Dw,map_nil]
 ·simp(disch:=omega)only[go_sem,Dw]
 rintro i hi J hJ
 refine gO ?_
 refine ⟨fun hlt=>?_,fun hge=>?_⟩
 ·have hlt2:i<4:=by simp at hlt;omega
  have hal:=IZ l a0' i
  have han:Dw l a0' (i+1)=((Dw l a0' i).1++[⟨1,L9 i,Df,[],1+(Ad l (Dw l a0' i).2 9).1⟩],(Ad l (Dw l a0' i).2 9).2):=rfl
  generalize Dw l a0' i=ls at han hal ⊢
  obtain⟨ll,a1⟩:=ls
  simp only at han hal ⊢
  have hb:=Du l a1 9 (by omega)
  have hw:IntKind.i64.wrap (1+(Ad l a1 9).1)=1+(Ad l a1 9).1:=wrap64 _ (by omega) (by omega)
  have hbd:ll.length+1≤4294967296:=by omega
  refine Aa (Ze i) ?_
  refine gO ?_
  refine call2 ⟨⟨[],[(640,63)],[]⟩,[],[]⟩ (f37_ok l a1 9 hl (by omega)) ?_
  simp(disch:=omega)only[go_sem,hw]
  refine hJ _ (i+1) (by omega) (by omega) (Imp.weak ?_ ?_)
  ·rw[han]
   refine gO ?_
   rw[map_append]
   refine .YJ (FF.append _ ?_)
   simp only[Df,e0,a0,Expr.k,Expr.atom,Expr.kids,map_cons,map_nil,Cmd.c,Proc.c,FF,ID,TT]
   simp
  ·rw[han]
   simp(disch:=omega)only[go_sem]
 have him:i=4:=by simp at hge;omega
 subst him
 have hal:=IZ l a0' 4
 generalize Dw l a0' 4=ls at hal ⊢
 obtain⟨op,a1⟩:=ls
 simp only at hal ⊢
 refine Ab (α:=List Cmd × Nat) (fun x=>⟨[(6,.sl (.own 2112 0) 13 (x.1.map Cmd.c)),(5,EA cat),(4,.ptr 640 0)],[(640,CE l x.2)]⟩) (fun x=>x.1++H5 l cat x.2=op++H5 l cat a1∧x.1.length+(l.length-x.2)≤1000010) (fun x=>l.length-x.2) (op,a1) ⟨rfl,by simp only;omega⟩ (Imp.ren ⟨[(1600,2112)],[(640,640)],[]⟩ ⟨rfl,rfl⟩ (by simp[lk]) ?_ ?_) ?_
 ·exact gI
 ·exact gI
 rintro⟨out,a2⟩ ⟨hx1,hx2⟩ J hJ
 simp only at hx1 hx2 ⊢
 refine gO ?_
 refine call2 ⟨⟨[],[(640,63)],[]⟩,[],[]⟩ (f49_ok l a2 hl) ?_
 refine gO ?_
 refine ⟨fun hlt=>?_,fun hge=>?_⟩
 ·have hlt2:a2<l.length:=by simp at hlt;omega
  have hun:H5 l cat a2=(Em l cat a2).1::H5 l cat (Em l cat a2).2:=by rw[H5,dif_pos hlt2]
  have hpr:=Jx l cat a2 hlt2
  have hbd:out.length+1≤4294967296:=by omega
  refine call2 ⟨⟨[],[(640,63)],[]⟩,[],[]⟩ (f50_ok l a2 cat hl (by omega) hcu) ?_
  refine gO ?_
  refine hJ _ (out++[(Em l cat a2).1],(Em l cat a2).2) ⟨?_,?_⟩ ?_ (Imp.weak ?_ ?_)
  ·rw[← hx1,hun]
   simp
  ·simp only[length_append,List.length_singleton];omega
  ·simp only;omega
  ·simp(disch:=omega)only[go_sem]
   exact .sl (by rw[map_append];rfl)
  ·exact gI
 have hge2:l.length≤a2:=by simp at hge;omega
 have hun:H5 l cat a2=[]:=by rw[H5,dif_neg (by omega)]
 rw[hun,append_nil]at hx1
 rw[← hx1]
 refine AU ⟨[],[],[2112]⟩ _ (by(try simp(disch:=omega)only[go_sem,CX,Jm])<;>rfl) ⟨rfl,rfl⟩ (by simp[lk]) ?_ trivial
 simp(disch:=omega)only[go_sem]
def Xt(r:Res):Queue:=⟨r,[],[],[],0⟩
def L3(l:List Res):List Queue × Int:=if Ju l then (l.map Xt,0) else ([],1)
theorem f114_ok(l:List Res)(hl:l.length≤1000000):Ac C0 114 [EA l] [] (.tup [At (L3 l).1,I (L3 l).2]) []:=by
 refine Ac.go f114 ?_
 unfold f114
 refine gO ?_
 refine Aa (f168_ok l) ?_
 cases h:Ju l
 ·have e:L3 l=([],1):=by simp[L3,h]
  rw[e]
  simp(disch:=omega)only[go_sem,h,Bool.not_false]
  refine BP _ ?_
  simp(disch:=omega)only[go_sem,map_nil]
  refine .tup (Af.AD ?_)
  simp(disch:=omega)only[go_sem]
  repeat'(with_reducible apply And.intro)
  all_goals(first|exact .Au (by omega)|exact .agg (Af.AD (by simp(disch:=omega)only[go_sem])))
 ·have e:L3 l=(l.map Xt,0):=by simp[L3,h]
  rw[e]
  simp(disch:=omega)only[go_sem,h,Bool.not_true]
  refine Ab (α:=Nat) (fun i=>⟨[(5,I i),(0,EA l),(4,.sl (.own 1408 0) 8 (((l.take i).map Xt).map Queue.c))],[]⟩) (fun i=>i≤(l).length∧True) (fun i=>(l).length-i) 0 ⟨by omega,trivial⟩ ?_ ?_
  ·exact Bu
  rintro i ⟨hi,hP⟩ J hJ
  refine gO ?_
  refine ⟨fun hlt=>?_,fun hge=>?_⟩
  rotate_left
  have hil:i=(l).length:=by simp at hge;omega
  rotate_left
  obtain⟨b,hb⟩:∃ b,(l)[i]?=some b:=⟨_,gE (by simp at hlt;omega)⟩
  have hbm:=mG hb
  have hlt2:i<(l).length:=by simp at hlt;omega
  ·simp(disch:=omega)only[go_sem,gm,hb]
   refine hJ _ (i+1) ⟨by omega,trivial⟩ (by omega) (Imp.weak ?_ ?_)
   ·simp(disch:=omega)only[go_sem]
    rw[take_add_one,hb,toList_some,map_append]
    refine .YJ (FF.append _ ?_)
    simp only[map_cons,map_nil,Function.comp_def,Xt,Queue.c,FF,ID,TT]
    simp
   ·exact gI
  ·subst hil
   rw[take_length]
   refine AU ⟨[],[],[1408]⟩ _ (by(try simp(disch:=omega)only[go_sem,CX,Jm])<;>rfl) ⟨rfl,rfl⟩ (by simp[lk]) ?_ trivial
   simp(disch:=omega)only[go_sem,At,List.map_map]
def PW(l:List Res):Cen × Int:=if (L3 l).2=0 then (⟨0,(L3 l).1,[]⟩,0) else (⟨0,[],[]⟩,(L3 l).2)
theorem f66_ok(l:List Res)(hl:l.length≤1000000):Ac C0 66 [EA l] [] (.tup [.agg (PW l).1.c,I (PW l).2]) []:=by
 refine Ac.go f66 ?_
 unfold f66
 refine gO ?_
 refine Aa (f114_ok l hl) ?_
 refine gO ?_
 by_cases h:(L3 l).2=0
 ·have e:PW l=(⟨0,(L3 l).1,[]⟩,0):=by simp[PW,h]
  rw[e]
  simp(disch:=omega)only[go_sem,h]
  refine BP _ ?_
  simp(disch:=omega)only[go_sem,map_nil]
  refine .tup (Af.AD ?_)
  simp(disch:=omega)only[go_sem]
  repeat'(with_reducible apply And.intro)
  all_goals(first|exact .Au (by omega)|exact .agg (Af.AD (by simp(disch:=omega)only[go_sem])))
 ·have e:PW l=(⟨0,[],[]⟩,(L3 l).2):=by simp[PW,h]
  have h':((L3 l).2 !=0)=true:=by simpa using h
  rw[e]
  simp(disch:=omega)only[go_sem,h']
  refine BP _ ?_
  simp(disch:=omega)only[go_sem,map_nil]
  refine .tup (Af.AD ?_)
  simp(disch:=omega)only[go_sem]
  repeat'(with_reducible apply And.intro)
  all_goals(first|exact .Au (by omega)|exact .agg (Af.AD (by simp(disch:=omega)only[go_sem])))
theorem S0{w:Work}:∀ (n:Nat) (w:Work),JE none w→JE none (JP n w)
 | 0,w,h=>h
 | n+1,w,h=>by
  simp only[JP]
  split
  ·exact h
  ·rename_i x hx
   split
   ·exact h
   ·rename_i hlt
    rcases Kl w with he|⟨k,y,he,hy,hyw⟩
    ·rw[he]at hlt;simp at hlt
    ·rw[he]at hx ⊢
     simp only[Int.toNat_natCast]at hx ⊢
     rw[hy]at hx
     have:=Option.some.inj hx
     subst this
     exact S0 (w:=w) n _ (HJ JE.D4 _ _ (O2 JE.Zb h hy hyw).1).1
theorem FX{Inv:Work→Prop}(hI:G1 Inv){w:Work}(h:Inv w):Di (BC w).queues:=(hI.few _ (HJ hI _ _ h).1).1
theorem Yn{w:Work}(k:Cmd)(h:Fit w):Di (doW w k).1.queues:=by
 have hf:=CG h.je.tab
 unfold doW
 split
 ·exact hf
 split
 ·unfold Io
  repeat' split
  all_goals exact hf
 split
 ·unfold Iy
  split
  ·exact hf
  split
  ·exact hf
  ·exact CG (S0 (w:=w) (wcount { w with now:=w.now+k.n }) { w with now:=w.now+k.n } ⟨h.je.tab,h.je.n,h.je.uq,h.je.good⟩).tab
 split
 ·exact hf
 ·rename_i i hfi
  obtain⟨x,hx⟩:=Qp hfi
  have hxm:=mG hx
  have hi:=Al hx
  have hg:w.procs.getD i x0=x:=by simp[List.getD,hx]
  rw[hg]
  unfold doI
  split
  ·unfold Dx
   split
   ·exact hf
   rename_i a1
   split
   ·rename_i a2
    split
    ·rename_i a3
     refine FX PD.D4 (Si h.je hx (h.idle x hxm (by simpa using a1)) (by simp only[HH,Bool.and_eq_true]at a2;exact a2.1.1.1.1) (fun a ha=>?_)).2
     obtain⟨n,_,hn,_⟩:=GO h.je.tab a3 ha
     exact⟨n,hn⟩
    ·exact hf
   ·exact hf
  split
  ·split
   ·rename_i hw
    obtain⟨s1,s2,_⟩:=D1 h.je hx hw
    have hx1:(AL w i x).procs[i]?=some (Bx x):=by rw[CJ];simp[hi]
    exact FX JE.D4 (s2.next hx1)
   ·exact hf
  split
  ·unfold Ey
   split
   ·exact hf
   rename_i a1
   split
   ·exact hf
   ·exact FX PD.D4 (OS h.je hx (by simpa using a1))
  split
  ·split
   ·exact hf
   ·split
    ·exact hf
    ·exact hf
  split
  ·unfold EL
   split
   ·rename_i a1
    exact FX JE.D4 (P9 h.je hx (h.fits x hxm) (h.idle x hxm) (h.wait x hxm) a1).2
   ·exact hf
  split
  ·split
   ·exact hf
   ·exact FX JE.D4 (MJ h.je hx)
  ·exact FX JE.D4 (MJ h.je hx)
theorem Ym{c:Cen}(k:Cmd):Di (doC c k).1.queues:=by
 unfold doC
 split
 ·rename_i hv
  split
  ·exact Yn k (Kf hv)
  ·exact Kn
 ·exact Kn
def Mk(c:Cen)(k:Cmd):Cen:=if (doC c k).2.2=0 then (doC c k).1 else c
def runM(c:Cen)(ks:List Cmd):Cen:=ks.foldl Mk c
theorem XT{c:Cen}(k:Cmd)(h:Di c.queues):Di (Mk c k).queues:=by
 unfold Mk
 split
 ·exact Ym k
 ·exact h
theorem RU:∀ (ks:List Cmd) (c:Cen),Di c.queues→Di (runM c ks).queues
 |[],_,h=>h
 | k::ks,c,h=>RU ks (Mk c k) (XT k h)
theorem Wm{c:Cen}{ks:List Cmd}{i:Nat}{b:Cmd}(hb:ks[i]?=some b):runM c (ks.take (i+1))=Mk (runM c (ks.take i)) b:=by
 simp[runM,take_add_one,hb,List.foldl_append]
theorem f67_ok(c:Cen)(ks:List Cmd)(h:Di c.queues)(hl:ks.length≤1000000):Ac C0 67 [.agg c.c,WK ks] [] (.agg (runM c ks).c) []:=by
 refine Ac.go f67 ?_
 unfold f67
 refine gO ?_
 refine Ab (α:=Nat) (fun i=>⟨[(5,I i),(4,.ptr 256 0),(2,.ptr 128 0),(1,WK ks)],[(256,PI.c),(128,(runM c (ks.take i)).c)]⟩) (fun i=>i≤ks.length) (fun i=>ks.length-i) 0 (by omega) (Imp.weak ?_ ?_) ?_
 ·exact gI
 ·simp(disch:=omega)only[go_sem,PI,List.take_zero,runM,List.foldl_nil,map_nil]
  done
 rintro i hi J hJ
 simp(disch:=omega)only[go_sem,length_map]
 refine ⟨fun hlt=>?_,fun hge=>?_⟩
 ·obtain⟨b,hb⟩:∃ b,ks[i]?=some b:=⟨_,gE (by simp at hlt;omega)⟩
  have hlt2:=Al hb
  have hfe:=RU (ks.take i) c h
  have htk:=Wm (c:=c) hb
  generalize runM c (ks.take i)=c1 at hfe htk ⊢
  refine H6 11 [([],[2]),([],[1]),([],[5]),([1,2],[17,18]),([1,2,3],[19]),([0,1,2,3,4],[16,20]),([0,1,2,3,4,5],[21]),([0,1,2,3,4,5,6],[15]),([0,1,2,3,4,5,6],[15]),([0,1,2,3,4,5,6],[15]),([],[]),([0,1,2,3,4,5,6,7,10],[]),([0,1,2,3,4,5,6,7,8,10,11],[]),([0,1,2,3,4,5,6,7,8,9,10,11,12],[])] [8,9] [([],[15,6,22,5,4,2,1],let o0:OT:=.done;let o1:OT:=.pick [(13,o0)];let o2:OT:=.pick [(12,o1)];let o3:OT:=.pick [(11,o2)];let o4:OT:=.pick [(9,o1)];let o5:OT:=.pick [(9,o2),(12,o4)];let o6:OT:=.pick [(9,o3),(11,o5)];let o7:OT:=.pick [(8,o2)];let o8:OT:=.pick [(8,o3),(11,o7)];let o9:OT:=.pick [(8,o5),(9,o7)];let o10:OT:=.pick [(8,o6),(9,o8),(11,o9)];o10),([9],[15,6,22,24,5,4,2,1],let o0:OT:=.done;let o1:OT:=.pick [(13,o0)];let o2:OT:=.pick [(12,o1)];let o3:OT:=.pick [(11,o2)];let o4:OT:=.pick [(8,o2)];let o5:OT:=.pick [(8,o3),(11,o4)];o5),([8],[15,6,22,23,5,4,2,1],let o0:OT:=.done;let o1:OT:=.pick [(13,o0)];let o2:OT:=.pick [(12,o1)];let o3:OT:=.pick [(11,o2)];let o4:OT:=.pick [(9,o1)];let o5:OT:=.pick [(9,o2),(12,o4)];let o6:OT:=.pick [(9,o3),(11,o5)];o6),([8,9],[6,22,23,24,5,4,2,1],let o0:OT:=.done;let o1:OT:=.pick [(13,o0)];let o2:OT:=.pick [(12,o1)];let o3:OT:=.pick [(11,o2)];o3)] fol (by kernel_rfl) ?_
  simp(disch:=omega)only[go_sem,gm,hb]
  first|(refine Aa (f30_ok c1 b hfe) ?_)|(refine Ai (f30_ok c1 b hfe) ?_)
  by_cases h0:(doC c1 b).2.2=0
  ·have hst:Mk c1 b=(doC c1 b).1:=by simp[Mk,h0]
   rw[hst]at htk
   simp(disch:=omega)only[go_sem,h0]
   repeat'(with_reducible refine And.intro ?_ ?_)
   all_goals
    refine hJ _ (i+1) (by omega) (by omega) (Imp.weak ?_ ?_)
    ·exact gI
    ·rw[htk]
     simp(disch:=omega)only[go_sem,PI,map_nil]
  ·have hst:Mk c1 b=c1:=by simp[Mk,h0]
   have h0':((doC c1 b).2.2==0)=false:=by simpa using h0
   rw[hst]at htk
   simp(disch:=omega)only[go_sem,h0']
   repeat'(with_reducible refine And.intro ?_ ?_)
   all_goals
    refine hJ _ (i+1) (by omega) (by omega) (Imp.weak ?_ ?_)
    ·exact gI
    ·rw[htk]
     simp(disch:=omega)only[go_sem,PI,map_nil]
 have him:i=ks.length:=by simp at hge;omega
 subst him
 rw[take_length]
 exact Av _
def Jv(l:List Int):Cen:=runM (PW (E4 l).1).1 (E4 l).2
theorem NO(l:List Int):(E4 l).1.length=6:=LB l 0
theorem U6(l:List Res)(hl:l.length≤100):Di (PW l).1.queues:=by
 unfold PW
 split
 ·unfold L3
  split
  ·refine⟨by simpa using hl,fun q hq=>?_⟩
   simp only[List.mem_map]at hq
   obtain⟨r,_,rfl⟩:=hq
   simp[Xt,Br,Bo]
  ·exact Kn
 ·exact Kn
theorem Qb(l:List Int)(cat:List Res):∀ (n a:Nat),l.length-a≤n→(H5 l cat a).length≤n
 | 0,a,h=>by rw[H5,dif_neg (by omega)];simp
 | n+1,a,h=>by
  rw[H5]
  split
  ·rename_i hlt
   have:=Jx l cat a hlt
   have:=Qb l cat n (Em l cat a).2 (by omega)
   simp;omega
  ·simp
theorem RV(l:List Int):(E4 l).2.length≤l.length+4:=by
 have:=Qb l (B5 l 0).1 l.length (Dw l (B5 l 0).2 4).2 (by omega)
 simp only[E4,length_append,IZ]
 omega
theorem f25_ok(l:List Int)(hl:l.length≤10000):Ac C0 25 [Hz l] [] (.agg (Jv l).c) []:=by
 have h1:=NO l
 have h2:=RV l
 have h3:=U6 (E4 l).1 (by omega)
 refine Ac.go f25 ?_
 unfold f25
 refine gO ?_
 refine Aa (f65_ok l (by omega)) ?_
 refine gO ?_
 refine Aa (f66_ok (E4 l).1 (by omega)) ?_
 refine gO ?_
 refine Aa (f67_ok (PW (E4 l).1).1 (E4 l).2 h3 (by omega)) ?_
 refine gO ?_
 refine BP _ ?_
 simp(disch:=omega)only[go_sem,Jv]
def Xq(x:Pcs):Need:={ proc:=x.proc,expr:=x.req.expr,gen:=x.gen }
def DJ(l:List Pcs):List Need:=(l.filter (·.waiting)).map Xq
theorem Tf{l:List Pcs}{i:Nat}{b:Pcs}(hb:l[i]?=some b):DJ (l.take (i+1))=DJ (l.take i)++if b.waiting then [Xq b] else []:=by
 unfold DJ
 rw[take_add_one,hb,toList_some,List.filter_append,map_append]
 cases h:b.waiting<;>simp[h]
theorem Lj(l:List Pcs)(i:Nat):(DJ (l.take i)).length≤i:=by
 unfold DJ
 rw[length_map]
 exact le_trans (List.length_filter_le _ _) (by simp;omega)
def ofM(c:Cen):WS:=if Gy c then ⟨c.queues,DJ c.procs⟩ else ⟨[],[]⟩
theorem f26_ok(c:Cen)(h:Di c.queues):Ac C0 26 [.agg c.c] [] (.agg (ofM c).c) []:=by
 have hn:=h.n
 refine Ac.go f26 ?_
 unfold f26
 refine gO ?_
 refine Aa (f68_ok c h) ?_
 cases hv:Gy c
 ·have ht:ofM c=⟨[],[]⟩:=by simp[ofM,hv]
  rw[ht]
  simp(disch:=omega)only[go_sem,Bool.not_false]
  refine BP _ ?_
  simp(disch:=omega)only[go_sem,map_nil]
  exact .agg (Af.AD (by simp(disch:=omega)only[go_sem]))
 have hpl:c.procs.length≤8:=(Kf hv).je.n
 have ht:ofM c=⟨c.queues,DJ c.procs⟩:=by simp[ofM,hv]
 rw[ht]
 simp(disch:=omega)only[go_sem,Bool.not_true]
 refine Ab (α:=Nat) (fun i=>⟨[(4,I i),(3,.ptr 192 0),(2,.ptr 128 0),(1,.ptr 64 0)],[(192,[.sl (.own 768 0) 8 (c.queues.map Queue.c),.sl (.own 3200 0) 9 ((DJ (c.procs.take i)).map Need.c)]),(128,[.v (.slice none 0 0),.v (.slice none 0 0)]),(64,c.c)]⟩) (fun i=>i≤(c.procs).length∧True) (fun i=>(c.procs).length-i) 0 ⟨by omega,trivial⟩ ?_ ?_
 ·refine Imp.weak ?_ ?_
  all_goals(try simp(disch:=omega)only[go_sem])
  all_goals(try(repeat'(with_reducible apply And.intro)))
  all_goals(first|exact .AA (by omega)|exact .Au (by omega)|exact .sl (by simp[DJ])|exact .int (by simp[DJ])|exact .eq (by simp[DJ]))
 rintro i ⟨hi,hP⟩ J hJ
 refine gO ?_
 refine ⟨fun hlt=>?_,fun hge=>?_⟩
 rotate_left
 have hil:i=(c.procs).length:=by simp at hge;omega
 rotate_left
 obtain⟨b,hb⟩:∃ b,(c.procs)[i]?=some b:=⟨_,gE (by simp at hlt;omega)⟩
 have hbm:=mG hb
 have hlt2:i<(c.procs).length:=by simp at hlt;omega
 ·have hnl:=Lj c.procs i
  have htk:=Tf hb
  generalize DJ (c.procs.take i)=ns at hnl htk ⊢
  have hbd:ns.length+1≤4294967296:=by omega
  simp(disch:=omega)only[go_sem,gm,hb]
  cases hw:b.waiting
  ·rw[hw]at htk
   simp only[Bool.false_eq_true,if_false,append_nil]at htk
   simp(disch:=omega)only[go_sem,hw]
   refine hJ _ (i+1) ⟨by simp at hlt;omega,trivial⟩ (by simp at hlt;omega) (Imp.weak ?_ ?_)
   all_goals(try simp(disch:=omega)only[go_sem])
   all_goals(try(repeat'(with_reducible apply And.intro)))
   all_goals(first|exact .AA (by omega)|exact .Au (by omega)|exact .sl (by simp[htk])|exact .int (by simp[htk])|exact .eq (by simp[htk]))
  ·rw[hw]at htk
   simp only[if_true]at htk
   simp(disch:=omega)only[go_sem,hw]
   refine Aj 23 [([],[3]),([],[27]),([],[1]),([],[29]),([],[4]),([],[30,31]),([],[32]),([],[33]),([],[1]),([],[35]),([],[4]),([],[36,37]),([],[38]),([],[39]),([],[40]),([],[1]),([],[42]),([],[4]),([],[43,44]),([],[45]),([],[46]),([],[34,41,47]),([],[48])] fol ?_
   simp(disch:=omega)only[go_sem,gm,hb]
   refine hJ _ (i+1) ⟨by simp at hlt;omega,trivial⟩ (by simp at hlt;omega) (Imp.weak ?_ ?_)
   ·exact gI
   ·rw[htk]
    refine gO ?_
    exact .sl (by rw[map_append];rfl)
 ·subst hil
  rw[take_length]
  refine AU ⟨[],[],[768,3200]⟩ _ (by(try simp(disch:=omega)only[go_sem,CX,Jm])<;>rfl) ⟨rfl,rfl⟩ (by simp[lk]) ?_ trivial
  simp(disch:=omega)only[go_sem]
def E9(l:List Int):WS:=ofM (Jv l)
theorem No(l:List Int):Di (Jv l).queues:=RU _ _ (U6 _ (by rw[NO];omega))
theorem f18_ok(l:List Int)(hl:l.length≤10000):Ac C0 18 [Hz l] [] (.agg (E9 l).c) []:=by
 refine Ac.go f18 ?_
 unfold f18
 refine gO ?_
 refine Aa (f25_ok l hl) ?_
 refine gO ?_
 refine Aa (f26_ok (Jv l) (No l)) ?_
 refine gO ?_
 refine BP _ ?_
 simp(disch:=omega)only[go_sem,E9]
theorem ZS(c:Cen)(h:Di c.queues):Few (ofM c):=by
 unfold ofM
 split
 ·rename_i hv
  have hpl:c.procs.length≤8:=(Kf hv).je.n
  have:=Lj c.procs c.procs.length
  rw[take_length]at this
  exact⟨h.n,by show (DJ c.procs).length≤100;omega,h.q⟩
 ·exact⟨by simp,by simp,by simp⟩
theorem FZ(l:List Int):Few (E9 l):=ZS _ (No l)
def BY{α:Type}(l:List Int):List α→Nat→List α × Nat
 |[],a=>([],a)
 | x::xs,a=>((if (Ad l a 5).1=1 then [] else [x])++(BY l xs (Ad l a 5).2).1,(BY l xs (Ad l a 5).2).2)
theorem Pj{α:Type}(l:List Int)(x:α):∀ (xs:List α) (a:Nat),BY l (xs++[x]) a=((BY l xs a).1++(if (Ad l (BY l xs a).2 5).1=1 then [] else [x]),(Ad l (BY l xs a).2 5).2)
 |[],a=>by simp[BY];rfl
 | y::xs,a=>by
  simp only[cons_append,BY,Pj l x xs,List.append_assoc]
  rfl
theorem Pk{α:Type}(l:List Int){xs:List α}{i:Nat}{b:α}(a:Nat)(hb:xs[i]?=some b):BY l (xs.take (i+1)) a=((BY l (xs.take i) a).1++(if (Ad l (BY l (xs.take i) a).2 5).1=1 then [] else [b]),(Ad l (BY l (xs.take i) a).2 5).2):=by
 rw[take_add_one,hb,toList_some,Pj]
theorem FW{α:Type}(l:List Int):∀ (xs:List α) (a:Nat),(BY l xs a).1.length≤xs.length
 |[],_=>by simp[BY]
 | x::xs,a=>by
  have:=FW l xs (Ad l a 5).2
  simp only[BY,length_append]
  split<;>simp<;>omega
theorem QQ{α:Type}(l:List Int){y:α}:∀ (xs:List α) (a:Nat),y∈(BY l xs a).1→y∈xs
 |[],_,h=>by simp[BY]at h
 | x::xs,a,h=>by
  simp only[BY,mem_append]at h
  rcases h with h|h
  ·split at h
   ·cases h
   ·simp at h;simp[h]
  ·exact List.mem_cons_of_mem _ (QQ l xs _ h)
def Ft(s:WS)(by_:List Int):WS:=⟨(BY by_ s.queues 0).1,(BY by_ s.needs (BY by_ s.queues 0).2).1⟩
theorem Lo{s:WS}(h:Few s)(by_:List Int):Few (Ft s by_) :=
 ⟨le_trans (FW _ _ _) h.nq,le_trans (FW _ _ _) h.nn,fun q hq=>h.aq q (QQ _ _ _ hq)⟩
theorem f17_ok(s:WS)(l:List Int)(h:Few s)(hl:l.length≤10000):Ac C0 17 [.agg s.c,Hz l] [] (.agg (Ft s l).c) []:=by
 have h1:=h.nq
 have h2:=h.nn
 refine Ac.go f17 ?_
 unfold f17
 refine gO ?_
 refine Ab (α:=Nat) (fun i=>⟨[(7,I i),(6,.ptr 384 0),(5,.ptr 704 0),(4,.ptr 256 0),(2,.ptr 128 0)],[(384,[.sl (.own 1920 0) 8 ((BY l (s.queues.take i) 0).1.map Queue.c),.v (.slice none 0 0)]),(704,CE l (BY l (s.queues.take i) 0).2),(256,[.v (.slice none 0 0),.v (.slice none 0 0)]),(128,s.c)]⟩) (fun i=>i≤(s.queues).length∧True) (fun i=>(s.queues).length-i) 0 ⟨by omega,trivial⟩ ?_ ?_
 ·refine Imp.weak ?_ ?_
  all_goals(try simp(disch:=omega)only[go_sem])
  all_goals(try(repeat'(with_reducible apply And.intro)))
  all_goals(first|exact .AA (by omega)|exact .Au (by omega)|exact .sl (by simp[BY])|exact .int (by simp[BY])|exact .eq (by simp[BY]))
 rintro i ⟨hi,hP⟩ J hJ
 refine gO ?_
 refine ⟨fun hlt=>?_,fun hge=>?_⟩
 rotate_left
 have hil:i=(s.queues).length:=by simp at hge;omega
 rotate_left
 obtain⟨b,hb⟩:∃ b,(s.queues)[i]?=some b:=⟨_,gE (by simp at hlt;omega)⟩
 have hbm:=mG hb
 have hlt2:i<(s.queues).length:=by simp at hlt;omega
 ·have hpl:=FW l (s.queues.take i) 0
  have hpt:=Pk l 0 hb
  generalize BY l (s.queues.take i) 0=pk at hpl hpt ⊢
  obtain⟨pl,a1⟩:=pk
  simp only at hpl hpt ⊢
  have hbd:pl.length+1≤4294967296:=by simp at hpl;omega
  refine call2 ⟨⟨[],[(704,63)],[]⟩,[],[]⟩ (f37_ok l a1 5 (by omega) (by omega)) ?_
  by_cases h5:(Ad l a1 5).1=1
  ·rw[if_pos h5,append_nil]at hpt
   simp(disch:=omega)only[go_sem,h5]
   refine hJ _ (i+1) ⟨by omega,trivial⟩ (by omega) (Imp.weak ?_ ?_)
   ·exact gI
   ·rw[hpt]
    simp(disch:=omega)only[go_sem]
  ·rw[if_neg h5]at hpt
   have h5':((Ad l a1 5).1 !=1)=true:=by simpa using h5
   simp(disch:=omega)only[go_sem,h5']
   refine Aj 8 [([],[6]),([],[22]),([],[2]),([],[24]),([],[7]),([],[25,26]),([],[27]),([],[28])] fol ?_
   simp(disch:=omega)only[go_sem,gm,hb]
   refine hJ _ (i+1) ⟨by omega,trivial⟩ (by omega) (Imp.weak ?_ ?_)
   ·exact gI
   ·rw[hpt]
    refine gO ?_
    exact .sl (by rw[map_append];rfl)
 subst hil
 rw[take_length]
 have hr:Ft s l=⟨(BY l s.queues 0).1,(BY l s.needs (BY l s.queues 0).2).1⟩:=rfl
 rw[hr]
 generalize BY l s.queues 0=pk
 obtain⟨pq,a0'⟩:=pk
 simp only
 refine Ab (α:=Nat) (fun i=>⟨[(8,I i),(6,.ptr 384 0),(5,.ptr 704 0),(4,.ptr 256 0),(2,.ptr 128 0)],[(384,[.sl (.own 1920 0) 8 (pq.map Queue.c),.sl (.own 3200 0) 9 ((BY l (s.needs.take i) a0').1.map Need.c)]),(704,CE l (BY l (s.needs.take i) a0').2),(256,[.v (.slice none 0 0),.v (.slice none 0 0)]),(128,s.c)]⟩) (fun i=>i≤(s.needs).length∧True) (fun i=>(s.needs).length-i) 0 ⟨by omega,trivial⟩ ?_ ?_
 ·refine Imp.weak ?_ ?_
  all_goals(try simp(disch:=omega)only[go_sem])
  all_goals(try(repeat'(with_reducible apply And.intro)))
  all_goals(first|exact .AA (by omega)|exact .Au (by omega)|exact .sl (by simp[BY])|exact .int (by simp[BY])|exact .eq (by simp[BY]))
 rintro i ⟨hi,hP⟩ J hJ
 refine gO ?_
 refine ⟨fun hlt=>?_,fun hge=>?_⟩
 rotate_left
 have hil:i=(s.needs).length:=by simp at hge;omega
 rotate_left
 obtain⟨b,hb⟩:∃ b,(s.needs)[i]?=some b:=⟨_,gE (by simp at hlt;omega)⟩
 have hbm:=mG hb
 have hlt2:i<(s.needs).length:=by simp at hlt;omega
 ·have hpl:=FW l (s.needs.take i) a0'
  have hpt:=Pk l a0' hb
  generalize BY l (s.needs.take i) a0'=pk at hpl hpt ⊢
  obtain⟨pl,a1⟩:=pk
  simp only at hpl hpt ⊢
  have hbd:pl.length+1≤4294967296:=by simp at hpl;omega
  refine call2 ⟨⟨[],[(704,63)],[]⟩,[],[]⟩ (f37_ok l a1 5 (by omega) (by omega)) ?_
  by_cases h5:(Ad l a1 5).1=1
  ·rw[if_pos h5,append_nil]at hpt
   simp(disch:=omega)only[go_sem,h5]
   refine hJ _ (i+1) ⟨by omega,trivial⟩ (by omega) (Imp.weak ?_ ?_)
   ·exact gI
   ·rw[hpt]
    simp(disch:=omega)only[go_sem]
  ·rw[if_neg h5]at hpt
   have h5':((Ad l a1 5).1 !=1)=true:=by simpa using h5
   simp(disch:=omega)only[go_sem,h5']
   refine Aj 8 [([],[6]),([],[42]),([],[2]),([],[44]),([],[8]),([],[45,46]),([],[47]),([],[48])] fol ?_
   simp(disch:=omega)only[go_sem,gm,hb]
   refine hJ _ (i+1) ⟨by omega,trivial⟩ (by omega) (Imp.weak ?_ ?_)
   ·exact gI
   ·rw[hpt]
    refine gO ?_
    exact .sl (by rw[map_append];rfl)
 subst hil
 rw[take_length]
 refine AU ⟨[],[],[1920,3200]⟩ _ (by(try simp(disch:=omega)only[go_sem,CX,Jm])<;>rfl) ⟨rfl,rfl⟩ (by simp[lk]) ?_ trivial
 simp(disch:=omega)only[go_sem]
end Go.Rd
