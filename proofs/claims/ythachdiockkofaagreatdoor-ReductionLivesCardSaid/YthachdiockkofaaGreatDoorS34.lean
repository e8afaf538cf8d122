/- part 34 of the proof -/
import Derived.Test.YthachdiockkofaaGreatDoorS33
set_option linter.all false
open Go Go.Abs Go.Proofs
set_option maxRecDepth 100000
namespace Go.Rd
set_option maxHeartbeats 8000000
open List (cons_append length_append length_map map_append map_cons map_nil nil_append take_add_one take_length)
open Option (toList_some)
open Nat (le_trans)
open Tryz
def O7(l:List Int)(a:Nat):Int × Nat:=if (Ag l a 5).1=1 then (1+(Ag l (Ag l a 5).2 20).1,(Ag l (Ag l a 5).2 20).2) else (0,(Ag l a 5).2)
def Hb(l:List Int)(cat:List Res)(a:Nat):Req × Nat :=
 (⟨(OE l cat (O7 l (Ag l a 8).2).2).1,(Ag l a 8).1,(O7 l (Ag l a 8).2).1⟩,(OE l cat (O7 l (Ag l a 8).2).2).2)
theorem f96_ok(l:List Int)(a:Nat)(cat:List Res)(hl:l.length≤1000000)(hc:1≤cat.length∧cat.length≤100)(hu:∀ r∈cat,r.units≤1000000):Ac C0 96 [.ptr 63 0,EU cat] [(63,Df l a)] (.agg (Hb l cat a).1.c) [(63,Df l (Hb l cat a).2)]:=by
 refine Ac.go f96 ?_;unfold f96;refine gO ?_;refine call2 ⟨⟨[],[(63,63)],[]⟩,[],[]⟩ (f37_ok l a 8 hl (by omega)) ?_;have e:Hb l cat a=(⟨(OE l cat (O7 l (Ag l a 8).2).2).1,(Ag l a 8).1,(O7 l (Ag l a 8).2).1⟩,(OE l cat (O7 l (Ag l a 8).2).2).2):=rfl;rw[e];generalize (Ag l a 8).2=a1;generalize (Ag l a 8).1=prio;refine gO ?_;refine call2 ⟨⟨[],[(63,63)],[]⟩,[],[]⟩ (f37_ok l a1 5 hl (by omega)) ?_
 by_cases h1:(Ag l a1 5).1=1
 ·have e1:O7 l a1=(1+(Ag l (Ag l a1 5).2 20).1,(Ag l (Ag l a1 5).2 20).2):=by simp only[O7,h1,if_true]
  rw[e1];have hb:=Cb l (Ag l a1 5).2 20 (by omega);have hw:IntKind.i64.wrap (1+(Ag l (Ag l a1 5).2 20).1)=1+(Ag l (Ag l a1 5).2 20).1:=wrap64 _ (by omega) (by omega);simp(disch:=omega)only[go_sem,h1];refine call2 ⟨⟨[],[(63,63)],[]⟩,[],[]⟩ (f37_ok l (Ag l a1 5).2 20 hl (by omega)) ?_;simp(disch:=omega)only[go_sem,hw];refine call2 ⟨⟨[],[(63,63)],[]⟩,[],[]⟩ (f152_ok l (Ag l (Ag l a1 5).2 20).2 cat hl hc hu) ?_;refine gO ?_;refine B1 ⟨[],[(63,63)],[]⟩ _ ?_ ?_
  ·exact gI
  ·exact gI
 ·have e1:O7 l a1=(0,(Ag l a1 5).2):=by simp only[O7,h1,if_false]
  rw[e1];have h1':((Ag l a1 5).1==1)=false:=by simpa using h1
  simp(disch:=omega)only[go_sem,h1'];refine call2 ⟨⟨[],[(63,63)],[]⟩,[],[]⟩ (f152_ok l (Ag l a1 5).2 cat hl hc hu) ?_;refine gO ?_;refine B1 ⟨[],[(63,63)],[]⟩ _ ?_ ?_
  ·exact gI
  ·exact gI
def EX(l:List Int)(cat:List Res)(n:Int)(p:Proc)(a:Nat):Cmd × Nat :=
 if n=0 then (⟨1,p,C6,[],1+(Ag l a 9).1⟩,(Ag l a 9).2)
 else if n<9 then (⟨2,p,(Hb l cat a).1,[],0⟩,(Hb l cat a).2)
 else if n=9 then (⟨3,p,C6,[],0⟩,a)
 else if n=10 then (⟨4,p,C6,(cat.getD (Ag l a cat.length).1.toNat r0).name,0⟩,(Ag l a cat.length).2)
 else if n=11 then (⟨5,p,C6,[],1+(Ag l a 4).1⟩,(Ag l a 4).2)
 else if n=12 then (⟨6,p,C6,[],(Ag l a 5).1⟩,(Ag l a 5).2)
 else if n=13 then (⟨7,p,C6,[],0⟩,a)
 else if n=14 then (⟨8,p,C6,[],0⟩,a)
 else (⟨9,p,C6,[],(Ag l a 12).1⟩,(Ag l a 12).2)
def Dz(l:List Int)(cat:List Res)(a:Nat):Cmd × Nat:=EX l cat (Ag l a 16).1 (Nd (Ag l (Ag l a 16).2 6).1) (Ag l (Ag l a 16).2 6).2
theorem f50_ok(l:List Int)(a:Nat)(cat:List Res)(hl:l.length≤1000000)(hc:1≤cat.length∧cat.length≤100)(hu:∀ r∈cat,r.units≤1000000):Ac C0 50 [.ptr 63 0,EU cat] [(63,Df l a)] (.agg (Dz l cat a).1.c) [(63,Df l (Dz l cat a).2)]:=by
 refine Ac.go f50 ?_;unfold f50;refine gO ?_;refine call2 ⟨⟨[],[(63,63)],[]⟩,[],[]⟩ (f37_ok l a 16 hl (by omega)) ?_;refine gO ?_;refine call2 ⟨⟨[],[(63,63)],[]⟩,[],[]⟩ (f37_ok l (Ag l a 16).2 6 hl (by omega)) ?_;refine gO ?_;refine Ab (bW (Ag l (Ag l a 16).2 6).1) ?_;have e:Dz l cat a=EX l cat (Ag l a 16).1 (Nd (Ag l (Ag l a 16).2 6).1) (Ag l (Ag l a 16).2 6).2:=rfl;rw[e];generalize Nd (Ag l (Ag l a 16).2 6).1=p;generalize (Ag l (Ag l a 16).2 6).2=a1;generalize (Ag l a 16).1=n
 by_cases h0:n=0
 ·have ht:EX l cat n p a1=(⟨1,p,C6,[],1+(Ag l a1 9).1⟩,(Ag l a1 9).2):=by simp[EX,h0]
  have hb:=Cb l a1 9 (by omega);have hw:IntKind.i64.wrap (1+(Ag l a1 9).1)=1+(Ag l a1 9).1:=wrap64 _ (by omega) (by omega);rw[ht];simp(disch:=omega)only[go_sem,h0];refine call2 ⟨⟨[],[(63,63)],[]⟩,[],[]⟩ (f37_ok l a1 9 hl (by omega)) ?_;simp(disch:=omega)only[go_sem,hw];refine B1 ⟨[],[(63,63)],[]⟩ _ ?_ ?_
  ·simp(disch:=omega)only[go_sem,C6,e0,a0,Expr.k,Expr.atom,Expr.kids,map_nil];exact .agg (Ah.AE gI)
  ·exact gI
 have h0':(n==0)=false:=by simpa using h0
 simp(disch:=omega)only[go_sem,h0']
 by_cases h1:n<9
 ·have ht:EX l cat n p a1=(⟨2,p,(Hb l cat a1).1,[],0⟩,(Hb l cat a1).2):=by simp[EX,h0,h1]
  rw[ht];simp(disch:=omega)only[go_sem,eq_true h1,decide_true];refine call2 ⟨⟨[],[(63,63)],[]⟩,[],[]⟩ (f96_ok l a1 cat hl hc hu) ?_;refine gO ?_;refine B1 ⟨[],[(63,63)],[]⟩ _ ?_ ?_
  ·simp(disch:=omega)only[go_sem,C6,e0,a0,Expr.k,Expr.atom,Expr.kids,map_nil]
   try exact .agg (Ah.AE gI)
  ·exact gI
 simp(disch:=omega)only[go_sem,eq_false h1,decide_false]
 by_cases h2:n=9
 ·have ht:EX l cat n p a1=(⟨3,p,C6,[],0⟩,a1):=by simp[EX,h0,h2]
  rw[ht];simp(disch:=omega)only[go_sem,h2];refine B1 ⟨[],[(63,63)],[]⟩ _ ?_ ?_
  ·simp(disch:=omega)only[go_sem,C6,e0,a0,Expr.k,Expr.atom,Expr.kids,map_nil]
   try exact .agg (Ah.AE gI)
  ·exact gI
 have h2':(n==9)=false:=by simpa using h2
 simp(disch:=omega)only[go_sem,h2']
 by_cases h3:n=10
 ·have ht:EX l cat n p a1=(⟨4,p,C6,(cat.getD (Ag l a1 cat.length).1.toNat r0).name,0⟩,(Ag l a1 cat.length).2):=by simp[EX,h3]
  obtain⟨b1,b2⟩:=Cb l a1 cat.length (by omega);obtain⟨i,hi⟩:∃ i:Nat,(Ag l a1 cat.length).1=(i:Int):=⟨_,(Int.toNat_of_nonneg b1).symm⟩;have hil:i<cat.length:=by omega
  have hr:cat[i]?=some cat[i]:=gE hil;have hgd:cat.getD (Ag l a1 cat.length).1.toNat r0=cat[i]:=by rw[hi];simp[List.getD,hr]
  rw[ht,hgd];have hh37:=f37_ok l a1 cat.length hl (by omega);generalize (Ag l a1 cat.length).2=a2 at hh37 ⊢;rw[hi]at hh37;generalize cat[i]=r at hr ⊢;simp(disch:=omega)only[go_sem,h3];refine DW (st':=⟨[(6,.ptr 384 0),(4,.ptr 256 0),(0,.ptr 63 0),(1,EU cat)],[(384,(⟨0,p,C6,[],0⟩:Cmd).c),(256,(⟨0,p0,C6,[],0⟩:Cmd).c),(63,Df l a1)]⟩) (Imp.weak ?_ ?_) ?_
  ·exact gI
  ·simp(disch:=omega)only[go_sem,C6,e0,a0,p0,Expr.k,Expr.atom,Expr.kids,map_nil]
  refine Dt 4095 [(0,1,0),(1,2,0),(2,4,0),(3,8,4),(4,16,10),(5,32,17),(6,64,32),(7,128,64),(8,256,0),(9,512,272),(10,1024,1023),(11,2048,2047)] [0,1,2,4,256,3,5,257,6,258,12,260,7,259,13,261,14,262,268,15,263,269,30,270,31,271,286,63,287,798,127,319,799,255,383,831,511,895,1023,2047,4095] (fun m=>⟨sel m [(1,40,EU cat),(2,41,.ptr 63 0),(4,42,EU cat),(8,43,I cat.length),(16,44,I i),(32,45,.ep .no i r.c 0),(64,46,.ep .no i r.c 0),(128,47,.v (.string (str r.name))),(256,48,.ptr 384 0),(1024,49,.ptr 384 11)]++[(6,.ptr 384 0),(4,.ptr 256 0),(0,.ptr 63 0),(1,EU cat)],[(384,(⟨(if m / 512%2=1 then 4 else 0),p,C6,(if m / 2048%2=1 then r.name else []),0⟩:Cmd).c),(256,(⟨0,p0,C6,[],0⟩:Cmd).c),(63,Df l (if m / 16%2=1 then a2 else a1))]⟩) ?_ ?_ ?_ fol
  ·exact AK
  ·simp (maxSteps:=100000000)only[Ds,Dr,Ek,Ej,and_true,Nat.reduceDiv,Nat.reduceMod,Nat.reduceAnd,Nat.reduceEqDiff,reduceIte,true_and,and_false,false_and,and_self]
   repeat'(with_reducible refine And.intro ?_ ?_)
   all_goals simp(disch:=omega)only[go_sem,gm,hr,length_map,nil_append,cons_append]
   all_goals first|exact Imp.weak (by simp(disch:=omega)only[go_sem,nil_append,cons_append]) (by simp(disch:=omega)only[go_sem,nil_append,cons_append])|(refine call2 ⟨⟨[],[(63,63)],[]⟩,[],[]⟩ hh37 ?_;simp(disch:=omega)only[go_sem];exact Imp.weak (by simp(disch:=omega)only[go_sem,nil_append,cons_append]) (by simp(disch:=omega)only[go_sem,nil_append,cons_append]))
  refine gO ?_;refine B1 ⟨[],[(63,63)],[]⟩ _ ?_ ?_
  ·simp(disch:=omega)only[go_sem,C6,e0,a0,Expr.k,Expr.atom,Expr.kids,map_nil]
  ·exact gI
 have h3':(n==10)=false:=by simpa using h3
 simp(disch:=omega)only[go_sem,h3']
 by_cases h4:n=11
 ·have ht:EX l cat n p a1=(⟨5,p,C6,[],1+(Ag l a1 4).1⟩,(Ag l a1 4).2):=by simp[EX,h4]
  have hb:=Cb l a1 4 (by omega);have hw:IntKind.i64.wrap (1+(Ag l a1 4).1)=1+(Ag l a1 4).1:=wrap64 _ (by omega) (by omega);rw[ht];simp(disch:=omega)only[go_sem,h4];refine call2 ⟨⟨[],[(63,63)],[]⟩,[],[]⟩ (f37_ok l a1 4 hl (by omega)) ?_;simp(disch:=omega)only[go_sem,hw];refine B1 ⟨[],[(63,63)],[]⟩ _ ?_ ?_
  ·simp(disch:=omega)only[go_sem,C6,e0,a0,Expr.k,Expr.atom,Expr.kids,map_nil]
   try exact .agg (Ah.AE gI)
  ·exact gI
 have h4':(n==11)=false:=by simpa using h4
 simp(disch:=omega)only[go_sem,h4']
 by_cases h5:n=12
 ·have ht:EX l cat n p a1=(⟨6,p,C6,[],(Ag l a1 5).1⟩,(Ag l a1 5).2):=by simp[EX,h5]
  rw[ht];simp(disch:=omega)only[go_sem,h5];refine call2 ⟨⟨[],[(63,63)],[]⟩,[],[]⟩ (f37_ok l a1 5 hl (by omega)) ?_;refine gO ?_;refine B1 ⟨[],[(63,63)],[]⟩ _ ?_ ?_
  ·simp(disch:=omega)only[go_sem,C6,e0,a0,Expr.k,Expr.atom,Expr.kids,map_nil]
   try exact .agg (Ah.AE gI)
  ·exact gI
 have h5':(n==12)=false:=by simpa using h5
 simp(disch:=omega)only[go_sem,h5']
 by_cases h6:n=13
 ·have ht:EX l cat n p a1=(⟨7,p,C6,[],0⟩,a1):=by simp[EX,h6]
  rw[ht];simp(disch:=omega)only[go_sem,h6];refine B1 ⟨[],[(63,63)],[]⟩ _ ?_ ?_
  ·simp(disch:=omega)only[go_sem,C6,e0,a0,Expr.k,Expr.atom,Expr.kids,map_nil]
   try exact .agg (Ah.AE gI)
  ·exact gI
 have h6':(n==13)=false:=by simpa using h6
 simp(disch:=omega)only[go_sem,h6']
 by_cases h7:n=14
 ·have ht:EX l cat n p a1=(⟨8,p,C6,[],0⟩,a1):=by simp[EX,h7]
  rw[ht];simp(disch:=omega)only[go_sem,h7];refine B1 ⟨[],[(63,63)],[]⟩ _ ?_ ?_
  ·simp(disch:=omega)only[go_sem,C6,e0,a0,Expr.k,Expr.atom,Expr.kids,map_nil]
   try exact .agg (Ah.AE gI)
  ·exact gI
 have h7':(n==14)=false:=by simpa using h7
 have ht:EX l cat n p a1=(⟨9,p,C6,[],(Ag l a1 12).1⟩,(Ag l a1 12).2):=by simp[EX,h0,h1,h2,h3,h4,h5,h6,h7]
 rw[ht];simp(disch:=omega)only[go_sem,h7'];refine call2 ⟨⟨[],[(63,63)],[]⟩,[],[]⟩ (f37_ok l a1 12 hl (by omega)) ?_;refine gO ?_;refine B1 ⟨[],[(63,63)],[]⟩ _ ?_ ?_
 ·simp(disch:=omega)only[go_sem,C6,e0,a0,Expr.k,Expr.atom,Expr.kids,map_nil]
  try exact .agg (Ah.AE gI)
 ·exact gI
def UN:List Bs:=[[97],[98],[99],[100]]
def Co(l:List Int)(a:Nat):Nat→List Res × Nat
 | 0=>([],a)
 | i+1=>((Co l a i).1++[⟨UN.getD i [],1,1,(Ag l (Co l a i).2 4).1⟩],(Ag l (Co l a i).2 4).2)
theorem JU(l:List Int)(a:Nat):∀ i,(Co l a i).1.length=i
 | 0=>rfl
 | i+1=>by simp[Co,JU l a i]
def Ib(l:List Int)(name:Bs)(m:Int)(a:Nat):Res × Nat:=(⟨name,2,1+(Ag l a m).1,(Ag l (Ag l a m).2 4).1⟩,(Ag l (Ag l a m).2 4).2)
def BV(l:List Int)(a:Nat):List Res × Nat :=
 ((Co l a 4).1++[(Ib l [112] 8 (Co l a 4).2).1]++[(Ib l [113] 3 (Ib l [112] 8 (Co l a 4).2).2).1],(Ib l [113] 3 (Ib l [112] 8 (Co l a 4).2).2).2)
theorem f113_ok(l:List Int)(a:Nat)(hl:l.length≤1000000):Ac C0 113 [.ptr 63 0] [(63,Df l a)] (EU (BV l a).1) [(63,Df l (BV l a).2)]:=by
 refine Ac.go f113 ?_;unfold f113;refine gO ?_;refine Aa (α:=Nat) (fun i=>⟨[(5,I i),(4,.sl (.own 384 0) 1 (UN.map fun s=>[.v (.string (str s))])),(3,.sl (.own 1408 0) 4 ((Co l a i).1.map Res.c)),(0,.ptr 63 0)],[(63,Df l (Co l a i).2)]⟩) (fun i=>i≤4) (fun i=>4-i) 0 (by omega) (Imp.weak ?_ ?_) ?_
 ·simp(disch:=omega)only[go_sem,Co,map_nil];exact .sl rfl
 ·simp(disch:=omega)only[go_sem,Co]
 rintro i hi J hJ;have hn4:UN.length=4:=rfl;simp(disch:=omega)only[go_sem,length_map,hn4];refine ⟨fun hlt=>?_,fun hge=>?_⟩
 ·have hlt2:i<4:=by simp at hlt;omega
  obtain⟨s,hs⟩:∃ s,UN[i]?=some s:=⟨_,gE (by rw[hn4];omega)⟩;have hgd:UN.getD i []=s:=by simp[List.getD,hs]
  have hal:=JU l a i;have han:Co l a (i+1)=((Co l a i).1++[⟨s,1,1,(Ag l (Co l a i).2 4).1⟩],(Ag l (Co l a i).2 4).2):=by rw[Co,hgd]
  generalize Co l a i=ls at han hal ⊢;obtain⟨ll,a1⟩:=ls;simp only at han hal ⊢;have hh37:=f37_ok l a1 4 hl (by omega);generalize (Ag l a1 4).2=a2 at hh37 han ⊢;generalize (Ag l a1 4).1=v at hh37 han ⊢;have hbd:ll.length+1≤4294967296:=by omega
  refine DW (st':=⟨[(5,I i),(4,.sl (.own 384 0) 1 (UN.map fun s=>[.v (.string (str s))])),(3,.sl (.own 1408 0) 4 (ll.map Res.c)),(0,.ptr 63 0)],[(63,Df l a1)]⟩) AK ?_;refine Dt 2047 [(0,1,0),(1,2,0),(2,4,0),(3,8,6),(4,16,8),(5,32,0),(6,64,32),(7,128,80),(8,256,128),(9,512,321),(10,1024,1023)] [0,1,2,4,32,3,5,33,6,34,36,96,7,35,37,97,14,38,98,100,15,39,99,101,30,46,102,31,47,103,62,110,63,111,126,127,254,255,510,511,1023,2047] (fun m=>⟨sel m [(1,13,(if m / 512%2=1 then .undef else .sl (.own 1408 0) 4 (ll.map Res.c))),(2,14,.sl (.own 384 0) 1 (UN.map fun s=>[.v (.string (str s))])),(4,15,I i),(8,16,.ep (.own 384 0) i [.v (.string (str s))] 0),(16,17,.v (.string (str s))),(32,18,.ptr 63 0),(64,19,I v),(128,20,.agg (⟨s,1,1,v⟩:Res).c),(256,21,.sl (.own 1344 0) 4 ([(⟨s,1,1,v⟩:Res)].map Res.c)),(512,22,.sl (.own 1408 0) 4 ((ll++[(⟨s,1,1,v⟩:Res)]).map Res.c))]++[(5,I i),(4,.sl (.own 384 0) 1 (UN.map fun s=>[.v (.string (str s))])),(3,(if m / 512%2=1 then (if m / 1024%2=1 then .sl (.own 1408 0) 4 ((ll++[(⟨s,1,1,v⟩:Res)]).map Res.c) else .undef) else .sl (.own 1408 0) 4 (ll.map Res.c))),(0,.ptr 63 0)],[(63,Df l (if m / 64%2=1 then a2 else a1))]⟩) ?_ ?_ ?_ fol
  ·exact AK
  ·simp (maxSteps:=100000000)only[Ds,Dr,Ek,Ej,and_true,Nat.reduceDiv,Nat.reduceMod,Nat.reduceAnd,Nat.reduceEqDiff,reduceIte,true_and,and_false,false_and,and_self]
   repeat'(with_reducible refine And.intro ?_ ?_)
   all_goals simp(disch:=omega)only[go_sem,gm,hs,length_map,nil_append,cons_append]
   all_goals first|exact Imp.weak (by simp(disch:=omega)only[go_sem,nil_append,cons_append,map_append,map_cons,map_nil]) (by simp(disch:=omega)only[go_sem,nil_append,cons_append,map_append,map_cons,map_nil])|(refine call2 ⟨⟨[],[(63,63)],[]⟩,[],[]⟩ hh37 ?_;simp(disch:=omega)only[go_sem];exact Imp.weak (by simp(disch:=omega)only[go_sem,nil_append,cons_append,map_append,map_cons,map_nil]) (by simp(disch:=omega)only[go_sem,nil_append,cons_append,map_append,map_cons,map_nil]))
  refine gO ?_;refine hJ _ (i+1) (by omega) (by omega) (Imp.weak ?_ ?_)
  ·rw[han];simp(disch:=omega)only[go_sem]
  ·rw[han];simp(disch:=omega)only[go_sem]
 have him:i=4:=by simp at hge;omega
 subst him;have hcm:BV l a=((Co l a 4).1++[(Ib l [112] 8 (Co l a 4).2).1]++[(Ib l [113] 3 (Ib l [112] 8 (Co l a 4).2).2).1],(Ib l [113] 3 (Ib l [112] 8 (Co l a 4).2).2).2):=rfl;rw[hcm];have hll:=JU l a 4;generalize Co l a 4=ls at hll ⊢;obtain⟨ll,a1⟩:=ls;simp only at hll ⊢;obtain⟨b1,b2⟩:=Cb l a1 8 (by omega);have hp1:Ib l [112] 8 a1=(⟨[112],2,1+(Ag l a1 8).1,(Ag l (Ag l a1 8).2 4).1⟩,(Ag l (Ag l a1 8).2 4).2):=rfl;rw[hp1];have g1:=f37_ok l a1 8 hl (by omega);have g2:=f37_ok l (Ag l a1 8).2 4 hl (by omega);generalize (Ag l a1 8).2=a2 at g1 g2 ⊢;generalize (Ag l a1 8).1=u1 at b1 b2 g1 ⊢;simp only;generalize (Ag l a2 4).2=a3 at g2 ⊢;generalize (Ag l a2 4).1=h1 at g2 ⊢;obtain⟨c1,c2⟩:=Cb l a3 3 (by omega);have hp2:Ib l [113] 3 a3=(⟨[113],2,1+(Ag l a3 3).1,(Ag l (Ag l a3 3).2 4).1⟩,(Ag l (Ag l a3 3).2 4).2):=rfl;rw[hp2];have g3:=f37_ok l a3 3 hl (by omega);have g4:=f37_ok l (Ag l a3 3).2 4 hl (by omega);generalize (Ag l a3 3).2=a4 at g3 g4 ⊢;generalize (Ag l a3 3).1=u2 at c1 c2 g3 ⊢;simp only;generalize (Ag l a4 4).2=a5 at g4 ⊢;generalize (Ag l a4 4).1=h2 at g4 ⊢;have hw1:IntKind.i64.wrap (1+u1)=1+u1:=wrap64 _ (by omega) (by omega);have hw2:IntKind.i64.wrap (1+u2)=1+u2:=wrap64 _ (by omega) (by omega);have hbd1:ll.length+1≤4294967296:=by omega
 refine call2 ⟨⟨[],[(63,63)],[]⟩,[],[]⟩ g1 ?_;simp(disch:=omega)only[go_sem,hw1];refine call2 ⟨⟨[],[(63,63)],[]⟩,[],[]⟩ g2 ?_;refine gO ?_;refine call2 ⟨⟨[],[(63,63)],[]⟩,[],[]⟩ g3 ?_;simp(disch:=omega)only[go_sem,hw2];refine call2 ⟨⟨[],[(63,63)],[]⟩,[],[]⟩ g4 ?_;have hbd2:ll.length+1+1≤4294967296:=by omega
 simp(disch:=omega)only[go_sem,length_append,length_map,List.length_singleton];refine B1 ⟨[],[(63,63)],[2560]⟩ _ ?_ ?_
 ·simp(disch:=omega)only[go_sem];exact .sl (by rw[map_append,map_append];rfl)
 ·exact gI
@[reducible] def YL(l:List Cmd):AV:=.sl .no 13 (l.map Cmd.c)
theorem Uw(l:List Int)(az:List Atom)(a:Nat):a≤(Uv l az a).2:=(E8 l a az.length).1
theorem Uq{f:Nat→Expr × Nat}(h:∀ a,a≤(f a).2):∀ n a,a≤(Gn f n a).2
 | 0,a=>Nat.le_refl _
 | n+1,a=>le_trans (Uq h n a) (h _)
theorem RM(l:List Int)(az:List Atom):∀ d a,a≤(CI l az d a).2
 | 0,a=>Uw l az a
 | d+1,a=>by
  rw[CI];have h1:=(E8 l a 4).1;split
  ·exact le_trans h1 (Uw l az _)
  ·have h2:=(E8 l (Ag l a 4).2 3).1;have h3:=(E8 l (Ag l (Ag l a 4).2 3).2 (1+(Ag l (Ag l a 4).2 3).1)).1;exact le_trans (le_trans (le_trans h1 h2) h3) (Uq (fun a=>RM l az d a) _ _)
theorem Y3(l:List Int)(cat:List Res)(a:Nat):a≤(OE l cat a).2:=le_trans (E8 l a 1048576).1 (RM l _ 2 _)
theorem aY(l:List Int)(a:Nat):a≤(O7 l a).2:=by
 have h1:=(E8 l a 5).1;have h2:=(E8 l (Ag l a 5).2 20).1;unfold O7;split
 ·exact le_trans h1 h2
 ·exact h1
theorem U3(l:List Int)(cat:List Res)(a:Nat):a≤(Hb l cat a).2:=by
 have h1:=(E8 l a 8).1;have h2:=aY l (Ag l a 8).2;exact le_trans (le_trans h1 h2) (Y3 l cat _)
theorem YE(l:List Int)(cat:List Res)(n:Int)(p:Proc)(a:Nat):a≤(EX l cat n p a).2:=by
 unfold EX
 repeat' split
 all_goals first|exact Nat.le_refl _|exact(E8 _ _ _).1|exact U3 _ _ _
theorem Iv(l:List Int)(cat:List Res)(a:Nat)(h:a<l.length):a<(Dz l cat a).2:=by
 have h1:=(E8 l a 16).2 h;have h2:=(E8 l (Ag l a 16).2 6).1;have h3:=YE l cat (Ag l a 16).1 (Nd (Ag l (Ag l a 16).2 6).1) (Ag l (Ag l a 16).2 6).2;show a<(EX l cat (Ag l a 16).1 (Nd (Ag l (Ag l a 16).2 6).1) (Ag l (Ag l a 16).2 6).2).2;omega
def D1(l:List Int)(a:Nat):Nat→List Cmd × Nat
 | 0=>([],a)
 | i+1=>((D1 l a i).1++[⟨1,Nd i,C6,[],1+(Ag l (D1 l a i).2 9).1⟩],(Ag l (D1 l a i).2 9).2)
theorem JX(l:List Int)(a:Nat):∀ i,(D1 l a i).1.length=i
 | 0=>rfl
 | i+1=>by simp[D1,JX l a i]
def FU(l:List Int)(cat:List Res)(a:Nat):List Cmd :=
 if h:a<l.length then (Dz l cat a).1::FU l cat (Dz l cat a).2 else []
 termination_by l.length-a
 decreasing_by have:=Iv l cat a h;omega
def Fs(l:List Int):List Res × List Cmd:=((BV l 0).1,(D1 l (BV l 0).2 4).1++FU l (BV l 0).1 (D1 l (BV l 0).2 4).2)
theorem M4(l:List Int)(a:Nat):∀ i,∀ r∈(Co l a i).1,r.units=1
 | 0,r,h=>by simp[Co]at h
 | i+1,r,h=>by
  simp only[Co,List.mem_append,List.mem_singleton]at h;rcases h with h|rfl
  ·exact M4 l a i r h
  ·rfl
theorem JG(l:List Int)(a:Nat):(BV l a).1.length=6:=by simp[BV,JU]
theorem Ks(l:List Int)(a:Nat):∀ r∈(BV l a).1,r.units≤1000000:=fun r h=>by
 simp only[BV,List.mem_append,List.mem_singleton]at h;rcases h with (h|rfl)|rfl
 ·have:=M4 l a 4 r h;omega
 ·have:=(Cb l (Co l a 4).2 8 (by omega)).2;simp only[Ib];omega
 ·have:=(Cb l (Ib l [112] 8 (Co l a 4).2).2 3 (by omega)).2;simp only[Ib]at this ⊢;omega
theorem f65_ok(l:List Int)(hl:l.length≤1000000):Ac C0 65 [MX l] [] (.tup [EU (Fs l).1,YL (Fs l).2]) []:=by
 refine Ac.go f65 ?_;unfold f65;refine gO ?_;refine call2 ⟨⟨[],[(640,63)],[]⟩,[],[]⟩ (f113_ok l 0 hl) ?_;refine gO ?_;have hcl:=JG l 0;have hcu:=Ks l 0;have hsm:Fs l=((BV l 0).1,(D1 l (BV l 0).2 4).1++FU l (BV l 0).1 (D1 l (BV l 0).2 4).2):=rfl;rw[hsm];generalize (BV l 0).2=a0' at hcl ⊢;generalize (BV l 0).1=cat at hcl hcu ⊢;refine Aa (α:=Nat) (fun i=>⟨[(7,I i),(6,.sl (.own 1600 0) 13 ((D1 l a0' i).1.map Cmd.c)),(5,EU cat),(4,.ptr 640 0)],[(640,Df l (D1 l a0' i).2)]⟩) (fun i=>i≤4) (fun i=>4-i) 0 (by omega) (Imp.weak ?_ ?_) ?_
 ·simp(disch:=omega)only[go_sem,D1,map_nil]
 ·simp(disch:=omega)only[go_sem,D1]
 rintro i hi J hJ;refine gO ?_;refine ⟨fun hlt=>?_,fun hge=>?_⟩
 ·have hlt2:i<4:=by simp at hlt;omega
  have hal:=JX l a0' i;have han:D1 l a0' (i+1)=((D1 l a0' i).1++[⟨1,Nd i,C6,[],1+(Ag l (D1 l a0' i).2 9).1⟩],(Ag l (D1 l a0' i).2 9).2):=rfl;generalize D1 l a0' i=ls at han hal ⊢;obtain⟨ll,a1⟩:=ls;simp only at han hal ⊢;have hb:=Cb l a1 9 (by omega);have hw:IntKind.i64.wrap (1+(Ag l a1 9).1)=1+(Ag l a1 9).1:=wrap64 _ (by omega) (by omega);have hbd:ll.length+1≤4294967296:=by omega
  refine Ab (bW i) ?_;refine gO ?_;refine call2 ⟨⟨[],[(640,63)],[]⟩,[],[]⟩ (f37_ok l a1 9 hl (by omega)) ?_;simp(disch:=omega)only[go_sem,hw];refine hJ _ (i+1) (by omega) (by omega) (Imp.weak ?_ ?_)
  ·rw[han];refine gO ?_;rw[map_append];refine .bf (Gs.append _ ?_);simp only[C6,e0,a0,Expr.k,Expr.atom,Expr.kids,map_cons,map_nil,Cmd.c,Proc.c,Gs,Jx,Vv];simp
  ·rw[han];simp(disch:=omega)only[go_sem]
 have him:i=4:=by simp at hge;omega
 subst him;have hal:=JX l a0' 4;generalize D1 l a0' 4=ls at hal ⊢;obtain⟨op,a1⟩:=ls;simp only at hal ⊢;refine Aa (α:=List Cmd × Nat) (fun x=>⟨[(6,.sl (.own 2112 0) 13 (x.1.map Cmd.c)),(5,EU cat),(4,.ptr 640 0)],[(640,Df l x.2)]⟩) (fun x=>x.1++FU l cat x.2=op++FU l cat a1∧x.1.length+(l.length-x.2)≤1000010) (fun x=>l.length-x.2) (op,a1) ⟨rfl,by simp only;omega⟩ (Imp.ren ⟨[(1600,2112)],[(640,640)],[]⟩ ⟨rfl,rfl⟩ (by simp[lk]) ?_ ?_) ?_
 ·exact gI
 ·exact gI
 rintro⟨out,a2⟩ ⟨hx1,hx2⟩ J hJ;simp only at hx1 hx2 ⊢;refine gO ?_;refine call2 ⟨⟨[],[(640,63)],[]⟩,[],[]⟩ (f49_ok l a2 hl) ?_;refine gO ?_;refine ⟨fun hlt=>?_,fun hge=>?_⟩
 ·have hlt2:a2<l.length:=by simp at hlt;omega
  have hun:FU l cat a2=(Dz l cat a2).1::FU l cat (Dz l cat a2).2:=by rw[FU,dif_pos hlt2]
  have hpr:=Iv l cat a2 hlt2;have hbd:out.length+1≤4294967296:=by omega
  refine call2 ⟨⟨[],[(640,63)],[]⟩,[],[]⟩ (f50_ok l a2 cat hl (by omega) hcu) ?_;refine gO ?_;refine hJ _ (out++[(Dz l cat a2).1],(Dz l cat a2).2) ⟨?_,?_⟩ ?_ (Imp.weak ?_ ?_)
  ·rw[← hx1,hun];simp
  ·simp only[length_append,List.length_singleton];omega
  ·simp only;omega
  ·simp(disch:=omega)only[go_sem];exact .sl (by rw[map_append];rfl)
  ·exact gI
 have hge2:l.length≤a2:=by simp at hge;omega
 have hun:FU l cat a2=[]:=by rw[FU,dif_neg (by omega)]
 rw[hun,List.append_nil]at hx1;rw[← hx1];refine A1 ⟨[],[],[2112]⟩ _ (by(try simp(disch:=omega)only[go_sem,Dm,K7])<;>rfl) ⟨rfl,rfl⟩ (by simp[lk]) ?_ trivial;simp(disch:=omega)only[go_sem]
def G7(r:Res):Queue:=⟨r,[],[],[],0⟩
def Mn(l:List Res):List Queue × Int:=if GV l then (l.map G7,0) else ([],1)
theorem f114_ok(l:List Res)(hl:l.length≤1000000):Ac C0 114 [EU l] [] (.tup [Ay (Mn l).1,I (Mn l).2]) []:=by
 refine Ac.go f114 ?_;unfold f114;refine gO ?_;refine Ab (f168_ok l) ?_;cases h:GV l
 ·have e:Mn l=([],1):=by simp[Mn,h]
  rw[e];simp(disch:=omega)only[go_sem,h,Bool.not_false];refine B0 _ ?_;simp(disch:=omega)only[go_sem,map_nil];refine .tup (Ah.AE ?_);simp(disch:=omega)only[go_sem]
  repeat'(with_reducible apply And.intro)
  all_goals(first|exact .Az (by omega)|exact .agg (Ah.AE gI))
 ·have e:Mn l=(l.map G7,0):=by simp[Mn,h]
  rw[e];simp(disch:=omega)only[go_sem,h,Bool.not_true];refine Aa (α:=Nat) (fun i=>⟨[(5,I i),(0,EU l),(4,.sl (.own 1408 0) 8 (((l.take i).map G7).map Queue.c))],[]⟩) (fun i=>i≤(l).length∧True) (fun i=>(l).length-i) 0 ⟨by omega,trivial⟩ ?_ ?_
  ·exact Ca
  rintro i ⟨hi,hP⟩ J hJ;refine gO ?_;refine ⟨fun hlt=>?_,fun hge=>?_⟩;rotate_left;have hil:i=(l).length:=by simp at hge;omega
  rotate_left;obtain⟨b,hb⟩:∃ b,(l)[i]?=some b:=⟨_,gE (by simp at hlt;omega)⟩;have hbm:=mG hb;have hlt2:i<(l).length:=by simp at hlt;omega
  ·simp(disch:=omega)only[go_sem,gm,hb];refine hJ _ (i+1) ⟨by omega,trivial⟩ (by omega) (Imp.weak ?_ ?_)
   ·simp(disch:=omega)only[go_sem];rw[take_add_one,hb,toList_some,map_append];refine .bf (Gs.append _ ?_);simp only[map_cons,map_nil,Function.comp_def,G7,Queue.c,Gs,Jx,Vv];simp
   ·exact gI
  ·subst hil;rw[take_length];refine A1 ⟨[],[],[1408]⟩ _ (by(try simp(disch:=omega)only[go_sem,Dm,K7])<;>rfl) ⟨rfl,rfl⟩ (by simp[lk]) ?_ trivial;simp(disch:=omega)only[go_sem,Ay,List.map_map]
def M7(l:List Res):Cen × Int:=if (Mn l).2=0 then (⟨0,(Mn l).1,[]⟩,0) else (⟨0,[],[]⟩,(Mn l).2)
theorem f66_ok(l:List Res)(hl:l.length≤1000000):Ac C0 66 [EU l] [] (.tup [.agg (M7 l).1.c,I (M7 l).2]) []:=by
 refine Ac.go f66 ?_;unfold f66;refine gO ?_;refine Ab (f114_ok l hl) ?_;refine gO ?_
 by_cases h:(Mn l).2=0
 ·have e:M7 l=(⟨0,(Mn l).1,[]⟩,0):=by simp[M7,h]
  rw[e];simp(disch:=omega)only[go_sem,h];refine B0 _ ?_;simp(disch:=omega)only[go_sem,map_nil];refine .tup (Ah.AE ?_);simp(disch:=omega)only[go_sem]
  repeat'(with_reducible apply And.intro)
  all_goals(first|exact .Az (by omega)|exact .agg (Ah.AE gI))
 ·have e:M7 l=(⟨0,[],[]⟩,(Mn l).2):=by simp[M7,h]
  have h':((Mn l).2 !=0)=true:=by simpa using h
  rw[e];simp(disch:=omega)only[go_sem,h'];refine B0 _ ?_;simp(disch:=omega)only[go_sem,map_nil];refine .tup (Ah.AE ?_);simp(disch:=omega)only[go_sem]
  repeat'(with_reducible apply And.intro)
  all_goals(first|exact .Az (by omega)|exact .agg (Ah.AE gI))
def LK(c:Cen)(p:Proc):Pcs × Bool:=match c.procs.findIdx? (fun x=>decide (x.proc=p)) with
 |some i=>(c.procs.getD i x0,true)
 |none=>(x0,false)
theorem f28_ok(c:Cen)(p:Proc)(hl:c.procs.length≤1000000):Ac C0 28 [.agg c.c,.agg p.c] [] (.tup [.agg (LK c p).1.c,B (LK c p).2]) []:=by
 refine Ac.go f28 ?_;unfold f28;refine gO ?_;refine Ab (f69_ok c.procs p) ?_;refine gO ?_;cases h:c.procs.findIdx? (fun x=>decide (x.proc=p)) with
 |none =>
  have e:LK c p=(x0,false):=by simp[LK,h]
  have e2:CK c.procs p = -1:=by simp[CK,h]
  rw[e];simp(disch:=omega)only[go_sem,e2];refine B0 _ ?_;simp(disch:=omega)only[go_sem,x0,p0,Cv,C6,e0,a0,Expr.k,Expr.atom,Expr.kids,map_nil];refine .tup (Ah.AE ?_);simp(disch:=omega)only[go_sem]
  repeat'(with_reducible apply And.intro)
  all_goals(first|exact .Az (by omega)|exact .agg (Ah.AE gI))
 |some i =>
  obtain⟨hi,_⟩:=List.findIdx?_eq_some_iff_getElem.1 h;obtain⟨x,hx⟩:∃ x,c.procs[i]?=some x:=⟨_,gE hi⟩;have e:LK c p=(x,true):=by simp[LK,h,List.getD,hx]
  have e2:CK c.procs p=i:=by simp[CK,h]
  rw[e];simp(disch:=omega)only[go_sem,e2,eq_true (show (0:Int)≤(i:Int) by omega),decide_true,gm,hx];exact AH _
theorem Uu{w:Work}:∀ (n:Nat) (w:Work),JE none w→JE none (Hs n w)
 | 0,w,h=>h
 | n+1,w,h=>by
  simp only[Hs];split
  ·exact h
  ·rename_i x hx;split
   ·exact h
   ·rename_i hlt;rcases HD w with he|⟨k,y,he,hy,hyw⟩
    ·rw[he]at hlt;simp at hlt
    ·rw[he]at hx ⊢;simp only[Int.toNat_natCast]at hx ⊢;rw[hy]at hx;have:=Option.some.inj hx;subst this;exact Uu (w:=w) n _ (IG JE.EM _ _ (Qd JE.bT h hy hyw).1).1
theorem GH{Inv:Work→Prop}(hI:HR Inv){w:Work}(h:Inv w):CU (AQ w).queues:=(hI.few _ (IG hI _ _ h).1).1
theorem aH{w:Work}(k:Cmd)(h:Fit w):CU (doW w k).1.queues:=by
 have hf:=Cm h.je.tab;unfold doW;split
 ·exact hf
 split
 ·unfold D7
  repeat' split
  all_goals exact hf
 split
 ·unfold He;split
  ·exact hf
  split
  ·exact hf
  ·exact Cm (Uu (w:=w) (wcount { w with now:=w.now+k.n }) { w with now:=w.now+k.n } ⟨h.je.tab,h.je.n,h.je.uq,h.je.good⟩).tab
 split
 ·exact hf
 ·rename_i i hfi;obtain⟨x,hx⟩:=RD hfi;have hxm:=mG hx;have hi:=Ae hx;have hg:w.procs.getD i x0=x:=by simp[List.getD,hx]
  rw[hg];unfold doI;split
  ·unfold CX;split
   ·exact hf
   rename_i a1;split
   ·rename_i a2;split
    ·rename_i a3;refine GH QT.EM (TM h.je hx (h.idle x hxm (by simpa using a1)) (by simp only[Gd,Bool.and_eq_true]at a2;exact a2.1.1.1.1) (fun a ha=>?_)).2;obtain⟨n,_,hn,_⟩:=Cq h.je.tab a3 ha;exact⟨n,hn⟩
    ·exact hf
   ·exact hf
  split
  ·split
   ·rename_i hw;obtain⟨s1,s2,_⟩:=DK h.je hx hw;have hx1:(Au w i x).procs[i]?=some (A7 x):=by rw[AZ];simp[hi]
    exact GH JE.EM (s2.next hx1)
   ·exact hf
  split
  ·unfold DE;split
   ·exact hf
   rename_i a1;split
   ·exact hf
   ·exact GH QT.EM (P6 h.je hx (by simpa using a1))
  split
  ·split
   ·exact hf
   ·split
    ·exact hf
    ·exact hf
  split
  ·unfold Dw;split
   ·rename_i a1;exact GH JE.EM (Rl h.je hx (h.fits x hxm) (h.idle x hxm) (h.wait x hxm) a1).2
   ·exact hf
  split
  ·split
   ·exact hf
   ·exact GH JE.EM (Lq h.je hx)
  ·exact GH JE.EM (Lq h.je hx)
theorem aD{c:Cen}(k:Cmd):CU (doC c k).1.queues:=by
 unfold doC;split
 ·rename_i hv;split
  ·exact aH k (F3 hv)
  ·exact Lm
 ·exact Lm
def Eu(c:Cen)(k:Cmd):Cen:=if (doC c k).2.2=0 then (doC c k).1 else c
def runM(c:Cen)(ks:List Cmd):Cen:=ks.foldl Eu c
theorem Nn{c:Cen}(k:Cmd)(h:CU c.queues):CU (Eu c k).queues:=by
 unfold Eu;split
 ·exact aD k
 ·exact h
theorem Tn:∀ (ks:List Cmd) (c:Cen),CU c.queues→CU (runM c ks).queues
 |[],_,h=>h
 | k::ks,c,h=>Tn ks (Eu c k) (Nn k h)
theorem Yi{c:Cen}{ks:List Cmd}{i:Nat}{b:Cmd}(hb:ks[i]?=some b):runM c (ks.take (i+1))=Eu (runM c (ks.take i)) b:=by
 simp[runM,take_add_one,hb,List.foldl_append]
theorem f67_ok(c:Cen)(ks:List Cmd)(h:CU c.queues)(hl:ks.length≤1000000):Ac C0 67 [.agg c.c,YL ks] [] (.agg (runM c ks).c) []:=by
 refine Ac.go f67 ?_;unfold f67;refine gO ?_;refine Aa (α:=Nat) (fun i=>⟨[(5,I i),(4,.ptr 256 0),(2,.ptr 128 0),(1,YL ks)],[(256,Ip.c),(128,(runM c (ks.take i)).c)]⟩) (fun i=>i≤ks.length) (fun i=>ks.length-i) 0 (by omega) (Imp.weak ?_ ?_) ?_
 ·exact gI
 ·simp(disch:=omega)only[go_sem,Ip,List.take_zero,runM,List.foldl_nil,map_nil]
  done
 rintro i hi J hJ;simp(disch:=omega)only[go_sem,length_map];refine ⟨fun hlt=>?_,fun hge=>?_⟩
 ·obtain⟨b,hb⟩:∃ b,ks[i]?=some b:=⟨_,gE (by simp at hlt;omega)⟩;have hlt2:=Ae hb;have hfe:=Tn (ks.take i) c h;have htk:=Yi (c:=c) hb;generalize runM c (ks.take i)=c1 at hfe htk ⊢;refine FV 11 [([],[2]),([],[1]),([],[5]),([1,2],[17,18]),([1,2,3],[19]),([0,1,2,3,4],[16,20]),([0,1,2,3,4,5],[21]),([0,1,2,3,4,5,6],[15]),([0,1,2,3,4,5,6],[15]),([0,1,2,3,4,5,6],[15]),([],[]),([0,1,2,3,4,5,6,7,10],[]),([0,1,2,3,4,5,6,7,8,10,11],[]),([0,1,2,3,4,5,6,7,8,9,10,11,12],[])] [8,9] [([],[15,6,22,5,4,2,1],let o0:OT:=.done;let o1:OT:=.pick [(13,o0)];let o2:OT:=.pick [(12,o1)];let o3:OT:=.pick [(11,o2)];let o4:OT:=.pick [(9,o1)];let o5:OT:=.pick [(9,o2),(12,o4)];let o6:OT:=.pick [(9,o3),(11,o5)];let o7:OT:=.pick [(8,o2)];let o8:OT:=.pick [(8,o3),(11,o7)];let o9:OT:=.pick [(8,o5),(9,o7)];let o10:OT:=.pick [(8,o6),(9,o8),(11,o9)];o10),([9],[15,6,22,24,5,4,2,1],let o0:OT:=.done;let o1:OT:=.pick [(13,o0)];let o2:OT:=.pick [(12,o1)];let o3:OT:=.pick [(11,o2)];let o4:OT:=.pick [(8,o2)];let o5:OT:=.pick [(8,o3),(11,o4)];o5),([8],[15,6,22,23,5,4,2,1],let o0:OT:=.done;let o1:OT:=.pick [(13,o0)];let o2:OT:=.pick [(12,o1)];let o3:OT:=.pick [(11,o2)];let o4:OT:=.pick [(9,o1)];let o5:OT:=.pick [(9,o2),(12,o4)];let o6:OT:=.pick [(9,o3),(11,o5)];o6),([8,9],[6,22,23,24,5,4,2,1],let o0:OT:=.done;let o1:OT:=.pick [(13,o0)];let o2:OT:=.pick [(12,o1)];let o3:OT:=.pick [(11,o2)];o3)] fol (by kernel_rfl) ?_;simp(disch:=omega)only[go_sem,gm,hb]
  first|(refine Ab (f30_ok c1 b hfe) ?_)|(refine Al (f30_ok c1 b hfe) ?_)
  by_cases h0:(doC c1 b).2.2=0
  ·have hst:Eu c1 b=(doC c1 b).1:=by simp[Eu,h0]
   rw[hst]at htk;simp(disch:=omega)only[go_sem,h0]
   repeat'(with_reducible refine And.intro ?_ ?_)
   all_goals
    refine hJ _ (i+1) (by omega) (by omega) (Imp.weak ?_ ?_)
    ·exact gI
    ·rw[htk];simp(disch:=omega)only[go_sem,Ip,map_nil]
  ·have hst:Eu c1 b=c1:=by simp[Eu,h0]
   have h0':((doC c1 b).2.2==0)=false:=by simpa using h0
   rw[hst]at htk;simp(disch:=omega)only[go_sem,h0']
   repeat'(with_reducible refine And.intro ?_ ?_)
   all_goals
    refine hJ _ (i+1) (by omega) (by omega) (Imp.weak ?_ ?_)
    ·exact gI
    ·rw[htk];simp(disch:=omega)only[go_sem,Ip,map_nil]
 have him:i=ks.length:=by simp at hge;omega
 subst him;rw[take_length];exact AH _
def F4(l:List Int):Cen:=runM (M7 (Fs l).1).1 (Fs l).2
theorem OY(l:List Int):(Fs l).1.length=6:=JG l 0
theorem W0(l:List Res)(hl:l.length≤100):CU (M7 l).1.queues:=by
 unfold M7;split
 ·unfold Mn;split
  ·refine⟨by simpa using hl,fun q hq=>?_⟩;simp only[List.mem_map]at hq;obtain⟨r,_,rfl⟩:=hq;simp[G7,BA,Bq]
  ·exact Lm
 ·exact Lm
theorem Rp(l:List Int)(cat:List Res):∀ (n a:Nat),l.length-a≤n→(FU l cat a).length≤n
 | 0,a,h=>by rw[FU,dif_neg (by omega)];simp
 | n+1,a,h=>by
  rw[FU];split
  ·rename_i hlt;have:=Iv l cat a hlt;have:=Rp l cat n (Dz l cat a).2 (by omega);simp;omega
  ·simp
theorem Tp(l:List Int):(Fs l).2.length≤l.length+4:=by
 have:=Rp l (BV l 0).1 l.length (D1 l (BV l 0).2 4).2 (by omega);simp only[Fs,length_append,JX];omega
theorem f25_ok(l:List Int)(hl:l.length≤10000):Ac C0 25 [MX l] [] (.agg (F4 l).c) []:=by
 have h1:=OY l;have h2:=Tp l;have h3:=W0 (Fs l).1 (by omega);refine Ac.go f25 ?_;unfold f25;refine gO ?_;refine Ab (f65_ok l (by omega)) ?_;refine gO ?_;refine Ab (f66_ok (Fs l).1 (by omega)) ?_;refine gO ?_;refine Ab (f67_ok (M7 (Fs l).1).1 (Fs l).2 h3 (by omega)) ?_;refine gO ?_;refine B0 _ ?_;simp(disch:=omega)only[go_sem,F4]
def KS(x:Pcs):Need:={ proc:=x.proc,expr:=x.req.expr,gen:=x.gen }
def CZ(l:List Pcs):List Need:=(l.filter (·.waiting)).map KS
theorem UL{l:List Pcs}{i:Nat}{b:Pcs}(hb:l[i]?=some b):CZ (l.take (i+1))=CZ (l.take i)++if b.waiting then [KS b] else []:=by
 unfold CZ;rw[take_add_one,hb,toList_some,List.filter_append,map_append];cases h:b.waiting<;>simp[h]
theorem Mm(l:List Pcs)(i:Nat):(CZ (l.take i)).length≤i:=by
 unfold CZ;rw[length_map];exact le_trans (List.length_filter_le _ _) (by simp;omega)
def ofM(c:Cen):WS:=if BD c then ⟨c.queues,CZ c.procs⟩ else ⟨[],[]⟩
theorem f26_ok(c:Cen)(h:CU c.queues):Ac C0 26 [.agg c.c] [] (.agg (ofM c).c) []:=by
 have hn:=h.n;refine Ac.go f26 ?_;unfold f26;refine gO ?_;refine Ab (f68_ok c h) ?_;cases hv:BD c
 ·have ht:ofM c=⟨[],[]⟩:=by simp[ofM,hv]
  rw[ht];simp(disch:=omega)only[go_sem,Bool.not_false];refine B0 _ ?_;simp(disch:=omega)only[go_sem,map_nil];exact .agg (Ah.AE gI)
 have hpl:c.procs.length≤8:=(F3 hv).je.n;have ht:ofM c=⟨c.queues,CZ c.procs⟩:=by simp[ofM,hv]
 rw[ht];simp(disch:=omega)only[go_sem,Bool.not_true];refine Aa (α:=Nat) (fun i=>⟨[(4,I i),(3,.ptr 192 0),(2,.ptr 128 0),(1,.ptr 64 0)],[(192,[.sl (.own 768 0) 8 (c.queues.map Queue.c),.sl (.own 3200 0) 9 ((CZ (c.procs.take i)).map Need.c)]),(128,[.v (.slice none 0 0),.v (.slice none 0 0)]),(64,c.c)]⟩) (fun i=>i≤(c.procs).length∧True) (fun i=>(c.procs).length-i) 0 ⟨by omega,trivial⟩ ?_ ?_
 ·refine Imp.weak ?_ ?_
  all_goals(try simp(disch:=omega)only[go_sem])
  all_goals(try(repeat'(with_reducible apply And.intro)))
  all_goals(first|exact .AA (by omega)|exact .Az (by omega)|exact .sl (by simp[CZ])|exact .int (by simp[CZ])|exact .eq (by simp[CZ]))
 rintro i ⟨hi,hP⟩ J hJ;refine gO ?_;refine ⟨fun hlt=>?_,fun hge=>?_⟩;rotate_left;have hil:i=(c.procs).length:=by simp at hge;omega
 rotate_left;obtain⟨b,hb⟩:∃ b,(c.procs)[i]?=some b:=⟨_,gE (by simp at hlt;omega)⟩;have hbm:=mG hb;have hlt2:i<(c.procs).length:=by simp at hlt;omega
 ·have hnl:=Mm c.procs i;have htk:=UL hb;generalize CZ (c.procs.take i)=ns at hnl htk ⊢;have hbd:ns.length+1≤4294967296:=by omega
  simp(disch:=omega)only[go_sem,gm,hb];cases hw:b.waiting
  ·rw[hw]at htk;simp only[Bool.false_eq_true,if_false,List.append_nil]at htk;simp(disch:=omega)only[go_sem,hw];refine hJ _ (i+1) ⟨by simp at hlt;omega,trivial⟩ (by simp at hlt;omega) (Imp.weak ?_ ?_)
   all_goals(try simp(disch:=omega)only[go_sem])
   all_goals(try(repeat'(with_reducible apply And.intro)))
   all_goals(first|exact .AA (by omega)|exact .Az (by omega)|exact .sl (by simp[htk])|exact .int (by simp[htk])|exact .eq (by simp[htk]))
  ·rw[hw]at htk;simp only[if_true]at htk;simp(disch:=omega)only[go_sem,hw];refine Aq 23 [([],[3]),([],[27]),([],[1]),([],[29]),([],[4]),([],[30,31]),([],[32]),([],[33]),([],[1]),([],[35]),([],[4]),([],[36,37]),([],[38]),([],[39]),([],[40]),([],[1]),([],[42]),([],[4]),([],[43,44]),([],[45]),([],[46]),([],[34,41,47]),([],[48])] fol ?_;simp(disch:=omega)only[go_sem,gm,hb];refine hJ _ (i+1) ⟨by simp at hlt;omega,trivial⟩ (by simp at hlt;omega) (Imp.weak ?_ ?_)
   ·exact gI
   ·rw[htk];refine gO ?_;exact .sl (by rw[map_append];rfl)
 ·subst hil;rw[take_length];refine A1 ⟨[],[],[768,3200]⟩ _ (by(try simp(disch:=omega)only[go_sem,Dm,K7])<;>rfl) ⟨rfl,rfl⟩ (by simp[lk]) ?_ trivial;simp(disch:=omega)only[go_sem]
theorem Ow(l:List Int):CU (F4 l).queues:=Tn _ _ (W0 _ (by rw[OY];omega))
theorem Te(c:Cen)(h:CU c.queues):Few (ofM c):=by
 unfold ofM;split
 ·rename_i hv;have hpl:c.procs.length≤8:=(F3 hv).je.n;have:=Mm c.procs c.procs.length;rw[take_length]at this;exact⟨h.n,by show (CZ c.procs).length≤100;omega,h.q⟩
 ·exact⟨by simp,by simp,by simp⟩
end Go.Rd
