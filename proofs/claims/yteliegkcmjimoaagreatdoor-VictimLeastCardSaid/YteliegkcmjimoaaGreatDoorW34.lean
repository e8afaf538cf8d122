/- part 34 of the proof -/
import Derived.Test.YteliegkcmjimoaaGreatDoorW33
set_option linter.all false
open Go Go.Abs Go.Proofs
set_option maxRecDepth 100000
namespace Go.Rd
set_option maxHeartbeats 8000000
open List (cons_append length_map map_append map_cons map_nil nil_append take_add_one take_length)
open Option (toList_some)
open Nat (le_trans)
open Tryz
def US(l:List Int)(a:Nat):Int × Nat:=if (Ak l a 5).1=1 then (1+(Ak l (Ak l a 5).2 20).1,(Ak l (Ak l a 5).2 20).2) else (0,(Ak l a 5).2)
def JA(l:List Int)(cat:List BE)(a:Nat):ca × Nat :=
 (⟨(T3 l cat (US l (Ak l a 8).2).2).1,(Ak l a 8).1,(US l (Ak l a 8).2).1⟩,(T3 l cat (US l (Ak l a 8).2).2).2)
def vG(l:List Int)(a:Nat)(cat:List BE)(hl:l.length<=1000000)(hc:1<=cat.length/\cat.length<=100)(hu:∀ r∈cat,r.AG<=1000000):Ad C0 170 [.ptr 63 0,GO cat] [(63,EY l a)] (.agg (JA l cat a).1.c) [(63,EY l (JA l cat a).2)]:=by
 refine Ad.go f170 ?_;unfold f170;refine gO ?_;refine call2 ⟨⟨[],[(63,63)],[]⟩,[],[]⟩ (DL l a 8 hl (by omega)) ?_;have e:JA l cat a=(⟨(T3 l cat (US l (Ak l a 8).2).2).1,(Ak l a 8).1,(US l (Ak l a 8).2).1⟩,(T3 l cat (US l (Ak l a 8).2).2).2):=rfl;rw[e];generalize (Ak l a 8).2=a1;generalize (Ak l a 8).1=prio;refine gO ?_;refine call2 ⟨⟨[],[(63,63)],[]⟩,[],[]⟩ (DL l a1 5 hl (by omega)) ?_
 by_cases h1:(Ak l a1 5).1=1
 ·have e1:US l a1=(1+(Ak l (Ak l a1 5).2 20).1,(Ak l (Ak l a1 5).2 20).2):=by simp_all[US]
  rw[e1];have hb:=Dl l (Ak l a1 5).2 20 (by omega);have hw:IntKind.i64.wrap (1+(Ak l (Ak l a1 5).2 20).1)=1+(Ak l (Ak l a1 5).2 20).1:=wrap64 _ (by omega) (by omega);refine gS ?_;refine call2 ⟨⟨[],[(63,63)],[]⟩,[],[]⟩ (DL l (Ak l a1 5).2 20 hl (by omega)) (gO ?_);refine call2 ⟨⟨[],[(63,63)],[]⟩,[],[]⟩ (kM l (Ak l (Ak l a1 5).2 20).2 cat hl hc hu) (gO ?_);refine C8 ⟨[],[(63,63)],[]⟩ _ ?_ ?_
  ·exact gI
  ·exact gI
 ·have e1:US l a1=(0,(Ak l a1 5).2):=by simp_all[US]
  rw[e1];have wY:((Ak l a1 5).1==1)=false:=by grind
  refine gS ?_;refine call2 ⟨⟨[],[(63,63)],[]⟩,[],[]⟩ (kM l (Ak l a1 5).2 cat hl hc hu) (gO ?_);refine C8 ⟨[],[(63,63)],[]⟩ _ ?_ ?_
  ·exact gI
  ·exact gI
def Gy(l:List Int)(cat:List BE)(n:Int)(p:Ac)(a:Nat):MS × Nat :=
 if n=0 then (⟨1,p,Fc,[],1+(Ak l a 9).1⟩,(Ak l a 9).2)
 else if n<9 then (⟨2,p,(JA l cat a).1,[],0⟩,(JA l cat a).2)
 else if n=9 then (⟨3,p,Fc,[],0⟩,a)
 else if n=10 then (⟨4,p,Fc,(cat.getD (Ak l a cat.length).1.toNat r0).name,0⟩,(Ak l a cat.length).2)
 else if n=11 then (⟨5,p,Fc,[],1+(Ak l a 4).1⟩,(Ak l a 4).2)
 else if n=12 then (⟨6,p,Fc,[],(Ak l a 5).1⟩,(Ak l a 5).2)
 else if n=13 then (⟨7,p,Fc,[],0⟩,a)
 else if n=14 then (⟨8,p,Fc,[],0⟩,a)
 else (⟨9,p,Fc,[],(Ak l a 12).1⟩,(Ak l a 12).2)
def GA(l:List Int)(cat:List BE)(a:Nat):MS × Nat:=Gy l cat (Ak l a 16).1 (R9 (Ak l (Ak l a 16).2 6).1) (Ak l (Ak l a 16).2 6).2
def vm(l:List Int)(a:Nat)(cat:List BE)(hl:l.length<=1000000)(hc:1<=cat.length/\cat.length<=100)(hu:∀ r∈cat,r.AG<=1000000):Ad C0 117 [.ptr 63 0,GO cat] [(63,EY l a)] (.agg (GA l cat a).1.c) [(63,EY l (GA l cat a).2)]:=by
 refine Ad.go f117 ?_;unfold f117;refine gO ?_;refine call2 ⟨⟨[],[(63,63)],[]⟩,[],[]⟩ (DL l a 16 hl (by omega)) (gO ?_);refine call2 ⟨⟨[],[(63,63)],[]⟩,[],[]⟩ (DL l (Ak l a 16).2 6 hl (by omega)) (gO ?_);refine Ab (yJ (Ak l (Ak l a 16).2 6).1) ?_;have e:GA l cat a=Gy l cat (Ak l a 16).1 (R9 (Ak l (Ak l a 16).2 6).1) (Ak l (Ak l a 16).2 6).2:=rfl;rw[e];generalize R9 (Ak l (Ak l a 16).2 6).1=p;generalize (Ak l (Ak l a 16).2 6).2=a1;generalize (Ak l a 16).1=n
 by_cases h0:n=0
 ·have ht:Gy l cat n p a1=(⟨1,p,Fc,[],1+(Ak l a1 9).1⟩,(Ak l a1 9).2):=by simp[Gy,h0]
  have hb:=Dl l a1 9 (by omega);have hw:IntKind.i64.wrap (1+(Ak l a1 9).1)=1+(Ak l a1 9).1:=wrap64 _ (by omega) (by omega);rw[ht];refine gS ?_;refine call2 ⟨⟨[],[(63,63)],[]⟩,[],[]⟩ (DL l a1 9 hl (by omega)) (gO ?_);refine C8 ⟨[],[(63,63)],[]⟩ _ ?_ ?_
  ·simp only[go_sem,Fc,e0,a0,Expr.k,Expr.atom,Expr.kids];exact .agg (Ae.AJ gI)
  ·exact gI
 have h0':(n==0)=false:=by grind
 refine gS ?_
 by_cases h1:n<9
 ·have ht:Gy l cat n p a1=(⟨2,p,(JA l cat a1).1,[],0⟩,(JA l cat a1).2):=by simp[Gy,h0,h1]
  rw[ht];refine gS ?_;refine call2 ⟨⟨[],[(63,63)],[]⟩,[],[]⟩ (vG l a1 cat hl hc hu) (gO ?_);refine C8 ⟨[],[(63,63)],[]⟩ _ ?_ ?_
  ·exact gI
   try exact .agg (Ae.AJ gI)
  ·exact gI
 refine gS ?_
 by_cases h2:n=9
 ·have ht:Gy l cat n p a1=(⟨3,p,Fc,[],0⟩,a1):=by simp[Gy,h2]
  rw[ht];refine gS ?_;refine C8 ⟨[],[(63,63)],[]⟩ _ ?_ ?_
  ·simp only[go_sem,Fc,e0,a0,Expr.k,Expr.atom,Expr.kids]
   try exact .agg (Ae.AJ gI)
  ·exact gI
 have h2':(n==9)=false:=by grind
 refine gS ?_
 by_cases h3:n=10
 ·have ht:Gy l cat n p a1=(⟨4,p,Fc,(cat.getD (Ak l a1 cat.length).1.toNat r0).name,0⟩,(Ak l a1 cat.length).2):=by simp[Gy,h3]
  obtain⟨b1,b2⟩:=Dl l a1 cat.length (by omega);obtain⟨i,hi⟩:∃ i:Nat,(Ak l a1 cat.length).1=(i:Int):=⟨_,(Int.toNat_of_nonneg b1).symm⟩;have Ba:i<cat.length:=by omega
  have hr:cat[i]?=some cat[i]:=gE Ba;have rH:cat.getD (Ak l a1 cat.length).1.toNat r0=cat[i]:=by grind
  rw[ht,rH];have iF:=DL l a1 cat.length hl (by omega);generalize (Ak l a1 cat.length).2=a2 at iF ⊢;rw[hi]at iF;generalize cat[i]=r at hr ⊢;refine gS ?_;refine Ep (st':=⟨[(6,.ptr 384 0),(4,.ptr 256 0),(0,.ptr 63 0),(1,GO cat)],[(384,(⟨0,p,Fc,[],0⟩:MS).c),(256,(⟨0,p0,Fc,[],0⟩:MS).c),(63,EY l a1)]⟩) (AT.Aq ?_ ?_) ?_
  ·exact gI
  ·simp only[go_sem,Fc,e0,a0,p0,Expr.k,Expr.atom,Expr.kids]
  refine Dj 4095 [(0,1,0),(1,2,0),(2,4,0),(3,8,4),(4,16,10),(5,32,17),(6,64,32),(7,128,64),(8,256,0),(9,512,272),(10,1024,1023),(11,2048,2047)] [0,1,2,4,256,3,5,257,6,258,12,260,7,259,13,261,14,262,268,15,263,269,30,270,31,271,286,63,287,798,127,319,799,255,383,831,511,895,1023,2047,4095] (λm=>⟨XE m [(1,40,GO cat),(2,41,.ptr 63 0),(4,42,GO cat),(8,43,I cat.length),(16,44,I i),(32,45,.ep .no i r.c 0),(64,46,.ep .no i r.c 0),(128,47,.v (.string (str r.name))),(256,48,.ptr 384 0),(1024,49,.ptr 384 11)]++[(6,.ptr 384 0),(4,.ptr 256 0),(0,.ptr 63 0),(1,GO cat)],[(384,(⟨(if m / 512%2=1 then 4 else 0),p,Fc,(if m / 2048%2=1 then r.name else []),0⟩:MS).c),(256,(⟨0,p0,Fc,[],0⟩:MS).c),(63,EY l (if m / 16%2=1 then a2 else a1))]⟩) ?_ ?_ ?_ B6
  ·exact AK
  ·simp (maxSteps:=100000000)only[Di,Dh,D0,DZ,and_true,Nat.reduceDiv,Nat.reduceMod,Nat.reduceAnd,Nat.reduceEqDiff,reduceIte,true_and,and_false,and_self]
   repeat'(with_reducible refine And.intro ?_ ?_)
   all_goals simp(disch:=omega)only[go_sem,gm,hr,length_map,nil_append,cons_append]
   all_goals first|exact AT.Aq (by simp(disch:=omega)only[go_sem]) (by simp(disch:=omega)only[go_sem])|(refine call2 ⟨⟨[],[(63,63)],[]⟩,[],[]⟩ iF ?_;simp(disch:=omega)only[go_sem];exact AT.Aq (by simp(disch:=omega)only[go_sem]) (by simp(disch:=omega)only[go_sem]))
  refine gO ?_;refine C8 ⟨[],[(63,63)],[]⟩ _ ?_ ?_
  ·exact gI
  ·exact gI
 have lH:(n==10)=false:=by grind
 refine gS ?_
 by_cases h4:n=11
 ·have ht:Gy l cat n p a1=(⟨5,p,Fc,[],1+(Ak l a1 4).1⟩,(Ak l a1 4).2):=by simp[Gy,h4]
  have hb:=Dl l a1 4 (by omega);have hw:IntKind.i64.wrap (1+(Ak l a1 4).1)=1+(Ak l a1 4).1:=wrap64 _ (by omega) (by omega);rw[ht];refine gS ?_;refine call2 ⟨⟨[],[(63,63)],[]⟩,[],[]⟩ (DL l a1 4 hl (by omega)) (gO ?_);refine C8 ⟨[],[(63,63)],[]⟩ _ ?_ ?_
  ·simp only[go_sem,Fc,e0,a0,Expr.k,Expr.atom,Expr.kids]
   try exact .agg (Ae.AJ gI)
  ·exact gI
 have h4':(n==11)=false:=by grind
 refine gS ?_
 by_cases h5:n=12
 ·have ht:Gy l cat n p a1=(⟨6,p,Fc,[],(Ak l a1 5).1⟩,(Ak l a1 5).2):=by simp[Gy,h5]
  rw[ht];refine gS ?_;refine call2 ⟨⟨[],[(63,63)],[]⟩,[],[]⟩ (DL l a1 5 hl (by omega)) (gO ?_);refine C8 ⟨[],[(63,63)],[]⟩ _ ?_ ?_
  ·simp only[go_sem,Fc,e0,a0,Expr.k,Expr.atom,Expr.kids]
   try exact .agg (Ae.AJ gI)
  ·exact gI
 have h5':(n==12)=false:=by grind
 refine gS ?_
 by_cases h6:n=13
 ·have ht:Gy l cat n p a1=(⟨7,p,Fc,[],0⟩,a1):=by simp[Gy,h6]
  rw[ht];refine gS ?_;refine C8 ⟨[],[(63,63)],[]⟩ _ ?_ ?_
  ·simp only[go_sem,Fc,e0,a0,Expr.k,Expr.atom,Expr.kids]
   try exact .agg (Ae.AJ gI)
  ·exact gI
 have h6':(n==13)=false:=by grind
 refine gS ?_
 by_cases h7:n=14
 ·have ht:Gy l cat n p a1=(⟨8,p,Fc,[],0⟩,a1):=by simp[Gy,h7]
  rw[ht];refine gS ?_;refine C8 ⟨[],[(63,63)],[]⟩ _ ?_ ?_
  ·simp only[go_sem,Fc,e0,a0,Expr.k,Expr.atom,Expr.kids]
   try exact .agg (Ae.AJ gI)
  ·exact gI
 have h7':(n==14)=false:=by grind
 have ht:Gy l cat n p a1=(⟨9,p,Fc,[],(Ak l a1 12).1⟩,(Ak l a1 12).2):=by grind[Gy]
 rw[ht];refine gS ?_;refine call2 ⟨⟨[],[(63,63)],[]⟩,[],[]⟩ (DL l a1 12 hl (by omega)) (gO ?_);refine C8 ⟨[],[(63,63)],[]⟩ _ ?_ ?_
 ·simp only[go_sem,Fc,e0,a0,Expr.k,Expr.atom,Expr.kids]
  try exact .agg (Ae.AJ gI)
 ·exact gI
def eN:List Bs:=[[97],[98],[99],[100]]
def DB(l:List Int)(a:Nat):Nat->List BE × Nat
 | 0=>([],a)
 | i+1=>((DB l a i).1++[⟨eN.getD i [],1,1,(Ak l (DB l a i).2 4).1⟩],(Ak l (DB l a i).2 4).2)
def Nr(l:List Int)(a:Nat):∀ i,(DB l a i).1.length=i
 | 0=>rfl
 | i+1=>by simp[DB,Nr l a i]
def KV(l:List Int)(name:Bs)(m:Int)(a:Nat):BE × Nat:=(⟨name,2,1+(Ak l a m).1,(Ak l (Ak l a m).2 4).1⟩,(Ak l (Ak l a m).2 4).2)
def C2(l:List Int)(a:Nat):List BE × Nat :=
 ((DB l a 4).1++[(KV l [112] 8 (DB l a 4).2).1]++[(KV l [113] 3 (KV l [112] 8 (DB l a 4).2).2).1],(KV l [113] 3 (KV l [112] 8 (DB l a 4).2).2).2)
def vk(l:List Int)(a:Nat)(hl:l.length<=1000000):Ad C0 114 [.ptr 63 0] [(63,EY l a)] (GO (C2 l a).1) [(63,EY l (C2 l a).2)]:=by
 refine Ad.go f114 ?_;unfold f114;refine gO ?_;refine Ao (α:=Nat) (λi=>⟨[(5,I i),(4,.sl (.own 384 0) 1 (eN.map λs=>[.v (.string (str s))])),(3,.sl (.own 1408 0) 4 ((DB l a i).1.map BE.c)),(0,.ptr 63 0)],[(63,EY l (DB l a i).2)]⟩) (λi=>i<=4) (λi=>4-i) 0 (by omega) (AT.Aq ?_ ?_) ?_
 ·simp(disch:=omega)only[go_sem,DB,map_nil];exact .sl rfl
 ·simp(disch:=omega)only[go_sem,DB]
 rintro i hi J hJ;have hn4:eN.length=4:=rfl;simp(disch:=omega)only[go_sem,length_map,hn4];refine ⟨λAP=>?_,λJX=>?_⟩
 ·have AX:i<4:=by simp at AP;omega
  obtain⟨s,hs⟩:∃ s,eN[i]?=some s:=⟨_,gE (by rw[hn4];omega)⟩;have rH:eN.getD i []=s:=by simp[List.getD,hs]
  have QG:=Nr l a i;have lI:DB l a (i+1)=((DB l a i).1++[⟨s,1,1,(Ak l (DB l a i).2 4).1⟩],(Ak l (DB l a i).2 4).2):=by rw[DB,rH]
  generalize DB l a i=ls at lI QG ⊢;obtain⟨ll,a1⟩:=ls;simp only at lI QG ⊢;have iF:=DL l a1 4 hl (by omega);generalize (Ak l a1 4).2=a2 at iF lI ⊢;generalize (Ak l a1 4).1=v at iF lI ⊢;have ID:ll.length+1<=4294967296:=by omega
  refine Ep (st':=⟨[(5,I i),(4,.sl (.own 384 0) 1 (eN.map λs=>[.v (.string (str s))])),(3,.sl (.own 1408 0) 4 (ll.map BE.c)),(0,.ptr 63 0)],[(63,EY l a1)]⟩) AK ?_;refine Dj 2047 [(0,1,0),(1,2,0),(2,4,0),(3,8,6),(4,16,8),(5,32,0),(6,64,32),(7,128,80),(8,256,128),(9,512,321),(10,1024,1023)] [0,1,2,4,32,3,5,33,6,34,36,96,7,35,37,97,14,38,98,100,15,39,99,101,30,46,102,31,47,103,62,110,63,111,126,127,254,255,510,511,1023,2047] (λm=>⟨XE m [(1,13,(if m / 512%2=1 then .undef else .sl (.own 1408 0) 4 (ll.map BE.c))),(2,14,.sl (.own 384 0) 1 (eN.map λs=>[.v (.string (str s))])),(4,15,I i),(8,16,.ep (.own 384 0) i [.v (.string (str s))] 0),(16,17,.v (.string (str s))),(32,18,.ptr 63 0),(64,19,I v),(128,20,.agg (⟨s,1,1,v⟩:BE).c),(256,21,.sl (.own 1344 0) 4 ([(⟨s,1,1,v⟩:BE)].map BE.c)),(512,22,.sl (.own 1408 0) 4 ((ll++[(⟨s,1,1,v⟩:BE)]).map BE.c))]++[(5,I i),(4,.sl (.own 384 0) 1 (eN.map λs=>[.v (.string (str s))])),(3,(if m / 512%2=1 then (if m / 1024%2=1 then .sl (.own 1408 0) 4 ((ll++[(⟨s,1,1,v⟩:BE)]).map BE.c) else .undef) else .sl (.own 1408 0) 4 (ll.map BE.c))),(0,.ptr 63 0)],[(63,EY l (if m / 64%2=1 then a2 else a1))]⟩) ?_ ?_ ?_ B6
  ·exact AK
  ·simp (maxSteps:=100000000)only[Di,Dh,D0,DZ,and_true,Nat.reduceDiv,Nat.reduceMod,Nat.reduceAnd,Nat.reduceEqDiff,reduceIte,true_and,and_false,false_and,and_self]
   repeat'(with_reducible refine And.intro ?_ ?_)
   all_goals simp(disch:=omega)only[go_sem,gm,hs,length_map,nil_append,cons_append]
   all_goals first|exact AT.Aq (by simp(disch:=omega)only[go_sem,nil_append,cons_append,map_append,map_cons,map_nil]) (by simp(disch:=omega)only[go_sem,nil_append,cons_append,map_append,map_cons,map_nil])|(refine call2 ⟨⟨[],[(63,63)],[]⟩,[],[]⟩ iF ?_;simp(disch:=omega)only[go_sem];exact AT.Aq (by simp(disch:=omega)only[go_sem,nil_append,cons_append,map_append,map_cons,map_nil]) (by simp(disch:=omega)only[go_sem,nil_append,cons_append,map_append,map_cons,map_nil]))
  refine gO ?_;refine hJ _ (i+1) (by omega) (by omega) (AT.Aq ?_ ?_)
  ·rw[lI];simp(disch:=omega)only[go_sem]
  ·rw[lI];simp(disch:=omega)only[go_sem]
 have dB:i=4:=by simp at JX;omega
 subst dB;have tz:C2 l a=((DB l a 4).1++[(KV l [112] 8 (DB l a 4).2).1]++[(KV l [113] 3 (KV l [112] 8 (DB l a 4).2).2).1],(KV l [113] 3 (KV l [112] 8 (DB l a 4).2).2).2):=rfl;rw[tz];have rL:=Nr l a 4;generalize DB l a 4=ls at rL ⊢;obtain⟨ll,a1⟩:=ls;simp only at rL ⊢;obtain⟨b1,b2⟩:=Dl l a1 8 (by omega);have iJ:KV l [112] 8 a1=(⟨[112],2,1+(Ak l a1 8).1,(Ak l (Ak l a1 8).2 4).1⟩,(Ak l (Ak l a1 8).2 4).2):=rfl;rw[iJ];have g1:=DL l a1 8 hl (by omega);have g2:=DL l (Ak l a1 8).2 4 hl (by omega);generalize (Ak l a1 8).2=a2 at g1 g2 ⊢;generalize (Ak l a1 8).1=u1 at b1 b2 g1 ⊢;simp only;generalize (Ak l a2 4).2=a3 at g2 ⊢;generalize (Ak l a2 4).1=h1 at g2 ⊢;obtain⟨c1,c2⟩:=Dl l a3 3 (by omega);have og:KV l [113] 3 a3=(⟨[113],2,1+(Ak l a3 3).1,(Ak l (Ak l a3 3).2 4).1⟩,(Ak l (Ak l a3 3).2 4).2):=rfl;rw[og];have g3:=DL l a3 3 hl (by omega);have g4:=DL l (Ak l a3 3).2 4 hl (by omega);generalize (Ak l a3 3).2=a4 at g3 g4 ⊢;generalize (Ak l a3 3).1=u2 at c1 c2 g3 ⊢;simp only;generalize (Ak l a4 4).2=a5 at g4 ⊢;generalize (Ak l a4 4).1=h2 at g4 ⊢;have iN:IntKind.i64.wrap (1+u1)=1+u1:=wrap64 _ (by omega) (by omega);have zf:IntKind.i64.wrap (1+u2)=1+u2:=wrap64 _ (by omega) (by omega);have Ahj:ll.length+1<=4294967296:=by omega
 refine call2 ⟨⟨[],[(63,63)],[]⟩,[],[]⟩ g1 ?_;simp(disch:=omega)only[go_sem,iN];refine call2 ⟨⟨[],[(63,63)],[]⟩,[],[]⟩ g2 ?_;refine gO ?_;refine call2 ⟨⟨[],[(63,63)],[]⟩,[],[]⟩ g3 ?_;simp(disch:=omega)only[go_sem,zf];refine call2 ⟨⟨[],[(63,63)],[]⟩,[],[]⟩ g4 ?_;have w7:ll.length+1+1<=4294967296:=by omega
 simp(disch:=omega)only[go_sem,List.length_append,length_map,List.length_singleton];refine C8 ⟨[],[(63,63)],[2560]⟩ _ ?_ ?_
 ·simp(disch:=omega)only[go_sem];exact .sl (by rw[map_append,map_append];rfl)
 ·exact gI
@[reducible] def ql(l:List MS):AV:=.sl .no 13 (l.map MS.c)
theorem dY(l:List Int)(az:List Atom)(a:Nat):a<=(dX l az a).2:=(GN l a az.length).1
def dT{f:Nat->Expr × Nat}(h:∀ a,a<=(f a).2):∀ n a,a<=(IF f n a).2
 | 0,a=>Nat.le_refl _
 | n+1,a=>le_trans (dT h n a) (h _)
def YY(l:List Int)(az:List Atom):∀ d a,a<=(D3 l az d a).2
 | 0,a=>dY l az a
 | d+1,a=>by
  rw[D3];have h1:=(GN l a 4).1;split
  ·exact le_trans h1 (dY l az _)
  ·have h2:=(GN l (Ak l a 4).2 3).1;have h3:=(GN l (Ak l (Ak l a 4).2 3).2 (1+(Ak l (Ak l a 4).2 3).1)).1;exact le_trans (le_trans (le_trans h1 h2) h3) (dT (λa=>YY l az d a) _ _)
def qJ(l:List Int)(cat:List BE)(a:Nat):a<=(T3 l cat a).2:=le_trans (GN l a 1048576).1 (YY l _ 2 _)
def xA(l:List Int)(a:Nat):a<=(US l a).2:=by grind[Ak,US]
theorem ff(l:List Int)(cat:List BE)(a:Nat):a<=(JA l cat a).2:=by
 have h1:=(GN l a 8).1;have h2:=xA l (Ak l a 8).2;exact le_trans (le_trans h1 h2) (qJ l cat _)
def pX(l:List Int)(cat:List BE)(n:Int)(p:Ac)(a:Nat):a<=(Gy l cat n p a).2:=by
 unfold Gy
 repeat' split
 all_goals first|exact Nat.le_refl _|exact(GN _ _ _).1|grind[ff]
theorem Oo(l:List Int)(cat:List BE)(a:Nat)(h:a<l.length):a<(GA l cat a).2:=by
 have h1:=(GN l a 16).2 h;have h2:=(GN l (Ak l a 16).2 6).1;have h3:=pX l cat (Ak l a 16).1 (R9 (Ak l (Ak l a 16).2 6).1) (Ak l (Ak l a 16).2 6).2;show a<(Gy l cat (Ak l a 16).1 (R9 (Ak l (Ak l a 16).2 6).1) (Ak l (Ak l a 16).2 6).2).2;omega
def Fs(l:List Int)(a:Nat):Nat->List MS × Nat
 | 0=>([],a)
 | i+1=>((Fs l a i).1++[⟨1,R9 i,Fc,[],1+(Ak l (Fs l a i).2 9).1⟩],(Ak l (Fs l a i).2 9).2)
def Nw(l:List Int)(a:Nat):∀ i,(Fs l a i).1.length=i
 | 0=>rfl
 | i+1=>by simp[Fs,Nw l a i]
def LX(l:List Int)(cat:List BE)(a:Nat):List MS :=
 if h:a<l.length then (GA l cat a).1::LX l cat (GA l cat a).2 else []
 termination_by l.length-a
 decreasing_by grind[Oo]
def G3(l:List Int):List BE × List MS:=((C2 l 0).1,(Fs l (C2 l 0).2 4).1++LX l (C2 l 0).1 (Fs l (C2 l 0).2 4).2)
theorem R2(l:List Int)(a:Nat):∀ i,∀ r∈(DB l a i).1,r.AG=1
 | 0,r,h=>by grind[DB]
 | i+1,r,h=>by
  simp only[DB,List.mem_append,List.mem_singleton]at h;rcases h with h|rfl
  ·exact R2 l a i r h
  ·rfl
def Rh(l:List Int)(a:Nat):(C2 l a).1.length=6:=by simp[C2,Nr]
def VW(l:List Int)(a:Nat):∀ r∈(C2 l a).1,r.AG<=1000000:=λr h=>by
 simp only[C2,List.mem_append,List.mem_singleton]at h;rcases h with (h|rfl)|rfl
 ·grind[R2]
 ·have:=(Dl l (DB l a 4).2 8 (by omega)).2;simp only[KV];omega
 ·have:=(Dl l (KV l [112] 8 (DB l a 4).2).2 3 (by omega)).2;simp only[KV]at this ⊢;omega
def AaC(l:List Int)(hl:l.length<=1000000):Ad C0 67 [Ju l] [] (.BC [GO (G3 l).1,ql (G3 l).2]) []:=by
 refine Ad.go f67 ?_;unfold f67;refine gO ?_;refine call2 ⟨⟨[],[(640,63)],[]⟩,[],[]⟩ (vk l 0 hl) (gO ?_);have RN:=Rh l 0;have hcu:=VW l 0;have rX:G3 l=((C2 l 0).1,(Fs l (C2 l 0).2 4).1++LX l (C2 l 0).1 (Fs l (C2 l 0).2 4).2):=rfl;rw[rX];generalize (C2 l 0).2=ue at RN ⊢;generalize (C2 l 0).1=cat at RN hcu ⊢;refine Ao (α:=Nat) (λi=>⟨[(7,I i),(6,.sl (.own 1600 0) 13 ((Fs l ue i).1.map MS.c)),(5,GO cat),(4,.ptr 640 0)],[(640,EY l (Fs l ue i).2)]⟩) (λi=>i<=4) (λi=>4-i) 0 (by omega) (AT.Aq ?_ ?_) ?_
 ·simp only[go_sem,Fs]
 ·simp only[go_sem,Fs]
 rintro i hi J hJ;refine gO ?_;refine ⟨λAP=>?_,λJX=>?_⟩
 ·have AX:i<4:=by grind
  have QG:=Nw l ue i;have lI:Fs l ue (i+1)=((Fs l ue i).1++[⟨1,R9 i,Fc,[],1+(Ak l (Fs l ue i).2 9).1⟩],(Ak l (Fs l ue i).2 9).2):=rfl;generalize Fs l ue i=ls at lI QG ⊢;obtain⟨ll,a1⟩:=ls;simp only at lI QG ⊢;have hb:=Dl l a1 9 (by omega);have hw:IntKind.i64.wrap (1+(Ak l a1 9).1)=1+(Ak l a1 9).1:=wrap64 _ (by omega) (by omega);refine Ab (yJ i) (gO ?_);refine call2 ⟨⟨[],[(640,63)],[]⟩,[],[]⟩ (DL l a1 9 hl (by omega)) ?_;simp(disch:=omega)only[go_sem,hw];refine hJ _ (i+1) (by omega) (by omega) (AT.Aq ?_ ?_)
  ·rw[lI];refine gO ?_;rw[map_append];refine .xL (II.append _ ?_);simp only[Fc,e0,a0,Expr.k,Expr.atom,Expr.kids,map_cons,map_nil,MS.c,II,MU,gx];simp
  ·rw[lI];exact gI
 have dB:i=4:=by grind
 subst dB;have QG:=Nw l ue 4;generalize Fs l ue 4=ls at QG ⊢;obtain⟨op,a1⟩:=ls;simp only at QG ⊢;refine Ao (α:=List MS × Nat) (λx=>⟨[(6,.sl (.own 2112 0) 13 (x.1.map MS.c)),(5,GO cat),(4,.ptr 640 0)],[(640,EY l x.2)]⟩) (λx=>x.1++LX l cat x.2=op++LX l cat a1/\x.1.length+(l.length-x.2)<=1000010) (λx=>l.length-x.2) (op,a1) ⟨rfl,by grind⟩ (AT.CX ⟨[(1600,2112)],[(640,640)],[]⟩ ⟨rfl,rfl⟩ (by grind) ?_ ?_) ?_
 ·exact gI
 ·exact gI
 rintro⟨out,a2⟩ ⟨Vt,Xj⟩ J hJ;simp only at Vt Xj ⊢;refine gO ?_;refine call2 ⟨⟨[],[(640,63)],[]⟩,[],[]⟩ (vl l a2 hl) (gO ?_);refine ⟨λAP=>?_,λJX=>?_⟩
 ·have AX:a2<l.length:=by grind
  have hun:LX l cat a2=(GA l cat a2).1::LX l cat (GA l cat a2).2:=by rw[LX,dif_pos AX]
  have Vq:=Oo l cat a2 AX;have ID:out.length+1<=4294967296:=by omega
  refine call2 ⟨⟨[],[(640,63)],[]⟩,[],[]⟩ (vm l a2 cat hl (by omega) hcu) (gO ?_);refine hJ _ (out++[(GA l cat a2).1],(GA l cat a2).2) ⟨?_,?_⟩ ?_ (AT.Aq ?_ ?_)
  ·grind
  ·grind
  ·omega
  ·refine gO ?_;exact .sl (by rw[map_append];rfl)
  ·exact gI
 have AeF:l.length<=a2:=by grind
 have hun:LX l cat a2=[]:=by rw[LX,dif_neg (by omega)]
 rw[hun,List.append_nil]at Vt;rw[<- Vt];refine AY ⟨[],[],[2112]⟩ _ (by(try simp only[go_sem,Cx,Gv])<;>rfl) ⟨rfl,rfl⟩ (by grind) ?_ trivial;exact gI
def JS(r:BE):Queue:=⟨r,[],[],[],0⟩
def QS(l:List BE):List Queue × Int:=if Jm l then (l.map JS,0) else ([],1)
def vn(l:List BE)(hl:l.length<=1000000):Ad C0 118 [GO l] [] (.BC [AN (QS l).1,I (QS l).2]) []:=by
 refine Ad.go f118 ?_;unfold f118;refine gO ?_;refine Ab (kA l) ?_;cases h:Jm l
 ·have e:QS l=([],1):=by simp[QS,h]
  rw[e];simp(disch:=omega)only[go_sem,h,Bool.not_false];refine CT _ ?_;simp(disch:=omega)only[go_sem,map_nil];refine .BC (Ae.AJ ?_);simp(disch:=omega)only[go_sem]
  repeat'(with_reducible apply And.intro)
  all_goals(first|exact .A8 (by omega)|exact .agg (Ae.AJ gI))
 ·have e:QS l=(l.map JS,0):=by simp[QS,h]
  rw[e];simp(disch:=omega)only[go_sem,h,Bool.not_true];refine AF (l) (λi=>⟨[(5,I i),(0,GO l),(4,.sl (.own 1408 0) 8 (((l.take i).map JS).map Queue.c))],[]⟩) (λi=>True) trivial ?_ ?_
  ·exact Ce
  rintro i ⟨hi,hP⟩ J hJ;refine gO ?_;refine Bo hi (λAP b hb Cg AX=>?_) λBa=>?_
  ·simp(disch:=omega)only[go_sem,gm,hb];refine hJ _ (i+1) ⟨by omega,trivial⟩ (by omega) (AT.Aq ?_ ?_)
   ·simp(disch:=omega)only[go_sem];rw[take_add_one,hb,toList_some,map_append];refine .xL (II.append _ ?_);simp only[map_cons,map_nil,Function.comp_def,JS,Queue.c,II,MU,gx];simp
   ·exact gI
  ·subst Ba;rw[take_length];refine AY ⟨[],[],[1408]⟩ _ (by(try simp(disch:=omega)only[go_sem,Cx,Gv])<;>rfl) ⟨rfl,rfl⟩ (by simp[lk]) ?_ trivial;simp(disch:=omega)only[go_sem,AN,List.map_map]
def R4(l:List BE):Hw × Int:=if (QS l).2=0 then (⟨0,(QS l).1,[]⟩,0) else (⟨0,[],[]⟩,(QS l).2)
def AaD(l:List BE)(hl:l.length<=1000000):Ad C0 68 [GO l] [] (.BC [.agg (R4 l).1.c,I (R4 l).2]) []:=by
 refine Ad.go f68 ?_;unfold f68;refine gO ?_;refine Ab (vn l hl) ?_;refine gO ?_
 by_cases h:(QS l).2=0
 ·have e:R4 l=(⟨0,(QS l).1,[]⟩,0):=by simp[R4,h]
  rw[e];simp(disch:=omega)only[go_sem,h];refine CT _ ?_;simp(disch:=omega)only[go_sem,map_nil];refine .BC (Ae.AJ ?_);simp(disch:=omega)only[go_sem]
  repeat'(with_reducible apply And.intro)
  all_goals(first|exact .A8 (by omega)|exact .agg (Ae.AJ gI))
 ·have e:R4 l=(⟨0,[],[]⟩,(QS l).2):=by simp[R4,h]
  have h':((QS l).2 !=0)=true:=by simpa using h
  rw[e];simp(disch:=omega)only[go_sem,h'];refine CT _ ?_;simp(disch:=omega)only[go_sem,map_nil];refine .BC (Ae.AJ ?_);simp(disch:=omega)only[go_sem]
  repeat'(with_reducible apply And.intro)
  all_goals(first|exact .A8 (by omega)|exact .agg (Ae.AJ gI))
def dW{w:Ap}:∀ (n:Nat) (w:Ap),JE none w->JE none (J1 n w)
 | 0,w,h=>h
 | n+1,w,h=>by
  simp[J1];split
  ·exact h
  ·rename_i x hx;split
   ·exact h
   ·rename_i AP;rcases Ki w with he|⟨k,y,he,hy,hyw⟩
    ·omega
    ·rw[he]at hx ⊢;simp at hx ⊢;rw[hy]at hx;have:=Option.some.inj hx;subst this;exact dW (w:=w) n _ (Lu JE.Gf _ _ (WT JE.yF h hy hyw).1).1
def I2{Inv:Ap->Prop}(hI:Ku Inv){w:Ap}(h:Inv w):Fa (B3 w).Aa:=(hI.lz _ (Lu hI _ _ h).1).1
theorem vc{w:Ap}(k:MS)(h:Fit w):Fa (NX w k).1.Aa:=by
 have hf:=Dx h.je.tab;unfold NX;split
 ·exact hf
 split
 ·unfold F2
  repeat' split
  all_goals exact hf
 split
 ·unfold JH;split
  ·exact hf
  split
  ·exact hf
  ·exact Dx (dW (w:=w) (wcount { w with now:=w.now+k.n }) { w with now:=w.now+k.n } ⟨h.je.tab,h.je.n,h.je.uq,h.je.FM⟩).tab
 split
 ·exact hf
 ·rename_i i gA;obtain⟨x,hx⟩:=YO gA;have Ya:=mG hx;have hi:=Au hx;have hg:w.procs.getD i x0=x:=by grind
  rw[hg];unfold Qv;split
  ·unfold Ez;split
   ·exact hf
   rename_i a1;split
   ·rename_i a2;split
    ·rename_i a3;refine I2 XV.Gf (cN h.je hx (h.idle x Ya (by grind)) (by simp_all[Hm]) (λa ha=>?_)).2;obtain⟨n,_,hn,_⟩:=DF h.je.tab a3 ha;grind
    ·exact hf
   ·exact hf
  split
  ·split
   ·rename_i hw;obtain⟨s1,s2,_⟩:=E8 h.je hx hw;have Vt:(Bb w i x).procs[i]?=some (CH x):=by grind[Ch]
    exact I2 JE.Gf (s2.next Vt)
   ·exact hf
  split
  ·unfold Fv;split
   ·exact hf
   rename_i a1;split
   ·exact hf
   ·exact I2 XV.Gf (WA h.je hx (by grind))
  split
  ·split
   ·exact hf
   ·split
    ·exact hf
    ·exact hf
  split
  ·unfold Fx;split
   ·rename_i a1;exact I2 JE.Gf (Yo h.je hx (h.fits x Ya) (h.idle x Ya) (h.wait x Ya) a1).2
   ·exact hf
  split
  ·split
   ·exact hf
   ·exact I2 JE.Gf (PF h.je hx)
  ·exact I2 JE.Gf (PF h.je hx)
theorem va{c:Hw}(k:MS):Fa (Yz c k).1.Aa:=by
 unfold Yz;split
 ·rename_i hv;split
  ·grind[vc,Lh]
  ·exact PB
 ·exact PB
def MH(c:Hw)(k:MS):Hw:=if (Yz c k).2.2=0 then (Yz c k).1 else c
def runM(c:Hw)(ks:List MS):Hw:=ks.foldl MH c
def tI{c:Hw}(k:MS)(h:Fa c.Aa):Fa (MH c k).Aa:=by grind[MH,va]
def bT:∀ (ks:List MS) (c:Hw),Fa c.Aa->Fa (runM c ks).Aa
 |[],_,h=>h
 | k::ks,c,h=>bT ks (MH c k) (tI k h)
def oV{c:Hw}{ks:List MS}{i:Nat}{b:MS}(hb:ks[i]?=some b):runM c (ks.take (i+1))=MH (runM c (ks.take i)) b:=by simp[runM,take_add_one,hb,List.foldl_append]
def AaE(c:Hw)(ks:List MS)(h:Fa c.Aa)(hl:ks.length<=1000000):Ad C0 69 [.agg c.c,ql ks] [] (.agg (runM c ks).c) []:=by
 refine Ad.go f69 ?_;unfold f69;refine gO ?_;refine Ao (α:=Nat) (λi=>⟨[(5,I i),(4,.ptr 256 0),(2,.ptr 128 0),(1,ql ks)],[(256,X0.c),(128,(runM c (ks.take i)).c)]⟩) (λi=>i<=ks.length) (λi=>ks.length-i) 0 (by omega) (AT.Aq ?_ ?_) ?_
 ·exact gI
 ·simp only[go_sem,X0,runM,List.foldl_nil]
  done
 rintro i hi J hJ;refine gO ?_;refine ⟨λAP=>?_,λJX=>?_⟩
 ·obtain⟨b,hb⟩:∃ b,ks[i]?=some b:=⟨_,gE (by grind)⟩;have AX:=Au hb;have hfe:=bT (ks.take i) c h;have S8:=oV (c:=c) hb;generalize runM c (ks.take i)=c1 at hfe S8 ⊢;refine Kh 11 [([],[2]),([],[1]),([],[5]),([1,2],[17,18]),([1,2,3],[19]),([0,1,2,3,4],[16,20]),([0,1,2,3,4,5],[21]),([0,1,2,3,4,5,6],[15]),([0,1,2,3,4,5,6],[15]),([0,1,2,3,4,5,6],[15]),([],[]),([0,1,2,3,4,5,6,7,10],[]),([0,1,2,3,4,5,6,7,8,10,11],[]),([0,1,2,3,4,5,6,7,8,9,10,11,12],[])] [8,9] [([],[15,6,22,5,4,2,1],let o0:OT:=.done;let o1:OT:=.pick [(13,o0)];let o2:OT:=.pick [(12,o1)];let o3:OT:=.pick [(11,o2)];let o4:OT:=.pick [(9,o1)];let o5:OT:=.pick [(9,o2),(12,o4)];let o6:OT:=.pick [(9,o3),(11,o5)];let o7:OT:=.pick [(8,o2)];let o8:OT:=.pick [(8,o3),(11,o7)];let o9:OT:=.pick [(8,o5),(9,o7)];let gu:OT:=.pick [(8,o6),(9,o8),(11,o9)];gu),([9],[15,6,22,24,5,4,2,1],let o0:OT:=.done;let o1:OT:=.pick [(13,o0)];let o2:OT:=.pick [(12,o1)];let o3:OT:=.pick [(11,o2)];let o4:OT:=.pick [(8,o2)];let o5:OT:=.pick [(8,o3),(11,o4)];o5),([8],[15,6,22,23,5,4,2,1],let o0:OT:=.done;let o1:OT:=.pick [(13,o0)];let o2:OT:=.pick [(12,o1)];let o3:OT:=.pick [(11,o2)];let o4:OT:=.pick [(9,o1)];let o5:OT:=.pick [(9,o2),(12,o4)];let o6:OT:=.pick [(9,o3),(11,o5)];o6),([8,9],[6,22,23,24,5,4,2,1],let o0:OT:=.done;let o1:OT:=.pick [(13,o0)];let o2:OT:=.pick [(12,o1)];let o3:OT:=.pick [(11,o2)];o3)] B6 (by kernel_rfl) ?_;simp only[go_sem,hb]
  first|(refine Ab (j9 c1 b hfe) ?_)|(refine Ax (j9 c1 b hfe) ?_)
  by_cases h0:(Yz c1 b).2.2=0
  ·have GR:MH c1 b=(Yz c1 b).1:=by simp[MH,h0]
   rw[GR]at S8;refine gS ?_
   repeat'(with_reducible refine And.intro ?_ ?_)
   all_goals
    refine hJ _ (i+1) (by omega) (by omega) (AT.Aq ?_ ?_)
    ·exact gI
    ·rw[S8];simp(disch:=omega)only[go_sem,X0]
  ·have GR:MH c1 b=c1:=by simp[MH,h0]
   have h0':((Yz c1 b).2.2==0)=false:=by grind
   rw[GR]at S8;refine gS ?_
   repeat'(with_reducible refine And.intro ?_ ?_)
   all_goals
    refine hJ _ (i+1) (by omega) (by omega) (AT.Aq ?_ ?_)
    ·exact gI
    ·rw[S8];simp(disch:=omega)only[go_sem,X0]
 have dB:i=ks.length:=by grind
 subst dB;rw[take_length];exact AQ _
def Cb(l:List Int):Hw:=runM (R4 (G3 l).1).1 (G3 l).2
def Uv(l:List Int):(G3 l).1.length=6:=Rh l 0
def l7(l:List BE)(hl:l.length<=100):Fa (R4 l).1.Aa:=by
 unfold R4;split
 ·unfold QS;split
  ·refine⟨by grind,λq hq=>?_⟩;simp at hq;obtain⟨r,_,rfl⟩:=hq;simp[JS,BS,B7]
  ·exact PB
 ·exact PB
def Yt(l:List Int)(cat:List BE):∀ (n a:Nat),l.length-a<=n->(LX l cat a).length<=n
 | 0,a,h=>by rw[LX,dif_neg (by omega)];simp
 | n+1,a,h=>by
  rw[LX];split
  ·rename_i AP;have:=Oo l cat a AP;have:=Yt l cat n (GA l cat a).2 (by omega);simp;omega
  ·simp
def bU(l:List Int):(G3 l).2.length<=l.length+4:=by simp_all[Yt,Fs,G3]
def Aaq(l:List Int)(hl:l.length<=10000):Ad C0 30 [Ju l] [] (.agg (Cb l).c) []:=by
 have h1:=Uv l;have h2:=bU l;have h3:=l7 (G3 l).1 (by omega);refine Ad.go f30 ?_;unfold f30;refine gO ?_;refine Ab (AaC l (by omega)) (gO ?_);refine Ab (AaD (G3 l).1 (by omega)) ?_;refine gO ?_;refine Ab (AaE (R4 (G3 l).1).1 (G3 l).2 h3 (by omega)) (gO ?_);refine CT _ ?_;simp only[go_sem,Cb]
def jj(x:Bu):Need:={ proc:=x.proc,expr:=x.Bk.expr,gen:=x.gen }
def FN(l:List Bu):List Need:=(l.filter (·.waiting)).map jj
def eL{l:List Bu}{i:Nat}{b:Bu}(hb:l[i]?=some b):FN (l.take (i+1))=FN (l.take i)++if b.waiting then [jj b] else []:=by
 unfold FN;rw[take_add_one,hb,toList_some,List.filter_append,map_append];cases h:b.waiting<;>simp[h]
def QR(l:List Bu)(i:Nat):(FN (l.take i)).length<=i:=by
 unfold FN;rw[length_map];exact le_trans (List.length_filter_le _ _) (by simp;omega)
def ofM(c:Hw):WS:=if Ck c then ⟨c.Aa,FN c.procs⟩ else ⟨[],[]⟩
def qT(c:Hw)(h:Fa c.Aa):Ad C0 29 [.agg c.c] [] (.agg (ofM c).c) []:=by
 have hn:=h.n;refine Ad.go f29 ?_;unfold f29;refine gO ?_;refine Ab (q9 c h) ?_;cases hv:Ck c
 ·have ht:ofM c=⟨[],[]⟩:=by simp[ofM,hv]
  rw[ht];simp(disch:=omega)only[go_sem,Bool.not_false];refine CT _ ?_;simp(disch:=omega)only[go_sem,map_nil];exact .agg (Ae.AJ gI)
 have Sv:c.procs.length<=8:=(Lh hv).je.n;have ht:ofM c=⟨c.Aa,FN c.procs⟩:=by simp[ofM,hv]
 rw[ht];simp(disch:=omega)only[go_sem,Bool.not_true];refine AF (c.procs) (λi=>⟨[(4,I i),(3,.ptr 192 0),(2,.ptr 128 0),(1,.ptr 64 0)],[(192,[.sl (.own 768 0) 8 (c.Aa.map Queue.c),.sl (.own 3200 0) 9 ((FN (c.procs.take i)).map Need.c)]),(128,[.v (.slice none 0 0),.v (.slice none 0 0)]),(64,c.c)]⟩) (λi=>True) trivial ?_ ?_
 ·refine AT.Aq ?_ ?_
  all_goals(try simp(disch:=omega)only[go_sem])
  all_goals(try(repeat'(with_reducible apply And.intro)))
  all_goals(first|exact .Cr (by omega)|exact .A8 (by omega)|exact .sl (by simp[FN])|exact .int (by simp[FN])|exact .eq (by simp[FN]))
 rintro i ⟨hi,hP⟩ J hJ;refine gO ?_;refine Bo hi (λAP b hb Cg AX=>?_) λBa=>?_
 ·have pI:=QR c.procs i;have S8:=eL hb;generalize FN (c.procs.take i)=ns at pI S8 ⊢;have ID:ns.length+1<=4294967296:=by omega
  simp(disch:=omega)only[go_sem,gm,hb];cases hw:b.waiting
  ·rw[hw]at S8;simp only[Bool.false_eq_true,if_false,List.append_nil]at S8;simp(disch:=omega)only[go_sem,hw];refine hJ _ (i+1) ⟨by omega,trivial⟩ (by omega) (AT.Aq ?_ ?_)
   all_goals(try simp(disch:=omega)only[go_sem])
   all_goals(try(repeat'(with_reducible apply And.intro)))
   all_goals(first|exact .Cr (by omega)|exact .A8 (by omega)|exact .sl (by simp[S8])|exact .int (by simp[S8])|exact .eq (by simp[S8]))
  ·rw[hw]at S8;simp only[if_true]at S8;simp(disch:=omega)only[go_sem,hw];refine Ay 23 [([],[3]),([],[27]),([],[1]),([],[29]),([],[4]),([],[30,31]),([],[32]),([],[33]),([],[1]),([],[35]),([],[4]),([],[36,37]),([],[38]),([],[39]),([],[40]),([],[1]),([],[42]),([],[4]),([],[43,44]),([],[45]),([],[46]),([],[34,41,47]),([],[48])] B6 ?_;simp(disch:=omega)only[go_sem,gm,hb];refine hJ _ (i+1) ⟨by omega,trivial⟩ (by omega) (AT.Aq ?_ ?_)
   ·exact gI
   ·rw[S8];refine gO ?_;exact .sl (by rw[map_append];rfl)
 ·subst Ba;rw[take_length];refine AY ⟨[],[],[768,3200]⟩ _ (by(try simp(disch:=omega)only[go_sem,Cx,Gv])<;>rfl) ⟨rfl,rfl⟩ (by simp[lk]) ?_ trivial;simp(disch:=omega)only[go_sem]
def DU(l:List Int):WS:=ofM (Cb l)
def TQ(l:List Int):Fa (Cb l).Aa:=bT _ _ (l7 _ (by rw[Uv];omega))
def sQ(c:Hw)(h:Fa c.Aa):Iy (ofM c):=by
 unfold ofM;split
 ·rename_i hv;have Sv:c.procs.length<=8:=(Lh hv).je.n;have:=QR c.procs c.procs.length;rw[take_length]at this;exact⟨h.n,by show (FN c.procs).length<=100;omega,h.q⟩
 ·exact⟨by simp,by simp,by simp⟩
def MG(l:List Int):Iy (DU l):=sQ _ (TQ l)
end Go.Rd
