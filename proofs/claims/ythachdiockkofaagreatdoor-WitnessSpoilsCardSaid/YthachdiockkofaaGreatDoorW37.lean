/- part 37 of the proof -/
import Derived.Test.YthachdiockkofaaGreatDoorW36
set_option linter.all false
open Go Go.Abs Go.Proofs
set_option maxRecDepth 100000
namespace Go.Rd
set_option maxHeartbeats 8000000
open List (append_nil cons_append length_append length_map map_append map_cons map_nil mem_append nil_append take_add_one take_length)
open Option (toList_some)
open Nat (le_trans)
open Tryz
def shM(n:Int)(i:Nat):Int:=n.fdiv (2 ^ min (3*i) 64)
def Gn(cat:List Res)(n:Int):Nat→List Atom
 | 0=>[]
 | i+1=>Gn cat n i++[⟨(cat.getD i r0).name,Jt (cat.getD i r0) (shM n i)⟩]
theorem L7(cat:List Res)(n:Int):∀ i,(Gn cat n i).length=i
 | 0=>rfl
 | i+1=>by simp[Gn,L7 cat n i]
def OQ(l:List Int)(cat:List Res)(a:Nat):Expr × Nat:=CV l (Gn cat (Ak l a 1048576).1 cat.length) 2 (Ak l a 1048576).2
theorem wrapu(i:Nat)(h:i≤1000):IntKind.u64.wrap (3*(i:Int))=3*i:=by
 simp only[IntKind.wrap,IntKind.signed,IntKind.bits,Bool.false_and,Bool.false_eq_true,if_false];omega
theorem f152_ok(l:List Int)(a:Nat)(cat:List Res)(hl:l.length≤1000000)(hc:1≤cat.length∧cat.length≤100)(hu:∀ r∈cat,r.AA≤1000000):Ad C0 152 [.ptr 63 0,Fa cat] [(63,DA l a)] (.agg (OQ l cat a).1.c) [(63,DA l (OQ l cat a).2)]:=by
 refine Ad.go f152 ?_;unfold f152;refine gO ?_;refine call2 ⟨⟨[],[(63,63)],[]⟩,[],[]⟩ (f37_ok l a 1048576 hl (by omega)) ?_;refine gO ?_;have e:OQ l cat a=CV l (Gn cat (Ak l a 1048576).1 cat.length) 2 (Ak l a 1048576).2:=rfl;rw[e];generalize (Ak l a 1048576).2=a1;generalize (Ak l a 1048576).1=first;refine Ab (α:=Nat) (fun i=>⟨[(7,I i),(6,.sl (.own 2176 0) 3 ((Gn cat first i).map Atom.c)),(5,I first),(4,.ptr 256 0),(0,.ptr 63 0),(1,Fa cat)],[(256,[I 0,.v (.string (str [])),I 0,I 0,.v (.slice none 0 0)]),(63,DA l a1)]⟩) (fun i=>i≤cat.length) (fun i=>cat.length-i) 0 (by omega) (Imp.Am ?_ ?_) ?_
 ·simp(disch:=omega)only[go_sem,Gn,map_nil]
 ·exact gI
 rintro i hi J hJ;simp(disch:=omega)only[go_sem,length_map];refine ⟨fun hlt=>?_,fun hge=>?_⟩
 ·have hlt2:i<cat.length:=by simp at hlt;omega
  obtain⟨r,hr⟩:∃ r,cat[i]?=some r:=⟨_,gE hlt2⟩;have hgd:cat.getD i r0=r:=by simp[List.getD,hr]
  have hur:=hu r (mG hr);have hwu:=wrapu i (by omega);have hal:=L7 cat first i;have han:Gn cat first (i+1)=Gn cat first i++[⟨r.name,Jt r (shM first i)⟩]:=by rw[Gn,hgd]
  have hsh:first.fdiv (2 ^ min (3*(i:Int)).toNat 64)=shM first i:=by rw[shM,show (3*(i:Int)).toNat=3*i by omega]
  have hbd:(Gn cat first i).length+1≤4294967296:=by omega
  generalize Gn cat first i=az at han hal hbd ⊢;refine Aq 18 [([],[6]),([],[1]),([],[7]),([],[17,18]),([],[19]),([],[20]),([],[1]),([],[7]),([],[22,23]),([],[24]),([],[5]),([],[7]),([],[27]),([],[28]),([],[26,29]),([],[25,30]),([15],[21,31]),([15],[32])] fol ?_;simp(disch:=omega)only[go_sem,gm,hr,hwu,eq_false (show ¬ (3*(i:Int))<0 by omega),hsh,Option.map_some]
  first|(refine Ac (f234_ok r (shM first i) hur) ?_)|(refine Ar (f234_ok r (shM first i) hur) ?_)
  refine gO ?_;refine hJ _ (i+1) (by omega) (by omega) (Imp.Am ?_ ?_)
  ·simp(disch:=omega)only[go_sem];rw[han,map_append,map_cons,map_nil];exact .rfl
  ·exact gI
 have him:i=cat.length:=by simp at hge;omega
 subst him;have hal:=L7 cat first cat.length;refine PS [2176] ⟨⟨[],[(63,63)],[]⟩,[],[]⟩ (f235_ok l (Gn cat first cat.length) hl (by omega) 2 a1 (by omega)) gI rfl gI (.inl rfl) ?_;refine gO ?_;refine Ci ⟨[],[(63,63)],[]⟩ _ ?_ ?_
 ·exact gI
 ·exact gI
def Ph(l:List Int)(a:Nat):Int × Nat:=if (Ak l a 5).1=1 then (1+(Ak l (Ak l a 5).2 20).1,(Ak l (Ak l a 5).2 20).2) else (0,(Ak l a 5).2)
def G2(l:List Int)(cat:List Res)(a:Nat):Req × Nat :=
 (⟨(OQ l cat (Ph l (Ak l a 8).2).2).1,(Ak l a 8).1,(Ph l (Ak l a 8).2).1⟩,(OQ l cat (Ph l (Ak l a 8).2).2).2)
theorem f96_ok(l:List Int)(a:Nat)(cat:List Res)(hl:l.length≤1000000)(hc:1≤cat.length∧cat.length≤100)(hu:∀ r∈cat,r.AA≤1000000):Ad C0 96 [.ptr 63 0,Fa cat] [(63,DA l a)] (.agg (G2 l cat a).1.c) [(63,DA l (G2 l cat a).2)]:=by
 refine Ad.go f96 ?_;unfold f96;refine gO ?_;refine call2 ⟨⟨[],[(63,63)],[]⟩,[],[]⟩ (f37_ok l a 8 hl (by omega)) ?_;have e:G2 l cat a=(⟨(OQ l cat (Ph l (Ak l a 8).2).2).1,(Ak l a 8).1,(Ph l (Ak l a 8).2).1⟩,(OQ l cat (Ph l (Ak l a 8).2).2).2):=rfl;rw[e];generalize (Ak l a 8).2=a1;generalize (Ak l a 8).1=prio;refine gO ?_;refine call2 ⟨⟨[],[(63,63)],[]⟩,[],[]⟩ (f37_ok l a1 5 hl (by omega)) ?_
 by_cases h1:(Ak l a1 5).1=1
 ·have e1:Ph l a1=(1+(Ak l (Ak l a1 5).2 20).1,(Ak l (Ak l a1 5).2 20).2):=by simp only[Ph,h1,if_true]
  rw[e1];have hb:=Ew l (Ak l a1 5).2 20 (by omega);have hw:IntKind.i64.wrap (1+(Ak l (Ak l a1 5).2 20).1)=1+(Ak l (Ak l a1 5).2 20).1:=wrap64 _ (by omega) (by omega);simp(disch:=omega)only[go_sem,h1];refine call2 ⟨⟨[],[(63,63)],[]⟩,[],[]⟩ (f37_ok l (Ak l a1 5).2 20 hl (by omega)) ?_;simp(disch:=omega)only[go_sem,hw];refine call2 ⟨⟨[],[(63,63)],[]⟩,[],[]⟩ (f152_ok l (Ak l (Ak l a1 5).2 20).2 cat hl hc hu) ?_;refine gO ?_;refine Ci ⟨[],[(63,63)],[]⟩ _ ?_ ?_
  ·exact gI
  ·exact gI
 ·have e1:Ph l a1=(0,(Ak l a1 5).2):=by simp only[Ph,h1,if_false]
  rw[e1];have h1':((Ak l a1 5).1==1)=false:=by simpa using h1
  simp(disch:=omega)only[go_sem,h1'];refine call2 ⟨⟨[],[(63,63)],[]⟩,[],[]⟩ (f152_ok l (Ak l a1 5).2 cat hl hc hu) ?_;refine gO ?_;refine Ci ⟨[],[(63,63)],[]⟩ _ ?_ ?_
  ·exact gI
  ·exact gI
def E0(l:List Int)(cat:List Res)(n:Int)(p:Ae)(a:Nat):Cmd × Nat :=
 if n=0 then (⟨1,p,Dg,[],1+(Ak l a 9).1⟩,(Ak l a 9).2)
 else if n<9 then (⟨2,p,(G2 l cat a).1,[],0⟩,(G2 l cat a).2)
 else if n=9 then (⟨3,p,Dg,[],0⟩,a)
 else if n=10 then (⟨4,p,Dg,(cat.getD (Ak l a cat.length).1.toNat r0).name,0⟩,(Ak l a cat.length).2)
 else if n=11 then (⟨5,p,Dg,[],1+(Ak l a 4).1⟩,(Ak l a 4).2)
 else if n=12 then (⟨6,p,Dg,[],(Ak l a 5).1⟩,(Ak l a 5).2)
 else if n=13 then (⟨7,p,Dg,[],0⟩,a)
 else if n=14 then (⟨8,p,Dg,[],0⟩,a)
 else (⟨9,p,Dg,[],(Ak l a 12).1⟩,(Ak l a 12).2)
def E2(l:List Int)(cat:List Res)(a:Nat):Cmd × Nat:=E0 l cat (Ak l a 16).1 (Np (Ak l (Ak l a 16).2 6).1) (Ak l (Ak l a 16).2 6).2
theorem f50_ok(l:List Int)(a:Nat)(cat:List Res)(hl:l.length≤1000000)(hc:1≤cat.length∧cat.length≤100)(hu:∀ r∈cat,r.AA≤1000000):Ad C0 50 [.ptr 63 0,Fa cat] [(63,DA l a)] (.agg (E2 l cat a).1.c) [(63,DA l (E2 l cat a).2)]:=by
 refine Ad.go f50 ?_;unfold f50;refine gO ?_;refine call2 ⟨⟨[],[(63,63)],[]⟩,[],[]⟩ (f37_ok l a 16 hl (by omega)) ?_;refine gO ?_;refine call2 ⟨⟨[],[(63,63)],[]⟩,[],[]⟩ (f37_ok l (Ak l a 16).2 6 hl (by omega)) ?_;refine gO ?_;refine Ac (b0 (Ak l (Ak l a 16).2 6).1) ?_;have e:E2 l cat a=E0 l cat (Ak l a 16).1 (Np (Ak l (Ak l a 16).2 6).1) (Ak l (Ak l a 16).2 6).2:=rfl;rw[e];generalize Np (Ak l (Ak l a 16).2 6).1=p;generalize (Ak l (Ak l a 16).2 6).2=a1;generalize (Ak l a 16).1=n
 by_cases h0:n=0
 ·have ht:E0 l cat n p a1=(⟨1,p,Dg,[],1+(Ak l a1 9).1⟩,(Ak l a1 9).2):=by simp[E0,h0]
  have hb:=Ew l a1 9 (by omega);have hw:IntKind.i64.wrap (1+(Ak l a1 9).1)=1+(Ak l a1 9).1:=wrap64 _ (by omega) (by omega);rw[ht];simp(disch:=omega)only[go_sem,h0];refine call2 ⟨⟨[],[(63,63)],[]⟩,[],[]⟩ (f37_ok l a1 9 hl (by omega)) ?_;simp(disch:=omega)only[go_sem,hw];refine Ci ⟨[],[(63,63)],[]⟩ _ ?_ ?_
  ·simp(disch:=omega)only[go_sem,Dg,e0,a0,Expr.k,Expr.atom,Expr.kids,map_nil];exact .agg (Aj.AM gI)
  ·exact gI
 have h0':(n==0)=false:=by simpa using h0
 simp(disch:=omega)only[go_sem,h0']
 by_cases h1:n<9
 ·have ht:E0 l cat n p a1=(⟨2,p,(G2 l cat a1).1,[],0⟩,(G2 l cat a1).2):=by simp[E0,h0,h1]
  rw[ht];simp(disch:=omega)only[go_sem,eq_true h1,decide_true];refine call2 ⟨⟨[],[(63,63)],[]⟩,[],[]⟩ (f96_ok l a1 cat hl hc hu) ?_;refine gO ?_;refine Ci ⟨[],[(63,63)],[]⟩ _ ?_ ?_
  ·simp(disch:=omega)only[go_sem,Dg,e0,a0,Expr.k,Expr.atom,Expr.kids,map_nil]
   try exact .agg (Aj.AM gI)
  ·exact gI
 simp(disch:=omega)only[go_sem,eq_false h1,decide_false]
 by_cases h2:n=9
 ·have ht:E0 l cat n p a1=(⟨3,p,Dg,[],0⟩,a1):=by simp[E0,h0,h2]
  rw[ht];simp(disch:=omega)only[go_sem,h2];refine Ci ⟨[],[(63,63)],[]⟩ _ ?_ ?_
  ·simp(disch:=omega)only[go_sem,Dg,e0,a0,Expr.k,Expr.atom,Expr.kids,map_nil]
   try exact .agg (Aj.AM gI)
  ·exact gI
 have h2':(n==9)=false:=by simpa using h2
 simp(disch:=omega)only[go_sem,h2']
 by_cases h3:n=10
 ·have ht:E0 l cat n p a1=(⟨4,p,Dg,(cat.getD (Ak l a1 cat.length).1.toNat r0).name,0⟩,(Ak l a1 cat.length).2):=by simp[E0,h3]
  obtain⟨b1,b2⟩:=Ew l a1 cat.length (by omega);obtain⟨i,hi⟩:∃ i:Nat,(Ak l a1 cat.length).1=(i:Int):=⟨_,(Int.toNat_of_nonneg b1).symm⟩;have hil:i<cat.length:=by omega
  have hr:cat[i]?=some cat[i]:=gE hil;have hgd:cat.getD (Ak l a1 cat.length).1.toNat r0=cat[i]:=by rw[hi];simp[List.getD,hr]
  rw[ht,hgd];have hh37:=f37_ok l a1 cat.length hl (by omega);generalize (Ak l a1 cat.length).2=a2 at hh37 ⊢;rw[hi]at hh37;generalize cat[i]=r at hr ⊢;simp(disch:=omega)only[go_sem,h3];refine D7 (st':=⟨[(6,.ptr 384 0),(4,.ptr 256 0),(0,.ptr 63 0),(1,Fa cat)],[(384,(⟨0,p,Dg,[],0⟩:Cmd).c),(256,(⟨0,p0,Dg,[],0⟩:Cmd).c),(63,DA l a1)]⟩) (Imp.Am ?_ ?_) ?_
  ·exact gI
  ·simp(disch:=omega)only[go_sem,Dg,e0,a0,p0,Expr.k,Expr.atom,Expr.kids,map_nil]
  refine CA 4095 [(0,1,0),(1,2,0),(2,4,0),(3,8,4),(4,16,10),(5,32,17),(6,64,32),(7,128,64),(8,256,0),(9,512,272),(10,1024,1023),(11,2048,2047)] [0,1,2,4,256,3,5,257,6,258,12,260,7,259,13,261,14,262,268,15,263,269,30,270,31,271,286,63,287,798,127,319,799,255,383,831,511,895,1023,2047,4095] (fun m=>⟨sel m [(1,40,Fa cat),(2,41,.ptr 63 0),(4,42,Fa cat),(8,43,I cat.length),(16,44,I i),(32,45,.ep .no i r.c 0),(64,46,.ep .no i r.c 0),(128,47,.v (.string (str r.name))),(256,48,.ptr 384 0),(1024,49,.ptr 384 11)]++[(6,.ptr 384 0),(4,.ptr 256 0),(0,.ptr 63 0),(1,Fa cat)],[(384,(⟨(if m / 512%2=1 then 4 else 0),p,Dg,(if m / 2048%2=1 then r.name else []),0⟩:Cmd).c),(256,(⟨0,p0,Dg,[],0⟩:Cmd).c),(63,DA l (if m / 16%2=1 then a2 else a1))]⟩) ?_ ?_ ?_ fol
  ·exact AR
  ·simp (maxSteps:=100000000)only[Cz,Cy,Dj,Di,and_true,Nat.reduceDiv,Nat.reduceMod,Nat.reduceAnd,Nat.reduceEqDiff,reduceIte,true_and,and_false,false_and,and_self]
   repeat'(with_reducible refine And.intro ?_ ?_)
   all_goals simp(disch:=omega)only[go_sem,gm,hr,length_map,nil_append,cons_append]
   all_goals first|exact Imp.Am (by simp(disch:=omega)only[go_sem,nil_append,cons_append]) (by simp(disch:=omega)only[go_sem,nil_append,cons_append])|(refine call2 ⟨⟨[],[(63,63)],[]⟩,[],[]⟩ hh37 ?_;simp(disch:=omega)only[go_sem];exact Imp.Am (by simp(disch:=omega)only[go_sem,nil_append,cons_append]) (by simp(disch:=omega)only[go_sem,nil_append,cons_append]))
  refine gO ?_;refine Ci ⟨[],[(63,63)],[]⟩ _ ?_ ?_
  ·simp(disch:=omega)only[go_sem,Dg,e0,a0,Expr.k,Expr.atom,Expr.kids,map_nil]
  ·exact gI
 have h3':(n==10)=false:=by simpa using h3
 simp(disch:=omega)only[go_sem,h3']
 by_cases h4:n=11
 ·have ht:E0 l cat n p a1=(⟨5,p,Dg,[],1+(Ak l a1 4).1⟩,(Ak l a1 4).2):=by simp[E0,h4]
  have hb:=Ew l a1 4 (by omega);have hw:IntKind.i64.wrap (1+(Ak l a1 4).1)=1+(Ak l a1 4).1:=wrap64 _ (by omega) (by omega);rw[ht];simp(disch:=omega)only[go_sem,h4];refine call2 ⟨⟨[],[(63,63)],[]⟩,[],[]⟩ (f37_ok l a1 4 hl (by omega)) ?_;simp(disch:=omega)only[go_sem,hw];refine Ci ⟨[],[(63,63)],[]⟩ _ ?_ ?_
  ·simp(disch:=omega)only[go_sem,Dg,e0,a0,Expr.k,Expr.atom,Expr.kids,map_nil]
   try exact .agg (Aj.AM gI)
  ·exact gI
 have h4':(n==11)=false:=by simpa using h4
 simp(disch:=omega)only[go_sem,h4']
 by_cases h5:n=12
 ·have ht:E0 l cat n p a1=(⟨6,p,Dg,[],(Ak l a1 5).1⟩,(Ak l a1 5).2):=by simp[E0,h5]
  rw[ht];simp(disch:=omega)only[go_sem,h5];refine call2 ⟨⟨[],[(63,63)],[]⟩,[],[]⟩ (f37_ok l a1 5 hl (by omega)) ?_;refine gO ?_;refine Ci ⟨[],[(63,63)],[]⟩ _ ?_ ?_
  ·simp(disch:=omega)only[go_sem,Dg,e0,a0,Expr.k,Expr.atom,Expr.kids,map_nil]
   try exact .agg (Aj.AM gI)
  ·exact gI
 have h5':(n==12)=false:=by simpa using h5
 simp(disch:=omega)only[go_sem,h5']
 by_cases h6:n=13
 ·have ht:E0 l cat n p a1=(⟨7,p,Dg,[],0⟩,a1):=by simp[E0,h6]
  rw[ht];simp(disch:=omega)only[go_sem,h6];refine Ci ⟨[],[(63,63)],[]⟩ _ ?_ ?_
  ·simp(disch:=omega)only[go_sem,Dg,e0,a0,Expr.k,Expr.atom,Expr.kids,map_nil]
   try exact .agg (Aj.AM gI)
  ·exact gI
 have h6':(n==13)=false:=by simpa using h6
 simp(disch:=omega)only[go_sem,h6']
 by_cases h7:n=14
 ·have ht:E0 l cat n p a1=(⟨8,p,Dg,[],0⟩,a1):=by simp[E0,h7]
  rw[ht];simp(disch:=omega)only[go_sem,h7];refine Ci ⟨[],[(63,63)],[]⟩ _ ?_ ?_
  ·simp(disch:=omega)only[go_sem,Dg,e0,a0,Expr.k,Expr.atom,Expr.kids,map_nil]
   try exact .agg (Aj.AM gI)
  ·exact gI
 have h7':(n==14)=false:=by simpa using h7
 have ht:E0 l cat n p a1=(⟨9,p,Dg,[],(Ak l a1 12).1⟩,(Ak l a1 12).2):=by simp[E0,h0,h1,h2,h3,h4,h5,h6,h7]
 rw[ht];simp(disch:=omega)only[go_sem,h7'];refine call2 ⟨⟨[],[(63,63)],[]⟩,[],[]⟩ (f37_ok l a1 12 hl (by omega)) ?_;refine gO ?_;refine Ci ⟨[],[(63,63)],[]⟩ _ ?_ ?_
 ·simp(disch:=omega)only[go_sem,Dg,e0,a0,Expr.k,Expr.atom,Expr.kids,map_nil]
  try exact .agg (Aj.AM gI)
 ·exact gI
def US:List Bs:=[[97],[98],[99],[100]]
def Cw(l:List Int)(a:Nat):Nat→List Res × Nat
 | 0=>([],a)
 | i+1=>((Cw l a i).1++[⟨US.getD i [],1,1,(Ak l (Cw l a i).2 4).1⟩],(Ak l (Cw l a i).2 4).2)
theorem JN(l:List Int)(a:Nat):∀ i,(Cw l a i).1.length=i
 | 0=>rfl
 | i+1=>by simp[Cw,JN l a i]
def H4(l:List Int)(name:Bs)(m:Int)(a:Nat):Res × Nat:=(⟨name,2,1+(Ak l a m).1,(Ak l (Ak l a m).2 4).1⟩,(Ak l (Ak l a m).2 4).2)
def Cr(l:List Int)(a:Nat):List Res × Nat :=
 ((Cw l a 4).1++[(H4 l [112] 8 (Cw l a 4).2).1]++[(H4 l [113] 3 (H4 l [112] 8 (Cw l a 4).2).2).1],(H4 l [113] 3 (H4 l [112] 8 (Cw l a 4).2).2).2)
theorem f113_ok(l:List Int)(a:Nat)(hl:l.length≤1000000):Ad C0 113 [.ptr 63 0] [(63,DA l a)] (Fa (Cr l a).1) [(63,DA l (Cr l a).2)]:=by
 refine Ad.go f113 ?_;unfold f113;refine gO ?_;refine Ab (α:=Nat) (fun i=>⟨[(5,I i),(4,.sl (.own 384 0) 1 (US.map fun s=>[.v (.string (str s))])),(3,.sl (.own 1408 0) 4 ((Cw l a i).1.map Res.c)),(0,.ptr 63 0)],[(63,DA l (Cw l a i).2)]⟩) (fun i=>i≤4) (fun i=>4-i) 0 (by omega) (Imp.Am ?_ ?_) ?_
 ·simp(disch:=omega)only[go_sem,Cw,map_nil];exact .sl rfl
 ·simp(disch:=omega)only[go_sem,Cw]
 rintro i hi J hJ;have hn4:US.length=4:=rfl;simp(disch:=omega)only[go_sem,length_map,hn4];refine ⟨fun hlt=>?_,fun hge=>?_⟩
 ·have hlt2:i<4:=by simp at hlt;omega
  obtain⟨s,hs⟩:∃ s,US[i]?=some s:=⟨_,gE (by rw[hn4];omega)⟩;have hgd:US.getD i []=s:=by simp[List.getD,hs]
  have hal:=JN l a i;have han:Cw l a (i+1)=((Cw l a i).1++[⟨s,1,1,(Ak l (Cw l a i).2 4).1⟩],(Ak l (Cw l a i).2 4).2):=by rw[Cw,hgd]
  generalize Cw l a i=ls at han hal ⊢;obtain⟨ll,a1⟩:=ls;simp only at han hal ⊢;have hh37:=f37_ok l a1 4 hl (by omega);generalize (Ak l a1 4).2=a2 at hh37 han ⊢;generalize (Ak l a1 4).1=v at hh37 han ⊢;have hbd:ll.length+1≤4294967296:=by omega
  refine D7 (st':=⟨[(5,I i),(4,.sl (.own 384 0) 1 (US.map fun s=>[.v (.string (str s))])),(3,.sl (.own 1408 0) 4 (ll.map Res.c)),(0,.ptr 63 0)],[(63,DA l a1)]⟩) AR ?_;refine CA 2047 [(0,1,0),(1,2,0),(2,4,0),(3,8,6),(4,16,8),(5,32,0),(6,64,32),(7,128,80),(8,256,128),(9,512,321),(10,1024,1023)] [0,1,2,4,32,3,5,33,6,34,36,96,7,35,37,97,14,38,98,100,15,39,99,101,30,46,102,31,47,103,62,110,63,111,126,127,254,255,510,511,1023,2047] (fun m=>⟨sel m [(1,13,(if m / 512%2=1 then .undef else .sl (.own 1408 0) 4 (ll.map Res.c))),(2,14,.sl (.own 384 0) 1 (US.map fun s=>[.v (.string (str s))])),(4,15,I i),(8,16,.ep (.own 384 0) i [.v (.string (str s))] 0),(16,17,.v (.string (str s))),(32,18,.ptr 63 0),(64,19,I v),(128,20,.agg (⟨s,1,1,v⟩:Res).c),(256,21,.sl (.own 1344 0) 4 ([(⟨s,1,1,v⟩:Res)].map Res.c)),(512,22,.sl (.own 1408 0) 4 ((ll++[(⟨s,1,1,v⟩:Res)]).map Res.c))]++[(5,I i),(4,.sl (.own 384 0) 1 (US.map fun s=>[.v (.string (str s))])),(3,(if m / 512%2=1 then (if m / 1024%2=1 then .sl (.own 1408 0) 4 ((ll++[(⟨s,1,1,v⟩:Res)]).map Res.c) else .undef) else .sl (.own 1408 0) 4 (ll.map Res.c))),(0,.ptr 63 0)],[(63,DA l (if m / 64%2=1 then a2 else a1))]⟩) ?_ ?_ ?_ fol
  ·exact AR
  ·simp (maxSteps:=100000000)only[Cz,Cy,Dj,Di,and_true,Nat.reduceDiv,Nat.reduceMod,Nat.reduceAnd,Nat.reduceEqDiff,reduceIte,true_and,and_false,false_and,and_self]
   repeat'(with_reducible refine And.intro ?_ ?_)
   all_goals simp(disch:=omega)only[go_sem,gm,hs,length_map,nil_append,cons_append]
   all_goals first|exact Imp.Am (by simp(disch:=omega)only[go_sem,nil_append,cons_append,map_append,map_cons,map_nil]) (by simp(disch:=omega)only[go_sem,nil_append,cons_append,map_append,map_cons,map_nil])|(refine call2 ⟨⟨[],[(63,63)],[]⟩,[],[]⟩ hh37 ?_;simp(disch:=omega)only[go_sem];exact Imp.Am (by simp(disch:=omega)only[go_sem,nil_append,cons_append,map_append,map_cons,map_nil]) (by simp(disch:=omega)only[go_sem,nil_append,cons_append,map_append,map_cons,map_nil]))
  refine gO ?_;refine hJ _ (i+1) (by omega) (by omega) (Imp.Am ?_ ?_)
  ·rw[han];simp(disch:=omega)only[go_sem]
  ·rw[han];simp(disch:=omega)only[go_sem]
 have him:i=4:=by simp at hge;omega
 subst him;have hcm:Cr l a=((Cw l a 4).1++[(H4 l [112] 8 (Cw l a 4).2).1]++[(H4 l [113] 3 (H4 l [112] 8 (Cw l a 4).2).2).1],(H4 l [113] 3 (H4 l [112] 8 (Cw l a 4).2).2).2):=rfl;rw[hcm];have hll:=JN l a 4;generalize Cw l a 4=ls at hll ⊢;obtain⟨ll,a1⟩:=ls;simp only at hll ⊢;obtain⟨b1,b2⟩:=Ew l a1 8 (by omega);have hp1:H4 l [112] 8 a1=(⟨[112],2,1+(Ak l a1 8).1,(Ak l (Ak l a1 8).2 4).1⟩,(Ak l (Ak l a1 8).2 4).2):=rfl;rw[hp1];have g1:=f37_ok l a1 8 hl (by omega);have g2:=f37_ok l (Ak l a1 8).2 4 hl (by omega);generalize (Ak l a1 8).2=a2 at g1 g2 ⊢;generalize (Ak l a1 8).1=u1 at b1 b2 g1 ⊢;simp only;generalize (Ak l a2 4).2=a3 at g2 ⊢;generalize (Ak l a2 4).1=h1 at g2 ⊢;obtain⟨c1,c2⟩:=Ew l a3 3 (by omega);have hp2:H4 l [113] 3 a3=(⟨[113],2,1+(Ak l a3 3).1,(Ak l (Ak l a3 3).2 4).1⟩,(Ak l (Ak l a3 3).2 4).2):=rfl;rw[hp2];have g3:=f37_ok l a3 3 hl (by omega);have g4:=f37_ok l (Ak l a3 3).2 4 hl (by omega);generalize (Ak l a3 3).2=a4 at g3 g4 ⊢;generalize (Ak l a3 3).1=u2 at c1 c2 g3 ⊢;simp only;generalize (Ak l a4 4).2=a5 at g4 ⊢;generalize (Ak l a4 4).1=h2 at g4 ⊢;have hw1:IntKind.i64.wrap (1+u1)=1+u1:=wrap64 _ (by omega) (by omega);have hw2:IntKind.i64.wrap (1+u2)=1+u2:=wrap64 _ (by omega) (by omega);have hbd1:ll.length+1≤4294967296:=by omega
 refine call2 ⟨⟨[],[(63,63)],[]⟩,[],[]⟩ g1 ?_;simp(disch:=omega)only[go_sem,hw1];refine call2 ⟨⟨[],[(63,63)],[]⟩,[],[]⟩ g2 ?_;refine gO ?_;refine call2 ⟨⟨[],[(63,63)],[]⟩,[],[]⟩ g3 ?_;simp(disch:=omega)only[go_sem,hw2];refine call2 ⟨⟨[],[(63,63)],[]⟩,[],[]⟩ g4 ?_;have hbd2:ll.length+1+1≤4294967296:=by omega
 simp(disch:=omega)only[go_sem,length_append,length_map,List.length_singleton];refine Ci ⟨[],[(63,63)],[2560]⟩ _ ?_ ?_
 ·simp(disch:=omega)only[go_sem];exact .sl (by rw[map_append,map_append];rfl)
 ·exact gI
@[reducible] def YT(l:List Cmd):AV:=.sl .no 13 (l.map Cmd.c)
theorem UC(l:List Int)(az:List Atom)(a:Nat):a≤(UB l az a).2:=(E7 l a az.length).1
theorem Uy{f:Nat→Expr × Nat}(h:∀ a,a≤(f a).2):∀ n a,a≤(Gg f n a).2
 | 0,a=>Nat.le_refl _
 | n+1,a=>le_trans (Uy h n a) (h _)
theorem RX(l:List Int)(az:List Atom):∀ d a,a≤(CV l az d a).2
 | 0,a=>UC l az a
 | d+1,a=>by
  rw[CV];have h1:=(E7 l a 4).1;split
  ·exact le_trans h1 (UC l az _)
  ·have h2:=(E7 l (Ak l a 4).2 3).1;have h3:=(E7 l (Ak l (Ak l a 4).2 3).2 (1+(Ak l (Ak l a 4).2 3).1)).1;exact le_trans (le_trans (le_trans h1 h2) h3) (Uy (fun a=>RX l az d a) _ _)
theorem Y7(l:List Int)(cat:List Res)(a:Nat):a≤(OQ l cat a).2:=le_trans (E7 l a 1048576).1 (RX l _ 2 _)
theorem bb(l:List Int)(a:Nat):a≤(Ph l a).2:=by
 have h1:=(E7 l a 5).1;have h2:=(E7 l (Ak l a 5).2 20).1;unfold Ph;split
 ·exact le_trans h1 h2
 ·exact h1
theorem Va(l:List Int)(cat:List Res)(a:Nat):a≤(G2 l cat a).2:=by
 have h1:=(E7 l a 8).1;have h2:=bb l (Ak l a 8).2;exact le_trans (le_trans h1 h2) (Y7 l cat _)
theorem YL(l:List Int)(cat:List Res)(n:Int)(p:Ae)(a:Nat):a≤(E0 l cat n p a).2:=by
 unfold E0
 repeat' split
 all_goals first|exact Nat.le_refl _|exact(E7 _ _ _).1|exact Va _ _ _
theorem Kr(l:List Int)(cat:List Res)(a:Nat)(h:a<l.length):a<(E2 l cat a).2:=by
 have h1:=(E7 l a 16).2 h;have h2:=(E7 l (Ak l a 16).2 6).1;have h3:=YL l cat (Ak l a 16).1 (Np (Ak l (Ak l a 16).2 6).1) (Ak l (Ak l a 16).2 6).2;show a<(E0 l cat (Ak l a 16).1 (Np (Ak l (Ak l a 16).2 6).1) (Ak l (Ak l a 16).2 6).2).2;omega
def Eb(l:List Int)(a:Nat):Nat→List Cmd × Nat
 | 0=>([],a)
 | i+1=>((Eb l a i).1++[⟨1,Np i,Dg,[],1+(Ak l (Eb l a i).2 9).1⟩],(Ak l (Eb l a i).2 9).2)
theorem JR(l:List Int)(a:Nat):∀ i,(Eb l a i).1.length=i
 | 0=>rfl
 | i+1=>by simp[Eb,JR l a i]
def IW(l:List Int)(cat:List Res)(a:Nat):List Cmd :=
 if h:a<l.length then (E2 l cat a).1::IW l cat (E2 l cat a).2 else []
 termination_by l.length-a
 decreasing_by have:=Kr l cat a h;omega
def FF(l:List Int):List Res × List Cmd:=((Cr l 0).1,(Eb l (Cr l 0).2 4).1++IW l (Cr l 0).1 (Eb l (Cr l 0).2 4).2)
theorem Nf(l:List Int)(a:Nat):∀ i,∀ r∈(Cw l a i).1,r.AA=1
 | 0,r,h=>by simp[Cw]at h
 | i+1,r,h=>by
  simp only[Cw,mem_append,List.mem_singleton]at h;rcases h with h|rfl
  ·exact Nf l a i r h
  ·rfl
theorem MI(l:List Int)(a:Nat):(Cr l a).1.length=6:=by simp[Cr,JN]
theorem PU(l:List Int)(a:Nat):∀ r∈(Cr l a).1,r.AA≤1000000:=fun r h=>by
 simp only[Cr,mem_append,List.mem_singleton]at h;rcases h with (h|rfl)|rfl
 ·have:=Nf l a 4 r h;omega
 ·have:=(Ew l (Cw l a 4).2 8 (by omega)).2;simp only[H4];omega
 ·have:=(Ew l (H4 l [112] 8 (Cw l a 4).2).2 3 (by omega)).2;simp only[H4]at this ⊢;omega
theorem f65_ok(l:List Int)(hl:l.length≤1000000):Ad C0 65 [I6 l] [] (.tup [Fa (FF l).1,YT (FF l).2]) []:=by
 refine Ad.go f65 ?_;unfold f65;refine gO ?_;refine call2 ⟨⟨[],[(640,63)],[]⟩,[],[]⟩ (f113_ok l 0 hl) ?_;refine gO ?_;have hcl:=MI l 0;have hcu:=PU l 0;have hsm:FF l=((Cr l 0).1,(Eb l (Cr l 0).2 4).1++IW l (Cr l 0).1 (Eb l (Cr l 0).2 4).2):=rfl;rw[hsm];generalize (Cr l 0).2=a0' at hcl ⊢;generalize (Cr l 0).1=cat at hcl hcu ⊢;refine Ab (α:=Nat) (fun i=>⟨[(7,I i),(6,.sl (.own 1600 0) 13 ((Eb l a0' i).1.map Cmd.c)),(5,Fa cat),(4,.ptr 640 0)],[(640,DA l (Eb l a0' i).2)]⟩) (fun i=>i≤4) (fun i=>4-i) 0 (by omega) (Imp.Am ?_ ?_) ?_
 ·simp(disch:=omega)only[go_sem,Eb,map_nil]
 ·simp(disch:=omega)only[go_sem,Eb]
 rintro i hi J hJ;refine gO ?_;refine ⟨fun hlt=>?_,fun hge=>?_⟩
 ·have hlt2:i<4:=by simp at hlt;omega
  have hal:=JR l a0' i;have han:Eb l a0' (i+1)=((Eb l a0' i).1++[⟨1,Np i,Dg,[],1+(Ak l (Eb l a0' i).2 9).1⟩],(Ak l (Eb l a0' i).2 9).2):=rfl;generalize Eb l a0' i=ls at han hal ⊢;obtain⟨ll,a1⟩:=ls;simp only at han hal ⊢;have hb:=Ew l a1 9 (by omega);have hw:IntKind.i64.wrap (1+(Ak l a1 9).1)=1+(Ak l a1 9).1:=wrap64 _ (by omega) (by omega);have hbd:ll.length+1≤4294967296:=by omega
  refine Ac (b0 i) ?_;refine gO ?_;refine call2 ⟨⟨[],[(640,63)],[]⟩,[],[]⟩ (f37_ok l a1 9 hl (by omega)) ?_;simp(disch:=omega)only[go_sem,hw];refine hJ _ (i+1) (by omega) (by omega) (Imp.Am ?_ ?_)
  ·rw[han];refine gO ?_;rw[map_append];refine .br (Gl.append _ ?_);simp only[Dg,e0,a0,Expr.k,Expr.atom,Expr.kids,map_cons,map_nil,Cmd.c,Ae.c,Gl,Jr,Vy];simp
  ·rw[han];simp(disch:=omega)only[go_sem]
 have him:i=4:=by simp at hge;omega
 subst him;have hal:=JR l a0' 4;generalize Eb l a0' 4=ls at hal ⊢;obtain⟨op,a1⟩:=ls;simp only at hal ⊢;refine Ab (α:=List Cmd × Nat) (fun x=>⟨[(6,.sl (.own 2112 0) 13 (x.1.map Cmd.c)),(5,Fa cat),(4,.ptr 640 0)],[(640,DA l x.2)]⟩) (fun x=>x.1++IW l cat x.2=op++IW l cat a1∧x.1.length+(l.length-x.2)≤1000010) (fun x=>l.length-x.2) (op,a1) ⟨rfl,by simp only;omega⟩ (Imp.ren ⟨[(1600,2112)],[(640,640)],[]⟩ ⟨rfl,rfl⟩ (by simp[lk]) ?_ ?_) ?_
 ·exact gI
 ·exact gI
 rintro⟨out,a2⟩ ⟨hx1,hx2⟩ J hJ;simp only at hx1 hx2 ⊢;refine gO ?_;refine call2 ⟨⟨[],[(640,63)],[]⟩,[],[]⟩ (f49_ok l a2 hl) ?_;refine gO ?_;refine ⟨fun hlt=>?_,fun hge=>?_⟩
 ·have hlt2:a2<l.length:=by simp at hlt;omega
  have hun:IW l cat a2=(E2 l cat a2).1::IW l cat (E2 l cat a2).2:=by rw[IW,dif_pos hlt2]
  have hpr:=Kr l cat a2 hlt2;have hbd:out.length+1≤4294967296:=by omega
  refine call2 ⟨⟨[],[(640,63)],[]⟩,[],[]⟩ (f50_ok l a2 cat hl (by omega) hcu) ?_;refine gO ?_;refine hJ _ (out++[(E2 l cat a2).1],(E2 l cat a2).2) ⟨?_,?_⟩ ?_ (Imp.Am ?_ ?_)
  ·rw[← hx1,hun];simp
  ·simp only[length_append,List.length_singleton];omega
  ·simp only;omega
  ·simp(disch:=omega)only[go_sem];exact .sl (by rw[map_append];rfl)
  ·exact gI
 have hge2:l.length≤a2:=by simp at hge;omega
 have hun:IW l cat a2=[]:=by rw[IW,dif_neg (by omega)]
 rw[hun,append_nil]at hx1;rw[← hx1];refine Bc ⟨[],[],[2112]⟩ _ (by(try simp(disch:=omega)only[go_sem,C6,IJ])<;>rfl) ⟨rfl,rfl⟩ (by simp[lk]) ?_ trivial;simp(disch:=omega)only[go_sem]
def ZL(r:Res):Queue:=⟨r,[],[],[],0⟩
def Ni(l:List Res):List Queue × Int:=if Kl l then (l.map ZL,0) else ([],1)
theorem f114_ok(l:List Res)(hl:l.length≤1000000):Ad C0 114 [Fa l] [] (.tup [Ay (Ni l).1,I (Ni l).2]) []:=by
 refine Ad.go f114 ?_;unfold f114;refine gO ?_;refine Ac (f168_ok l) ?_;cases h:Kl l
 ·have e:Ni l=([],1):=by simp[Ni,h]
  rw[e];simp(disch:=omega)only[go_sem,h,Bool.not_false];refine B8 _ ?_;simp(disch:=omega)only[go_sem,map_nil];refine .tup (Aj.AM ?_);simp(disch:=omega)only[go_sem]
  repeat'(with_reducible apply And.intro)
  all_goals(first|exact .Az (by omega)|exact .agg (Aj.AM gI))
 ·have e:Ni l=(l.map ZL,0):=by simp[Ni,h]
  rw[e];simp(disch:=omega)only[go_sem,h,Bool.not_true];refine Ab (α:=Nat) (fun i=>⟨[(5,I i),(0,Fa l),(4,.sl (.own 1408 0) 8 (((l.take i).map ZL).map Queue.c))],[]⟩) (fun i=>i≤(l).length∧True) (fun i=>(l).length-i) 0 ⟨by omega,trivial⟩ ?_ ?_
  ·exact BB
  rintro i ⟨hi,hP⟩ J hJ;refine gO ?_;refine ⟨fun hlt=>?_,fun hge=>?_⟩;rotate_left;have hil:i=(l).length:=by simp at hge;omega
  rotate_left;obtain⟨b,hb⟩:∃ b,(l)[i]?=some b:=⟨_,gE (by simp at hlt;omega)⟩;have hbm:=mG hb;have hlt2:i<(l).length:=by simp at hlt;omega
  ·simp(disch:=omega)only[go_sem,gm,hb];refine hJ _ (i+1) ⟨by omega,trivial⟩ (by omega) (Imp.Am ?_ ?_)
   ·simp(disch:=omega)only[go_sem];rw[take_add_one,hb,toList_some,map_append];refine .br (Gl.append _ ?_);simp only[map_cons,map_nil,Function.comp_def,ZL,Queue.c,Gl,Jr,Vy];simp
   ·exact gI
  ·subst hil;rw[take_length];refine Bc ⟨[],[],[1408]⟩ _ (by(try simp(disch:=omega)only[go_sem,C6,IJ])<;>rfl) ⟨rfl,rfl⟩ (by simp[lk]) ?_ trivial;simp(disch:=omega)only[go_sem,Ay,List.map_map]
def Rl(l:List Res):Cen × Int:=if (Ni l).2=0 then (⟨0,(Ni l).1,[]⟩,0) else (⟨0,[],[]⟩,(Ni l).2)
theorem f66_ok(l:List Res)(hl:l.length≤1000000):Ad C0 66 [Fa l] [] (.tup [.agg (Rl l).1.c,I (Rl l).2]) []:=by
 refine Ad.go f66 ?_;unfold f66;refine gO ?_;refine Ac (f114_ok l hl) ?_;refine gO ?_
 by_cases h:(Ni l).2=0
 ·have e:Rl l=(⟨0,(Ni l).1,[]⟩,0):=by simp[Rl,h]
  rw[e];simp(disch:=omega)only[go_sem,h];refine B8 _ ?_;simp(disch:=omega)only[go_sem,map_nil];refine .tup (Aj.AM ?_);simp(disch:=omega)only[go_sem]
  repeat'(with_reducible apply And.intro)
  all_goals(first|exact .Az (by omega)|exact .agg (Aj.AM gI))
 ·have e:Rl l=(⟨0,[],[]⟩,(Ni l).2):=by simp[Rl,h]
  have h':((Ni l).2 !=0)=true:=by simpa using h
  rw[e];simp(disch:=omega)only[go_sem,h'];refine B8 _ ?_;simp(disch:=omega)only[go_sem,map_nil];refine .tup (Aj.AM ?_);simp(disch:=omega)only[go_sem]
  repeat'(with_reducible apply And.intro)
  all_goals(first|exact .Az (by omega)|exact .agg (Aj.AM gI))
theorem UA{w:Av}:∀ (n:Nat) (w:Av),JE none w→JE none (KL n w)
 | 0,w,h=>h
 | n+1,w,h=>by
  simp only[KL];split
  ·exact h
  ·rename_i x hx;split
   ·exact h
   ·rename_i hlt;rcases Lm w with he|⟨k,y,he,hy,hyw⟩
    ·rw[he]at hlt;simp at hlt
    ·rw[he]at hx ⊢;simp only[Int.toNat_natCast]at hx ⊢;rw[hy]at hx;have:=Option.some.inj hx;subst this;exact UA (w:=w) n _ (Iy JE.EM _ _ (Qt JE.bX h hy hyw).1).1
theorem GB{Inv:Av→Prop}(hI:HO Inv){w:Av}(h:Inv w):DZ (B0 w).Aa:=(hI.few _ (Iy hI _ _ h).1).1
theorem aP{w:Av}(k:Cmd)(h:Fit w):DZ (doW w k).1.Aa:=by
 have hf:=Da h.je.tab;unfold doW;split
 ·exact hf
 split
 ·unfold Jd
  repeat' split
  all_goals exact hf
 split
 ·unfold Jm;split
  ·exact hf
  split
  ·exact hf
  ·exact Da (UA (w:=w) (wcount { w with now:=w.now+k.n }) { w with now:=w.now+k.n } ⟨h.je.tab,h.je.n,h.je.uq,h.je.good⟩).tab
 split
 ·exact hf
 ·rename_i i hfi;obtain⟨x,hx⟩:=NY hfi;have hxm:=mG hx;have hi:=At hx;have hg:w.procs.getD i x0=x:=by simp[List.getD,hx]
  rw[hg];unfold doI;split
  ·unfold Ec;split
   ·exact hf
   rename_i a1;split
   ·rename_i a2;split
    ·rename_i a3;refine GB Q4.EM (TS h.je hx (h.idle x hxm (by simpa using a1)) (by simp only[Iw,Bool.and_eq_true]at a2;exact a2.1.1.1.1) (fun a ha=>?_)).2;obtain⟨n,_,hn,_⟩:=Hy h.je.tab a3 ha;exact⟨n,hn⟩
    ·exact hf
   ·exact hf
  split
  ·split
   ·rename_i hw;obtain⟨s1,s2,_⟩:=EI h.je hx hw;have hx1:(A5 w i x).procs[i]?=some (BV x):=by rw[Dh];simp[hi]
    exact GB JE.EM (s2.next hx1)
   ·exact hf
  split
  ·unfold E8;split
   ·exact hf
   rename_i a1;split
   ·exact hf
   ·exact GB Q4.EM (Qk h.je hx (by simpa using a1))
  split
  ·split
   ·exact hf
   ·split
    ·exact hf
    ·exact hf
  split
  ·unfold Fl;split
   ·rename_i a1;exact GB JE.EM (Rz h.je hx (h.fits x hxm) (h.idle x hxm) (h.wait x hxm) a1).2
   ·exact hf
  split
  ·split
   ·exact hf
   ·exact GB JE.EM (N4 h.je hx)
  ·exact GB JE.EM (N4 h.je hx)
theorem WM{c:Cen}(k:Cmd):DZ (doC c k).1.Aa:=by
 unfold doC;split
 ·rename_i hv;split
  ·exact aP k (Jx hv)
  ·exact Lo
 ·exact Lo
def NC(c:Cen)(k:Cmd):Cen:=if (doC c k).2.2=0 then (doC c k).1 else c
def runM(c:Cen)(ks:List Cmd):Cen:=ks.foldl NC c
theorem ag{c:Cen}(k:Cmd)(h:DZ c.Aa):DZ (NC c k).Aa:=by
 unfold NC;split
 ·exact WM k
 ·exact h
theorem Ts:∀ (ks:List Cmd) (c:Cen),DZ c.Aa→DZ (runM c ks).Aa
 |[],_,h=>h
 | k::ks,c,h=>Ts ks (NC c k) (ag k h)
theorem Yo{c:Cen}{ks:List Cmd}{i:Nat}{b:Cmd}(hb:ks[i]?=some b):runM c (ks.take (i+1))=NC (runM c (ks.take i)) b:=by
 simp[runM,take_add_one,hb,List.foldl_append]
theorem f67_ok(c:Cen)(ks:List Cmd)(h:DZ c.Aa)(hl:ks.length≤1000000):Ad C0 67 [.agg c.c,YT ks] [] (.agg (runM c ks).c) []:=by
 refine Ad.go f67 ?_;unfold f67;refine gO ?_;refine Ab (α:=Nat) (fun i=>⟨[(5,I i),(4,.ptr 256 0),(2,.ptr 128 0),(1,YT ks)],[(256,Q9.c),(128,(runM c (ks.take i)).c)]⟩) (fun i=>i≤ks.length) (fun i=>ks.length-i) 0 (by omega) (Imp.Am ?_ ?_) ?_
 ·exact gI
 ·simp(disch:=omega)only[go_sem,Q9,List.take_zero,runM,List.foldl_nil,map_nil]
  done
 rintro i hi J hJ;simp(disch:=omega)only[go_sem,length_map];refine ⟨fun hlt=>?_,fun hge=>?_⟩
 ·obtain⟨b,hb⟩:∃ b,ks[i]?=some b:=⟨_,gE (by simp at hlt;omega)⟩;have hlt2:=At hb;have hfe:=Ts (ks.take i) c h;have htk:=Yo (c:=c) hb;generalize runM c (ks.take i)=c1 at hfe htk ⊢;refine IY 11 [([],[2]),([],[1]),([],[5]),([1,2],[17,18]),([1,2,3],[19]),([0,1,2,3,4],[16,20]),([0,1,2,3,4,5],[21]),([0,1,2,3,4,5,6],[15]),([0,1,2,3,4,5,6],[15]),([0,1,2,3,4,5,6],[15]),([],[]),([0,1,2,3,4,5,6,7,10],[]),([0,1,2,3,4,5,6,7,8,10,11],[]),([0,1,2,3,4,5,6,7,8,9,10,11,12],[])] [8,9] [([],[15,6,22,5,4,2,1],let o0:OT:=.done;let o1:OT:=.pick [(13,o0)];let o2:OT:=.pick [(12,o1)];let o3:OT:=.pick [(11,o2)];let o4:OT:=.pick [(9,o1)];let o5:OT:=.pick [(9,o2),(12,o4)];let o6:OT:=.pick [(9,o3),(11,o5)];let o7:OT:=.pick [(8,o2)];let o8:OT:=.pick [(8,o3),(11,o7)];let o9:OT:=.pick [(8,o5),(9,o7)];let o10:OT:=.pick [(8,o6),(9,o8),(11,o9)];o10),([9],[15,6,22,24,5,4,2,1],let o0:OT:=.done;let o1:OT:=.pick [(13,o0)];let o2:OT:=.pick [(12,o1)];let o3:OT:=.pick [(11,o2)];let o4:OT:=.pick [(8,o2)];let o5:OT:=.pick [(8,o3),(11,o4)];o5),([8],[15,6,22,23,5,4,2,1],let o0:OT:=.done;let o1:OT:=.pick [(13,o0)];let o2:OT:=.pick [(12,o1)];let o3:OT:=.pick [(11,o2)];let o4:OT:=.pick [(9,o1)];let o5:OT:=.pick [(9,o2),(12,o4)];let o6:OT:=.pick [(9,o3),(11,o5)];o6),([8,9],[6,22,23,24,5,4,2,1],let o0:OT:=.done;let o1:OT:=.pick [(13,o0)];let o2:OT:=.pick [(12,o1)];let o3:OT:=.pick [(11,o2)];o3)] fol (by kernel_rfl) ?_;simp(disch:=omega)only[go_sem,gm,hb]
  first|(refine Ac (f30_ok c1 b hfe) ?_)|(refine Ar (f30_ok c1 b hfe) ?_)
  by_cases h0:(doC c1 b).2.2=0
  ·have hst:NC c1 b=(doC c1 b).1:=by simp[NC,h0]
   rw[hst]at htk;simp(disch:=omega)only[go_sem,h0]
   repeat'(with_reducible refine And.intro ?_ ?_)
   all_goals
    refine hJ _ (i+1) (by omega) (by omega) (Imp.Am ?_ ?_)
    ·exact gI
    ·rw[htk];simp(disch:=omega)only[go_sem,Q9,map_nil]
  ·have hst:NC c1 b=c1:=by simp[NC,h0]
   have h0':((doC c1 b).2.2==0)=false:=by simpa using h0
   rw[hst]at htk;simp(disch:=omega)only[go_sem,h0']
   repeat'(with_reducible refine And.intro ?_ ?_)
   all_goals
    refine hJ _ (i+1) (by omega) (by omega) (Imp.Am ?_ ?_)
    ·exact gI
    ·rw[htk];simp(disch:=omega)only[go_sem,Q9,map_nil]
 have him:i=ks.length:=by simp at hge;omega
 subst him;rw[take_length];exact AE _
def IV(l:List Int):Cen:=runM (Rl (FF l).1).1 (FF l).2
theorem Pa(l:List Int):(FF l).1.length=6:=MI l 0
theorem W5(l:List Res)(hl:l.length≤100):DZ (Rl l).1.Aa:=by
 unfold Rl;split
 ·unfold Ni;split
  ·refine⟨by simpa using hl,fun q hq=>?_⟩;simp only[List.mem_map]at hq;obtain⟨r,_,rfl⟩:=hq;simp[ZL,BC,BQ]
  ·exact Lo
 ·exact Lo
theorem RC(l:List Int)(cat:List Res):∀ (n a:Nat),l.length-a≤n→(IW l cat a).length≤n
 | 0,a,h=>by rw[IW,dif_neg (by omega)];simp
 | n+1,a,h=>by
  rw[IW];split
  ·rename_i hlt;have:=Kr l cat a hlt;have:=RC l cat n (E2 l cat a).2 (by omega);simp;omega
  ·simp
theorem Tt(l:List Int):(FF l).2.length≤l.length+4:=by
 have:=RC l (Cr l 0).1 l.length (Eb l (Cr l 0).2 4).2 (by omega);simp only[FF,length_append,JR];omega
theorem f25_ok(l:List Int)(hl:l.length≤10000):Ad C0 25 [I6 l] [] (.agg (IV l).c) []:=by
 have h1:=Pa l;have h2:=Tt l;have h3:=W5 (FF l).1 (by omega);refine Ad.go f25 ?_;unfold f25;refine gO ?_;refine Ac (f65_ok l (by omega)) ?_;refine gO ?_;refine Ac (f66_ok (FF l).1 (by omega)) ?_;refine gO ?_;refine Ac (f67_ok (Rl (FF l).1).1 (FF l).2 h3 (by omega)) ?_;refine gO ?_;refine B8 _ ?_;simp(disch:=omega)only[go_sem,IV]
def ZI(x:Pcs):Need:={ proc:=x.proc,expr:=x.req.expr,gen:=x.gen }
def DT(l:List Pcs):List Need:=(l.filter (·.waiting)).map ZI
theorem UQ{l:List Pcs}{i:Nat}{b:Pcs}(hb:l[i]?=some b):DT (l.take (i+1))=DT (l.take i)++if b.waiting then [ZI b] else []:=by
 unfold DT;rw[take_add_one,hb,toList_some,List.filter_append,map_append];cases h:b.waiting<;>simp[h]
theorem Mo(l:List Pcs)(i:Nat):(DT (l.take i)).length≤i:=by
 unfold DT;rw[length_map];exact le_trans (List.length_filter_le _ _) (by simp;omega)
def ofM(c:Cen):WS:=if Gf c then ⟨c.Aa,DT c.procs⟩ else ⟨[],[]⟩
theorem f26_ok(c:Cen)(h:DZ c.Aa):Ad C0 26 [.agg c.c] [] (.agg (ofM c).c) []:=by
 have hn:=h.n;refine Ad.go f26 ?_;unfold f26;refine gO ?_;refine Ac (f68_ok c h) ?_;cases hv:Gf c
 ·have ht:ofM c=⟨[],[]⟩:=by simp[ofM,hv]
  rw[ht];simp(disch:=omega)only[go_sem,Bool.not_false];refine B8 _ ?_;simp(disch:=omega)only[go_sem,map_nil];exact .agg (Aj.AM gI)
 have hpl:c.procs.length≤8:=(Jx hv).je.n;have ht:ofM c=⟨c.Aa,DT c.procs⟩:=by simp[ofM,hv]
 rw[ht];simp(disch:=omega)only[go_sem,Bool.not_true];refine Ab (α:=Nat) (fun i=>⟨[(4,I i),(3,.ptr 192 0),(2,.ptr 128 0),(1,.ptr 64 0)],[(192,[.sl (.own 768 0) 8 (c.Aa.map Queue.c),.sl (.own 3200 0) 9 ((DT (c.procs.take i)).map Need.c)]),(128,[.v (.slice none 0 0),.v (.slice none 0 0)]),(64,c.c)]⟩) (fun i=>i≤(c.procs).length∧True) (fun i=>(c.procs).length-i) 0 ⟨by omega,trivial⟩ ?_ ?_
 ·refine Imp.Am ?_ ?_
  all_goals(try simp(disch:=omega)only[go_sem])
  all_goals(try(repeat'(with_reducible apply And.intro)))
  all_goals(first|exact .AG (by omega)|exact .Az (by omega)|exact .sl (by simp[DT])|exact .int (by simp[DT])|exact .eq (by simp[DT]))
 rintro i ⟨hi,hP⟩ J hJ;refine gO ?_;refine ⟨fun hlt=>?_,fun hge=>?_⟩;rotate_left;have hil:i=(c.procs).length:=by simp at hge;omega
 rotate_left;obtain⟨b,hb⟩:∃ b,(c.procs)[i]?=some b:=⟨_,gE (by simp at hlt;omega)⟩;have hbm:=mG hb;have hlt2:i<(c.procs).length:=by simp at hlt;omega
 ·have hnl:=Mo c.procs i;have htk:=UQ hb;generalize DT (c.procs.take i)=ns at hnl htk ⊢;have hbd:ns.length+1≤4294967296:=by omega
  simp(disch:=omega)only[go_sem,gm,hb];cases hw:b.waiting
  ·rw[hw]at htk;simp only[Bool.false_eq_true,if_false,append_nil]at htk;simp(disch:=omega)only[go_sem,hw];refine hJ _ (i+1) ⟨by simp at hlt;omega,trivial⟩ (by simp at hlt;omega) (Imp.Am ?_ ?_)
   all_goals(try simp(disch:=omega)only[go_sem])
   all_goals(try(repeat'(with_reducible apply And.intro)))
   all_goals(first|exact .AG (by omega)|exact .Az (by omega)|exact .sl (by simp[htk])|exact .int (by simp[htk])|exact .eq (by simp[htk]))
  ·rw[hw]at htk;simp only[if_true]at htk;simp(disch:=omega)only[go_sem,hw];refine Aq 23 [([],[3]),([],[27]),([],[1]),([],[29]),([],[4]),([],[30,31]),([],[32]),([],[33]),([],[1]),([],[35]),([],[4]),([],[36,37]),([],[38]),([],[39]),([],[40]),([],[1]),([],[42]),([],[4]),([],[43,44]),([],[45]),([],[46]),([],[34,41,47]),([],[48])] fol ?_;simp(disch:=omega)only[go_sem,gm,hb];refine hJ _ (i+1) ⟨by simp at hlt;omega,trivial⟩ (by simp at hlt;omega) (Imp.Am ?_ ?_)
   ·exact gI
   ·rw[htk];refine gO ?_;exact .sl (by rw[map_append];rfl)
 ·subst hil;rw[take_length];refine Bc ⟨[],[],[768,3200]⟩ _ (by(try simp(disch:=omega)only[go_sem,C6,IJ])<;>rfl) ⟨rfl,rfl⟩ (by simp[lk]) ?_ trivial;simp(disch:=omega)only[go_sem]
def Hf(l:List Int):WS:=ofM (IV l)
theorem Kn(l:List Int):DZ (IV l).Aa:=Ts _ _ (W5 _ (by rw[Pa];omega))
theorem f18_ok(l:List Int)(hl:l.length≤10000):Ad C0 18 [I6 l] [] (.agg (Hf l).c) []:=by
 refine Ad.go f18 ?_;unfold f18;refine gO ?_;refine Ac (f25_ok l hl) ?_;refine gO ?_;refine Ac (f26_ok (IV l) (Kn l)) ?_;refine gO ?_;refine B8 _ ?_;simp(disch:=omega)only[go_sem,Hf]
theorem Tl(c:Cen)(h:DZ c.Aa):Few (ofM c):=by
 unfold ofM;split
 ·rename_i hv;have hpl:c.procs.length≤8:=(Jx hv).je.n;have:=Mo c.procs c.procs.length;rw[take_length]at this;exact⟨h.n,by show (DT c.procs).length≤100;omega,h.q⟩
 ·exact⟨by simp,by simp,by simp⟩
theorem LI(l:List Int):Few (Hf l):=Tl _ (Kn l)
def Cn{α:Type}(l:List Int):List α→Nat→List α × Nat
 |[],a=>([],a)
 | x::xs,a=>((if (Ak l a 5).1=1 then [] else [x])++(Cn l xs (Ak l a 5).2).1,(Cn l xs (Ak l a 5).2).2)
theorem QI{α:Type}(l:List Int)(x:α):∀ (xs:List α) (a:Nat),Cn l (xs++[x]) a=((Cn l xs a).1++(if (Ak l (Cn l xs a).2 5).1=1 then [] else [x]),(Ak l (Cn l xs a).2 5).2)
 |[],a=>by simp[Cn];rfl
 | y::xs,a=>by
  simp only[cons_append,Cn,QI l x xs,List.append_assoc];rfl
theorem QJ{α:Type}(l:List Int){xs:List α}{i:Nat}{b:α}(a:Nat)(hb:xs[i]?=some b):Cn l (xs.take (i+1)) a=((Cn l (xs.take i) a).1++(if (Ak l (Cn l (xs.take i) a).2 5).1=1 then [] else [b]),(Ak l (Cn l (xs.take i) a).2 5).2):=by
 rw[take_add_one,hb,toList_some,QI]
theorem GA{α:Type}(l:List Int):∀ (xs:List α) (a:Nat),(Cn l xs a).1.length≤xs.length
 |[],_=>by simp[Cn]
 | x::xs,a=>by
  have:=GA l xs (Ak l a 5).2;simp only[Cn,length_append];split<;>simp<;>omega
theorem Sj{α:Type}(l:List Int){y:α}:∀ (xs:List α) (a:Nat),y∈(Cn l xs a).1→y∈xs
 |[],_,h=>by simp[Cn]at h
 | x::xs,a,h=>by
  simp only[Cn,mem_append]at h;rcases h with h|h
  ·split at h
   ·cases h
   ·simp at h;simp[h]
  ·exact List.mem_cons_of_mem _ (Sj l xs _ h)
def Iu(s:WS)(by_:List Int):WS:=⟨(Cn by_ s.Aa 0).1,(Cn by_ s.Ao (Cn by_ s.Aa 0).2).1⟩
theorem Wr{s:WS}(h:Few s)(by_:List Int):Few (Iu s by_) :=
 ⟨le_trans (GA _ _ _) h.nq,le_trans (GA _ _ _) h.nn,fun q hq=>h.aq q (Sj _ _ _ hq)⟩
theorem f17_ok(s:WS)(l:List Int)(h:Few s)(hl:l.length≤10000):Ad C0 17 [.agg s.c,I6 l] [] (.agg (Iu s l).c) []:=by
 have h1:=h.nq;have h2:=h.nn;refine Ad.go f17 ?_;unfold f17;refine gO ?_;refine Ab (α:=Nat) (fun i=>⟨[(7,I i),(6,.ptr 384 0),(5,.ptr 704 0),(4,.ptr 256 0),(2,.ptr 128 0)],[(384,[.sl (.own 1920 0) 8 ((Cn l (s.Aa.take i) 0).1.map Queue.c),.v (.slice none 0 0)]),(704,DA l (Cn l (s.Aa.take i) 0).2),(256,[.v (.slice none 0 0),.v (.slice none 0 0)]),(128,s.c)]⟩) (fun i=>i≤(s.Aa).length∧True) (fun i=>(s.Aa).length-i) 0 ⟨by omega,trivial⟩ ?_ ?_
 ·refine Imp.Am ?_ ?_
  all_goals(try simp(disch:=omega)only[go_sem])
  all_goals(try(repeat'(with_reducible apply And.intro)))
  all_goals(first|exact .AG (by omega)|exact .Az (by omega)|exact .sl (by simp[Cn])|exact .int (by simp[Cn])|exact .eq (by simp[Cn]))
 rintro i ⟨hi,hP⟩ J hJ;refine gO ?_;refine ⟨fun hlt=>?_,fun hge=>?_⟩;rotate_left;have hil:i=(s.Aa).length:=by simp at hge;omega
 rotate_left;obtain⟨b,hb⟩:∃ b,(s.Aa)[i]?=some b:=⟨_,gE (by simp at hlt;omega)⟩;have hbm:=mG hb;have hlt2:i<(s.Aa).length:=by simp at hlt;omega
 ·have hpl:=GA l (s.Aa.take i) 0;have hpt:=QJ l 0 hb;generalize Cn l (s.Aa.take i) 0=pk at hpl hpt ⊢;obtain⟨pl,a1⟩:=pk;simp only at hpl hpt ⊢;have hbd:pl.length+1≤4294967296:=by simp at hpl;omega
  refine call2 ⟨⟨[],[(704,63)],[]⟩,[],[]⟩ (f37_ok l a1 5 (by omega) (by omega)) ?_
  by_cases h5:(Ak l a1 5).1=1
  ·rw[if_pos h5,append_nil]at hpt;simp(disch:=omega)only[go_sem,h5];refine hJ _ (i+1) ⟨by omega,trivial⟩ (by omega) (Imp.Am ?_ ?_)
   ·exact gI
   ·rw[hpt];simp(disch:=omega)only[go_sem]
  ·rw[if_neg h5]at hpt;have h5':((Ak l a1 5).1 !=1)=true:=by simpa using h5
   simp(disch:=omega)only[go_sem,h5'];refine Aq 8 [([],[6]),([],[22]),([],[2]),([],[24]),([],[7]),([],[25,26]),([],[27]),([],[28])] fol ?_;simp(disch:=omega)only[go_sem,gm,hb];refine hJ _ (i+1) ⟨by omega,trivial⟩ (by omega) (Imp.Am ?_ ?_)
   ·exact gI
   ·rw[hpt];refine gO ?_;exact .sl (by rw[map_append];rfl)
 subst hil;rw[take_length];have hr:Iu s l=⟨(Cn l s.Aa 0).1,(Cn l s.Ao (Cn l s.Aa 0).2).1⟩:=rfl;rw[hr];generalize Cn l s.Aa 0=pk;obtain⟨pq,a0'⟩:=pk;simp only;refine Ab (α:=Nat) (fun i=>⟨[(8,I i),(6,.ptr 384 0),(5,.ptr 704 0),(4,.ptr 256 0),(2,.ptr 128 0)],[(384,[.sl (.own 1920 0) 8 (pq.map Queue.c),.sl (.own 3200 0) 9 ((Cn l (s.Ao.take i) a0').1.map Need.c)]),(704,DA l (Cn l (s.Ao.take i) a0').2),(256,[.v (.slice none 0 0),.v (.slice none 0 0)]),(128,s.c)]⟩) (fun i=>i≤(s.Ao).length∧True) (fun i=>(s.Ao).length-i) 0 ⟨by omega,trivial⟩ ?_ ?_
 ·refine Imp.Am ?_ ?_
  all_goals(try simp(disch:=omega)only[go_sem])
  all_goals(try(repeat'(with_reducible apply And.intro)))
  all_goals(first|exact .AG (by omega)|exact .Az (by omega)|exact .sl (by simp[Cn])|exact .int (by simp[Cn])|exact .eq (by simp[Cn]))
 rintro i ⟨hi,hP⟩ J hJ;refine gO ?_;refine ⟨fun hlt=>?_,fun hge=>?_⟩;rotate_left;have hil:i=(s.Ao).length:=by simp at hge;omega
 rotate_left;obtain⟨b,hb⟩:∃ b,(s.Ao)[i]?=some b:=⟨_,gE (by simp at hlt;omega)⟩;have hbm:=mG hb;have hlt2:i<(s.Ao).length:=by simp at hlt;omega
 ·have hpl:=GA l (s.Ao.take i) a0';have hpt:=QJ l a0' hb;generalize Cn l (s.Ao.take i) a0'=pk at hpl hpt ⊢;obtain⟨pl,a1⟩:=pk;simp only at hpl hpt ⊢;have hbd:pl.length+1≤4294967296:=by simp at hpl;omega
  refine call2 ⟨⟨[],[(704,63)],[]⟩,[],[]⟩ (f37_ok l a1 5 (by omega) (by omega)) ?_
  by_cases h5:(Ak l a1 5).1=1
  ·rw[if_pos h5,append_nil]at hpt;simp(disch:=omega)only[go_sem,h5];refine hJ _ (i+1) ⟨by omega,trivial⟩ (by omega) (Imp.Am ?_ ?_)
   ·exact gI
   ·rw[hpt];simp(disch:=omega)only[go_sem]
  ·rw[if_neg h5]at hpt;have h5':((Ak l a1 5).1 !=1)=true:=by simpa using h5
   simp(disch:=omega)only[go_sem,h5'];refine Aq 8 [([],[6]),([],[42]),([],[2]),([],[44]),([],[8]),([],[45,46]),([],[47]),([],[48])] fol ?_;simp(disch:=omega)only[go_sem,gm,hb];refine hJ _ (i+1) ⟨by omega,trivial⟩ (by omega) (Imp.Am ?_ ?_)
   ·exact gI
   ·rw[hpt];refine gO ?_;exact .sl (by rw[map_append];rfl)
 subst hil;rw[take_length];refine Bc ⟨[],[],[1920,3200]⟩ _ (by(try simp(disch:=omega)only[go_sem,C6,IJ])<;>rfl) ⟨rfl,rfl⟩ (by simp[lk]) ?_ trivial;simp(disch:=omega)only[go_sem]
theorem f40_ok(l m:List Int)(h1:l.length≤10000)(h2:m.length≤10000):Ad C0 40 [I6 l,I6 m] [] (.agg (Iu (Hf l) m).c) []:=by
 refine Ad.go f40 ?_;unfold f40;refine gO ?_;refine Ac (f18_ok l h1) ?_;refine gO ?_;refine Ac (f17_ok (Hf l) m (LI l) h2) ?_;refine gO ?_;exact AE _
end Go.Rd
