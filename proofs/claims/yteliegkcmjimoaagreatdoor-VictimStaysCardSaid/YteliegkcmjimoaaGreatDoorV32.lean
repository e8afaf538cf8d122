/- part 32 of the proof -/
import Derived.Test.YteliegkcmjimoaaGreatDoorV31
set_option linter.all false
open Go Go.Abs Go.Proofs
set_option maxRecDepth 100000
namespace Go.Rd
set_option maxHeartbeats 8000000
open List (cons_append length_append length_map map_append map_cons map_nil nil_append take_add_one take_length)
open Option (toList_some)
open Nat (le_trans)
open Tryz
attribute [go_sem] Eb
def fb(x n:Int)(h:1<=n):0<=Ke x n/\Ke x n<n:=by
 have e:Ke x n=x%n:=by simp only[Ke];rw[if_neg (by simp;omega)]
 rw[e];exact⟨Int.emod_nonneg x (by omega),Int.emod_lt_of_pos x (by omega)⟩
def E1(l:List Int)(a:Nat)(n:Int)(h:1<=n):0<=(Ai l a n).1/\(Ai l a n).1<n:=by
 unfold Ai;split
 ·exact⟨Int.le_refl _,by show (0:Int)<n;omega⟩
 ·exact fb _ _ h
def FL(l:List Int)(a:Nat)(n:Int):a<=(Ai l a n).2/\(a<l.length->(Ai l a n).2=a+1):=by
 unfold Ai;cases hb:l[a]? with
 |none=>exact⟨Nat.le_refl _,λh=>by rw[gE h]at hb;cases hb⟩
 |some x=>exact⟨Nat.le_succ _,λ_=>rfl⟩
def La(r:Bo)(n:Int):BO:=if r.kind=1 then ⟨cA.getD (n%8).toNat 0,0⟩ else ⟨0,1+Ke n r.Ax⟩
def dU(r:Bo)(n:Int)(hu:r.Ax<=1000000):Ac C0 264 [.agg r.c,I n] [] (.agg (La r n).c) []:=by
 refine Ac.go f264 ?_;unfold f264;refine gO ?_
 by_cases h1:r.kind=1
 ·have e:La r n=⟨cA.getD (n%8).toNat 0,0⟩:=by simp[La,h1]
  rw[e];simp(disch:=omega)only[go_sem,h1];refine Ab (oU n) ?_;refine gO ?_;exact AM _
 ·have e:La r n=⟨0,1+Ke n r.Ax⟩:=by simp[La,h1]
  have ku:(r.kind==1)=false:=by simpa using h1
  rw[e];simp(disch:=omega)only[go_sem,ku];refine Ab (TF n r.Ax (by omega)) ?_;have hw:IntKind.i64.wrap (1+Ke n r.Ax)=1+Ke n r.Ax:=by
   by_cases hz:1<=r.Ax
   ·have:=fb n r.Ax hz;exact wrap64 _ (by omega) (by omega)
   ·have:Ke n r.Ax=0:=by simp only[Ke];rw[if_pos (by simp;omega)]
    rw[this];exact wrap64 _ (by omega) (by omega)
  simp(disch:=omega)only[go_sem,hw];exact AM _
def ZK(l:List Int)(az:List Atom)(a:Nat):Expr × Nat:=(.mk 0 (az.getD (Ai l a az.length).1.toNat a0) [],(Ai l a az.length).2)
def Hv(f:Nat->Expr × Nat):Nat->Nat->List Expr × Nat
 | 0,a=>([],a)
 | n+1,a=>((Hv f n a).1++[(f (Hv f n a).2).1],(f (Hv f n a).2).2)
def Dl(l:List Int)(az:List Atom):Nat->Nat->Expr × Nat
 | 0,a=>ZK l az a
 | d+1,a=>if (Ai l a 4).1=0 then ZK l az (Ai l a 4).2 else
  (.mk (1+(Ai l (Ai l (Ai l a 4).2 3).2 (1+(Ai l (Ai l a 4).2 3).1)).1) a0 (Hv (Dl l az d) (1+(Ai l (Ai l a 4).2 3).1).toNat (Ai l (Ai l (Ai l a 4).2 3).2 (1+(Ai l (Ai l a 4).2 3).1)).2).1,
   (Hv (Dl l az d) (1+(Ai l (Ai l a 4).2 3).1).toNat (Ai l (Ai l (Ai l a 4).2 3).2 (1+(Ai l (Ai l a 4).2 3).1)).2).2)
def Wf(f:Nat->Expr × Nat):∀ n a,(Hv f n a).1.length=n
 | 0,_=>rfl
 | n+1,a=>by simp[Hv,Wf f n a]
def ZM{l:List Int}{az:List Atom}{a:Nat}(hz:1<=az.length):∃ (i:Nat) (x:Atom),(Ai l a az.length).1=(i:Int)/\az[i]?=some x/\ZK l az a=(.mk 0 x [],(Ai l a az.length).2):=by
 obtain⟨h1,h2⟩:=E1 l a az.length (by omega);obtain⟨i,hi⟩:∃ i:Nat,(Ai l a az.length).1=(i:Int):=⟨_,(Int.toNat_of_nonneg h1).symm⟩;have Au:i<az.length:=by omega
 refine⟨i,az[i],hi,gE Au,?_⟩;simp[ZK,hi,List.getD,Au]
def oL(l:List Int)(az:List Atom)(hl:l.length<=1000000)(hz:1<=az.length/\az.length<=100):∀ (d a:Nat),d<=10->Ac C0 265 [.ptr 63 0,BN az,I d] [(63,Eb l a)] (.agg (Dl l az d a).1.c) [(63,Eb l (Dl l az d a).2)]:=by
 intro d
 induction d with
 | zero =>
  intro a _;obtain⟨i,x,h1,h2,h3⟩:=ZM (l:=l) (a:=a) hz.1;have e:Dl l az 0 a=(.mk 0 x [],(Ai l a az.length).2):=by rw[Dl,h3]
  refine Ac.go f265 ?_;unfold f265;refine gO ?_;refine call2 ⟨⟨[],[(63,63)],[]⟩,[],[]⟩ (CW l a az.length hl (by omega)) ?_;rw[e];simp(disch:=omega)only[go_sem,h1,gm,h2];refine CE ⟨[],[(63,63)],[]⟩ _ ?_ ?_
  ·simp(disch:=omega)only[go_sem,Expr.Cf,Expr.k,Expr.atom,Expr.kids,map_nil];exact .agg (Af.AI gI)
  ·exact gI
 | succ d ih =>
  intro a hd;refine Ac.go f265 ?_;unfold f265;have e0:((d:Int)+1==0)=false:=by simp;omega
  have e1:(((d+1:Nat):Int)==0)=false:=by simp;omega
  simp(disch:=omega)only[go_sem,e0,e1];refine call2 ⟨⟨[],[(63,63)],[]⟩,[],[]⟩ (CW l a 4 hl (by omega)) ?_;refine gO ?_
  by_cases h4:(Ai l a 4).1=0
  ·obtain⟨i,x,h1,h2,h3⟩:=ZM (l:=l) (a:=(Ai l a 4).2) hz.1;have e:Dl l az (d+1) a=(.mk 0 x [],(Ai l (Ai l a 4).2 az.length).2):=by rw[Dl,if_pos h4,h3]
   simp(disch:=omega)only[go_sem,h4];refine call2 ⟨⟨[],[(63,63)],[]⟩,[],[]⟩ (CW l (Ai l a 4).2 az.length hl (by omega)) ?_;rw[e];simp(disch:=omega)only[go_sem,h1,gm,h2];refine CE ⟨[],[(63,63)],[]⟩ _ ?_ ?_
   ·simp(disch:=omega)only[go_sem,Expr.Cf,Expr.k,Expr.atom,Expr.kids,map_nil];exact .agg (Af.AI gI)
   ·exact gI
  have rj:((Ai l a 4).1==0)=false:=by simpa using h4
  obtain⟨a1,zx⟩:∃ a1,a1=(Ai l a 4).2:=⟨_,rfl⟩;rw[<- zx];simp(disch:=omega)only[go_sem,rj];refine call2 ⟨⟨[],[(63,63)],[]⟩,[],[]⟩ (CW l a1 3 hl (by omega)) ?_;obtain⟨b1,b2⟩:=E1 l a1 3 (by omega);obtain⟨m,hm⟩:∃ m:Nat,1+(Ai l a1 3).1=(m:Int):=⟨(1+(Ai l a1 3).1).toNat,by omega⟩;obtain⟨a2,rk⟩:∃ a2,a2=(Ai l a1 3).2:=⟨_,rfl⟩;rw[<- rk];have hw:IntKind.i64.wrap (1+(Ai l a1 3).1)=m:=by rw[wrap64 _ (by omega) (by omega),hm]
  simp(disch:=omega)only[go_sem,hw,hm];refine call2 ⟨⟨[],[(63,63)],[]⟩,[],[]⟩ (CW l a2 m hl (by omega)) ?_;obtain⟨c1,c2⟩:=E1 l a2 m (by omega);obtain⟨a3,ha3⟩:∃ a3,a3=(Ai l a2 m).2:=⟨_,rfl⟩;rw[<- ha3];have mR:IntKind.i64.wrap (1+(Ai l a2 m).1)=1+(Ai l a2 m).1:=wrap64 _ (by omega) (by omega);have e:Dl l az (d+1) a=(.mk (1+(Ai l a2 m).1) a0 (Hv (Dl l az d) m a3).1,(Hv (Dl l az d) m a3).2):=by
   rw[Dl,if_neg h4,<- zx,hm,<- rk,<- ha3];rfl
  rw[e];simp(disch:=omega)only[go_sem,mR];refine Ao (α:=Nat) (λi=>⟨[(9,I i),(8,.ptr 512 0),(7,I m),(6,.ptr 384 0),(0,.ptr 63 0),(1,BN az),(2,I (d+1:Nat))],[(512,[I (1+(Ai l a2 m).1),.v (.string (str [])),I 0,I 0,.sl (.own 2944 0) 5 ((Hv (Dl l az d) i a3).1.map Expr.c)]),(384,[I 0,.v (.string (str [])),I 0,I 0,.v (.slice none 0 0)]),(63,Eb l (Hv (Dl l az d) i a3).2)]⟩) (λi=>i<=m) (λi=>m-i) 0 (by omega) (AQ.An ?_ ?_) ?_
  ·exact gI
  ·simp(disch:=omega)only[go_sem,Hv,map_nil]
   done
  rintro i hi J hJ;refine gO ?_;refine ⟨λAu=>?_,λG9=>?_⟩
  ·have AR:i<m:=by simp at Au;omega
   have bV:=Wf (Dl l az d) i a3;have V4:Hv (Dl l az d) (i+1) a3=((Hv (Dl l az d) i a3).1++[(Dl l az d (Hv (Dl l az d) i a3).2).1],(Dl l az d (Hv (Dl l az d) i a3).2).2):=rfl;generalize Hv (Dl l az d) i a3=ks at bV V4 ⊢;obtain⟨kl,ka⟩:=ks;have hd1:IntKind.i64.wrap (((d+1:Nat):Int)-1)=d:=by rw[wrap64 _ (by omega) (by omega)];omega
   simp only at bV V4 ⊢;refine IW 6 [([],[8]),([0],[38]),([],[0]),([],[1]),([],[2]),([4],[42]),([2,3,4,5],[]),([2,3,4,5,6],[]),([0,1,2,3,4,5,6,7],[]),([0,1,2,3,4,5,6,7,8],[]),([0,1,2,3,4,5,6,7,8,9],[])] [0,1] [([],[40,41,43,9,8,7,6,0,1,2],let o0:OT:=.done;let o1:OT:=.pick [(10,o0)];let o2:OT:=.pick [(9,o1)];let o3:OT:=.pick [(8,o2)];let o4:OT:=.pick [(7,o3)];let o5:OT:=.pick [(6,o4)];let o6:OT:=.pick [(1,o3)];let o7:OT:=.pick [(1,o4),(7,o6)];let o8:OT:=.pick [(1,o5),(6,o7)];let o9:OT:=.pick [(0,o6)];let bb:OT:=.pick [(0,o7),(7,o9)];let ia:OT:=.pick [(0,o8),(6,bb)];ia),([0],[38,40,41,43,9,8,7,6,0,1,2],let o0:OT:=.done;let o1:OT:=.pick [(10,o0)];let o2:OT:=.pick [(9,o1)];let o3:OT:=.pick [(8,o2)];let o4:OT:=.pick [(7,o3)];let o5:OT:=.pick [(6,o4)];let o6:OT:=.pick [(1,o3)];let o7:OT:=.pick [(1,o4),(7,o6)];let o8:OT:=.pick [(1,o5),(6,o7)];o8),([0,1],[40,41,43,39,9,8,7,6,0,1,2],let o0:OT:=.done;let o1:OT:=.pick [(10,o0)];let o2:OT:=.pick [(9,o1)];let o3:OT:=.pick [(8,o2)];let o4:OT:=.pick [(7,o3)];let o5:OT:=.pick [(6,o4)];o5)] B7 (by kernel_rfl) ?_;have bS:((d:Int)+1-1)=d:=by omega
   have IY:kl.length+1<=4294967296:=by omega
   simp(disch:=omega)only[go_sem,bS]
   repeat'(with_reducible refine And.intro ?_ ?_)
   all_goals
    refine call2 ⟨⟨[],[(63,63)],[]⟩,[],[]⟩ (ih ka (by omega)) ?_;simp(disch:=omega)only[go_sem]
    repeat'(with_reducible refine And.intro ?_ ?_)
    all_goals
     refine hJ _ (i+1) (by omega) (by omega) (AQ.An ?_ ?_)
     ·exact gI
     ·rw[V4];refine gO ?_;exact .sl (by rw[map_append,map_cons,map_nil,Expr.Cf])
  have Zw:i=m:=by simp at G9;omega
  subst Zw;refine CE ⟨[],[(63,63)],[2944]⟩ _ ?_ ?_
  ·simp(disch:=omega)only[go_sem,Expr.Cf,Expr.k,Expr.atom,Expr.kids,a0]
  ·exact gI
def wC(n:Int)(i:Nat):Int:=n.fdiv (2 ^ min (3*i) 64)
def Hz(cat:List Bo)(n:Int):Nat->List Atom
 | 0=>[]
 | i+1=>Hz cat n i++[⟨(cat.getD i r0).name,La (cat.getD i r0) (wC n i)⟩]
def Oo(cat:List Bo)(n:Int):∀ i,(Hz cat n i).length=i
 | 0=>rfl
 | i+1=>by simp[Hz,Oo cat n i]
def RI(l:List Int)(cat:List Bo)(a:Nat):Expr × Nat:=Dl l (Hz cat (Ai l a 1048576).1 cat.length) 2 (Ai l a 1048576).2
def wrapu(i:Nat)(h:i<=1000):IntKind.u64.wrap (3*(i:Int))=3*i:=by
 simp only[IntKind.wrap,IntKind.signed,IntKind.bits,Bool.false_and,Bool.false_eq_true,if_false];omega
def dK(l:List Int)(a:Nat)(cat:List Bo)(hl:l.length<=1000000)(hc:1<=cat.length/\cat.length<=100)(hu:∀ r∈cat,r.Ax<=1000000):Ac C0 218 [.ptr 63 0,FO cat] [(63,Eb l a)] (.agg (RI l cat a).1.c) [(63,Eb l (RI l cat a).2)]:=by
 refine Ac.go f218 ?_;unfold f218;refine gO ?_;refine call2 ⟨⟨[],[(63,63)],[]⟩,[],[]⟩ (CW l a 1048576 hl (by omega)) ?_;refine gO ?_;have e:RI l cat a=Dl l (Hz cat (Ai l a 1048576).1 cat.length) 2 (Ai l a 1048576).2:=rfl;rw[e];generalize (Ai l a 1048576).2=a1;generalize (Ai l a 1048576).1=first;refine Ao (α:=Nat) (λi=>⟨[(7,I i),(6,.sl (.own 2176 0) 3 ((Hz cat first i).map Atom.c)),(5,I first),(4,.ptr 256 0),(0,.ptr 63 0),(1,FO cat)],[(256,[I 0,.v (.string (str [])),I 0,I 0,.v (.slice none 0 0)]),(63,Eb l a1)]⟩) (λi=>i<=cat.length) (λi=>cat.length-i) 0 (by omega) (AQ.An ?_ ?_) ?_
 ·simp(disch:=omega)only[go_sem,Hz,map_nil]
 ·exact gI
 rintro i hi J hJ;simp(disch:=omega)only[go_sem,length_map];refine ⟨λAu=>?_,λG9=>?_⟩
 ·have AR:i<cat.length:=by simp at Au;omega
  obtain⟨r,hr⟩:∃ r,cat[i]?=some r:=⟨_,gE AR⟩;have kA:cat.getD i r0=r:=by simp[List.getD,hr]
  have hur:=hu r (mG hr);have hwu:=wrapu i (by omega);have SQ:=Oo cat first i;have eD:Hz cat first (i+1)=Hz cat first i++[⟨r.name,La r (wC first i)⟩]:=by rw[Hz,kA]
  have uD:first.fdiv (2 ^ min (3*(i:Int)).toNat 64)=wC first i:=by rw[wC,show (3*(i:Int)).toNat=3*i by omega]
  have IY:(Hz cat first i).length+1<=4294967296:=by omega
  generalize Hz cat first i=az at eD SQ IY ⊢;refine Av 18 [([],[6]),([],[1]),([],[7]),([],[17,18]),([],[19]),([],[20]),([],[1]),([],[7]),([],[22,23]),([],[24]),([],[5]),([],[7]),([],[27]),([],[28]),([],[26,29]),([],[25,30]),([15],[21,31]),([15],[32])] B7 ?_;simp(disch:=omega)only[go_sem,gm,hr,hwu,eq_false (show ¬ (3*(i:Int))<0 by omega),uD,Option.map_some]
  first|(refine Ab (dU r (wC first i) hur) ?_)|(refine Aq (dU r (wC first i) hur) ?_)
  refine gO ?_;refine hJ _ (i+1) (by omega) (by omega) (AQ.An ?_ ?_)
  ·simp(disch:=omega)only[go_sem];rw[eD,map_append,map_cons,map_nil];exact .rfl
  ·exact gI
 have Zw:i=cat.length:=by simp at G9;omega
 subst Zw;have SQ:=Oo cat first cat.length;refine Ti [2176] ⟨⟨[],[(63,63)],[]⟩,[],[]⟩ (oL l (Hz cat first cat.length) hl (by omega) 2 a1 (by omega)) gI rfl gI (.inl rfl) ?_;refine gO ?_;refine CE ⟨[],[(63,63)],[]⟩ _ ?_ ?_
 ·exact gI
 ·exact gI
def Sj(l:List Int)(a:Nat):Int × Nat:=if (Ai l a 5).1=1 then (1+(Ai l (Ai l a 5).2 20).1,(Ai l (Ai l a 5).2 20).2) else (0,(Ai l a 5).2)
def Ii(l:List Int)(cat:List Bo)(a:Nat):aY × Nat :=
 (⟨(RI l cat (Sj l (Ai l a 8).2).2).1,(Ai l a 8).1,(Sj l (Ai l a 8).2).1⟩,(RI l cat (Sj l (Ai l a 8).2).2).2)
def nW(l:List Int)(a:Nat)(cat:List Bo)(hl:l.length<=1000000)(hc:1<=cat.length/\cat.length<=100)(hu:∀ r∈cat,r.Ax<=1000000):Ac C0 170 [.ptr 63 0,FO cat] [(63,Eb l a)] (.agg (Ii l cat a).1.c) [(63,Eb l (Ii l cat a).2)]:=by
 refine Ac.go f170 ?_;unfold f170;refine gO ?_;refine call2 ⟨⟨[],[(63,63)],[]⟩,[],[]⟩ (CW l a 8 hl (by omega)) ?_;have e:Ii l cat a=(⟨(RI l cat (Sj l (Ai l a 8).2).2).1,(Ai l a 8).1,(Sj l (Ai l a 8).2).1⟩,(RI l cat (Sj l (Ai l a 8).2).2).2):=rfl;rw[e];generalize (Ai l a 8).2=a1;generalize (Ai l a 8).1=prio;refine gO ?_;refine call2 ⟨⟨[],[(63,63)],[]⟩,[],[]⟩ (CW l a1 5 hl (by omega)) ?_
 by_cases h1:(Ai l a1 5).1=1
 ·have e1:Sj l a1=(1+(Ai l (Ai l a1 5).2 20).1,(Ai l (Ai l a1 5).2 20).2):=by simp only[Sj,h1,if_true]
  rw[e1];have hb:=E1 l (Ai l a1 5).2 20 (by omega);have hw:IntKind.i64.wrap (1+(Ai l (Ai l a1 5).2 20).1)=1+(Ai l (Ai l a1 5).2 20).1:=wrap64 _ (by omega) (by omega);simp(disch:=omega)only[go_sem,h1];refine call2 ⟨⟨[],[(63,63)],[]⟩,[],[]⟩ (CW l (Ai l a1 5).2 20 hl (by omega)) ?_;simp(disch:=omega)only[go_sem,hw];refine call2 ⟨⟨[],[(63,63)],[]⟩,[],[]⟩ (dK l (Ai l (Ai l a1 5).2 20).2 cat hl hc hu) ?_;refine gO ?_;refine CE ⟨[],[(63,63)],[]⟩ _ ?_ ?_
  ·exact gI
  ·exact gI
 ·have e1:Sj l a1=(0,(Ai l a1 5).2):=by simp only[Sj,h1,if_false]
  rw[e1];have ku:((Ai l a1 5).1==1)=false:=by simpa using h1
  simp(disch:=omega)only[go_sem,ku];refine call2 ⟨⟨[],[(63,63)],[]⟩,[],[]⟩ (dK l (Ai l a1 5).2 cat hl hc hu) ?_;refine gO ?_;refine CE ⟨[],[(63,63)],[]⟩ _ ?_ ?_
  ·exact gI
  ·exact gI
def FB(l:List Int)(cat:List Bo)(n:Int)(p:Ad)(a:Nat):NT × Nat :=
 if n=0 then (⟨1,p,Eg,[],1+(Ai l a 9).1⟩,(Ai l a 9).2)
 else if n<9 then (⟨2,p,(Ii l cat a).1,[],0⟩,(Ii l cat a).2)
 else if n=9 then (⟨3,p,Eg,[],0⟩,a)
 else if n=10 then (⟨4,p,Eg,(cat.getD (Ai l a cat.length).1.toNat r0).name,0⟩,(Ai l a cat.length).2)
 else if n=11 then (⟨5,p,Eg,[],1+(Ai l a 4).1⟩,(Ai l a 4).2)
 else if n=12 then (⟨6,p,Eg,[],(Ai l a 5).1⟩,(Ai l a 5).2)
 else if n=13 then (⟨7,p,Eg,[],0⟩,a)
 else if n=14 then (⟨8,p,Eg,[],0⟩,a)
 else (⟨9,p,Eg,[],(Ai l a 12).1⟩,(Ai l a 12).2)
def FD(l:List Int)(cat:List Bo)(a:Nat):NT × Nat:=FB l cat (Ai l a 16).1 (KS (Ai l (Ai l a 16).2 6).1) (Ai l (Ai l a 16).2 6).2
def nC(l:List Int)(a:Nat)(cat:List Bo)(hl:l.length<=1000000)(hc:1<=cat.length/\cat.length<=100)(hu:∀ r∈cat,r.Ax<=1000000):Ac C0 117 [.ptr 63 0,FO cat] [(63,Eb l a)] (.agg (FD l cat a).1.c) [(63,Eb l (FD l cat a).2)]:=by
 refine Ac.go f117 ?_;unfold f117;refine gO ?_;refine call2 ⟨⟨[],[(63,63)],[]⟩,[],[]⟩ (CW l a 16 hl (by omega)) ?_;refine gO ?_;refine call2 ⟨⟨[],[(63,63)],[]⟩,[],[]⟩ (CW l (Ai l a 16).2 6 hl (by omega)) ?_;refine gO ?_;refine Ab (jT (Ai l (Ai l a 16).2 6).1) ?_;have e:FD l cat a=FB l cat (Ai l a 16).1 (KS (Ai l (Ai l a 16).2 6).1) (Ai l (Ai l a 16).2 6).2:=rfl;rw[e];generalize KS (Ai l (Ai l a 16).2 6).1=p;generalize (Ai l (Ai l a 16).2 6).2=a1;generalize (Ai l a 16).1=n
 by_cases h0:n=0
 ·have ht:FB l cat n p a1=(⟨1,p,Eg,[],1+(Ai l a1 9).1⟩,(Ai l a1 9).2):=by simp[FB,h0]
  have hb:=E1 l a1 9 (by omega);have hw:IntKind.i64.wrap (1+(Ai l a1 9).1)=1+(Ai l a1 9).1:=wrap64 _ (by omega) (by omega);rw[ht];simp(disch:=omega)only[go_sem,h0];refine call2 ⟨⟨[],[(63,63)],[]⟩,[],[]⟩ (CW l a1 9 hl (by omega)) ?_;simp(disch:=omega)only[go_sem,hw];refine CE ⟨[],[(63,63)],[]⟩ _ ?_ ?_
  ·simp(disch:=omega)only[go_sem,Eg,e0,a0,Expr.k,Expr.atom,Expr.kids,map_nil];exact .agg (Af.AI gI)
  ·exact gI
 have xy:(n==0)=false:=by simpa using h0
 simp(disch:=omega)only[go_sem,xy]
 by_cases h1:n<9
 ·have ht:FB l cat n p a1=(⟨2,p,(Ii l cat a1).1,[],0⟩,(Ii l cat a1).2):=by simp[FB,h0,h1]
  rw[ht];simp(disch:=omega)only[go_sem,eq_true h1,decide_true];refine call2 ⟨⟨[],[(63,63)],[]⟩,[],[]⟩ (nW l a1 cat hl hc hu) ?_;refine gO ?_;refine CE ⟨[],[(63,63)],[]⟩ _ ?_ ?_
  ·simp(disch:=omega)only[go_sem,Eg,e0,a0,Expr.k,Expr.atom,Expr.kids,map_nil]
   try exact .agg (Af.AI gI)
  ·exact gI
 simp(disch:=omega)only[go_sem,eq_false h1,decide_false]
 by_cases h2:n=9
 ·have ht:FB l cat n p a1=(⟨3,p,Eg,[],0⟩,a1):=by simp[FB,h0,h2]
  rw[ht];simp(disch:=omega)only[go_sem,h2];refine CE ⟨[],[(63,63)],[]⟩ _ ?_ ?_
  ·simp(disch:=omega)only[go_sem,Eg,e0,a0,Expr.k,Expr.atom,Expr.kids,map_nil]
   try exact .agg (Af.AI gI)
  ·exact gI
 have h2':(n==9)=false:=by simpa using h2
 simp(disch:=omega)only[go_sem,h2']
 by_cases h3:n=10
 ·have ht:FB l cat n p a1=(⟨4,p,Eg,(cat.getD (Ai l a1 cat.length).1.toNat r0).name,0⟩,(Ai l a1 cat.length).2):=by simp[FB,h3]
  obtain⟨b1,b2⟩:=E1 l a1 cat.length (by omega);obtain⟨i,hi⟩:∃ i:Nat,(Ai l a1 cat.length).1=(i:Int):=⟨_,(Int.toNat_of_nonneg b1).symm⟩;have Bf:i<cat.length:=by omega
  have hr:cat[i]?=some cat[i]:=gE Bf;have kA:cat.getD (Ai l a1 cat.length).1.toNat r0=cat[i]:=by rw[hi];simp[List.getD,hr]
  rw[ht,kA];have bT:=CW l a1 cat.length hl (by omega);generalize (Ai l a1 cat.length).2=a2 at bT ⊢;rw[hi]at bT;generalize cat[i]=r at hr ⊢;simp(disch:=omega)only[go_sem,h3];refine D4 (st':=⟨[(6,.ptr 384 0),(4,.ptr 256 0),(0,.ptr 63 0),(1,FO cat)],[(384,(⟨0,p,Eg,[],0⟩:NT).c),(256,(⟨0,p0,Eg,[],0⟩:NT).c),(63,Eb l a1)]⟩) (AQ.An ?_ ?_) ?_
  ·exact gI
  ·simp(disch:=omega)only[go_sem,Eg,e0,a0,p0,Expr.k,Expr.atom,Expr.kids,map_nil]
  refine C8 4095 [(0,1,0),(1,2,0),(2,4,0),(3,8,4),(4,16,10),(5,32,17),(6,64,32),(7,128,64),(8,256,0),(9,512,272),(10,1024,1023),(11,2048,2047)] [0,1,2,4,256,3,5,257,6,258,12,260,7,259,13,261,14,262,268,15,263,269,30,270,31,271,286,63,287,798,127,319,799,255,383,831,511,895,1023,2047,4095] (λm=>⟨Vm m [(1,40,FO cat),(2,41,.ptr 63 0),(4,42,FO cat),(8,43,I cat.length),(16,44,I i),(32,45,.ep .no i r.c 0),(64,46,.ep .no i r.c 0),(128,47,.v (.string (str r.name))),(256,48,.ptr 384 0),(1024,49,.ptr 384 11)]++[(6,.ptr 384 0),(4,.ptr 256 0),(0,.ptr 63 0),(1,FO cat)],[(384,(⟨(if m / 512%2=1 then 4 else 0),p,Eg,(if m / 2048%2=1 then r.name else []),0⟩:NT).c),(256,(⟨0,p0,Eg,[],0⟩:NT).c),(63,Eb l (if m / 16%2=1 then a2 else a1))]⟩) ?_ ?_ ?_ B7
  ·exact AS
  ·simp (maxSteps:=100000000)only[C7,C6,DS,DR,and_true,Nat.reduceDiv,Nat.reduceMod,Nat.reduceAnd,Nat.reduceEqDiff,reduceIte,true_and,and_false,false_and,and_self]
   repeat'(with_reducible refine And.intro ?_ ?_)
   all_goals simp(disch:=omega)only[go_sem,gm,hr,length_map,nil_append,cons_append]
   all_goals first|exact AQ.An (by simp(disch:=omega)only[go_sem,nil_append,cons_append]) (by simp(disch:=omega)only[go_sem,nil_append,cons_append])|(refine call2 ⟨⟨[],[(63,63)],[]⟩,[],[]⟩ bT ?_;simp(disch:=omega)only[go_sem];exact AQ.An (by simp(disch:=omega)only[go_sem,nil_append,cons_append]) (by simp(disch:=omega)only[go_sem,nil_append,cons_append]))
  refine gO ?_;refine CE ⟨[],[(63,63)],[]⟩ _ ?_ ?_
  ·simp(disch:=omega)only[go_sem,Eg,e0,a0,Expr.k,Expr.atom,Expr.kids,map_nil]
  ·exact gI
 have UP:(n==10)=false:=by simpa using h3
 simp(disch:=omega)only[go_sem,UP]
 by_cases h4:n=11
 ·have ht:FB l cat n p a1=(⟨5,p,Eg,[],1+(Ai l a1 4).1⟩,(Ai l a1 4).2):=by simp[FB,h4]
  have hb:=E1 l a1 4 (by omega);have hw:IntKind.i64.wrap (1+(Ai l a1 4).1)=1+(Ai l a1 4).1:=wrap64 _ (by omega) (by omega);rw[ht];simp(disch:=omega)only[go_sem,h4];refine call2 ⟨⟨[],[(63,63)],[]⟩,[],[]⟩ (CW l a1 4 hl (by omega)) ?_;simp(disch:=omega)only[go_sem,hw];refine CE ⟨[],[(63,63)],[]⟩ _ ?_ ?_
  ·simp(disch:=omega)only[go_sem,Eg,e0,a0,Expr.k,Expr.atom,Expr.kids,map_nil]
   try exact .agg (Af.AI gI)
  ·exact gI
 have rj:(n==11)=false:=by simpa using h4
 simp(disch:=omega)only[go_sem,rj]
 by_cases h5:n=12
 ·have ht:FB l cat n p a1=(⟨6,p,Eg,[],(Ai l a1 5).1⟩,(Ai l a1 5).2):=by simp[FB,h5]
  rw[ht];simp(disch:=omega)only[go_sem,h5];refine call2 ⟨⟨[],[(63,63)],[]⟩,[],[]⟩ (CW l a1 5 hl (by omega)) ?_;refine gO ?_;refine CE ⟨[],[(63,63)],[]⟩ _ ?_ ?_
  ·simp(disch:=omega)only[go_sem,Eg,e0,a0,Expr.k,Expr.atom,Expr.kids,map_nil]
   try exact .agg (Af.AI gI)
  ·exact gI
 have h5':(n==12)=false:=by simpa using h5
 simp(disch:=omega)only[go_sem,h5']
 by_cases h6:n=13
 ·have ht:FB l cat n p a1=(⟨7,p,Eg,[],0⟩,a1):=by simp[FB,h6]
  rw[ht];simp(disch:=omega)only[go_sem,h6];refine CE ⟨[],[(63,63)],[]⟩ _ ?_ ?_
  ·simp(disch:=omega)only[go_sem,Eg,e0,a0,Expr.k,Expr.atom,Expr.kids,map_nil]
   try exact .agg (Af.AI gI)
  ·exact gI
 have h6':(n==13)=false:=by simpa using h6
 simp(disch:=omega)only[go_sem,h6']
 by_cases h7:n=14
 ·have ht:FB l cat n p a1=(⟨8,p,Eg,[],0⟩,a1):=by simp[FB,h7]
  rw[ht];simp(disch:=omega)only[go_sem,h7];refine CE ⟨[],[(63,63)],[]⟩ _ ?_ ?_
  ·simp(disch:=omega)only[go_sem,Eg,e0,a0,Expr.k,Expr.atom,Expr.kids,map_nil]
   try exact .agg (Af.AI gI)
  ·exact gI
 have h7':(n==14)=false:=by simpa using h7
 have ht:FB l cat n p a1=(⟨9,p,Eg,[],(Ai l a1 12).1⟩,(Ai l a1 12).2):=by simp[FB,h0,h1,h2,h3,h4,h5,h6,h7]
 rw[ht];simp(disch:=omega)only[go_sem,h7'];refine call2 ⟨⟨[],[(63,63)],[]⟩,[],[]⟩ (CW l a1 12 hl (by omega)) ?_;refine gO ?_;refine CE ⟨[],[(63,63)],[]⟩ _ ?_ ?_
 ·simp(disch:=omega)only[go_sem,Eg,e0,a0,Expr.k,Expr.atom,Expr.kids,map_nil]
  try exact .agg (Af.AI gI)
 ·exact gI
def Z3:List Bs:=[[97],[98],[99],[100]]
def CR(l:List Int)(a:Nat):Nat->List Bo × Nat
 | 0=>([],a)
 | i+1=>((CR l a i).1++[⟨Z3.getD i [],1,1,(Ai l (CR l a i).2 4).1⟩],(Ai l (CR l a i).2 4).2)
def LB(l:List Int)(a:Nat):∀ i,(CR l a i).1.length=i
 | 0=>rfl
 | i+1=>by simp[CR,LB l a i]
def Jp(l:List Int)(name:Bs)(m:Int)(a:Nat):Bo × Nat:=(⟨name,2,1+(Ai l a m).1,(Ai l (Ai l a m).2 4).1⟩,(Ai l (Ai l a m).2 4).2)
def CN(l:List Int)(a:Nat):List Bo × Nat :=
 ((CR l a 4).1++[(Jp l [112] 8 (CR l a 4).2).1]++[(Jp l [113] 3 (Jp l [112] 8 (CR l a 4).2).2).1],(Jp l [113] 3 (Jp l [112] 8 (CR l a 4).2).2).2)
def nA(l:List Int)(a:Nat)(hl:l.length<=1000000):Ac C0 114 [.ptr 63 0] [(63,Eb l a)] (FO (CN l a).1) [(63,Eb l (CN l a).2)]:=by
 refine Ac.go f114 ?_;unfold f114;refine gO ?_;refine Ao (α:=Nat) (λi=>⟨[(5,I i),(4,.sl (.own 384 0) 1 (Z3.map λs=>[.v (.string (str s))])),(3,.sl (.own 1408 0) 4 ((CR l a i).1.map Bo.c)),(0,.ptr 63 0)],[(63,Eb l (CR l a i).2)]⟩) (λi=>i<=4) (λi=>4-i) 0 (by omega) (AQ.An ?_ ?_) ?_
 ·simp(disch:=omega)only[go_sem,CR,map_nil];exact .sl rfl
 ·simp(disch:=omega)only[go_sem,CR]
 rintro i hi J hJ;have hn4:Z3.length=4:=rfl;simp(disch:=omega)only[go_sem,length_map,hn4];refine ⟨λAu=>?_,λG9=>?_⟩
 ·have AR:i<4:=by simp at Au;omega
  obtain⟨s,hs⟩:∃ s,Z3[i]?=some s:=⟨_,gE (by rw[hn4];omega)⟩;have kA:Z3.getD i []=s:=by simp[List.getD,hs]
  have SQ:=LB l a i;have eD:CR l a (i+1)=((CR l a i).1++[⟨s,1,1,(Ai l (CR l a i).2 4).1⟩],(Ai l (CR l a i).2 4).2):=by rw[CR,kA]
  generalize CR l a i=ls at eD SQ ⊢;obtain⟨ll,a1⟩:=ls;simp only at eD SQ ⊢;have bT:=CW l a1 4 hl (by omega);generalize (Ai l a1 4).2=a2 at bT eD ⊢;generalize (Ai l a1 4).1=v at bT eD ⊢;have IY:ll.length+1<=4294967296:=by omega
  refine D4 (st':=⟨[(5,I i),(4,.sl (.own 384 0) 1 (Z3.map λs=>[.v (.string (str s))])),(3,.sl (.own 1408 0) 4 (ll.map Bo.c)),(0,.ptr 63 0)],[(63,Eb l a1)]⟩) AS ?_;refine C8 2047 [(0,1,0),(1,2,0),(2,4,0),(3,8,6),(4,16,8),(5,32,0),(6,64,32),(7,128,80),(8,256,128),(9,512,321),(10,1024,1023)] [0,1,2,4,32,3,5,33,6,34,36,96,7,35,37,97,14,38,98,100,15,39,99,101,30,46,102,31,47,103,62,110,63,111,126,127,254,255,510,511,1023,2047] (λm=>⟨Vm m [(1,13,(if m / 512%2=1 then .undef else .sl (.own 1408 0) 4 (ll.map Bo.c))),(2,14,.sl (.own 384 0) 1 (Z3.map λs=>[.v (.string (str s))])),(4,15,I i),(8,16,.ep (.own 384 0) i [.v (.string (str s))] 0),(16,17,.v (.string (str s))),(32,18,.ptr 63 0),(64,19,I v),(128,20,.agg (⟨s,1,1,v⟩:Bo).c),(256,21,.sl (.own 1344 0) 4 ([(⟨s,1,1,v⟩:Bo)].map Bo.c)),(512,22,.sl (.own 1408 0) 4 ((ll++[(⟨s,1,1,v⟩:Bo)]).map Bo.c))]++[(5,I i),(4,.sl (.own 384 0) 1 (Z3.map λs=>[.v (.string (str s))])),(3,(if m / 512%2=1 then (if m / 1024%2=1 then .sl (.own 1408 0) 4 ((ll++[(⟨s,1,1,v⟩:Bo)]).map Bo.c) else .undef) else .sl (.own 1408 0) 4 (ll.map Bo.c))),(0,.ptr 63 0)],[(63,Eb l (if m / 64%2=1 then a2 else a1))]⟩) ?_ ?_ ?_ B7
  ·exact AS
  ·simp (maxSteps:=100000000)only[C7,C6,DS,DR,and_true,Nat.reduceDiv,Nat.reduceMod,Nat.reduceAnd,Nat.reduceEqDiff,reduceIte,true_and,and_false,false_and,and_self]
   repeat'(with_reducible refine And.intro ?_ ?_)
   all_goals simp(disch:=omega)only[go_sem,gm,hs,length_map,nil_append,cons_append]
   all_goals first|exact AQ.An (by simp(disch:=omega)only[go_sem,nil_append,cons_append,map_append,map_cons,map_nil]) (by simp(disch:=omega)only[go_sem,nil_append,cons_append,map_append,map_cons,map_nil])|(refine call2 ⟨⟨[],[(63,63)],[]⟩,[],[]⟩ bT ?_;simp(disch:=omega)only[go_sem];exact AQ.An (by simp(disch:=omega)only[go_sem,nil_append,cons_append,map_append,map_cons,map_nil]) (by simp(disch:=omega)only[go_sem,nil_append,cons_append,map_append,map_cons,map_nil]))
  refine gO ?_;refine hJ _ (i+1) (by omega) (by omega) (AQ.An ?_ ?_)
  ·rw[eD];simp(disch:=omega)only[go_sem]
  ·rw[eD];simp(disch:=omega)only[go_sem]
 have Zw:i=4:=by simp at G9;omega
 subst Zw;have tN:CN l a=((CR l a 4).1++[(Jp l [112] 8 (CR l a 4).2).1]++[(Jp l [113] 3 (Jp l [112] 8 (CR l a 4).2).2).1],(Jp l [113] 3 (Jp l [112] 8 (CR l a 4).2).2).2):=rfl;rw[tN];have vW:=LB l a 4;generalize CR l a 4=ls at vW ⊢;obtain⟨ll,a1⟩:=ls;simp only at vW ⊢;obtain⟨b1,b2⟩:=E1 l a1 8 (by omega);have TZ:Jp l [112] 8 a1=(⟨[112],2,1+(Ai l a1 8).1,(Ai l (Ai l a1 8).2 4).1⟩,(Ai l (Ai l a1 8).2 4).2):=rfl;rw[TZ];have g1:=CW l a1 8 hl (by omega);have g2:=CW l (Ai l a1 8).2 4 hl (by omega);generalize (Ai l a1 8).2=a2 at g1 g2 ⊢;generalize (Ai l a1 8).1=u1 at b1 b2 g1 ⊢;simp only;generalize (Ai l a2 4).2=a3 at g2 ⊢;generalize (Ai l a2 4).1=h1 at g2 ⊢;obtain⟨c1,c2⟩:=E1 l a3 3 (by omega);have V6:Jp l [113] 3 a3=(⟨[113],2,1+(Ai l a3 3).1,(Ai l (Ai l a3 3).2 4).1⟩,(Ai l (Ai l a3 3).2 4).2):=rfl;rw[V6];have g3:=CW l a3 3 hl (by omega);have g4:=CW l (Ai l a3 3).2 4 hl (by omega);generalize (Ai l a3 3).2=a4 at g3 g4 ⊢;generalize (Ai l a3 3).1=u2 at c1 c2 g3 ⊢;simp only;generalize (Ai l a4 4).2=a5 at g4 ⊢;generalize (Ai l a4 4).1=h2 at g4 ⊢;have mQ:IntKind.i64.wrap (1+u1)=1+u1:=wrap64 _ (by omega) (by omega);have mR:IntKind.i64.wrap (1+u2)=1+u2:=wrap64 _ (by omega) (by omega);have AaH:ll.length+1<=4294967296:=by omega
 refine call2 ⟨⟨[],[(63,63)],[]⟩,[],[]⟩ g1 ?_;simp(disch:=omega)only[go_sem,mQ];refine call2 ⟨⟨[],[(63,63)],[]⟩,[],[]⟩ g2 ?_;refine gO ?_;refine call2 ⟨⟨[],[(63,63)],[]⟩,[],[]⟩ g3 ?_;simp(disch:=omega)only[go_sem,mR];refine call2 ⟨⟨[],[(63,63)],[]⟩,[],[]⟩ g4 ?_;have pq:ll.length+1+1<=4294967296:=by omega
 simp(disch:=omega)only[go_sem,length_append,length_map,List.length_singleton];refine CE ⟨[],[(63,63)],[2560]⟩ _ ?_ ?_
 ·simp(disch:=omega)only[go_sem];exact .sl (by rw[map_append,map_append];rfl)
 ·exact gI
@[reducible] def jr(l:List NT):AV:=.sl .no 13 (l.map NT.c)
theorem ZL(l:List Int)(az:List Atom)(a:Nat):a<=(ZK l az a).2:=(FL l a az.length).1
def ZI{f:Nat->Expr × Nat}(h:∀ a,a<=(f a).2):∀ n a,a<=(Hv f n a).2
 | 0,a=>Nat.le_refl _
 | n+1,a=>le_trans (ZI h n a) (h _)
def VX(l:List Int)(az:List Atom):∀ d a,a<=(Dl l az d a).2
 | 0,a=>ZL l az a
 | d+1,a=>by
  rw[Dl];have h1:=(FL l a 4).1;split
  ·exact le_trans h1 (ZL l az _)
  ·have h2:=(FL l (Ai l a 4).2 3).1;have h3:=(FL l (Ai l (Ai l a 4).2 3).2 (1+(Ai l (Ai l a 4).2 3).1)).1;exact le_trans (le_trans (le_trans h1 h2) h3) (ZI (λa=>VX l az d a) _ _)
def jK(l:List Int)(cat:List Bo)(a:Nat):a<=(RI l cat a).2:=le_trans (FL l a 1048576).1 (VX l _ 2 _)
def pZ(l:List Int)(a:Nat):a<=(Sj l a).2:=by
 have h1:=(FL l a 5).1;have h2:=(FL l (Ai l a 5).2 20).1;unfold Sj;split
 ·exact le_trans h1 h2
 ·exact h1
def ar(l:List Int)(cat:List Bo)(a:Nat):a<=(Ii l cat a).2:=by
 have h1:=(FL l a 8).1;have h2:=pZ l (Ai l a 8).2;exact le_trans (le_trans h1 h2) (jK l cat _)
def jc(l:List Int)(cat:List Bo)(n:Int)(p:Ad)(a:Nat):a<=(FB l cat n p a).2:=by
 unfold FB
 repeat' split
 all_goals first|exact Nat.le_refl _|exact(FL _ _ _).1|exact ar _ _ _
def Mn(l:List Int)(cat:List Bo)(a:Nat)(h:a<l.length):a<(FD l cat a).2:=by
 have h1:=(FL l a 16).2 h;have h2:=(FL l (Ai l a 16).2 6).1;have h3:=jc l cat (Ai l a 16).1 (KS (Ai l (Ai l a 16).2 6).1) (Ai l (Ai l a 16).2 6).2;show a<(FB l cat (Ai l a 16).1 (KS (Ai l (Ai l a 16).2 6).1) (Ai l (Ai l a 16).2 6).2).2;omega
def Ez(l:List Int)(a:Nat):Nat->List NT × Nat
 | 0=>([],a)
 | i+1=>((Ez l a i).1++[⟨1,KS i,Eg,[],1+(Ai l (Ez l a i).2 9).1⟩],(Ai l (Ez l a i).2 9).2)
def LD(l:List Int)(a:Nat):∀ i,(Ez l a i).1.length=i
 | 0=>rfl
 | i+1=>by simp[Ez,LD l a i]
def Kt(l:List Int)(cat:List Bo)(a:Nat):List NT :=
 if h:a<l.length then (FD l cat a).1::Kt l cat (FD l cat a).2 else []
 termination_by l.length-a
 decreasing_by have:=Mn l cat a h;omega
def Gu(l:List Int):List Bo × List NT:=((CN l 0).1,(Ez l (CN l 0).2 4).1++Kt l (CN l 0).1 (Ez l (CN l 0).2 4).2)
theorem P2(l:List Int)(a:Nat):∀ i,∀ r∈(CR l a i).1,r.Ax=1
 | 0,r,h=>by simp[CR]at h
 | i+1,r,h=>by
  simp only[CR,List.mem_append,List.mem_singleton]at h;rcases h with h|rfl
  ·exact P2 l a i r h
  ·rfl
def Pc(l:List Int)(a:Nat):(CN l a).1.length=6:=by simp[CN,LB]
def Tk(l:List Int)(a:Nat):∀ r∈(CN l a).1,r.Ax<=1000000:=λr h=>by
 simp only[CN,List.mem_append,List.mem_singleton]at h;rcases h with (h|rfl)|rfl
 ·have:=P2 l a 4 r h;omega
 ·have:=(E1 l (CR l a 4).2 8 (by omega)).2;simp only[Jp];omega
 ·have:=(E1 l (Jp l [112] 8 (CR l a 4).2).2 3 (by omega)).2;simp only[Jp]at this ⊢;omega
def tn(l:List Int)(hl:l.length<=1000000):Ac C0 67 [JN l] [] (.Bl [FO (Gu l).1,jr (Gu l).2]) []:=by
 refine Ac.go f67 ?_;unfold f67;refine gO ?_;refine call2 ⟨⟨[],[(640,63)],[]⟩,[],[]⟩ (nA l 0 hl) ?_;refine gO ?_;have NN:=Pc l 0;have hcu:=Tk l 0;have vZ:Gu l=((CN l 0).1,(Ez l (CN l 0).2 4).1++Kt l (CN l 0).1 (Ez l (CN l 0).2 4).2):=rfl;rw[vZ];generalize (CN l 0).2=mH at NN ⊢;generalize (CN l 0).1=cat at NN hcu ⊢;refine Ao (α:=Nat) (λi=>⟨[(7,I i),(6,.sl (.own 1600 0) 13 ((Ez l mH i).1.map NT.c)),(5,FO cat),(4,.ptr 640 0)],[(640,Eb l (Ez l mH i).2)]⟩) (λi=>i<=4) (λi=>4-i) 0 (by omega) (AQ.An ?_ ?_) ?_
 ·simp(disch:=omega)only[go_sem,Ez,map_nil]
 ·simp(disch:=omega)only[go_sem,Ez]
 rintro i hi J hJ;refine gO ?_;refine ⟨λAu=>?_,λG9=>?_⟩
 ·have AR:i<4:=by simp at Au;omega
  have SQ:=LD l mH i;have eD:Ez l mH (i+1)=((Ez l mH i).1++[⟨1,KS i,Eg,[],1+(Ai l (Ez l mH i).2 9).1⟩],(Ai l (Ez l mH i).2 9).2):=rfl;generalize Ez l mH i=ls at eD SQ ⊢;obtain⟨ll,a1⟩:=ls;simp only at eD SQ ⊢;have hb:=E1 l a1 9 (by omega);have hw:IntKind.i64.wrap (1+(Ai l a1 9).1)=1+(Ai l a1 9).1:=wrap64 _ (by omega) (by omega);have IY:ll.length+1<=4294967296:=by omega
  refine Ab (jT i) ?_;refine gO ?_;refine call2 ⟨⟨[],[(640,63)],[]⟩,[],[]⟩ (CW l a1 9 hl (by omega)) ?_;simp(disch:=omega)only[go_sem,hw];refine hJ _ (i+1) (by omega) (by omega) (AQ.An ?_ ?_)
  ·rw[eD];refine gO ?_;rw[map_append];refine .qj (Hy.append _ ?_);simp only[Eg,e0,a0,Expr.k,Expr.atom,Expr.kids,map_cons,map_nil,NT.c,Ad.c,Hy,K9,bc];simp
  ·rw[eD];simp(disch:=omega)only[go_sem]
 have Zw:i=4:=by simp at G9;omega
 subst Zw;have SQ:=LD l mH 4;generalize Ez l mH 4=ls at SQ ⊢;obtain⟨op,a1⟩:=ls;simp only at SQ ⊢;refine Ao (α:=List NT × Nat) (λx=>⟨[(6,.sl (.own 2112 0) 13 (x.1.map NT.c)),(5,FO cat),(4,.ptr 640 0)],[(640,Eb l x.2)]⟩) (λx=>x.1++Kt l cat x.2=op++Kt l cat a1/\x.1.length+(l.length-x.2)<=1000010) (λx=>l.length-x.2) (op,a1) ⟨rfl,by simp only;omega⟩ (AQ.BS ⟨[(1600,2112)],[(640,640)],[]⟩ ⟨rfl,rfl⟩ (by simp[lk]) ?_ ?_) ?_
 ·exact gI
 ·exact gI
 rintro⟨out,a2⟩ ⟨UQ,yq⟩ J hJ;simp only at UQ yq ⊢;refine gO ?_;refine call2 ⟨⟨[],[(640,63)],[]⟩,[],[]⟩ (nB l a2 hl) ?_;refine gO ?_;refine ⟨λAu=>?_,λG9=>?_⟩
 ·have AR:a2<l.length:=by simp at Au;omega
  have hun:Kt l cat a2=(FD l cat a2).1::Kt l cat (FD l cat a2).2:=by rw[Kt,dif_pos AR]
  have XT:=Mn l cat a2 AR;have IY:out.length+1<=4294967296:=by omega
  refine call2 ⟨⟨[],[(640,63)],[]⟩,[],[]⟩ (nC l a2 cat hl (by omega) hcu) ?_;refine gO ?_;refine hJ _ (out++[(FD l cat a2).1],(FD l cat a2).2) ⟨?_,?_⟩ ?_ (AQ.An ?_ ?_)
  ·rw[<- UQ,hun];simp
  ·simp only[length_append,List.length_singleton];omega
  ·simp only;omega
  ·simp(disch:=omega)only[go_sem];exact .sl (by rw[map_append];rfl)
  ·exact gI
 have pA:l.length<=a2:=by simp at G9;omega
 have hun:Kt l cat a2=[]:=by rw[Kt,dif_neg (by omega)]
 rw[hun,List.append_nil]at UQ;rw[<- UQ];refine AZ ⟨[],[],[2112]⟩ _ (by(try simp(disch:=omega)only[go_sem,Cr,GH])<;>rfl) ⟨rfl,rfl⟩ (by simp[lk]) ?_ trivial;simp(disch:=omega)only[go_sem]
def lG(r:Bo):Queue:=⟨r,[],[],[],0⟩
def P4(l:List Bo):List Queue × Int:=if Mk l then (l.map lG,0) else ([],1)
def nD(l:List Bo)(hl:l.length<=1000000):Ac C0 118 [FO l] [] (.Bl [AW (P4 l).1,I (P4 l).2]) []:=by
 refine Ac.go f118 ?_;unfold f118;refine gO ?_;refine Ab (dz l) ?_;cases h:Mk l
 ·have e:P4 l=([],1):=by simp[P4,h]
  rw[e];simp(disch:=omega)only[go_sem,h,Bool.not_false];refine CD _ ?_;simp(disch:=omega)only[go_sem,map_nil];refine .Bl (Af.AI ?_);simp(disch:=omega)only[go_sem]
  repeat'(with_reducible apply And.intro)
  all_goals(first|exact .AD (by omega)|exact .agg (Af.AI gI))
 ·have e:P4 l=(l.map lG,0):=by simp[P4,h]
  rw[e];simp(disch:=omega)only[go_sem,h,Bool.not_true];refine AH (l) (λi=>⟨[(5,I i),(0,FO l),(4,.sl (.own 1408 0) 8 (((l.take i).map lG).map Queue.c))],[]⟩) (λi=>True) trivial ?_ ?_
  ·exact B9
  rintro i ⟨hi,hP⟩ J hJ;refine gO ?_;refine Bp hi (λAu b hb Cc AR=>?_) λBf=>?_
  ·simp(disch:=omega)only[go_sem,gm,hb];refine hJ _ (i+1) ⟨by omega,trivial⟩ (by omega) (AQ.An ?_ ?_)
   ·simp(disch:=omega)only[go_sem];rw[take_add_one,hb,toList_some,map_append];refine .qj (Hy.append _ ?_);simp only[map_cons,map_nil,Function.comp_def,lG,Queue.c,Hy,K9,bc];simp
   ·exact gI
  ·subst Bf;rw[take_length];refine AZ ⟨[],[],[1408]⟩ _ (by(try simp(disch:=omega)only[go_sem,Cr,GH])<;>rfl) ⟨rfl,rfl⟩ (by simp[lk]) ?_ trivial;simp(disch:=omega)only[go_sem,AW,List.map_map]
def Vj(l:List Bo):Qt × Int:=if (P4 l).2=0 then (⟨0,(P4 l).1,[]⟩,0) else (⟨0,[],[]⟩,(P4 l).2)
def tp(l:List Bo)(hl:l.length<=1000000):Ac C0 68 [FO l] [] (.Bl [.agg (Vj l).1.c,I (Vj l).2]) []:=by
 refine Ac.go f68 ?_;unfold f68;refine gO ?_;refine Ab (nD l hl) ?_;refine gO ?_
 by_cases h:(P4 l).2=0
 ·have e:Vj l=(⟨0,(P4 l).1,[]⟩,0):=by simp[Vj,h]
  rw[e];simp(disch:=omega)only[go_sem,h];refine CD _ ?_;simp(disch:=omega)only[go_sem,map_nil];refine .Bl (Af.AI ?_);simp(disch:=omega)only[go_sem]
  repeat'(with_reducible apply And.intro)
  all_goals(first|exact .AD (by omega)|exact .agg (Af.AI gI))
 ·have e:Vj l=(⟨0,[],[]⟩,(P4 l).2):=by simp[Vj,h]
  have h':((P4 l).2 !=0)=true:=by simpa using h
  rw[e];simp(disch:=omega)only[go_sem,h'];refine CD _ ?_;simp(disch:=omega)only[go_sem,map_nil];refine .Bl (Af.AI ?_);simp(disch:=omega)only[go_sem]
  repeat'(with_reducible apply And.intro)
  all_goals(first|exact .AD (by omega)|exact .agg (Af.AI gI))
def ZJ{w:Aw}:∀ (n:Nat) (w:Aw),JE none w->JE none (MI n w)
 | 0,w,h=>h
 | n+1,w,h=>by
  simp only[MI];split
  ·exact h
  ·rename_i x hx;split
   ·exact h
   ·rename_i Au;rcases Ni w with he|⟨k,y,he,hy,hyw⟩
    ·rw[he]at Au;simp at Au
    ·rw[he]at hx ⊢;simp only[Int.toNat_natCast]at hx ⊢;rw[hy]at hx;have:=Option.some.inj hx;subst this;exact ZJ (w:=w) n _ (JU JE.Fh _ _ (T8 JE.q6 h hy hyw).1).1
def HN{Inv:Aw->Prop}(hI:I6 Inv){w:Aw}(h:Inv w):Ei (Co w).Aa:=(hI.bK _ (JU hI _ _ h).1).1
def nu{w:Aw}(k:NT)(h:Fit w):Ei (Ou w k).1.Aa:=by
 have hf:=Dx h.je.tab;unfold Ou;split
 ·exact hf
 split
 ·unfold KQ
  repeat' split
  all_goals exact hf
 split
 ·unfold K5;split
  ·exact hf
  split
  ·exact hf
  ·exact Dx (ZJ (w:=w) (wcount { w with now:=w.now+k.n }) { w with now:=w.now+k.n } ⟨h.je.tab,h.je.n,h.je.uq,h.je.Fv⟩).tab
 split
 ·exact hf
 ·rename_i i eL;obtain⟨x,hx⟩:=VP eL;have gN:=mG hx;have hi:=Ay hx;have hg:w.procs.getD i x0=x:=by simp[List.getD,hx]
  rw[hg];unfold Sd;split
  ·unfold EB;split
   ·exact hf
   rename_i a1;split
   ·rename_i a2;split
    ·rename_i a3;refine HN US.Fh (YP h.je hx (h.idle x gN (by simpa using a1)) (by simp only[JS,Bool.and_eq_true]at a2;exact a2.1.1.1.1) (λa ha=>?_)).2;obtain⟨n,_,hn,_⟩:=IS h.je.tab a3 ha;exact⟨n,hn⟩
    ·exact hf
   ·exact hf
  split
  ·split
   ·rename_i hw;obtain⟨s1,s2,_⟩:=Fc h.je hx hw;have UQ:(Bm w i x).procs[i]?=some (Cj x):=by rw[Dz];simp[hi]
    exact HN JE.Fh (s2.next UQ)
   ·exact hf
  split
  ·unfold FM;split
   ·exact hf
   rename_i a1;split
   ·exact hf
   ·exact HN US.Fh (TQ h.je hx (by simpa using a1))
  split
  ·split
   ·exact hf
   ·split
    ·exact hf
    ·exact hf
  split
  ·unfold F3;split
   ·rename_i a1;exact HN JE.Fh (Vw h.je hx (h.fits x gN) (h.idle x gN) (h.wait x gN) a1).2
   ·exact hf
  split
  ·split
   ·exact hf
   ·exact HN JE.Fh (QP h.je hx)
  ·exact HN JE.Fh (QP h.je hx)
def nt{c:Qt}(k:NT):Ei (db c k).1.Aa:=by
 unfold db;split
 ·rename_i hv;split
  ·exact nu k (Sv hv)
  ·exact Nv
 ·exact Nv
def Qk(c:Qt)(k:NT):Qt:=if (db c k).2.2=0 then (db c k).1 else c
def runM(c:Qt)(ks:List NT):Qt:=ks.foldl Qk c
def ml{c:Qt}(k:NT)(h:Ei c.Aa):Ei (Qk c k).Aa:=by
 unfold Qk;split
 ·exact nt k
 ·exact h
def Yh:∀ (ks:List NT) (c:Qt),Ei c.Aa->Ei (runM c ks).Aa
 |[],_,h=>h
 | k::ks,c,h=>Yh ks (Qk c k) (ml k h)
def il{c:Qt}{ks:List NT}{i:Nat}{b:NT}(hb:ks[i]?=some b):runM c (ks.take (i+1))=Qk (runM c (ks.take i)) b:=by
 simp[runM,take_add_one,hb,List.foldl_append]
def tq(c:Qt)(ks:List NT)(h:Ei c.Aa)(hl:ks.length<=1000000):Ac C0 69 [.agg c.c,jr ks] [] (.agg (runM c ks).c) []:=by
 refine Ac.go f69 ?_;unfold f69;refine gO ?_;refine Ao (α:=Nat) (λi=>⟨[(5,I i),(4,.ptr 256 0),(2,.ptr 128 0),(1,jr ks)],[(256,UZ.c),(128,(runM c (ks.take i)).c)]⟩) (λi=>i<=ks.length) (λi=>ks.length-i) 0 (by omega) (AQ.An ?_ ?_) ?_
 ·exact gI
 ·simp(disch:=omega)only[go_sem,UZ,List.take_zero,runM,List.foldl_nil,map_nil]
  done
 rintro i hi J hJ;simp(disch:=omega)only[go_sem,length_map];refine ⟨λAu=>?_,λG9=>?_⟩
 ·obtain⟨b,hb⟩:∃ b,ks[i]?=some b:=⟨_,gE (by simp at Au;omega)⟩;have AR:=Ay hb;have hfe:=Yh (ks.take i) c h;have RU:=il (c:=c) hb;generalize runM c (ks.take i)=c1 at hfe RU ⊢;refine IW 11 [([],[2]),([],[1]),([],[5]),([1,2],[17,18]),([1,2,3],[19]),([0,1,2,3,4],[16,20]),([0,1,2,3,4,5],[21]),([0,1,2,3,4,5,6],[15]),([0,1,2,3,4,5,6],[15]),([0,1,2,3,4,5,6],[15]),([],[]),([0,1,2,3,4,5,6,7,10],[]),([0,1,2,3,4,5,6,7,8,10,11],[]),([0,1,2,3,4,5,6,7,8,9,10,11,12],[])] [8,9] [([],[15,6,22,5,4,2,1],let o0:OT:=.done;let o1:OT:=.pick [(13,o0)];let o2:OT:=.pick [(12,o1)];let o3:OT:=.pick [(11,o2)];let o4:OT:=.pick [(9,o1)];let o5:OT:=.pick [(9,o2),(12,o4)];let o6:OT:=.pick [(9,o3),(11,o5)];let o7:OT:=.pick [(8,o2)];let o8:OT:=.pick [(8,o3),(11,o7)];let o9:OT:=.pick [(8,o5),(9,o7)];let bb:OT:=.pick [(8,o6),(9,o8),(11,o9)];bb),([9],[15,6,22,24,5,4,2,1],let o0:OT:=.done;let o1:OT:=.pick [(13,o0)];let o2:OT:=.pick [(12,o1)];let o3:OT:=.pick [(11,o2)];let o4:OT:=.pick [(8,o2)];let o5:OT:=.pick [(8,o3),(11,o4)];o5),([8],[15,6,22,23,5,4,2,1],let o0:OT:=.done;let o1:OT:=.pick [(13,o0)];let o2:OT:=.pick [(12,o1)];let o3:OT:=.pick [(11,o2)];let o4:OT:=.pick [(9,o1)];let o5:OT:=.pick [(9,o2),(12,o4)];let o6:OT:=.pick [(9,o3),(11,o5)];o6),([8,9],[6,22,23,24,5,4,2,1],let o0:OT:=.done;let o1:OT:=.pick [(13,o0)];let o2:OT:=.pick [(12,o1)];let o3:OT:=.pick [(11,o2)];o3)] B7 (by kernel_rfl) ?_;simp(disch:=omega)only[go_sem,gm,hb]
  first|(refine Ab (di c1 b hfe) ?_)|(refine Aq (di c1 b hfe) ?_)
  by_cases h0:(db c1 b).2.2=0
  ·have HH:Qk c1 b=(db c1 b).1:=by simp[Qk,h0]
   rw[HH]at RU;simp(disch:=omega)only[go_sem,h0]
   repeat'(with_reducible refine And.intro ?_ ?_)
   all_goals
    refine hJ _ (i+1) (by omega) (by omega) (AQ.An ?_ ?_)
    ·exact gI
    ·rw[RU];simp(disch:=omega)only[go_sem,UZ,map_nil]
  ·have HH:Qk c1 b=c1:=by simp[Qk,h0]
   have xy:((db c1 b).2.2==0)=false:=by simpa using h0
   rw[HH]at RU;simp(disch:=omega)only[go_sem,xy]
   repeat'(with_reducible refine And.intro ?_ ?_)
   all_goals
    refine hJ _ (i+1) (by omega) (by omega) (AQ.An ?_ ?_)
    ·exact gI
    ·rw[RU];simp(disch:=omega)only[go_sem,UZ,map_nil]
 have Zw:i=ks.length:=by simp at G9;omega
 subst Zw;rw[take_length];exact AM _
def Ml(l:List Int):Qt:=runM (Vj (Gu l).1).1 (Gu l).2
def R5(l:List Int):(Gu l).1.length=6:=Pc l 0
def fc(l:List Bo)(hl:l.length<=100):Ei (Vj l).1.Aa:=by
 unfold Vj;split
 ·unfold P4;split
  ·refine⟨by simpa using hl,λq hq=>?_⟩;simp only[List.mem_map]at hq;obtain⟨r,_,rfl⟩:=hq;simp[lG,BC,BJ]
  ·exact Nv
 ·exact Nv
def Vz(l:List Int)(cat:List Bo):∀ (n a:Nat),l.length-a<=n->(Kt l cat a).length<=n
 | 0,a,h=>by rw[Kt,dif_neg (by omega)];simp
 | n+1,a,h=>by
  rw[Kt];split
  ·rename_i Au;have:=Mn l cat a Au;have:=Vz l cat n (FD l cat a).2 (by omega);simp;omega
  ·simp
def Yi(l:List Int):(Gu l).2.length<=l.length+4:=by
 have:=Vz l (CN l 0).1 l.length (Ez l (CN l 0).2 4).2 (by omega);simp only[Gu,length_append,LD];omega
def sY(l:List Int)(hl:l.length<=10000):Ac C0 30 [JN l] [] (.agg (Ml l).c) []:=by
 have h1:=R5 l;have h2:=Yi l;have h3:=fc (Gu l).1 (by omega);refine Ac.go f30 ?_;unfold f30;refine gO ?_;refine Ab (tn l (by omega)) ?_;refine gO ?_;refine Ab (tp (Gu l).1 (by omega)) ?_;refine gO ?_;refine Ab (tq (Vj (Gu l).1).1 (Gu l).2 h3 (by omega)) ?_;refine gO ?_;refine CD _ ?_;simp(disch:=omega)only[go_sem,Ml]
def lD(x:Cd):Need:={ proc:=x.proc,expr:=x.BQ.expr,gen:=x.gen }
def HM(l:List Cd):List Need:=(l.filter (·.waiting)).map lD
def Z1{l:List Cd}{i:Nat}{b:Cd}(hb:l[i]?=some b):HM (l.take (i+1))=HM (l.take i)++if b.waiting then [lD b] else []:=by
 unfold HM;rw[take_add_one,hb,toList_some,List.filter_append,map_append];cases h:b.waiting<;>simp[h]
def Uq(l:List Cd)(i:Nat):(HM (l.take i)).length<=i:=by
 unfold HM;rw[length_map];exact le_trans (List.length_filter_le _ _) (by simp;omega)
def ofM(c:Qt):WS:=if Ks c then ⟨c.Aa,HM c.procs⟩ else ⟨[],[]⟩
def sX(c:Qt)(h:Ei c.Aa):Ac C0 29 [.agg c.c] [] (.agg (ofM c).c) []:=by
 have hn:=h.n;refine Ac.go f29 ?_;unfold f29;refine gO ?_;refine Ab (jZ c h) ?_;cases hv:Ks c
 ·have ht:ofM c=⟨[],[]⟩:=by simp[ofM,hv]
  rw[ht];simp(disch:=omega)only[go_sem,Bool.not_false];refine CD _ ?_;simp(disch:=omega)only[go_sem,map_nil];exact .agg (Af.AI gI)
 have NP:c.procs.length<=8:=(Sv hv).je.n;have ht:ofM c=⟨c.Aa,HM c.procs⟩:=by simp[ofM,hv]
 rw[ht];simp(disch:=omega)only[go_sem,Bool.not_true];refine AH (c.procs) (λi=>⟨[(4,I i),(3,.ptr 192 0),(2,.ptr 128 0),(1,.ptr 64 0)],[(192,[.sl (.own 768 0) 8 (c.Aa.map Queue.c),.sl (.own 3200 0) 9 ((HM (c.procs.take i)).map Need.c)]),(128,[.v (.slice none 0 0),.v (.slice none 0 0)]),(64,c.c)]⟩) (λi=>True) trivial ?_ ?_
 ·refine AQ.An ?_ ?_
  all_goals(try simp(disch:=omega)only[go_sem])
  all_goals(try(repeat'(with_reducible apply And.intro)))
  all_goals(first|exact .AU (by omega)|exact .AD (by omega)|exact .sl (by simp[HM])|exact .int (by simp[HM])|exact .eq (by simp[HM]))
 rintro i ⟨hi,hP⟩ J hJ;refine gO ?_;refine Bp hi (λAu b hb Cc AR=>?_) λBf=>?_
 ·have uj:=Uq c.procs i;have RU:=Z1 hb;generalize HM (c.procs.take i)=ns at uj RU ⊢;have IY:ns.length+1<=4294967296:=by omega
  simp(disch:=omega)only[go_sem,gm,hb];cases hw:b.waiting
  ·rw[hw]at RU;simp only[Bool.false_eq_true,if_false,List.append_nil]at RU;simp(disch:=omega)only[go_sem,hw];refine hJ _ (i+1) ⟨by omega,trivial⟩ (by omega) (AQ.An ?_ ?_)
   all_goals(try simp(disch:=omega)only[go_sem])
   all_goals(try(repeat'(with_reducible apply And.intro)))
   all_goals(first|exact .AU (by omega)|exact .AD (by omega)|exact .sl (by simp[RU])|exact .int (by simp[RU])|exact .eq (by simp[RU]))
  ·rw[hw]at RU;simp only[if_true]at RU;simp(disch:=omega)only[go_sem,hw];refine Av 23 [([],[3]),([],[27]),([],[1]),([],[29]),([],[4]),([],[30,31]),([],[32]),([],[33]),([],[1]),([],[35]),([],[4]),([],[36,37]),([],[38]),([],[39]),([],[40]),([],[1]),([],[42]),([],[4]),([],[43,44]),([],[45]),([],[46]),([],[34,41,47]),([],[48])] B7 ?_;simp(disch:=omega)only[go_sem,gm,hb];refine hJ _ (i+1) ⟨by omega,trivial⟩ (by omega) (AQ.An ?_ ?_)
   ·exact gI
   ·rw[RU];refine gO ?_;exact .sl (by rw[map_append];rfl)
 ·subst Bf;rw[take_length];refine AZ ⟨[],[],[768,3200]⟩ _ (by(try simp(disch:=omega)only[go_sem,Cr,GH])<;>rfl) ⟨rfl,rfl⟩ (by simp[lk]) ?_ trivial;simp(disch:=omega)only[go_sem]
def OW(l:List Int):WS:=ofM (Ml l)
def Rz(l:List Int):Ei (Ml l).Aa:=Yh _ _ (fc _ (by rw[R5];omega))
def sR(l:List Int)(hl:l.length<=10000):Ac C0 12 [JN l] [] (.agg (OW l).c) []:=by
 refine Ac.go f12 ?_;unfold f12;refine gO ?_;refine Ab (sY l hl) ?_;refine gO ?_;refine Ab (sX (Ml l) (Rz l)) ?_;refine gO ?_;refine CD _ ?_;simp(disch:=omega)only[go_sem,OW]
def u5(c:Qt)(h:Ei c.Aa):Iq (ofM c):=by
 unfold ofM;split
 ·rename_i hv;have NP:c.procs.length<=8:=(Sv hv).je.n;have:=Uq c.procs c.procs.length;rw[take_length]at this;exact⟨h.n,by show (HM c.procs).length<=100;omega,h.q⟩
 ·exact⟨by simp,by simp,by simp⟩
def iB(l:List Int):Iq (OW l):=u5 _ (Rz l)
end Go.Rd
