/- part 19 of the proof -/
import Derived.Laws.Bits64b
import Derived.Laws.Bits128
import Derived.Test.YteliegkcmjimoaaGreatDoorW18
set_option linter.all false
open Go Go.Abs Go.Proofs
set_option maxRecDepth 100000
namespace Go.Rd
set_option maxHeartbeats 8000000
open List (length_map map_append map_cons map_nil mem_append mem_cons pairwise_cons)
open Nat (mul_one)
open Int (natCast_add)
open Tryz
structure Cand where
 cost:Int
 set:Nat
def popc(x:Nat):Nat:=((List.range 64).filter λi=>x.testBit i).length
def lexB(x y:Nat):Bool:=match (List.range 64).find? (λi=>x.testBit i !=y.testBit i) with
 |some i=>x.testBit i
 |none=>false
def AU(c d:Cand):Bool:=if c.cost=d.cost then (if popc c.set=popc d.set then lexB c.set d.set else decide (popc c.set<popc d.set)) else decide (c.cost<d.cost)
def K8(x y:Nat):Prop:=∃ k,k<64/\x.testBit k=true/\y.testBit k=false/\∀ j,j<k->x.testBit j=y.testBit j
def Wt{p:Nat->Bool}:∀ {n i:Nat},(List.range n).find? p=some i->i<n/\p i=true/\∀ j,j<i->p j=false:=by simp_all
theorem WW(x y:Nat):lexB x y=true↔K8 x y:=by
 unfold lexB;split
 ·rename_i i h;obtain⟨h1,h2,h3⟩:=Wt h;constructor
  ·intro hx;refine⟨i,h1,hx,?_,λj hj=>by grind⟩;grind
  ·rintro⟨k,k1,k2,k3,k4⟩;grind
 ·rename_i h;constructor
  ·grind
  ·rintro⟨k,k1,k2,k3,_⟩;grind
def Vu{x y:Nat}:lexB x y=false↔¬ K8 x y:=by grind[WW]
def K8.asymm{x y:Nat}:K8 x y->¬ K8 y x:=by
 rintro⟨k,k1,k2,k3,k4⟩ ⟨m,m1,m2,m3,m4⟩;grind
def ir(x y:Nat):K8 x y\/K8 y x\/∀ j,j<64->x.testBit j=y.testBit j:=by
 cases h:(List.range 64).find? (λi=>x.testBit i !=y.testBit i) with
 |none =>
  grind
 |some i =>
  obtain⟨h1,h2,h3⟩:=Wt h;have h4:∀ j,j<i->x.testBit j=y.testBit j:=λj hj=>by grind
  cases hx:x.testBit i with
  | true =>
   cases hy:y.testBit i with
   | true=>rw[hx,hy]at h2;simp at h2
   | false=>exact .inl ⟨i,h1,hx,hy,h4⟩
  | false =>
   cases hy:y.testBit i with
   | false=>rw[hx,hy]at h2;simp at h2
   | true=>exact .inr (.inl ⟨i,h1,hy,hx,λj hj=>(h4 j hj).symm⟩)
def K8.trans{x y z:Nat}:K8 x y->K8 y z->K8 x z:=by
 rintro⟨k,k1,k2,k3,k4⟩ ⟨m,m1,m2,m3,m4⟩;rcases Nat.lt_trichotomy k m with h|h|h
 ·exact⟨k,k1,k2,by rw[<- m4 k h];exact k3,λj hj=>(k4 j hj).trans (m4 j (by omega))⟩
 ·subst h;rw[m2]at k3;cases k3
 ·exact⟨m,m1,by rw[k4 m h];exact m2,m3,λj hj=>(k4 j (by omega)).trans (m4 j hj)⟩
theorem K8.congr{x y z:Nat}(h:∀ j,j<64->y.testBit j=z.testBit j):K8 x y↔K8 x z:=by
 constructor<;>rintro⟨k,k1,k2,k3,k4⟩
 ·exact⟨k,k1,k2,by grind,λj hj=>(k4 j hj).trans (h j (by omega))⟩
 ·exact⟨k,k1,k2,by grind,λj hj=>(k4 j hj).trans (h j (by omega)).symm⟩
theorem si{a b c:Nat}(h1:¬ K8 b a)(h2:¬ K8 c b):¬ K8 c a:=by
 intro h;rcases ir b a with h3|h3|h3
 ·grind
 ·exact h2 (h.trans h3)
 grind[K8.congr]
def Hy(a b:Cand)(h:AU a b=true):AU b a=false:=by
 unfold AU at h ⊢
 by_cases h1:a.cost=b.cost
 ·rw[if_pos h1]at h;rw[if_pos h1.symm]
  by_cases h2:popc a.set=popc b.set
  ·rw[if_pos h2]at h;rw[if_pos h2.symm,Vu];exact((WW _ _).1 h).asymm
  grind
 grind
theorem SC{a b:Cand}:AU b a=false↔a.cost<=b.cost/\(a.cost=b.cost->popc a.set<=popc b.set/\(popc a.set=popc b.set->¬ K8 b.set a.set)):=by
 unfold AU
 by_cases h1:b.cost=a.cost
 ·rw[if_pos h1]
  by_cases h2:popc b.set=popc a.set
  ·simp_all[Vu]
  grind
 grind
def Hz(a b c:Cand)(h1:AU b a=false)(h2:AU c b=false):AU c a=false:=by grind[SC,si]
def code:List Nat->Nat
 |[]=>0
 | i::s=>2 ^ i ||| code s
theorem EP:∀ (S:List Nat) (j:Nat),(code S).testBit j=decide (j∈S)
 |[],j=>by simp[code]
 | i::s,j=>by
  simp only[code,Nat.testBit_or,EP s j,Nat.testBit_two_pow,mem_cons]
  by_cases h:i=j
  ·subst h;simp
  ·have h':¬ j=i:=λe=>h e.symm
   simp[h,h']
def Pl:∀ {S:List Nat} {n:Nat},(∀ i∈S,i<n)->code S<2 ^ n
 |[],n,_=>by grind[code]
 | i::s,n,h=>Nat.or_lt_two_pow (Nat.pow_lt_pow_right (by omega) (h i (by simp))) (Pl λj hj=>h j (by grind))
def Yu:∀ (S:List Nat) (i:Nat),code (S++[i])=code S ||| 2 ^ i
 |[],i=>by simp[code]
 | j::s,i=>by simp only[List.cons_append,code,Yu s i,Nat.or_assoc]
def cK:∀ {S T:List Nat},S.Pairwise (· < ·)->T.Pairwise (· < ·)->(∀ x,x∈S↔x∈T)->S=T
 |[],[],_,_,_=>rfl
 |[],j::t,_,_,h=>by have:=(h j).2 (by simp);cases this
 | i::s,[],_,_,h=>by have:=(h i).1 (by simp);cases this
 | i::s,j::t,hs,ht,h=>by
  have br:=pairwise_cons.1 hs;have ht':=pairwise_cons.1 ht;have UN:i=j:=by
   have h1:=(h i).1 (by simp);have h2:=(h j).2 (by simp);rcases mem_cons.1 h1 with h1|h1
   ·exact h1
   rcases mem_cons.1 h2 with h2|h2
   ·exact h2.symm
   have:=ht'.1 i h1;have:=br.1 j h2;omega
  subst UN;rw[cK br.2 ht'.2 λx=>?_];constructor
  ·intro hx;have h1:=br.1 x hx;rcases mem_cons.1 ((h x).1 (by simp[hx])) with e|e
   ·omega
   ·exact e
  ·intro hx;have h1:=ht'.1 x hx;rcases mem_cons.1 ((h x).2 (by simp[hx])) with e|e
   ·omega
   ·exact e
def VQ(x:Nat):List Nat:=(List.range 64).filter λi=>x.testBit i
def mS(x:Nat):(VQ x).Pairwise (· < ·):=List.pairwise_lt_range.filter _
theorem Kz{S:List Nat}(hs:S.Pairwise (· < ·))(hn:∀ i∈S,i<64):VQ (code S)=S :=
 cK (mS _) hs λx=>by simp_all[VQ,EP]
def PQ{S:List Nat}(hs:S.Pairwise (· < ·))(hn:∀ i∈S,i<64):popc (code S)=S.length:=by grind[Kz,VQ,popc]
theorem iX:∀ {S T:List Nat},S.Pairwise (· < ·)->T.Pairwise (· < ·)->S.length=T.length->(∀ i∈S,i<64)->Le S T=true->K8 (code S) (code T)
 |[],_,_,_,_,_,h=>by grind[Le]
 |_::_,[],_,_,_,_,h=>by grind
 | i::s,j::t,hs,ht,hl,hn,h=>by
  have br:=pairwise_cons.1 hs;have ht':=pairwise_cons.1 ht;simp[Le]at h;rcases h with h|⟨h,h2⟩
  ·refine⟨i,hn i (by simp),by simp[EP],?_,λk hk=>?_⟩
   ·rw[EP];grind
   ·rw[EP,EP];grind
  ·subst h;obtain⟨k,k1,k2,k3,k4⟩:=iX br.2 ht'.2 (by grind) (λx hx=>hn x (by grind)) h2;rw[EP]at k2 k3;simp at k2 k3;have iG:=br.1 k k2;refine⟨k,k1,by simp[EP,k2],?_,λm hm=>?_⟩
   ·rw[EP];grind
   grind[EP]
def ec{S T:List Nat}(hs:S.Pairwise (· < ·))(ht:T.Pairwise (· < ·))(hl:S.length=T.length)(h1:∀ i∈S,i<64)(h2:∀ i∈T,i<64):K8 (code S) (code T)↔Le S T=true:=by
 constructor
 ·intro h;cases h3:Le S T with
  | true=>rfl
  | false =>
   cases h4:Le T S with
   | true=>exact absurd h (iX ht hs hl.symm h2 h4).asymm
   | false =>
    have:=Ti S T hl h3 h4;subst this;exact absurd h h.asymm
 grind[iX]
def Dv(P:Srch)(S:List Nat):Cand:=⟨Bj P.cost S,code S⟩
def mR{P:Srch}(hn:P.n<=64){S T:List Nat}(hs:isSet P S)(ht:isSet P T):AU (Dv P S) (Dv P T)=cn P.cost S T:=by
 have h1:∀ i∈S,i<64:=λi hi=>by have:=hs.2.1 i hi;omega
 have h2:∀ i∈T,i<64:=λi hi=>by have:=ht.2.1 i hi;omega
 cases h:cn P.cost S T with
 | false =>
  rw[SC];rw[Nt,OR]at h;simp[Dv,PQ hs.1 h1,PQ ht.1 h2];refine⟨h.1.1,λhc=>⟨h.1.2 hc.symm,λhl hx=>?_⟩⟩;have:=h.2 hc.symm hl.symm;rw[(ec hs.1 ht.1 hl.symm h1 h2).1 hx]at this;cases this
 | true =>
  cases hb:AU (Dv P S) (Dv P T) with
  | true=>rfl
  | false =>
   rw[SC]at hb;simp[Dv,PQ hs.1 h1,PQ ht.1 h2]at hb;simp[cn,Bool.or_eq_true,Vx,Bool.and_eq_true,decide_eq_true_eq]at h;rcases h with h|⟨⟨h3,h4⟩,h5⟩
   ·rcases h with h|⟨h,h'⟩
    ·omega
    ·have:=(hb.2 h.symm).1;omega
   ·exact absurd ((ec hs.1 ht.1 h4 h1 h2).2 h5) ((hb.2 h3.symm).2 h4.symm)
structure Front(P:Srch)(h:List Cand):Prop where
 heap:Heap AU h
 yd:∀ c∈h,∃ S,isSet P S/\c=Dv P S
 all:∀ T,pA P T->∃ S R,T=S++R/\isSet P S/\Dv P S∈h
def nF{P:Srch}(h:Front P []):JN P none:=λS hS=>by
 obtain⟨_,_,_,_,h⟩:=h.all S hS;cases h
def iw{P:Srch}(hn:P.n<=64)(hc:∀ i,i<P.n->1<=P.cost i){h:List Cand}(hF:Front P h){S:List Nat}(hS:isSet P S)(hh:h[0]?=some (Dv P S))(hs:P.tG S=true):JN P (some S):=by
 refine⟨⟨hS,hs⟩,λT hT=>?_⟩;obtain⟨S',R,rfl,hS',hm⟩:=hF.all T hT;have h1:=(R8 Hy Hz hF.heap hh).2.2.2.2 _ hm;rw[mR hn hS' hS]at h1;have h2:cn P.cost (S'++R) S'=false:=by
  have e1:=aD hc hT.1;have e2:(S'++R).length=S'.length+R.length:=by simp
  rw[Nt,OR];refine⟨⟨by omega,λ_=>by omega⟩,λ_ h=>?_⟩;have:R=[]:=List.eq_nil_of_length_eq_zero (by omega);subst this;have:=Vv S' [] [];rw[List.append_nil]at this ⊢;rw[this];rfl
 exact xF h1 h2
def kids(P:Srch)(S:List Nat):Nat->List Cand
 | 0=>[]
 | f+1=>(if again P S (P.n-(f+1)) then [] else [Dv P (S++[P.n-(f+1)])])++kids P S f
def Jd(h:List Cand):List Cand->List Cand
 |[]=>h
 | c::l=>Jd (Xr AU h c) l
def Ke:∀ (l h:List Cand),Heap AU h->Heap AU (Jd h l)/\(Jd h l).Perm (l++h)
 |[],h,hh=>⟨hh,.refl _⟩
 | c::l,h,hh=>by
  obtain⟨a,b⟩:=Tt Hy Hz hh c;obtain⟨x,y⟩:=Ke l _ a;exact⟨x,y.trans ((List.Perm.append_left l b).trans List.perm_middle)⟩
def Em(S:List Nat):Nat:=S.getLast?.elim 0 (· + 1)
def ek:∀ {S:List Nat},S.Pairwise (· < ·)->∀ i∈S,i<Em S:=by
 intro S hp i hi;unfold Em;cases h:S.getLast? with
 |none=>grind
 |some k =>
  obtain⟨T,rfl⟩:=List.getLast?_eq_some_iff.1 h;grind
def ft{P:Srch}{S:List Nat}{i:Nat}(hS:isSet P S)(h1:Em S<=i)(h2:i<P.n)(ha:again P S i=false):isSet P (S++[i]):=by
 refine⟨List.pairwise_append.2 ⟨hS.1,by simp,λx hx y hy=>?_⟩,λx hx=>?_,?_⟩
 ·have:=ek hS.1 x hx;simp at hy;omega
 ·rcases mem_append.1 hx with h|h
  ·exact hS.2.1 x h
  grind
 ·rw[map_append,List.nodup_append];refine⟨hS.2.2,by simp,λx hx y hy=>?_⟩;grind[LU]
def Xb{P:Srch}{S:List Nat}{c:Cand}:∀ {f:Nat},f<=P.n->(c∈kids P S f↔∃ i,P.n-f<=i/\i<P.n/\again P S i=false/\c=Dv P (S++[i]))
 | 0,_=>by
  simp only[kids,List.not_mem_nil,false_iff];omega
 | f+1,hf=>by
  have ih:=Xb (P:=P) (S:=S) (c:=c) (f:=f) (by omega);simp only[kids,mem_append,ih];constructor
  ·grind
  grind
def iy{P:Srch}(hn:P.n<=64){h:List Cand}(hF:Front P h){S:List Nat}(hS:isSet P S)(hh:h[0]?=some (Dv P S))(hs:P.tG S=false):Front P (Jd ((LL AU h).take (h.length-1)) (kids P S (P.n-Em S))):=by
 obtain⟨p1,p2,p3,p4,p5⟩:=R8 Hy Hz hF.heap hh;obtain⟨q1,q2⟩:=Ke (kids P S (P.n-Em S)) _ p2;have hle:Em S<=P.n:=by
  unfold Em;cases h:S.getLast? with
  |none=>grind
  |some k =>
   obtain⟨T,rfl⟩:=List.getLast?_eq_some_iff.1 h;have:=hS.2.1 k (by simp);simp only[Option.elim];omega
 refine⟨q1,λc hc=>?_,λT hT=>?_⟩
 ·rcases mem_append.1 (q2.mem_iff.1 hc) with h1|h1
  ·obtain⟨i,i1,i2,i3,rfl⟩:=(Xb (by omega)).1 h1;exact⟨_,ft hS (by omega) i2 i3,rfl⟩
  ·exact hF.yd c (p3.mem_iff.2 (by grind))
 ·obtain⟨S',R,rfl,hS',hm⟩:=hF.all T hT;rcases mem_cons.1 (p3.mem_iff.1 hm) with h1|h1
  ·have he:S'=S:=by
    have h2:code S'=code S:=by injection h1
    have e1:=Kz hS'.1 (λi hi=>by have:=hS'.2.1 i hi;omega);have e2:=Kz hS.1 (λi hi=>by have:=hS.2.1 i hi;omega);rw[<- e1,h2,e2]
   subst he
   match R,hT with
   |[],hT=>rw[List.append_nil]at hT;rw[hT.2]at hs;cases hs
   | i::R,hT =>
    have e:S'++i::R=(S'++[i])++R:=by simp
    rw[e]at hT ⊢;have uo:=jE hT.1;refine⟨S'++[i],R,rfl,uo,q2.mem_iff.2 (mem_append.2 (.inl ((Xb (by omega)).2 ⟨i,?_,uo.2.1 i (by simp),?_,rfl⟩)))⟩
    ·have:Em S'<=i:=by
      unfold Em;cases h:S'.getLast? with
      |none=>grind
      |some k =>
       obtain⟨T,rfl⟩:=List.getLast?_eq_some_iff.1 h;have:=(List.pairwise_append.1 uo.1).2.2 k (by simp) i (by simp);simp only[Option.elim];omega
     omega
    ·cases ha:again P S' i with
     | false=>rfl
     | true =>
      have:=LU.1 ha;have UO:=uo.2.2;rw[map_append,List.nodup_append]at UO;exact absurd rfl (UO.2.2 _ this _ (by simp))
  grind
def AaU(P:Srch):Front P [Dv P []] where
 heap:=λk hk a b ha _=>by grind
 yd:=λc hc=>⟨[],⟨.nil,(λ_ h=>by cases h),by simp⟩,by grind⟩
 all:=λT hT=>⟨[],T,rfl,⟨.nil,(λ_ h=>by cases h),by simp⟩,by simp⟩
def Hd:Nat->Nat->Nat
 | 0,_=>0
 | n+1,x=>x%2+Hd n (x / 2)
theorem Fh:∀ n x,Hd n x<=n
 | 0,_=>Nat.le_refl _
 | n+1,x=>by
  have:=Fh n (x / 2);simp only[Hd];omega
def O1:∀ (a b x:Nat),Hd (a+b) x=Hd a x+Hd b (x / 2 ^ a)
 | 0,b,x=>by simp[Hd]
 | a+1,b,x=>by
  have e:a+1+b=(a+b)+1:=by omega
  rw[e];simp only[Hd,O1 a b (x / 2),Nat.div_div_eq_div_mul];rw[Nat.pow_succ,Nat.mul_comm 2];omega
def Ur:∀ n x,Hd n x=((List.range n).filter λi=>x.testBit i).length
 | 0,_=>rfl
 | n+1,x=>by
  rw[O1 n 1 x,Ur n x,List.range_succ,List.filter_append,List.length_append];congr 1;simp[Hd,Nat.add_zero,List.filter_cons,List.filter_nil];grind
def Acb(x:Nat):popc x=Hd 64 x:=(Ur 64 x).symm
def mk(k c:Nat):Nat->Nat
 | 0=>0
 | n+1=>2 ^ k*mk k c n+c
def RX{k c:Nat}(hc:c<2 ^ k)(a n:Nat):a &&& mk k c (n+1)=2 ^ k*(a / 2 ^ k &&& mk k c n)+(a%2 ^ k &&& c):=by
 have h:=Nat.div_add_mod (a &&& mk k c (n+1)) (2 ^ k);rw[Nat.and_div_two_pow,Nat.and_mod_two_pow]at h;have e1:mk k c (n+1) / 2 ^ k=mk k c n:=by simp_all[mk,Nat.mul_add_div,Nat.pow_pos]
 have e2:mk k c (n+1)%2 ^ k=c:=by grind[mk,Nat.mul_add_mod,Nat.mod_eq_of_lt]
 rw[e1,e2]at h;exact h.symm
def d1:Nat->Nat->Nat
 | 0,_=>0
 | n+1,x=>4*d1 n (x / 4)+Hd 2 x
def d2:Nat->Nat->Nat
 | 0,_=>0
 | n+1,x=>16*d2 n (x / 16)+Hd 4 x
def d3:Nat->Nat->Nat
 | 0,_=>0
 | n+1,x=>256*d3 n (x / 256)+Hd 8 x
def yD:∀ n x,d1 n x<4 ^ n
 | 0,_=>by simp[d1]
 | n+1,x=>by
  have:=yD n (x / 4);have:=Fh 2 x;simp only[d1,Nat.pow_succ];omega
def yE:∀ n x,15*d2 n x+4<=4*16 ^ n
 | 0,_=>by simp[d2]
 | n+1,x=>by
  have:=yE n (x / 16);have:=Fh 4 x;simp only[d2,Nat.pow_succ];omega
def AdL(a:Nat):a &&& 1=a%2:=Nat.and_one_is_mod a
def AdN(a:Nat):a &&& 3=a%4:=Nat.and_two_pow_sub_one_eq_mod a 2
def AdM(a:Nat):a &&& 15=a%16:=Nat.and_two_pow_sub_one_eq_mod a 4
def sw1:∀ n x,(x / 2 &&& mk 2 1 n)+(x &&& mk 2 1 n)=d1 n x
 | 0,x=>by simp[mk,d1]
 | n+1,x=>by
  rw[RX (by decide),RX (by decide),AdL,AdL];have ih:=sw1 n (x / 4);simp only[d1,Hd,<- ih];have e:x / 2 / 2 ^ 2=x / 4 / 2:=by omega
  rw[e];have e2:x / 2 ^ 2=x / 4:=rfl;rw[e2];omega
def p4(x:Nat):Hd 4 x=Hd 2 x+Hd 2 (x / 4):=O1 2 2 x
def p8(x:Nat):Hd 8 x=Hd 4 x+Hd 4 (x / 16):=O1 4 4 x
def sw2:∀ n x,(d1 (2*n) x / 4 &&& mk 4 3 n)+(d1 (2*n) x &&& mk 4 3 n)=d2 n x
 | 0,x=>by simp[mk,d2]
 | n+1,x=>by
  rw[RX (by decide),RX (by decide),AdN,AdN];have ih:=sw2 n (x / 16);have e0:2*(n+1)=2*n+1+1:=by omega
  have e3:x / 4 / 4=x / 16:=by omega
  simp only[d2,p4,<- ih,e0,d1,e3];have b0:=Fh 2 x;have b1:=Fh 2 (x / 4);generalize d1 (2*n) (x / 16)=Y;generalize Hd 2 x=p at *;generalize Hd 2 (x / 4)=q at *;have e4:(4*(4*Y+q)+p) / 4 / 2 ^ 4=Y / 4:=by omega
  have e5:(4*(4*Y+q)+p) / 2 ^ 4=Y:=by omega
  rw[e4,e5];omega
def zZ(n x:Nat):d2 n x%16<=4:=by cases n<;>grind[d2,Fh]
def sw3:∀ n x,(d2 (2*n) x / 16+d2 (2*n) x) &&& mk 8 15 n=d3 n x
 | 0,x=>by simp[mk,d3]
 | n+1,x=>by
  rw[RX (by decide),AdM];have ih:=sw3 n (x / 256);have e0:2*(n+1)=2*n+1+1:=by omega
  have e3:x / 16 / 16=x / 256:=by omega
  simp only[d3,p8,<- ih,e0,d2,e3];have b0:=Fh 4 x;have b1:=Fh 4 (x / 16);have b2:=zZ (2*n) (x / 256);generalize d2 (2*n) (x / 256)=Y at *;generalize Hd 4 x=p at *;generalize Hd 4 (x / 16)=q at *;have e4:((16*(16*Y+q)+p) / 16+(16*(16*Y+q)+p)) / 2 ^ 8=Y / 16+Y:=by omega
  have e5:((16*(16*Y+q)+p) / 16+(16*(16*Y+q)+p))%2 ^ 8%16=p+q:=by omega
  rw[e4,e5]
def divq{n d q r:Nat}(h:n=d*q+r)(hr:r<d):n / d=q:=by rw[h,Nat.mul_add_div (by omega),Nat.div_eq_of_lt hr,Nat.add_zero]
def w1{A1 A2 A3 p0 p1 p2 a b:Nat}(ha:a=256*A1+p0)(h1:A1=256*A2+p1)(h2:A2=256*A3+p2)(hb:b=a+A1):b=65536*(A2+A3)+(256*(p1+p2)+p0+p1):=by omega
def w2{A2 A3 A4 A5 p2 p3 p4:Nat}(h2:A2=256*A3+p2)(h3:A3=256*A4+p3)(h4:A4=256*A5+p4):A2+A3=65536*(A4+A5)+(256*(p3+p4)+p2+p3):=by omega
def w3{X Y b c p0 p1 p2 r:Nat}(hb:b=65536*X+(256*(p1+p2)+p0+p1))(hc:c=b+X)(e3:X=65536*Y+r):c=65536*(X+Y)+(256*(p1+p2)+p0+p1+r):=by omega
def w4{X Y Z r s:Nat}(e3:X=65536*Y+r)(e4:Y=65536*Z+s):X+Y=65536*(Y+Z)+(r+s):=by omega
def w5{X Y A6 p0 p1 p2 p3 p4 p5 p6 p7 c:Nat}(e5:c=65536*X+(256*(p1+p2)+p0+p1+(256*(p3+p4)+p2+p3)))(e4:Y=65536*(A6+p7)+(256*(p5+p6)+p4+p5))(h6:A6=256*p7+p6) :
 c+(Y+(A6+p7))=128*(512*X+2*(p1+p2)+2*(p3+p4)+512*(A6+p7)+2*(p5+p6)+2*p7)+(p0+p1+p2+p3+p4+p5+p6+p7):=by omega
def w6{A B p m:Nat}(h:A=256*B+p)(hp:p<=8)(hB:B<=m):A<=256*m+8:=by omega
def AiC{p0 p1 p2 p3 p4 p5 p6 p7 A1 A2 A3 A4 A5 A6 a b c:Nat}(b0:p0<=8)(b1:p1<=8)(b2:p2<=8)(b3:p3<=8)(b4:p4<=8)(b5:p5<=8)(b6:p6<=8)(b7:p7<=8)
 (ha:a=256*A1+p0) (h1:A1=256*A2+p1) (h2:A2=256*A3+p2) (h3:A3=256*A4+p3) (h4:A4=256*A5+p4) (h5:A5=256*A6+p5) (h6:A6=256*p7+p6) (hb:b=a+a / 256) (hc:c=b+b / 65536) :
 (c+c / 4294967296)%128=p0+p1+p2+p3+p4+p5+p6+p7/\a<9223372036854775808/\b<9223372036854775808/\c<9223372036854775808/\c+c / 4294967296<9223372036854775808:=by
 have r1:256*(p1+p2)+p0+p1<65536:=by omega
 have r2:256*(p1+p2)+p0+p1+(256*(p3+p4)+p2+p3)<65536:=by clear ha h1 h2 h3 h4 h5 h6 hb hc;omega
 have r3:256*(p3+p4)+p2+p3+(256*(p5+p6)+p4+p5)<65536:=by clear ha h1 h2 h3 h4 h5 h6 hb hc;omega
 have r4:p0+p1+p2+p3+p4+p5+p6+p7<128:=by clear ha h1 h2 h3 h4 h5 h6 hb hc;omega
 have k6:=w6 h6 b6 b7;have k5:=w6 h5 b5 k6;have k4:=w6 h4 b4 k5;have k3:=w6 h3 b3 k4;have k2:=w6 h2 b2 k3;have k1:=w6 h1 b1 k2;have k0:=w6 ha b0 k1;have e1:a / 256=A1:=divq ha (Nat.lt_of_le_of_lt b0 (by decide));rw[e1]at hb;have Ss:=w1 ha h1 h2 hb;have e2:b / 65536=A2+A3:=divq Ss r1;rw[e2]at hc;have e3:=w2 h2 h3 h4;have e4:=w2 h4 h5 h6;have e5:=w3 Ss hc e3;have e6:c / 65536=(A2+A3)+(A4+A5):=divq e5 r2;have e8:=w4 e3 e4;have e7:c / 4294967296=(A4+A5)+(A6+p7):=by grind
 rw[e7];have e9:=w5 e5 e4 h6;clear e1 e2 e3 e4 e5 e6 e7 e8 Ss ha h1 h2 h3 h4 h5 h6 r1 r2 r3;refine⟨?_,by omega,by omega,by omega,by omega⟩;omega
def sw4(x a b c:Nat)(ha:a=d3 8 x)(hb:b=a+a / 256)(hc:c=b+b / 65536):(c+c / 4294967296)%128=popc x/\a<9223372036854775808/\b<9223372036854775808/\c<9223372036854775808/\c+c / 4294967296<9223372036854775808:=by
 have h:popc x=Hd 8 x+Hd 8 (x / 256)+Hd 8 (x / 256 / 256)+Hd 8 (x / 256 / 256 / 256)+Hd 8 (x / 256 / 256 / 256 / 256)+Hd 8 (x / 256 / 256 / 256 / 256 / 256)+Hd 8 (x / 256 / 256 / 256 / 256 / 256 / 256)+Hd 8 (x / 256 / 256 / 256 / 256 / 256 / 256 / 256):=by
  rw[Acb,show (64:Nat)=8+(8+(8+(8+(8+(8+(8+8)))))) from rfl];simp only[O1,Nat.reducePow];omega
 rw[h];simp[d3]at ha;exact AiC (Fh 8 _) (Fh 8 _) (Fh 8 _) (Fh 8 _) (Fh 8 _) (Fh 8 _) (Fh 8 _) (Fh 8 _) ha rfl rfl rfl rfl rfl rfl hb hc
@[reducible] def U(n:Nat):AV:=.v (.int .u64 n)
theorem Jf(x k j:Nat)(h:2 ^ min k 64=j):((x:Nat):Int).fdiv (2 ^ min k 64)=((x / j:Nat):Int):=by
 rw[Int.fdiv_eq_ediv_of_nonneg _ (Int.pow_nonneg (by omega)),<- h];simp
def K7{n:Nat}(h:n<18446744073709551616):IntKind.u64.wrap (n:Int)=(n:Int):=mD _ (by omega) (by omega)
def Vn(x:Nat)(hx:x<18446744073709551616):Ad C0 325 [U x] [] (I (popc x)) []:=by
 have e1:(6148914691236517205:Int)=((mk 2 1 32:Nat):Int):=by decide
 have e2:(3689348814741910323:Int)=((mk 4 3 16:Nat):Int):=by decide
 have e3:(1085102592571150095:Int)=((mk 8 15 8:Nat):Int):=by decide
 have l1:=yD 32 x;have l2:=yE 16 x;have h1:=sw1 32 x;have h2:=sw2 16 x;have h3:=sw3 8 x;refine Ad.go f325 ?_;unfold f325;simp(disch:=omega)only[go_sem];have s1:IntKind.u64.wrap (bits BinOp.and IntKind.u64 ((x:Int).fdiv (2 ^ min 1 64)) 6148914691236517205+bits BinOp.and IntKind.u64 (x:Int) 6148914691236517205)=((d1 32 x:Nat):Int):=by rw[Jf x 1 2 rfl,e1,bits_and_u64_nat _ _ (by omega) (by decide),bits_and_u64_nat _ _ hx (by decide),<- natCast_add,h1,K7 (by omega)]
 rw[s1];generalize d1 32 x=y at *;have s2:IntKind.u64.wrap (bits BinOp.and IntKind.u64 ((y:Int).fdiv (2 ^ min 2 64)) 3689348814741910323+bits BinOp.and IntKind.u64 (y:Int) 3689348814741910323)=((d2 16 x:Nat):Int):=by rw[Jf y 2 4 rfl,e2,bits_and_u64_nat _ _ (by omega) (by decide),bits_and_u64_nat _ _ (by omega) (by decide),<- natCast_add,h2,K7 (by omega)]
 rw[s2];generalize d2 16 x=z at *;have s3:bits BinOp.and IntKind.u64 (IntKind.u64.wrap ((z:Int).fdiv (2 ^ min 4 64)+(z:Int))) 1085102592571150095=((d3 8 x:Nat):Int):=by rw[Jf z 4 16 rfl,<- natCast_add,K7 (by omega),e3,bits_and_u64_nat _ _ (by omega) (by decide),h3]
 rw[s3];obtain⟨k1,k2,k3,k4,k5⟩:=sw4 x (d3 8 x) _ _ rfl rfl rfl;generalize d3 8 x=a at *;have s4:IntKind.u64.wrap ((a:Int)+(a:Int).fdiv (2 ^ min 8 64))=((a+a / 256:Nat):Int):=by rw[Jf a 8 256 rfl,<- natCast_add,K7 (by omega)]
 rw[s4];generalize a+a / 256=b at *;have s5:IntKind.u64.wrap ((b:Int)+(b:Int).fdiv (2 ^ min 16 64))=((b+b / 65536:Nat):Int):=by rw[Jf b 16 65536 rfl,<- natCast_add,K7 (by omega)]
 rw[s5];generalize b+b / 65536=c at *;have s6:IntKind.u64.wrap ((c:Int)+(c:Int).fdiv (2 ^ min 32 64))=((c+c / 4294967296:Nat):Int):=by rw[Jf c 32 4294967296 rfl,<- natCast_add,K7 (by omega)]
 rw[s6];generalize c+c / 4294967296=d at *;rw[wrap64 _ (by omega) (by omega),i64_and127];refine CT _ ?_;simp(disch:=omega)only[go_sem];exact .int (by omega)
def z6{k:Nat}(hk:k<64):u7[k]?=some (.v (.int .u8 ((Go.Lib.deBruijn64tab.getD k 0:Nat):Int))):=by
 have:Go.Lib.deBruijn64tab.length=64:=by decide
 unfold u7;rw[gm,gE (by omega)];simp[List.getD_eq_getElem?_getD,gE (by omega:k<Go.Lib.deBruijn64tab.length)]
def AaO(x:Nat)(hx:x<18446744073709551616):Ad C0 96 [U x] [] (I (Go.Lib.ctz 64 x)) []:=by
 refine Ad.go f96 ?_;unfold f96;refine gO ?_;refine⟨λh=>?_,λh=>?_⟩
 ·have h0:x=0:=by simp at h;omega
  subst h0;refine Al _ ?_;exact .int (by decide)
 ·have h0:x≠0:=λe=>by subst e;simp at h
  have Ok:(2:Nat) ^ 64=18446744073709551616:=by decide
  obtain⟨k1,k2⟩:=Go.Lib.lowest_bit 64 x h0 (by rw[Ok];exact hx);rw[Ok]at k1;obtain⟨k3,k4⟩:=Go.Lib.deBruijn64_at _ k2;generalize Go.Lib.ctz 64 x=k at *;have s1:IntKind.u64.wrap (0-(x:Int))=((18446744073709551616-x:Nat):Int):=by rw[IntKind.wrap_u64];omega
  rw[s1,bits_and_u64_nat _ _ hx (by omega),k1];have s2:IntKind.u64.wrap (((2 ^ k:Nat):Int)*285870213051353865)=((2 ^ k*285870213051353865%18446744073709551616:Nat):Int):=by rw[IntKind.wrap_u64];omega
  rw[s2,Jf _ 58 288230376151711744 rfl];generalize 2 ^ k*285870213051353865%18446744073709551616 / 288230376151711744=m at *;have hl:u7.length=64:=by decide
  have hg:=z6 k3;have hd:(u7.drop m).take 1=[.v (.int .u8 ((k:Nat):Int))]:=by
   rw[List.drop_eq_getElem_cons (by omega)];rw[gE (by omega)]at hg;injection hg with hg
   rw[hg,k4];rfl
  rw[if_pos ⟨by omega,by omega⟩,Int.toNat_natCast,mul_one];have hld:W1 C0 5 (.ep .no 0 u7 m) []=some (.v (.int .u8 ((k:Nat):Int))):=by
   rw[ov,F.ag5,F.sz5];simp only[NS];rw[if_pos (by omega),hd];rfl
  simp only[jG,td,xQ,Aag,xB,if_true,Option.getD_some,hld];refine gO ?_;exact AQ _
def qp{i:Nat}{s:List Nat}(hs:(i::s).Pairwise (· < ·))(hn:∀ j∈i::s,j<64):Go.Lib.ctz 64 (code (i::s))=i/\code (i::s) &&& (code (i::s)-1)=code s:=by
 have br:=pairwise_cons.1 hs;have hb:=EP (i::s);have AP:code (i::s)<2 ^ 64:=Pl hn;have h0:code (i::s)≠0:=λe=>by
  have:=hb i;rw[e]at this;simp at this
 obtain⟨m,hm,hk⟩:=Go.Lib.ctzFrom_spec 64 _ (by omega) AP;have hc:Go.Lib.ctz 64 (code (i::s))=Go.Lib.ctzFrom 64 (code (i::s)):=by simp[Go.Lib.ctz,h0]
 rw[hc];generalize Go.Lib.ctzFrom 64 (code (i::s))=c at *;have e1:code (i::s)=2 ^ (c+1)*m+2 ^ c:=by rw[hm,Nat.mul_add,Nat.pow_succ,mul_one,Nat.mul_assoc]
 have p1:2 ^ c<2 ^ (c+1):=Nat.pow_lt_pow_right (by omega) (by omega);have hx:∀ j,(code (i::s)).testBit j=if j<c+1 then decide (c=j) else m.testBit (j-(c+1)):=λj=>by rw[e1,Nat.testBit_two_pow_mul_add m p1 j,Nat.testBit_two_pow]
 have hci:c=i:=by
  rcases Nat.lt_trichotomy c i with h|h|h
  ·have h1:=hx c;rw[hb c,if_pos (by omega)]at h1;simp only[decide_true,decide_eq_true_eq]at h1;rcases mem_cons.1 h1 with h2|h2
   ·omega
   ·have:=br.1 c h2;omega
  ·exact h
  ·have h1:=hx i;rw[hb i,if_pos (by omega)]at h1;simp at h1;omega
 refine⟨hci,Nat.eq_of_testBit_eq λj=>?_⟩;have e2:code (i::s)-1=2 ^ (c+1)*m+(2 ^ c-1):=by
  have:1<=2 ^ c:=Nat.pow_pos (by omega);omega
 rw[Nat.testBit_and,e2,Nat.testBit_two_pow_mul_add m (by omega) j,Nat.testBit_two_pow_sub_one,hx j,EP s j];have Qn:=hb j;rw[hx j]at Qn
 by_cases hj:j<c+1
 ·rw[if_pos hj,if_pos hj];have:¬ j∈s:=λh=>by have:=br.1 j h;omega
  by_cases hcj:c=j
  ·subst hcj;simp[this]
  ·simp[hcj,this]
 ·rw[if_neg hj,if_neg hj,Bool.and_self];rw[if_neg hj]at Qn;rw[Qn];have:¬ j=i:=by omega
  simp[this]
def Cand.c(x:Cand):List AV:=[I x.cost,U x.set]
@[reducible] def qi(l:List Cand):AV:=.sl .no 2 (l.map Cand.c)
attribute [go_sem] Cand.c
theorem sj{x y:Nat}(hx:x<18446744073709551616)(hy:y<18446744073709551616):(bits BinOp.and IntKind.u64 (bits BinOp.and IntKind.u64 (x:Int) (bits BinOp.xor IntKind.u64 (x:Int) (y:Int))) (IntKind.u64.wrap (0-bits BinOp.xor IntKind.u64 (x:Int) (y:Int))) !=0)=lexB x y:=by
 have Ok:(2:Nat) ^ 64=18446744073709551616:=by decide
 have hd:x ^^^ y<18446744073709551616:=by rw[<- Ok]at *;exact Nat.xor_lt_two_pow hx hy
 rw[bits_xor_u64_nat x y hx hy,bits_and_u64_nat x (x ^^^ y) hx hd];have hlx:x &&& (x ^^^ y)<18446744073709551616:=Nat.lt_of_le_of_lt Nat.and_le_left hx
 by_cases h0:x ^^^ y=0
 ·have od:x=y:=by
   refine Nat.eq_of_testBit_eq λj=>?_
   have:=congrArg (λn=>n.testBit j) h0;simpa using this
  subst od;have:lexB x x=false:=Vu.2 λh=>h.asymm h
  rw[this,h0,Nat.and_zero];decide
 ·obtain⟨k1,k2⟩:=Go.Lib.lowest_bit 64 (x ^^^ y) h0 (by rw[Ok];exact hd);obtain⟨m,hm,_⟩:=Go.Lib.ctzFrom_spec 64 (x ^^^ y) (by omega) (by rw[Ok];exact hd);have hc:Go.Lib.ctz 64 (x ^^^ y)=Go.Lib.ctzFrom 64 (x ^^^ y):=by simp[Go.Lib.ctz,h0]
  rw[Ok]at k1;rw[<- hc]at hm;generalize Go.Lib.ctz 64 (x ^^^ y)=k at *;have s1:IntKind.u64.wrap (0-((x ^^^ y:Nat):Int))=((18446744073709551616-(x ^^^ y):Nat):Int):=by rw[IntKind.wrap_u64];omega
  rw[s1,bits_and_u64_nat _ _ hlx (by omega),Nat.and_assoc,k1];have Aeu:∀ j,(x ^^^ y).testBit j=if j<k+1 then decide (k=j) else m.testBit (j-(k+1)):=λj=>by
   have e1:x ^^^ y=2 ^ (k+1)*m+2 ^ k:=by rw[hm,Nat.mul_add,Nat.pow_succ,mul_one,Nat.mul_assoc]
   rw[e1,Nat.testBit_two_pow_mul_add m (Nat.pow_lt_pow_right (by omega) (by omega)) j,Nat.testBit_two_pow]
  have CZ:x.testBit k≠y.testBit k:=by
   have:=Aeu k;rw[if_pos (by omega),Nat.testBit_xor]at this;intro h;rw[h]at this;simp at this
  have dG:∀ j,j<k->x.testBit j=y.testBit j:=λj hj=>by
   have:=Aeu j;rw[if_pos (by omega),Nat.testBit_xor]at this;have h2:¬ k=j:=by omega
   simpa [h2]using this
  have hand:x &&& 2 ^ k=if x.testBit k then 2 ^ k else 0:=by
   refine Nat.eq_of_testBit_eq λj=>?_
   rw[Nat.testBit_and,Nat.testBit_two_pow]
   by_cases ck:k=j
   ·subst ck;cases np:x.testBit k<;>simp
   ·cases np:x.testBit k<;>simp[ck,Nat.testBit_two_pow]
  rw[hand];cases np:x.testBit k with
  | true =>
   have:lexB x y=true:=(WW x y).2 ⟨k,k2,np,by rw[np]at CZ;cases h:y.testBit k with|false=>rfl|true=>exact absurd h.symm CZ,dG⟩;rw[this];have:0<2 ^ k:=Nat.pow_pos (by omega);simp only[if_true,bne_iff_ne,ne_eq];omega
  | false =>
   have:lexB x y=false:=by
    rw[Vu];intro h;have:K8 y x:=⟨k,k2,by rw[np]at CZ;cases h:y.testBit k with|true=>rfl|false=>exact absurd h.symm CZ,np,λj hj=>(dG j hj).symm⟩;exact h.asymm this
   rw[this];rfl
def lq(c d:Cand)(hc:c.set<18446744073709551616)(hd:d.set<18446744073709551616):Ad C0 324 [.agg c.c,.agg d.c] [] (B (AU c d)) []:=by
 refine Ad.go f324 ?_;unfold f324;refine gO ?_;refine⟨λh=>?_,λh=>?_⟩
 ·refine Al _ ?_;have h2:¬ c.cost=d.cost:=by simpa using h
  exact .eq (by simp only[AU,if_neg h2])
 have h2:c.cost=d.cost:=by simpa using h
 refine Ay 5 [([],[2]),([],[18]),([],[19]),([],[3]),([],[21])] B6 ?_;refine gO ?_
 first|(refine Ab (Vn c.set hc) ?_)|(refine Ax (Vn c.set hc) ?_)
 refine gO ?_
 first|(refine Ab (Vn d.set hd) ?_)|(refine Ax (Vn d.set hd) ?_)
 refine gO ?_;refine⟨λh3=>?_,λh3=>?_⟩
 ·refine Al _ ?_;have h4:¬ popc c.set=popc d.set:=by intro e;rw[e]at h3;simp at h3
  exact .eq (by simp only[AU,if_pos h2,if_neg h4];congr 3;simp)
 ·refine Al _ ?_;have h4:popc c.set=popc d.set:=by
   have:((popc c.set:Nat):Int)=(popc d.set:Nat):=by simpa using h3
   omega
  exact .eq (by rw[sj hc hd];simp only[AU,if_pos h2,if_pos h4])
def ib(l:List Cand):Ad C0 47 [qi l] [] (I l.length) []:=by
 refine Ad.go f47 ?_;unfold f47;simp(disch:=omega)only[go_sem,length_map];exact AQ _
@[go_sem] theorem Aah{α:Type}(a:α):(∃ x,some a=some x)=True:=by simp
def P0(l:List Cand):Prop:=∀ c∈l,c.set<18446744073709551616
def P0.get{l:List Cand}(h:P0 l){i:Nat}{c:Cand}(hc:l[i]?=some c):c.set<18446744073709551616:=h c (mG hc)
def RE(l:List Cand)(i j:Nat)(hi:i<l.length)(hj:j<l.length)(hs:P0 l):Ad C0 320 [qi l,I i,I j] [] (B (Hl AU l i j)) []:=by
 obtain⟨a,ha⟩:=get_some hi;obtain⟨b,hb⟩:=get_some hj;refine Ad.go f320 ?_;unfold f320;refine gO ?_;refine Ay 8 [([],[0]),([],[1]),([],[7,8]),([],[9]),([],[0]),([],[2]),([],[11,12]),([],[13])] B6 ?_;simp(disch:=omega)only[go_sem,length_map,gm,ha,hb]
 first|(refine Ab (lq a b (hs.get ha) (hs.get hb)) ?_)|(refine Ax (lq a b (hs.get ha) (hs.get hb)) ?_)
 refine gO ?_;refine Al _ ?_;exact .eq (by rw[Mi ha hb])
@[reducible] def NW(l:List Cand):List AV:=[.sl (.own 0 0) 2 (l.map Cand.c)]
theorem wP(l:List Cand)(x:Cand)(hx:l[l.length-1]?=some x)(hn:l.length<=4294967296):Ad C0 321 [.ptr 63 0] [(63,NW l)] (.Kb 95 (.agg x.c)) [(63,NW (l.take (l.length-1)))]:=by
 have hl:l.length-1<l.length:=(List.getElem?_eq_some_iff.1 hx).1;have he:IntKind.i64.wrap ((l.length:Int)-1)=((l.length-1:Nat):Int):=by rw[wrap64 _ (by omega) (by omega)];omega
 refine Ad.go f321 ?_;unfold f321;simp(disch:=omega)only[go_sem,length_map,gm,hx,he];refine AY ⟨[(0,0)],[(63,63)],[]⟩ _ rfl ⟨rfl,rfl⟩ (by simp[lk]) ?_ ?_
 ·exact gI
 ·simp(disch:=omega)only[go_sem];exact .sl (by rw[List.map_take])
def wQ(l:List Cand)(x:Cand)(hl:l.length+1<=4294967296):Ad C0 322 [.ptr 63 0,.Kb 95 (.agg x.c)] [(63,NW l)] (.BC []) [(63,NW (l++[x]))]:=by
 refine Ad.go f322 ?_;unfold f322;refine gO ?_;refine Dj 1023 [(0,1,0),(1,2,0),(2,4,2),(3,8,4),(4,16,0),(5,32,16),(6,64,32),(7,128,72),(8,256,255),(9,512,511)] [0,1,2,16,3,17,6,18,48,7,19,49,14,22,50,112,15,23,51,113,30,54,114,31,55,115,62,118,63,119,126,127,254,255,511,1023] (λm=>⟨XE m [(1,4,.ptr 63 0),(2,5,.ptr 63 0),(4,6,.ptr 63 0),(8,7,(if m / 128%2=1 then .undef else .sl (.own 0 0) 2 (l.map Cand.c))),(16,8,.Kb 95 (.agg x.c)),(32,9,.agg x.c),(64,10,.sl (.own 640 0) 2 [x.c]),(128,11,.sl (.own 704 0) 2 ((l++[x]).map Cand.c)),(256,12,.ptr 63 0)]++[(0,.ptr 63 0),(1,.Kb 95 (.agg x.c))],[(63,[if m / 128%2=1 then (if m / 512%2=1 then .sl (.own 704 0) 2 ((l++[x]).map Cand.c) else .undef) else .sl (.own 0 0) 2 (l.map Cand.c)])]⟩) ?_ ?_ ?_ B6
 ·exact AK
 ·simp (maxSteps:=100000000)only[Di,Dh,D0,DZ,and_true,Nat.reduceDiv,Nat.reduceMod,Nat.reduceAnd,Nat.reduceEqDiff,reduceIte,true_and,and_false,false_and,and_self]
  repeat'(with_reducible refine And.intro ?_ ?_)
  all_goals simp(disch:=omega)only[go_sem,map_append,map_cons,map_nil]
  all_goals exact AT.Aq (by simp(disch:=omega)only[go_sem,map_append,map_cons,map_nil]) (by simp(disch:=omega)only[go_sem,map_append,map_cons,map_nil])
 refine gO ?_;refine AY ⟨[(704,0)],[(63,63)],[]⟩ _ rfl ⟨rfl,rfl⟩ (by simp[lk]) ?_ ?_
 ·exact gI
 ·simp(disch:=omega)only[go_sem,map_append]
def Pe{l:List Cand}(h:P0 l)(i j:Nat):P0 (Eo l i j):=by
 unfold Eo;split
 ·rename_i a b ha hb;intro c hc;rcases List.mem_or_eq_of_mem_set hc with hc|hc
  ·rcases List.mem_or_eq_of_mem_set hc with hc|hc
   ·exact h c hc
   ·subst hc;exact h.get hb
  ·subst hc;exact h.get ha
 ·exact h
def yl{α:Type}(lt:α->α->Bool):∀ (f g j:Nat) (l:List α),j<=f->j<=g->bY lt f j l=bY lt g j l:=by
 intro f
 induction f with
 | zero =>
  intro g j l h _;have:j=0:=by omega
  subst this;cases g<;>simp[bY]
 | succ f ih =>
  intro g j l h hg;cases g with
  | zero =>
   have:j=0:=by omega
   subst this;simp[bY]
  | succ g =>
   simp only[bY];split
   ·rfl
   ·rename_i hc;simp only[not_or]at hc;exact ih g _ _ (by omega) (by omega)
@[go_sem] theorem AiF:((2:Int)=0)=False:=by simp
theorem rz{k:Nat}(h0:k≠0)(h:k<=4294967296):IntKind.i64.wrap (((k:Int)-1).tdiv 2)=(((k-1) / 2:Nat):Int):=by
 rw[show ((k:Int)-1)=((k-1:Nat):Int) by omega];rw[show (((k-1:Nat):Int)).tdiv 2=(((k-1) / 2:Nat):Int) by rw[Int.tdiv_eq_ediv_of_nonneg (by omega)];omega];exact wrap64 _ (by omega) (by omega)
def yn{α:Type}{lt:α->α->Bool}{l:List α}{k:Nat}(h:Hl lt l k ((k-1) / 2)=false):bY lt k k l=l:=by
 cases k with
 | zero=>rfl
 | succ k=>simp only[bY];rw[if_pos (.inr h)]
def AfR{α:Type}{lt:α->α->Bool}{l:List α}{k:Nat}(h0:k≠0)(h:Hl lt l k ((k-1) / 2)=true):bY lt k k l=bY lt ((k-1) / 2) ((k-1) / 2) (Eo l ((k-1) / 2) k):=by
 cases k with
 | zero=>exact absurd rfl h0
 | succ k =>
  simp only[bY];rw[if_neg (by simp only[not_or,Bool.not_eq_false];exact⟨by omega,h⟩)];exact yl lt _ _ _ _ (by omega) (by omega)
def qe{X:Env}{d:Option Nat}{FF:Nat}{xs:List AV}{K:St->Prop}{st:St}(fn:Func)(h:Q3 ⟨X.C,X.ext⟩ (fn.body.getD .skip) (AfE X fn.results.toList λy os=>K (St.put d y ⟨Pd X.ext st.tmps,os⟩)) ⟨XY 0 xs,st.Aj⟩)
 (hX:∀ s∈X.ext,s%32=31:=by simp) (hf:X.C.P.funcs[FF]?=some fn:=by kernel_rfl) (Gj:(fn.name=="runtime.NumGoroutine")=false:=by kernel_rfl) (hb:fn.body=some (fn.body.getD .skip):=by kernel_rfl)
 (CC:HA fn.ntmps (fn.body.getD .skip)=true:=by kernel_rfl) (Hh:Nat.ble xs.length fn.ntmps=true:=by kernel_rfl):Bi X d FF xs K st :=
 qf hX hf Gj hb CC (Nat.le_of_ble_eq_true Hh) h
def ML{X:Env}{d:Option Nat}{K:St->Prop}{tm:List (Nat × AV)}(hX:∀ s∈X.ext,s%32=31)(hC:X.C=C0)(m:List Cand)(i j:Nat)(hi:i<m.length)(hj:j<m.length)(h:K (St.put d (.BC []) ⟨Pd X.ext tm,[(63,NW (Eo m i j))]⟩)) :
 Bi X d 323 [.sl (.own 0 0) 2 (m.map Cand.c),I i,I j] K ⟨tm,[(63,NW m)]⟩:=by
 obtain⟨C,ext⟩:=X;simp only at hC hX h ⊢;subst hC;obtain⟨a,ha⟩:=get_some hi;obtain⟨b,hb⟩:=get_some hj;refine qe f323 ?_ hX;unfold f323;refine gO ?_;refine Kh 12 [([],[0]),([],[1]),([],[0]),([],[2]),([],[0]),([],[2]),([4,5],[10,11]),([4,5,6],[12]),([],[0]),([],[1]),([8,9],[14,15]),([8,9,10],[16]),([0,1,4,5,6,7,8,9,10,11],[]),([0,1,4,5,6,7,8,9,10,11,12],[]),([0,1,2,3,4,5,6,7,8,9,10,11,12,13],[]),([0,1,2,3,4,5,6,7,8,9,10,11,12,13,14],[])] [2,3] [([],[6,7,13,17,0,2],let o0:OT:=.done;let o1:OT:=.pick [(15,o0)];let o2:OT:=.pick [(14,o1)];let o3:OT:=.pick [(13,o2)];let o4:OT:=.pick [(12,o3)];let o5:OT:=.pick [(3,o2)];let o6:OT:=.pick [(3,o3),(13,o5)];let o7:OT:=.pick [(3,o4),(12,o6)];let o8:OT:=.pick [(2,o2)];let o9:OT:=.pick [(2,o3),(13,o8)];let gu:OT:=.pick [(2,o4),(12,o9)];let oL:OT:=.pick [(2,o5),(3,o8)];let xM:OT:=.pick [(2,o6),(3,o9),(13,oL)];let sN:OT:=.pick [(2,o7),(3,gu),(12,xM)];sN),([3],[6,7,13,9,17,0,2],let o0:OT:=.done;let o1:OT:=.pick [(15,o0)];let o2:OT:=.pick [(14,o1)];let o3:OT:=.pick [(13,o2)];let o4:OT:=.pick [(12,o3)];let o5:OT:=.pick [(2,o2)];let o6:OT:=.pick [(2,o3),(13,o5)];let o7:OT:=.pick [(2,o4),(12,o6)];o7),([2],[6,7,13,8,17,0,2],let o0:OT:=.done;let o1:OT:=.pick [(15,o0)];let o2:OT:=.pick [(14,o1)];let o3:OT:=.pick [(13,o2)];let o4:OT:=.pick [(12,o3)];let o5:OT:=.pick [(3,o2)];let o6:OT:=.pick [(3,o3),(13,o5)];let o7:OT:=.pick [(3,o4),(12,o6)];o7),([2,3],[6,7,13,8,9,17,0,2],let o0:OT:=.done;let o1:OT:=.pick [(15,o0)];let o2:OT:=.pick [(14,o1)];let o3:OT:=.pick [(13,o2)];let o4:OT:=.pick [(12,o3)];o4)] B6 (by kernel_rfl) ?_;have zb:((m.map Cand.c).set i b.c).set j a.c=(Eo m i j).map Cand.c:=by simp only[Eo,ha,hb,List.map_set]
 simp only[Cand.c]at zb;have bg:((m.map Cand.c).set i [I b.cost,U b.set])[j]?=some [I b.cost,U b.set]:=by
  rw[List.getElem?_set];split
  ·rename_i e;subst e;simp[hi]
  ·simp[gm,hb,Cand.c]
 simp(disch:=omega)only[go_sem,length_map,List.length_set,bg,gm,ha,hb]
 repeat'(with_reducible refine And.intro ?_ ?_)
 all_goals(refine⟨[],rfl,?_⟩)
 all_goals(try rw[zb])
 all_goals exact h
def AaP(l:List Cand)(j:Nat)(hj:j<l.length)(hn:l.length<=4294967296)(hs:P0 l):Ad C0 97 [.Kb 92 (.ptr 63 0),I j] [(63,NW l)] (.BC []) [(63,NW (bY AU j j l))]:=by
 refine Ad.go f97 ?_;unfold f97;refine gO ?_;refine Ao (α:=Nat × List Cand) (λx=>⟨[(0,.Kb 92 (.ptr 63 0)),(1,I x.1)],[(63,NW x.2)]⟩) (λx=>x.1<x.2.length/\x.2.length=l.length/\P0 x.2/\bY AU x.1 x.1 x.2=bY AU j j l) (λx=>x.1) (j,l) ⟨hj,rfl,hs,rfl⟩ AK ?_;rintro⟨k,m⟩ ⟨h1,h2,h3,h4⟩ J hJ;simp only at h1 h2 h3 h4
 by_cases h0:k=0
 ·subst h0;have hz:IntKind.i64.wrap (Int.tdiv (-1) 2)=0:=by decide
  simp(disch:=omega)only[go_sem,hz];refine AY ⟨[(0,0)],[(63,63)],[]⟩ [] rfl ⟨rfl,rfl⟩ (by simp[lk]) ?_ ?_
  ·exact gI
  ·simp(disch:=omega)only[go_sem];exact .sl (by rw[<- h4];rfl)
 ·have hq:=rz h0 (by omega);have CZ:((((k-1) / 2:Nat):Int)==(k:Int))=false:=by simp;omega
  simp(disch:=omega)only[go_sem,hq,CZ];refine B4 [0] (RE m k ((k-1) / 2) (by omega) (by omega) h3) gI rfl trivial ?_;refine gO ?_;refine⟨λh=>?_,λh=>?_⟩
  ·have h5:Hl AU m k ((k-1) / 2)=false:=by simpa using h
   rw[yn h5]at h4;refine AY ⟨[(0,0)],[(63,63)],[]⟩ [] rfl ⟨rfl,rfl⟩ (by simp[lk]) ?_ ?_
   ·exact gI
   ·simp(disch:=omega)only[go_sem];exact .sl (by rw[<- h4])
  ·have h5:Hl AU m k ((k-1) / 2)=true:=by simpa using h
   rw[AfR h0 h5]at h4;refine ML (by simp) rfl m ((k-1) / 2) k (by omega) h1 ?_;refine gO ?_;refine hJ _ ((k-1) / 2,Eo m ((k-1) / 2) k) ⟨by rw[EX];omega,by rw[EX];exact h2,Pe h3 _ _,h4⟩ (by simp only;omega) AK
def nr{α:Type}(lt:α->α->Bool):∀ (f g i n:Nat) (l:List α),n<=i+f->n<=i+g->Fo lt f i n l=Fo lt g i n l:=by
 intro f
 induction f with
 | zero =>
  intro g i n l h _;cases g with
  | zero=>rfl
  | succ g=>simp only[Fo];grind
 | succ f ih =>
  intro g i n l h hg;cases g with
  | zero=>grind
  | succ g =>
   simp[Fo];split
   ·rfl
   ·rename_i hc;simp only[not_or]at hc;grind[RW]
def Pp{α:Type}{lt:α->α->Bool}{l:List α}{i n:Nat}(h:n<=2*i+1\/Hl lt l (Ld lt l i n) i=false):Fo lt (n-i) i n l=l:=by cases hf:n-i<;>simp_all[Fo]
def aB{α:Type}{lt:α->α->Bool}{l:List α}{i n:Nat}(h1:¬ n<=2*i+1)(h2:Hl lt l (Ld lt l i n) i=true):Fo lt (n-i) i n l=Fo lt (n-Ld lt l i n) (Ld lt l i n) n (Eo l i (Ld lt l i n)):=by
 have:=(RW (lt:=lt) (l:=l) h1);cases hf:n-i with
 | zero=>omega
 | succ f =>
  simp[Fo];rw[if_neg (by grind)];exact nr lt _ _ _ _ _ (by omega) (by omega)
def AaN(l:List Cand)(i n:Nat)(hi:i<=n)(Hf:n<=l.length)(hn:l.length<=4294967296)(hs:P0 l):Ad C0 95 [.Kb 92 (.ptr 63 0),I i,I n] [(63,NW l)] .undef [(63,NW (Fo AU (n-i) i n l))]:=by
 refine Ad.go f95 ?_;unfold f95;refine gO ?_;refine Ao (α:=Nat × List Cand) (λx=>⟨[(0,.Kb 92 (.ptr 63 0)),(1,I i),(2,I n),(7,I x.1)],[(63,NW x.2)]⟩) (λx=>x.1<=n/\x.2.length=l.length/\P0 x.2/\Fo AU (n-x.1) x.1 n x.2=Fo AU (n-i) i n l) (λx=>n-x.1) (i,l) ⟨hi,rfl,hs,rfl⟩ AK ?_;rintro⟨k,m⟩ ⟨h1,h2,h3,h4⟩ J hJ;simp only at h1 h2 h3 h4;obtain⟨a,ha⟩:∃ a:Nat,a=2*k+1:=⟨_,rfl⟩;obtain⟨b,hb⟩:∃ b:Nat,b=2*k+2:=⟨_,rfl⟩;have e1:2*(k:Int)+1=(a:Int):=by omega
 have e2:(a:Int)+1=(b:Int):=by omega
 have fin:∀ st',Fo AU (n-k) k n m=m->st'.Aj=[(63,NW m)]->Cx C0 st' [ResultVar.tmp 6]=some [B (decide ((i:Int)<k))]->Xx ⟨C0,[63]⟩ [ResultVar.tmp 6] .undef [(63,NW (Fo AU (n-i) i n l))] .ret st':=by
  rintro⟨tm,ob⟩ hd ho hr;simp only at ho;subst ho;refine AY ⟨[(0,0)],[(63,63)],[]⟩ _ hr ⟨rfl,rfl⟩ (by simp[lk]) ?_ ?_
  ·exact gI
  ·refine gO ?_;exact .sl (by grind)
 by_cases hle:n<=a
 ·simp(disch:=omega)only[go_sem,e1,eq_true (show (n:Int)<=(a:Int) by omega)];exact fin _ (Pp (.inl (by omega))) rfl (by simp only[go_sem,Cx,Gv])
 have Y5:((a:Int)<0)=False:=by simp
 have X7:=RW (lt:=AU) (l:=m) (i:=k) (n:=n) (by omega);simp(disch:=omega)only[go_sem,e1,e2,eq_false (show ¬ (n:Int)<=(a:Int) by omega),Y5]
 by_cases nR:b<n
 ·simp only[go_sem,eq_true (show (b:Int)<(n:Int) by omega)];refine B4 [0] (RE m b a (by omega) (by omega) h3) gI rfl trivial (gO ?_);refine⟨λh=>?_,λh=>?_⟩
  ·have hj:b=Ld AU m k n:=by simp_all[Ld]
   refine B4 [0] (RE m b k (by omega) (by omega) h3) gI rfl trivial (gO ?_);refine⟨λh=>?_,λh=>?_⟩
   ·have h5:Hl AU m b k=false:=by grind
    exact fin _ (Pp (.inr (by grind))) rfl (by simp only[go_sem,Cx,Gv])
   ·have h5:Hl AU m b k=true:=by grind
    have h6:=aB (lt:=AU) (l:=m) (i:=k) (n:=n) (by omega) (by grind);rw[<- hj]at h6;rw[h6]at h4;refine ML (by simp) rfl m k b (by omega) (by omega) (gO ?_);exact hJ _ (b,Eo m k b) ⟨by omega,by grind[EX],Pe h3 _ _,h4⟩ (by omega) AK
  ·have hj:a=Ld AU m k n:=by simp_all[Ld]
   refine B4 [0] (RE m a k (by omega) (by omega) h3) gI rfl trivial (gO ?_);refine⟨λh=>?_,λh=>?_⟩
   ·have h5:Hl AU m a k=false:=by grind
    exact fin _ (Pp (.inr (by grind))) rfl (by simp only[go_sem,Cx,Gv])
   ·have h5:Hl AU m a k=true:=by grind
    have h6:=aB (lt:=AU) (l:=m) (i:=k) (n:=n) (by omega) (by grind);rw[<- hj]at h6;rw[h6]at h4;refine ML (by simp) rfl m k a (by omega) (by omega) (gO ?_);exact hJ _ (a,Eo m k a) ⟨by omega,by grind[EX],Pe h3 _ _,h4⟩ (by omega) AK
 ·simp only[go_sem,eq_false (show ¬ (b:Int)<(n:Int) by omega)];have hj:a=Ld AU m k n:=by unfold Ld;grind
  refine B4 [0] (RE m a k (by omega) (by omega) h3) gI rfl trivial (gO ?_);refine⟨λh=>?_,λh=>?_⟩
  ·have h5:Hl AU m a k=false:=by grind
   exact fin _ (Pp (.inr (by grind))) rfl (by simp only[go_sem,Cx,Gv])
  ·have h5:Hl AU m a k=true:=by grind
   have h6:=aB (lt:=AU) (l:=m) (i:=k) (n:=n) (by omega) (by grind);rw[<- hj]at h6;rw[h6]at h4;refine ML (by simp) rfl m k a (by omega) (by omega) (gO ?_);exact hJ _ (a,Eo m k a) ⟨by omega,by grind[EX],Pe h3 _ _,h4⟩ (by omega) AK
def AaA(l:List Cand)(x:Cand)(hn:l.length+1<=4294967296)(hs:P0 l)(hx:x.set<18446744073709551616):Ad C0 52 [.Kb 92 (.ptr 63 0),.Kb 95 (.agg x.c)] [(63,NW l)] (.BC []) [(63,NW (Xr AU l x))]:=by
 have dF:P0 (l++[x]):=λc hc=>by
  rcases mem_append.1 hc with h|h
  ·exact hs c h
  grind
 refine Ad.go f52 ?_;unfold f52;refine gO ?_;refine call2 ⟨⟨[(0,0)],[(63,63)],[]⟩,[],[]⟩ (wQ l x hn) (gO ?_);refine B4 [0] (ib (l++[x])) gI rfl trivial (gO ?_);refine call2 ⟨⟨[(0,0)],[(63,63)],[]⟩,[],[]⟩ (AaP (l++[x]) l.length (by simp) (by grind) dF) ?_ (hx:=by(try refine gO ?_);exact .int (by omega));refine gO ?_;refine AY ⟨[(0,0)],[(63,63)],[]⟩ _ rfl ⟨rfl,rfl⟩ (by simp[lk]) ?_ ?_
 ·exact gI
 ·simp only[go_sem,Xr]
def Aax(l:List Cand)(x:Cand)(hx:(LL AU l)[l.length-1]?=some x)(h0:l≠[])(hn:l.length<=4294967296)(hs:P0 l):Ad C0 48 [.Kb 92 (.ptr 63 0)] [(63,NW l)] (.Kb 95 (.agg x.c)) [(63,NW ((LL AU l).take (l.length-1)))]:=by
 have hl:0<l.length:=List.length_pos_iff.2 h0;have hw:IntKind.i64.wrap ((l.length:Int)-1)=((l.length-1:Nat):Int):=by rw[wrap64 _ (by omega) (by omega)];omega
 have lK:(LL AU l).length=l.length:=by grind[LL,Wb,EX]
 refine Ad.go f48 ?_;unfold f48;refine gO ?_;refine B4 [0] (ib l) gI rfl trivial (gS ?_);refine ML (by simp) rfl l 0 (l.length-1) (by omega) (by omega) (gO ?_);refine call2 ⟨⟨[(0,0)],[(63,63)],[]⟩,[],[]⟩ (AaN (Eo l 0 (l.length-1)) 0 (l.length-1) (by omega) (by grind[EX]) (by grind[EX]) (Pe hs _ _)) ?_;have e:Fo AU (l.length-1-0) 0 (l.length-1) (Eo l 0 (l.length-1))=LL AU l:=rfl;rw[e];refine gO ?_;refine call2 ⟨⟨[(0,0)],[(63,63)],[]⟩,[],[]⟩ (wP (LL AU l) x (by grind) (by omega)) ?_;refine gO ?_;refine AY ⟨[(0,0)],[(63,63)],[]⟩ _ rfl ⟨rfl,rfl⟩ (by simp[lk]) ?_ ?_
 ·exact gI
 ·refine gO ?_;exact .sl (by rw[lK])
def Fq(i:Nat):List AV:=[I i]
@[reducible] def E3(S:List Nat):AV:=.sl .no 1 (S.map Fq)
attribute [go_sem] Fq
def qn{i:Nat}{s:List Nat}:code (i::s)≠0:=λe=>by
 have:=EP (i::s) i;rw[e]at this;simp at this
def Aay(cost:Int)(S:List Nat)(hS:S.Pairwise (· < ·))(hn:∀ i∈S,i<64):Ad C0 49 [.agg (Cand.mk cost (code S)).c] [] (E3 S) []:=by
 have hlen:S.length<=64:=by
  have:=Kz hS hn;rw[<- this];exact Nat.le_trans (List.length_filter_le _ _) (by simp)
 refine Ad.go f49 ?_;unfold f49;refine gO ?_;refine Ao (α:=List Nat × List Nat) (λx=>⟨[(1,.ptr 64 0),(3,.sl (.own 0 0) 1 (x.1.map Fq)),(4,U (code x.2))],[(64,(Cand.mk cost (code S)).c)]⟩) (λx=>x.1++x.2=S) (λx=>x.2.length) ([],S) rfl AK ?_;rintro⟨pre,s⟩ iL J hJ;simp only at iL;cases s with
 | nil =>
  have Abz:pre=S:=by grind
  subst Abz;simp only[go_sem,code];refine CU ⟨[],[],[0]⟩ _ ?_;exact gI
 | cons i s =>
  have hs:(i::s).Pairwise (· < ·):=hS.sublist (by grind);have iH:∀ j∈i::s,j<64:=λj hj=>hn j (by grind)
  have AP:code (i::s)<18446744073709551616:=Pl (n:=64) iH;obtain⟨k1,k2⟩:=qp hs iH;have CZ:=qn (i:=i) (s:=s);have hb:(((code (i::s):Nat):Int) !=0)=true:=by grind
  have GJ:IntKind.u64.wrap (((code (i::s):Nat):Int)-1)=((code (i::s)-1:Nat):Int):=by grind[mD]
  have hand:bits BinOp.and IntKind.u64 ((code (i::s):Nat):Int) ((code (i::s)-1:Nat):Int)=((code s:Nat):Int):=by grind[bits_and_u64_nat]
  have Sv:pre.length<=64:=by grind
  refine gS ?_;refine Ab (AaO (code (i::s)) AP) ?_;rw[k1];refine gS ?_;refine hJ _ (pre++[i],s) (by grind) (by simp) (AT.CX ⟨[(1088,0)],[(64,64)],[]⟩ ⟨rfl,rfl⟩ (by grind) ?_ ?_)
  ·simp only[go_sem,map_append]
  ·exact gI
def GX(l:List Ac)(p:Ac):Nat:=match l.findIdx? (λq=>decide (BF p q=0)) with
 |some i=>2 ^ i
 |none=>0
def ic(l:List Ac)(p:Ac)(hl:l.length<=62):Ad C0 50 [AL l,.agg p.c] [] (I (GX l p)) []:=by
 refine Ad.go f50 ?_;unfold f50;refine gO ?_;refine AF (l) (λi=>⟨[(3,.ptr 192 0),(7,AL l),(8,I l.length),(9,I i)],[(192,p.c)]⟩) (λi=>(∀ k q,k<i->l[k]?=some q->¬ BF p q=0)) ((λ_ _ h=>by omega)) ?_ ?_
 ·exact Ce
 rintro i ⟨hi,hP⟩ J hJ;refine gO ?_;refine Bo hi (λAP b hb Cg AX=>?_) λBa=>?_
 simp(disch:=omega)only[go_sem,hb]
 ·refine Ab (LC p b) (gO ?_);refine⟨λh=>?_,λh=>?_⟩
  ·have h0:BF p b=0:=by grind[CJ]
   have hf:l.findIdx? (λq=>decide (BF p q=0))=some i:=by grind[List.findIdx?_eq_some_iff_getElem]
   have AhI:i<62:=by omega
   have h4:(2:Nat) ^ i<4611686018427387904:=Nat.lt_of_lt_of_le (Nat.pow_lt_pow_right (by omega) AhI) (by decide);have h5:((2:Int) ^ min i 64)=((2 ^ i:Nat):Int):=by grind
   have Ss:GX l p=2 ^ i:=by grind[GX]
   rw[Ss];generalize 2 ^ i=z at h4 h5 ⊢;refine Al _ ?_;exact .int (by omega)
  ·have h0:¬ BF p b=0:=λe=>(show ¬p=b by grind) (FL e)
   have hP':∀ k q,k<i+1->l[k]?=some q->¬ BF p q=0:=λk q hk hq=>by grind
   refine hJ _ (i+1) ⟨by omega,hP'⟩ (by omega) AK
 ·subst Ba;have hf:l.findIdx? (λq=>decide (BF p q=0))=none:=by grind[List.mem_iff_getElem?]
  refine Al _ ?_;exact .int (by simp[GX,hf])
end Go.Rd
