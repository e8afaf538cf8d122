/- part 43 of the proof -/
import Derived.Test.YteliegkcmjimoaaGreatDoorX41
set_option linter.all false
open Go Go.Abs Go.Proofs
set_option maxRecDepth 100000
namespace Go.Rd
set_option maxHeartbeats 8000000
open List (flatMap_cons mem_filter mem_map nodup_cons)
structure Blocks(L:List C1):Prop where
 con:∀ (i j k:Nat) (a b c:C1),L[i]?=some a->L[j]?=some b->L[k]?=some c->i<=j->j<=k->a.proc=c.proc->b.proc=a.proc
 ab:∀ (i:Nat) (a:C1),L[i]?=some a->∃ (k:Nat) (b:C1),i<=k/\L[k]?=some b/\b.label = -1/\b.proc=a.proc
 last:∀ (j k:Nat) (a b:C1),L[j]?=some a->L[k]?=some b->a.label = -1->j<k->b.proc≠a.proc
def gG:Blocks []:=⟨λ_ _ _ _ _ _ h=>by grind,λ_ _ h=>by grind,λ_ _ _ _ h=>by grind⟩
def gF{p:Ac}{pre:List C1}{o:C1}{L:List C1}(h:Blocks L)(h1:∀ a∈pre,a.proc=p/\a.label≠-1)(h2:o.proc=p/\o.label = -1)(h3:∀ a∈L,a.proc≠p):Blocks ((pre++[o])++L):=by
 have hB:∀ i a,i<pre.length+1->((pre++[o])++L)[i]?=some a->a.proc=p/\(a.label = -1->i=pre.length):=λi a hi ha=>by grind
 have hL:∀ i,¬ i<pre.length+1->((pre++[o])++L)[i]?=L[i-(pre.length+1)]?:=λi hi=>by grind
 have hLp:∀ i a,¬ i<pre.length+1->((pre++[o])++L)[i]?=some a->a.proc≠p:=λi a hi ha=>by grind
 refine⟨λi j k a b c ha hb hc UN gl he=>?_,λi a ha=>?_,λj k a b ha hb hl gl=>?_⟩
 ·by_cases hi:i<pre.length+1
  ·grind
  ·rw[hL i hi]at ha;rw[hL j (by omega)]at hb;rw[hL k (by omega)]at hc;exact h.con _ _ _ a b c ha hb hc (by omega) (by omega) he
 ·by_cases hi:i<pre.length+1
  ·grind
  ·rw[hL i hi]at ha;obtain⟨k,b,k1,k2,k3,k4⟩:=h.ab _ a ha;refine⟨k+(pre.length+1),b,by omega,?_,k3,k4⟩;rw[hL _ (by omega)];simpa using k2
 ·by_cases hj:j<pre.length+1
  ·grind
  ·rw[hL j hj]at ha;rw[hL k (by omega)]at hb;exact h.last _ _ a b ha hb hl (by omega)
def TM:∀ (X:List Bu),(X.map (·.proc)).Nodup->(∀ x∈X,∀ s∈x.AB.AA,s.label≠-1)->Blocks (X.flatMap IJ)
 |[],_,_=>gG
 | x::X,hn,hs=>by
  rw[List.map_cons,nodup_cons]at hn;have ih:=TM X hn.2 λy hy=>hs y (by grind)
  rw[flatMap_cons];refine gF (p:=x.proc) ih (λa ha=>?_) ⟨rfl,rfl⟩ (λa ha=>?_)
  ·obtain⟨s,hm,rfl⟩:=mem_map.1 ha;exact⟨rfl,hs x (by simp) s (List.mem_reverse.1 hm)⟩
  ·obtain⟨y,hy,ha⟩:=List.mem_flatMap.1 ha;have rA:a.proc=y.proc:=by
    unfold IJ at ha;rcases List.mem_append.1 ha with ha|ha
    ·obtain⟨s,_,rfl⟩:=mem_map.1 ha;rfl
    ·simp at ha;subst ha;rfl
   rw[rA];exact λe=>hn.1 (by grind)
def dt{α β:Type}[DecidableEq α](f:α->List β)(a:α):∀ D:List α,D.Nodup->(D.flatMap λp=>if a=p then f a else [])=if a∈D then f a else []
 |[],_=>by simp
 | p::D,h=>by
  rw[nodup_cons]at h;rw[flatMap_cons,dt f a D h.2];grind
def T9{α β:Type}(f:α->List β)(q:α->Bool):∀ l:List α,(l.flatMap λa=>if q a then f a else [])=(l.filter q).flatMap f
 |[]=>rfl
 | a::l=>by
  rw[flatMap_cons,T9 f q l,List.filter_cons];cases q a<;>simp
def Yx(c:Hw):List Bu:=c.procs.filter λx=>decide (x.proc∈Bl (ofM c))
def M3{c:Hw}(h:Ck c=true):(∀ x∈Yx c,x∈c.procs/\x.waiting=true)/\((Yx c).map (·.proc)).Nodup/\∀ p,p∈(Yx c).map (·.proc)↔p∈Bl (ofM c):=by
 have hve:=(F9 h).ve;have UO:(c.procs.map (·.proc)).Nodup:=hve.ord.imp λ{a b} LP e=>by subst e;rw[CJ]at LP;omega
 have huq:∀ x∈c.procs,∀ y∈c.procs,x.proc=y.proc->x=y:=λx hx y hy e=>by
  obtain⟨i,hi⟩:=List.mem_iff_getElem?.1 hx;obtain⟨j,hj⟩:=List.mem_iff_getElem?.1 hy;have:=hve.je.uq i j x y hi hj e;subst this;rw[hi]at hj;exact Option.some.inj hj
 refine⟨λx hx=>?_,UO.sublist (List.filter_sublist.map _),λp=>?_⟩
 ·obtain⟨h1,h2⟩:=mem_filter.1 hx;obtain⟨y,hy,he,hw⟩:=Wa h (of_decide_eq_true h2);grind
 ·constructor
  ·intro hp;obtain⟨x,hx,rfl⟩:=mem_map.1 hp;exact of_decide_eq_true (mem_filter.1 hx).2
  ·intro hp;obtain⟨y,hy,he,hw⟩:=Wa h hp;exact mem_map.2 ⟨y,mem_filter.2 ⟨hy,by grind⟩,he⟩
def PN{c:Hw}(h:Ck c=true):AS c=(Yx c).flatMap IJ:=by
 have hg:BO (ofM c):=Be (JJ c);have e1:AS c=c.procs.flatMap λx=>if decide (x.proc∈Bl (ofM c)) then Gn x else []:=by
  unfold AS;congr 1;funext x;have:=dt (λ_:Ac=>Gn x) x.proc (Bl (ofM c)) (V9 _ hg);unfold Ft;rw[this]
  by_cases hx:x.proc∈Bl (ofM c)<;>simp[hx]
 rw[e1,T9];show (Yx c).flatMap Gn=_;have key:∀ l:List Bu,(∀ x∈l,Gn x=IJ x)->l.flatMap Gn=l.flatMap IJ:=by
  intro l
  induction l<;>grind
 exact key _ λx hx=>sS h ((M3 h).1 x hx).1 ((M3 h).1 x hx).2
def ud{c:Hw}(h:Ck c=true){x:Bu}(hx:x∈c.procs):Gx x.AB:=(RI h hx).AB
def Uq{c:Hw}(h:Ck c=true):Blocks (AS c):=by
 rw[PN h];refine TM _ (M3 h).2.1 λx hx s hs=>?_
 have:=(ud h ((M3 h).1 x hx).1).IW s hs;omega
theorem Xj{c:Hw}(h:Ck c=true)(hd:(Bl (ofM c)).length<=4):(AS c).length<=20:=by
 have h1:=BP _ (Bl (ofM c)) (M3 h).2.1 λp hp=>((M3 h).2.2 p).1 hp
 rw[List.length_map]at h1;have h2:∀ l:List Bu,(∀ x∈l,x.AB.AA.length<=4)->(l.flatMap IJ).length<=5*l.length:=by
  intro l
  induction l<;>grind[IJ]
 rw[PN h];have:=h2 (Yx c) λx hx=>(ud h ((M3 h).1 x hx).1).n4
 omega
def oN{c:Hw}(h:Ck c=true){o:C1}(ho:o∈AS c)(hl:o.label = -1):∃ x∈c.procs,x.waiting=true/\o=N4 x CI (-1):=by
 rw[PN h]at ho;obtain⟨x,hx,ho⟩:=List.mem_flatMap.1 ho;obtain⟨h1,h2⟩:=(M3 h).1 x hx;refine⟨x,h1,h2,?_⟩;unfold IJ at ho;rcases List.mem_append.1 ho with ho|ho
 ·obtain⟨s,hs,rfl⟩:=mem_map.1 ho;have:=(ud h h1).IW s (List.mem_reverse.1 hs);have e:(NV x s).label=s.label:=rfl;omega
 grind
def pS{c:Hw}(h:Ck c=true){p:Ac}(hp:p∈Bl (ofM c)):∃ (k:Nat) (o:C1),(AS c)[k]?=some o/\o.label = -1/\o.proc=p:=by
 obtain⟨x,hx,rfl⟩:=mem_map.1 (((M3 h).2.2 p).2 hp);have:N4 x CI (-1)∈AS c:=by
  rw[PN h];grind[IJ]
 obtain⟨k,hk⟩:=List.mem_iff_getElem?.1 this;exact⟨k,_,hk,rfl,rfl⟩
def Q7{c:Hw}(h:Ck c=true){S:List Nat}(hS:isSet (Az (ofM c) (AS c)) S)(ha:∀ i∈S,∃ o,(AS c)[i]?=some o/\o.label = -1)(hd:Bl (Fw (ofM c) (Up (ofM c) (S.map (FE (AS c)))))=[]):pA (Az (ofM c) (AS c)) S:=by
 have hv:=JJ c;have hg:=Be hv;have hn:(S.map (FE (AS c))).Nodup:=hS.2.2;obtain⟨x,hx⟩:=mr hg S hv (MV.refl hg) (λi hi=>by grind[sR]) hn (λ_ _ h=>by cases h);refine⟨hS,fE hv hx ?_ (by grind)⟩;exact ZH h S hv (MV.refl hg) (λ_ h=>by cases h) (λi hi=>by
  obtain⟨o,h1,h2⟩:=ha i hi;obtain⟨y,y1,y2,rfl⟩:=oN h (mG h1) h2;grind) hn (λ_ _ h=>by cases h) hx
def Dm(L:List C1):List Nat:=(List.range L.length).filter λi=>decide ((L.getD i o0).label = -1)
theorem Eu{L:List C1}{i:Nat}:i∈Dm L↔∃ o,L[i]?=some o/\o.label = -1:=by
 unfold Dm;grind
def Qn(L:List C1):(Dm L).Pairwise (· < ·):=List.pairwise_lt_range.filter _
def gz{c:Hw}(h:Ck c=true):isSet (Az (ofM c) (AS c)) (Dm (AS c)):=by
 refine⟨Qn _,λi hi=>?_,?_⟩
 ·obtain⟨o,h1,_⟩:=Eu.1 hi;exact(List.getElem?_eq_some_iff.1 h1).1
 ·show ((Dm (AS c)).map (FE (AS c))).Nodup;unfold List.Nodup;rw[List.pairwise_map];refine(Qn _).imp_of_mem λ{i j} hi hj UN=>?_
  obtain⟨a,h1,h2⟩:=Eu.1 hi;obtain⟨b,h3,_⟩:=Eu.1 hj;rw[Gs h1,Gs h3];exact((Uq h).last i j a b h1 h3 h2 UN).symm
def VJ{c:Hw}(h:Ck c=true):pA (Az (ofM c) (AS c)) (Dm (AS c)) :=
 Q7 h (gz h) (λi hi=>Eu.1 hi) (nk (JJ c) λp hp=>by
  obtain⟨k,o,h1,h2,rfl⟩:=pS h hp;exact mem_map.2 ⟨k,Eu.2 ⟨o,h1,h2⟩,Gs h1⟩)
def filter_one{p:Nat->Bool}{k:Nat}:∀ l:List Nat,l.Nodup->k∈l->p k=true->(∀ j∈l,p j=true->j=k)->l.filter p=[k]
 |[],_,h,_,_=>by cases h
 | a::l,hn,hk,hp,hu=>by
  rw[nodup_cons]at hn;rw[List.filter_cons]
  by_cases hak:a=k
  ·subst hak;rw[if_pos hp];grind[List.filter_eq_nil_iff]
  ·have hpa:¬ p a=true:=λh=>hak (hu a (by simp) h)
   rw[if_neg hpa];rcases List.mem_cons.1 hk with h|h
   ·exact absurd h.symm hak
   ·exact filter_one l hn.2 h hp λj hj=>hu j (by grind)
def Qc(L:List C1)(i:Nat):List Nat:=(Dm L).filter λk=>decide (FE L k=FE L i)
def Mo(L:List C1)(S:List Nat):List Nat:=S.flatMap (Qc L)
def tz{L:List C1}(hB:Blocks L){i:Nat}{a:C1}(ha:L[i]?=some a):∃ k,i<=k/\k∈Dm L/\FE L k=FE L i/\Qc L i=[k]:=by
 obtain⟨k,b,h1,h2,h3,h4⟩:=hB.ab i a ha;have hk:k∈Dm L:=Eu.2 ⟨b,h2,h3⟩;have hw:FE L k=FE L i:=by grind[Gs]
 refine⟨k,h1,hk,hw,filter_one _ ((Qn L).imp λh=>by omega) hk (decide_eq_true hw) λj hj hp=>?_⟩;obtain⟨d,h5,h6⟩:=Eu.1 hj;have hwj:=of_decide_eq_true hp;rw[Gs h5,Gs ha]at hwj;rcases Nat.lt_trichotomy j k with h|h|h
 ·exact absurd (by grind) (hB.last j k d b h5 h2 h6 h)
 ·exact h
 ·exact absurd (by grind) (hB.last k j b d h2 h5 h3 h)
def eG{c:Hw}(h:Ck c=true){S:List Nat}(hS:pA (Az (ofM c) (AS c)) S):pA (Az (ofM c) (AS c)) (Mo (AS c) S):=by
 have hB:=Uq h;obtain⟨⟨s1,s2,s3⟩,s4⟩:=hS;have dF:∀ i∈S,i<(AS c).length:=s2;have hs3:(S.map (FE (AS c))).Nodup:=s3;have rR:∀ i∈S,∃ k,i<=k/\k∈Dm (AS c)/\FE (AS c) k=FE (AS c) i/\Qc (AS c) i=[k]:=λi hi=>tz hB (gE (dF i hi))
 obtain⟨f,hf⟩:∃ f:Nat->Nat,∀ i∈S,i<=f i/\f i∈Dm (AS c)/\FE (AS c) (f i)=FE (AS c) i/\Qc (AS c) i=[f i]:=⟨λi=>(Qc (AS c) i).headD 0,λi hi=>by grind⟩;have Y3:∀ T:List Nat,(∀ i∈T,i∈S)->Mo (AS c) T=T.map f:=by
  intro T
  induction T<;>grind[Mo]
 have hm:=Y3 S λ_ h=>h
 have iO:(S.map f).map (FE (AS c))=S.map (FE (AS c)):=by simp_all
 rw[hm];refine Q7 h ⟨?_,λk hk=>?_,?_⟩ (λk hk=>?_) ?_
 ·rw[List.pairwise_map];have CZ:S.Pairwise λi j=>FE (AS c) i≠FE (AS c) j:=by grind
  refine(s1.and CZ).imp_of_mem λ{i j} hi hj UN=>?_
  obtain⟨a1,a2,a3,_⟩:=hf i hi;obtain⟨b1,b2,b3,_⟩:=hf j hj;rcases Nat.lt_or_ge (f i) (f j) with AP|JX
  ·omega
  ·obtain⟨x,hx,_⟩:=Eu.1 a2;have h1:=gE (dF i hi);have h2:=gE (dF j hj);rw[Gs hx,Gs h1]at a3;have:=hB.con i j (f i) _ _ _ h1 h2 hx (by omega) (by omega) a3.symm;exact absurd (by grind[Gs]) UN.2
 ·obtain⟨i,hi,rfl⟩:=mem_map.1 hk;obtain⟨x,hx,_⟩:=Eu.1 (hf i hi).2.1;exact(List.getElem?_eq_some_iff.1 hx).1
 ·show ((S.map f).map (FE (AS c))).Nodup;grind
 ·obtain⟨i,hi,rfl⟩:=mem_map.1 hk;grind[Eu]
 ·rw[iO];exact fF (JJ c) s4
def Zy{c:Hw}(h:Ck c=true)(hd:(Bl (ofM c)).length<=4):(AS c).take 40=AS c:=List.take_of_length_le (by grind[Xj])
end Go.Rd
