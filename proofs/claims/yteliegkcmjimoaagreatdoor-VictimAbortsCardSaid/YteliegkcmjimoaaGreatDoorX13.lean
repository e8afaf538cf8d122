/- part 13 of the proof -/
import Derived.Test.YteliegkcmjimoaaGreatDoorX06
set_option linter.all false
namespace Go.Abs
def XE(m:Nat):List (Nat × Nat × AV)->List (Nat × AV)
 |[]=>[]
 |(w,t,x)::l=>if m / w%2=1 then (t,x)::XE m l else XE m l
def V8(X:Env)(ops:Array Oper)(S:Nat->St)(m:Nat):List (Nat × Nat)->Prop
 |[]=>True
 |(i,m')::l=>Bw X ops (N3 ops i) (λst'=>AT X st' (S m')) (S m)/\V8 X ops S m l
def aA(X:Env)(ops:Array Oper)(S:Nat->St):List (Nat × List (Nat × Nat))->Prop
 |[]=>True
 |(m,l)::t=>V8 X ops S m l/\aA X ops S t
def okD(ops:Array Oper)(full:Nat)(tab:List (Nat × List (Nat × Nat))):Bool :=
 (tab.any λp=>p.1==0)&&((List.range ops.size).all λi=>full.testBit i)&&tab.all λp =>
  (p.1==full||(List.range ops.size).any (λi=>!p.1.testBit i&&(BL ops i).all λe=>p.1.testBit e)) &&
  ((List.range ops.size).all λi=>p.1.testBit i||!((BL ops i).all λe=>p.1.testBit e)||p.2.any (λq=>q.1==i)) &&
  p.2.all λq=>q.2==(p.1 ||| 2 ^ q.1)&&tab.any (λp'=>p'.1==q.2)
section
variable {X:Env} {A:A0} {N:Nat} {ops:Array Oper}
def c9{S:Nat->St}{m:Nat}{q:Nat × Nat}:∀ {l:List (Nat × Nat)},V8 X ops S m l->q∈l->Bw X ops (N3 ops q.1) (λst'=>AT X st' (S q.2)) (S m)
 |[],_,h=>by cases h
 |(i,m')::l,h,hm=>by
  simp[V8]at h;rcases List.mem_cons.1 hm with rfl|hm
  ·grind
  ·exact c9 h.2 hm
def db{S:Nat->St}{p:Nat × List (Nat × Nat)}:∀ {tab:List (Nat × List (Nat × Nat))},aA X ops S tab->p∈tab->V8 X ops S p.1 p.2
 |[],_,h=>by cases h
 |(i,m')::l,h,hm=>by
  simp[aA]at h;rcases List.mem_cons.1 hm with rfl|hm
  ·grind
  ·exact db h.2 hm
def nj(hA:A.ext=X.ext)(hX:∀ s∈X.ext,s%32=31)(hN:gy N ops){Q:Exit->Act->World->Prop}{K:St->Prop}(hQ:∀ g st a w,R X.C A N g st a w->K st->Q .normal a w)
 {full:Nat} {tab:List (Nat × List (Nat × Nat))} {S:Nat->St} (CC:okD ops full tab=true) (hs:aA X ops S tab) (he:K (S full)) :
 ∀ (fuel:Nat) (m:Nat) (l:List (Nat × Nat)) (Af:Array Bool) (g:Gh) (a:Act) (w:World),Af.size=ops.size->XU Af<=fuel->(∀ j,j<ops.size->ES Af j=m.testBit j)->(m,l)∈tab->R X.C A N g (S m) a w ->
  wpAny X.C.P .any ops Q fuel Af a w:=by
 have rO:=CC;simp only[okD,Bool.and_eq_true,List.all_eq_true,List.mem_range]at rO;obtain⟨⟨_,rG⟩,AbD⟩:=rO;intro fuel
 induction fuel with
 | zero =>
  intro m l Af g a w Hb hu hd hm hR;obtain⟨⟨h1,h2⟩,h3⟩:=AbD (m,l) hm;simp only[Bool.or_eq_true,beq_iff_eq,List.any_eq_true,List.mem_range,Bool.and_eq_true]at h1;rcases h1 with rfl|⟨i,hi,QJ,NP⟩
  ·refine⟨?_,hQ g _ a w hR he⟩;cases hrd:Region.ready .any ops Af with
   | nil=>rfl
   | cons j l' =>
    have hj:j∈Region.ready .any ops Af:=by grind
    grind[Cj]
  grind[Iv]
 | succ fuel ih =>
  intro m l Af g a w Hb hu hd hm hR;obtain⟨⟨h1,h2⟩,h3⟩:=AbD (m,l) hm;simp only[Bool.or_eq_true,beq_iff_eq,List.any_eq_true,List.mem_range,Bool.and_eq_true]at h1;refine⟨λh0=>?_,λj hj=>?_⟩
  ·rcases h1 with rfl|⟨i,hi,QJ,NP⟩
   ·grind
   ·have Ha:i∈Region.ready .any ops Af:=(Cj Hb).2 ⟨hi,by grind,λe hee=>by
     grind[U8]⟩
    grind
  ·obtain⟨k1,k2,k3⟩:=(Cj Hb).1 hj;have hnb:m.testBit j=false:=by grind
   have h4:=h2 j k1;have nT:(BL ops j).all (λe=>m.testBit e)=true:=List.all_eq_true.2 λe hee=>by grind[U8]
   simp only[hnb,nT,Bool.not_true,Bool.or_false,Bool.false_or,List.any_eq_true,beq_iff_eq]at h4;obtain⟨q,hq,rfl⟩:=h4;have h5:=h3 q hq;simp only[beq_iff_eq,List.any_eq_true]at h5;obtain⟨h6,p',gq,h7⟩:=h5;have ho:ops[q.1]?=some ops[q.1]:=Array.getElem?_eq_getElem k1;have bp:=c9 (db hs hm) hq;simp[N3,ho,Bw]at bp;refine OZ hA hX ho (λg' st' a' w' WC um=>?_) (hN.1 _ (Array.getElem_mem k1)) bp hR;obtain⟨g2,hR2⟩:=um A N g' a' w' hA WC;refine ih q.2 p'.2 _ g2 a' w' (by grind) (by grind[Jh]) (λj' hj'=>?_) (by grind) hR2;rw[Ff (by omega)];simp only[Jk];rw[h6,Nat.testBit_or,Nat.testBit_two_pow];grind
end
def qB{X:Env}{ops:Array Oper}{K:St->Prop}{st:St}(full:Nat)(tab:List (Nat × List (Nat × Nat)))(S:Nat->St)(hm:X.C.P.follows .mixedOrders=true)(CC:(J7 ops&&okD ops full tab)=true)
 (h0:AT X st (S 0)) (hs:aA X ops S tab) (he:K (S full)):Lj X ops K st:=by
 refine Ep h0 ?_;intro A N g a w hA hN hX hR id Q hQ;simp at CC;refine wp_region_any hm ?_;have h0:∃ l,(0,l)∈tab:=by simp_all[okD]
 obtain⟨l,hl⟩:=h0;refine nj hA hX (N:=N) (K:=K) ⟨λo ho=>?_,λi hi e he=>?_⟩ hQ CC.2 hs he ops.size 0 l (Array.replicate ops.size false) g a _ (by simp) (by simp[XU]) (λj hj=>by simp[ES,Array.getD,hj]) hl hR.drew
 ·grind[KS]
 ·have:=CC.1;simp[J7]at this;grind
@[go_sem] theorem Ad8(X:Env)(ops:Array Oper)(S:Nat->St)(m:Nat):V8 X ops S m []=True:=rfl
@[go_sem] theorem AcG(X:Env)(ops:Array Oper)(S:Nat->St)(m i m':Nat)(l:List (Nat × Nat)):V8 X ops S m ((i,m')::l)=(Bw X ops (N3 ops i) (λst'=>AT X st' (S m')) (S m)/\V8 X ops S m l):=rfl
@[go_sem] theorem Ad9(X:Env)(ops:Array Oper)(S:Nat->St):aA X ops S []=True:=rfl
@[go_sem] theorem AcH(X:Env)(ops:Array Oper)(S:Nat->St)(m:Nat)(l:List (Nat × Nat))(t:List (Nat × List (Nat × Nat))):aA X ops S ((m,l)::t)=(V8 X ops S m l/\aA X ops S t):=rfl
@[go_sem] theorem AgK(m:Nat):XE m []=[]:=rfl
@[go_sem] theorem AfG(m w t:Nat)(x:AV)(l:List (Nat × Nat × AV)):XE m ((w,t,x)::l)=if m / w%2=1 then (t,x)::XE m l else XE m l:=rfl
end Go.Abs
namespace Go.Abs
def da(X:Env)(ops:Array Oper)(S:Nat->St)(m:Nat):List (Nat × Nat × Nat)->Prop
 |[]=>True
 |(i,w,d)::l=>(if m / w%2=0/\d &&& m=d then Bw X ops (N3 ops i) (λst'=>AT X st' (S (m+w))) (S m) else True)/\da X ops S m l
def ni(X:Env)(ops:Array Oper)(S:Nat->St)(E:List (Nat × Nat × Nat)):List Nat->Prop
 |[]=>True
 | m::t=>da X ops S m E/\ni X ops S E t
def bM(E:List (Nat × Nat × Nat))(m:Nat):List (Nat × Nat):=(E.filter λe=>decide (m / e.2.1%2=0/\e.2.2 &&& m=e.2.2)).map λe=>(e.1,m+e.2.1)
def tU(E:List (Nat × Nat × Nat))(ms:List Nat):List (Nat × List (Nat × Nat)):=ms.map λm=>(m,bM E m)
section
variable {X:Env} {ops:Array Oper} {S:Nat->St}
def qx{m:Nat}:∀ {E:List (Nat × Nat × Nat)},da X ops S m E->V8 X ops S m (bM E m)
 |[],_=>trivial
 |(i,w,d)::l,h=>by
  simp only[da]at h;have ih:=qx h.2;unfold bM at ih ⊢;simp only[List.filter_cons]
  by_cases hc:m / w%2=0/\d &&& m=d
  ·simp_all[V8]
  grind
def qy{E:List (Nat × Nat × Nat)}:∀ {ms:List Nat},ni X ops S E ms->aA X ops S (tU E ms)
 |[],_=>trivial
 | m::t,h=>⟨qx h.1,qy h.2⟩
def Dj{K:St->Prop}{st:St}(full:Nat)(E:List (Nat × Nat × Nat))(ms:List Nat)(S:Nat->St)(h0:AT X st (S 0))(hs:ni X ops S E ms)(he:K (S full))(hm:X.C.P.follows .mixedOrders=true)
 (CC:(J7 ops&&okD ops full (tU E ms))=true:=by kernel_rfl):Lj X ops K st:=qB full (tU E ms) S hm CC h0 (qy hs) he
end
theorem Dh(X:Env)(ops:Array Oper)(S:Nat->St)(m i w d:Nat)(l:List (Nat × Nat × Nat)):da X ops S m ((i,w,d)::l)=((if m / w%2=0/\d &&& m=d then Bw X ops (N3 ops i) (λst'=>AT X st' (S (m+w))) (S m) else True)/\da X ops S m l):=nd rfl
theorem Di(X:Env)(ops:Array Oper)(S:Nat->St)(E:List (Nat × Nat × Nat))(m:Nat)(t:List Nat):ni X ops S E (m::t)=(da X ops S m E/\ni X ops S E t):=nd rfl
theorem DZ(X:Env)(ops:Array Oper)(S:Nat->St)(m:Nat):da X ops S m []=True:=nd rfl
theorem D0(X:Env)(ops:Array Oper)(S:Nat->St)(E:List (Nat × Nat × Nat)):ni X ops S E []=True:=nd rfl
end Go.Abs
