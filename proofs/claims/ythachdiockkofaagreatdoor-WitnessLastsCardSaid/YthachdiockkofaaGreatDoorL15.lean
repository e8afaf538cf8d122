/- part 15 of the proof -/
import Derived.Test.YthachdiockkofaaGreatDoorL14
set_option linter.all false
open Go Go.Abs Go.Proofs
set_option maxRecDepth 100000
namespace Go.Rd
set_option maxHeartbeats 8000000
open List (pairwise_cons)
open Bool (and_eq_true)
def Js:∀ x:Bs,Op.bytesLess x x=false
 |[]=>rfl
 | a::x=>by
  simp only[Op.bytesLess,Js x,Bool.and_false,Bool.or_false];simp
def KN:∀ x y z:Bs,Op.bytesLess x y=true→Op.bytesLess y z=true→Op.bytesLess x z=true
 |_,_,[],_,h=>by cases ‹Bs›<;>simp[Op.bytesLess]at h
 |[],_,_::_,_,_=>rfl
 | a::x,[],c::z,h,_=>by simp[Op.bytesLess]at h
 | a::x,b::y,c::z,h1,h2=>by
  simp only[Op.bytesLess,Bool.or_eq_true,and_eq_true,zD,beq_iff_eq]at h1 h2 ⊢;rcases h1 with h1|⟨rfl,h1⟩
  ·rcases h2 with h2|⟨rfl,h2⟩
   ·exact .inl (UInt8.lt_trans h1 h2)
   ·exact .inl h1
  ·rcases h2 with h2|⟨rfl,h2⟩
   ·exact .inl h2
   ·exact .inr ⟨rfl,KN x y z h1 h2⟩
def Kx{α:Type}{r:α→α→Prop}(ht:∀ a b c,r a b→r b c→r a c):∀ (l:List α),(∀ i a b,l[i]?=some a→l[i+1]?=some b→r a b)→l.Pairwise r
 |[],_=>.nil
 | a::l,h=>by
  have ih:=Kx ht l fun i x y hx hy=>h (i+1) x y (by simpa using hx) (by simpa using hy)
  refine pairwise_cons.2 ⟨?_,ih⟩;cases l with
  | nil=>simp
  | cons b l =>
   have hab:=h 0 a b rfl rfl;intro c hc;rcases List.mem_cons.1 hc with rfl|hc
   ·exact hab
   ·exact ht a b c hab ((pairwise_cons.1 ih).1 c hc)
def N2{α:Type}{r:α→α→Prop}{l:List α}(h:l.Pairwise r){i:Nat}{a b:α}(ha:l[i]?=some a)(hb:l[i+1]?=some b):r a b:=by
 have h1:=Aj ha;have h2:=Aj hb;have:=List.pairwise_iff_getElem.1 h i (i+1) h1 h2 (by omega)
 rwa [get_eq ha,get_eq hb]at this
def FN(l:List Queue):Cy l=true↔l.length≤8∧(∀ q∈l,valid q=true)∧l.Pairwise fun a b=>BX a.res.name b.res.name=true:=by
 unfold Cy;rw[and_eq_true,zD,CM];refine and_congr Iff.rfl ⟨fun h=>⟨fun q hq=>?_,Kx (r:=fun a b:Queue=>BX a.res.name b.res.name=true) (fun a b c=>KN _ _ _) l fun i a b ha hb=>?_⟩,fun⟨h1,h2⟩ i b hb=>?_⟩
 ·obtain⟨i,hi⟩:=List.mem_iff_getElem?.1 hq;have:=h i q hi;simp only[B8,and_eq_true]at this;exact this.1
 ·have:=h (i+1) b hb;simp only[B8,and_eq_true]at this;have h2:=this.2;simpa [List.getD,ha]using h2
 ·simp only[B8,and_eq_true];refine⟨h1 b (mG hb),?_⟩;cases i with
  | zero=>simp
  | succ i =>
   obtain⟨a,ha⟩:∃ a,l[i]?=some a:=⟨_,gE (by have:=Aj hb;omega)⟩;have:=N2 h2 ha hb;simpa [List.getD,ha]using this
def I4(l:List Need):H6 l=true↔l.length≤8∧(∀ n∈l,n.proc.ok=true∧0≤n.gen∧n.gen≤1073741824∧Bb n.expr=true)∧l.Pairwise fun a b=>Bc a.proc b.proc<0:=by
 unfold H6;rw[and_eq_true,zD,CM];refine and_congr Iff.rfl ⟨fun h=>⟨fun q hq=>?_,Kx (r:=fun a b:Need=>Bc a.proc b.proc<0) (fun a b c=>CU) l fun i a b ha hb=>?_⟩,fun⟨h1,h2⟩ i b hb=>?_⟩
 ·obtain⟨i,hi⟩:=List.mem_iff_getElem?.1 hq;have:=h i q hi;simp only[Ek,and_eq_true,zD]at this;exact⟨this.1.1.1.1,this.1.1.1.2,this.1.1.2,this.1.2⟩
 ·have:=h (i+1) b hb;simp only[Ek,and_eq_true]at this;have h2:=this.2;simpa [List.getD,ha]using h2
 ·have h3:=h1 b (mG hb);simp only[Ek,and_eq_true,zD];refine⟨⟨⟨⟨h3.1,h3.2.1⟩,h3.2.2.1⟩,h3.2.2.2⟩,?_⟩;cases i with
  | zero=>simp
  | succ i =>
   obtain⟨a,ha⟩:∃ a,l[i]?=some a:=⟨_,gE (by have:=Aj hb;omega)⟩;have:=N2 h2 ha hb;simpa [List.getD,ha]using this
def EP(s:WS):Bj s=true↔Cy s.Aa=true∧H6 s.AE=true∧(Ap s).length≤8:=by
 simp only[Bj,and_eq_true,zD,and_assoc]
def RL{s:WS}(h:Bj s=true)(p:Ab):Bj (Ci s p)=true:=by
 have hg:=Da h;obtain⟨h1,h2,h3⟩:=(EP s).1 h;obtain⟨a1,a2,a3⟩:=(FN _).1 h1;obtain⟨b1,b2,b3⟩:=(I4 _).1 h2;refine(EP _).2 ⟨(FN _).2 ⟨?_,?_,?_⟩,(I4 _).2 ⟨?_,?_,?_⟩,?_⟩
 ·simpa [Ci]using a1
 ·exact Dz hg p
 ·simp only[Ci,List.pairwise_map,O3];exact a3
 ·exact Nat.le_trans (List.length_filter_le _ _) b1
 ·exact fun n hn=>b2 n (List.mem_filter.1 hn).1
 ·exact b3.filter _
 ·rw[L7 hg];exact Nat.le_trans (List.length_filter_le _ _) h3
def RM{s:WS}(h:Bj s=true)(l:List Ab):Bj (Dn s l)=true:=Uw (P:=fun x=>Bj x=true) (fun _ p h=>RL h p) l h
def Ts(p:Ab)(name:Bs):∀ (l:List Queue),(l.Pairwise fun a b=>a.res.name≠b.res.name)→∀ w:Bool,l.foldl (fun w q=>if q.res.name==name then (Aq q p).isSome else w) w=match l.find? (fun q=>q.res.name==name) with
  |some q=>(Aq q p).isSome
  |none=>w
 |[],_,w=>rfl
 | q::l,h,w=>by
  rw[pairwise_cons]at h;rw[List.foldl_cons,Ts p name l h.2,List.find?_cons];cases hq:(q.res.name==name)
  ·simp
  ·have hn:l.find? (fun q=>q.res.name==name)=none:=by
    rw[List.find?_eq_none];intro x hx;have:=h.1 x hx;simp at hq ⊢;rw[← hq];exact fun h=>this h.symm
   rw[hn];simp
def X1(l:List Queue)(h:l.Pairwise fun a b=>a.res.name≠b.res.name)(p:Ab)(name:Bs):Ch l p name=M5 l p name:=Ts p name l h false
def WG{s:WS}(h:Bj s=true)(p:Ab)(name:Bs):Ch s.Aa p name=M5 s.Aa p name:=by
 obtain⟨h1,-,-⟩:=(EP s).1 h;obtain⟨-,-,a3⟩:=(FN _).1 h1;refine X1 _ (a3.imp fun {a b} hab he=>?_) p name;unfold BX at hab;rw[he,Js]at hab;simp at hab
end Go.Rd
namespace Go.Abs
def WQ(x y:AV):Prop:=x=y∨(x=.v (.slice none 0 0)∧∃ n,y=.sl .no (n+1) [])
def J8:List AV→List AV→Prop
 |[],[]=>True
 | x::xs,y::ys=>WQ x y∧J8 xs ys
 |_,_=>False
def GR:List (List AV)→List (List AV)→Prop
 |[],[]=>True
 | x::xs,y::ys=>J8 x y∧GR xs ys
 |_,_=>False
def J8.len:∀ {xs ys:List AV},J8 xs ys→xs.length=ys.length
 |[],[],_=>rfl
 |_::_,_::_,h=>by simp[J8.len h.2]
 |[],_::_,h=>h.elim
 |_::_,[],h=>h.elim
def GR.len:∀ {xs ys:List (List AV)},GR xs ys→xs.length=ys.length
 |[],[],_=>rfl
 |_::_,_::_,h=>by simp[GR.len h.2]
 |[],_::_,h=>h.elim
 |_::_,[],h=>h.elim
def J8.refl:∀ xs:List AV,J8 xs xs
 |[]=>trivial
 |_::xs=>⟨.inl rfl,J8.refl xs⟩
def GR.refl:∀ xs:List (List AV),GR xs xs
 |[]=>trivial
 | x::xs=>⟨J8.refl x,GR.refl xs⟩
def GR.set{L L':List AV}(h:J8 L L'):∀ (xs:List (List AV)) (i:Nat),GR (xs.set i L) (xs.set i L')
 |[],_=>trivial
 |_::xs,0=>⟨h,GR.refl xs⟩
 | x::xs,i+1=>⟨J8.refl x,GR.set h xs i⟩
def GR.append{a b:List (List AV)}(c:List (List AV))(h:GR a b):GR (c++a) (c++b):=by
 induction c with
 | nil=>exact h
 | cons x c ih=>exact⟨J8.refl x,ih⟩
section
variable {ro:Nat→Prop} {w:World}
def WQ.PR{x y:AV}{u:Value}(h:WQ x y)(hu:PR ro w x u):PR ro w y u:=by
 rcases h with rfl|⟨rfl,n,rfl⟩
 ·exact hu
 ·simp only[Abs.PR]at hu ⊢;obtain⟨rfl,_⟩:=hu;exact⟨(fun _ _ h=>by cases h),none,0,rfl,Nat.le_refl _,by simp[maxLen],(fun h=>by cases h),by omega,.inl trivial⟩
def J8.PRc:∀ {xs ys:List AV} {ad:Addr} {j:Nat},J8 xs ys→PRc ro w xs ad j→PRc ro w ys ad j
 |[],[],_,_,_,_=>trivial
 |_::_,_::_,_,_,h,⟨⟨u,h1,h2⟩,h3⟩=>⟨⟨u,h1,h.1.PR h2⟩,J8.PRc h.2 h3⟩
 |[],_::_,_,_,h,_=>h.elim
 |_::_,[],_,_,h,_=>h.elim
def GR.PRe:∀ {xs ys:List (List AV)} {ad:Addr} {n i:Nat},GR xs ys→PRe ro w xs ad n i→PRe ro w ys ad n i
 |[],[],_,_,_,_,_=>trivial
 |_::_,_::_,_,_,_,h,⟨h1,h2,h3⟩=>⟨h.1.len▸h1,h.1.PRc h2,GR.PRe h.2 h3⟩
 |[],_::_,_,_,_,h,_=>h.elim
 |_::_,[],_,_,_,h,_=>h.elim
end
def GR.nil{a b:List (List AV)}(h:GR a b)(ha:a=[]):b=[]:=by
 subst ha;cases b with
 | nil=>rfl
 | cons=>exact h.elim
def BZ.dt{t:Tag}{n:Nat}{a b:List (List AV)}(h:GR a b):BZ (.sl t n a) (.sl t n b):=fun g w u hu=>by
 have hl:=h.len
 match t with
 |.own r lo =>
  simp only[VR,CC]at hu ⊢;refine⟨hu.1,?_⟩;rcases hu.2 with ⟨h1,h2⟩|⟨h0,h2,h3⟩|⟨cap,cur,T,h1,h2,h3,h5,h6,h7,h8⟩
  ·exact .inl ⟨h1,h.nil h2⟩
  ·exact .inr (.inl ⟨h0,h.nil h2,h3⟩)
  ·exact .inr (.inr ⟨cap,cur,T,hl▸h1,hl▸h2,h3,h5,h6,h7,h.PRe h8⟩)
 |.no =>
  simp only[VR,PR]at hu ⊢;obtain⟨h0,c,cap,h1,h2,h3,h4,h5,h6⟩:=hu;exact⟨h0,c,cap,hl▸h1,hl▸h2,h3,hl▸h4,h5,h6.imp (fun e=>h.nil e) fun⟨ad,k1,k2,k3⟩=>⟨ad,k1,k2,h.PRe k3⟩⟩
 |.full =>
  simp only[VR,PR]at hu ⊢;obtain⟨h0,c,cap,h1,h2,h3,h4,h5,h6⟩:=hu;exact⟨h0,c,cap,hl▸h1,hl▸h2,h3,hl▸h4,h5,h6.imp (fun e=>h.nil e) fun⟨ad,k1,k2,k3⟩=>⟨ad,k1,k2,h.PRe k3⟩⟩
end Go.Abs
namespace Go.Abs
def neut(X:Env)(ops:Array Oper)(st:St):List Nat→Prop
 |[]=>True
 | f::F=>Ba X ops (MZ ops f) (fun st'=>Jp st' st.tmps∧Gt st' st.Al) st∧neut X ops st F
def XU(X:Env)(ops:Array Oper)(F:List Nat)(K:St→Prop):List Oper→St→Prop
 |[],st=>neut X ops st F∧K st
 | o::os,st=>neut X ops st F∧Ba X ops [o] (XU X ops F K os) st
def Ef(ops:Array Oper)(k:Nat):Array Oper:=(ops.toList.take k).toArray
def XM(ops:Array Oper)(k:Nat)(tab:List (List Nat × List Nat))(F:List Nat):Bool :=
 decide (k≤ops.size)&&(List.range ops.size).all (fun i=>(BA ops i).all (fun e=>decide (e<i)) &&
  (DD tab i).all (fun p=>(BA ops i).any fun e=>p==e||(DD tab e).contains p) &&
  (decide (i<k)||(List.range i).all fun j=>F.contains j||(DD tab i).contains j)) &&
 ((List.range k).all fun i=>(List.range i).all fun j=>(DD tab i).contains j||!(clash ops tab i j))&&F.all (fun f=>decide (f<k))&&ops.toList.all fun o=>o.guard.isNone
section
variable {X:Env} {A:A0} {N:Nat} {g:Gh} {st0:St} {a:Act} {w:World} {ops:Array Oper} {k:Nat} {tab:List (List Nat × List Nat)} {res:Nat→Res} {D:Nat→Bool} {F:List Nat}
def P6{i:Nat}(h:i<k):(Ef ops k)[i]?=ops[i]?:=by
 simp[Ef,List.getElem?_take,h]
def LM{i:Nat}(h:i<k):BA (Ef ops k) i=BA ops i:=by unfold BA;rw[P6 h]
def P5{i:Nat}(h:i<k):Eg (Ef ops k) i=Eg ops i:=by unfold Eg;rw[P6 h]
structure RS(ops:Array Oper)(k:Nat)(tab:List (List Nat × List Nat))(F:List Nat):Prop where
 le:k≤ops.size
 edge:∀ i,i<ops.size→∀ e∈BA ops i,e<i
 pred:∀ i,i<ops.size→∀ p∈DD tab i,∃ e∈BA ops i,p=e∨p∈DD tab e
 tail:∀ i,i<ops.size→k≤i→∀ j,j<i→j∈F∨j∈DD tab i
 apart:∀ i j,i<k→j<i→j∈DD tab i∨clash ops tab i j=false
 small:∀ f∈F,f<k
 guard:∀ o∈ops,o.guard=none
def XM.spec(h:XM ops k tab F=true):RS ops k tab F:=by
 simp only[XM,Bool.and_eq_true,zD,List.all_eq_true,List.mem_range,Bool.or_eq_true,List.any_eq_true,List.contains_iff_mem,beq_iff_eq,Bool.not_eq_true',Option.isNone_iff_eq_none]at h;obtain⟨⟨⟨⟨h1,h2⟩,h3⟩,h4⟩,h5⟩:=h;exact⟨h1,fun i hi=>(h2 i hi).1.1,fun i hi=>(h2 i hi).1.2,fun i hi hk j hj=>((h2 i hi).2.resolve_left (by omega)) j hj,fun i j hi hj=>h3 i hi j hj,h4,fun o ho=>h5 o (by simpa using ho)⟩
def RS.cut(h:RS ops k tab F):Jn (Ef ops k) k tab:=by
 have hs:(Ef ops k).size=k:=by have:=h.le;simp[Ef];omega
 have hk:=h.le;refine⟨by omega,fun i hi=>?_,fun i hi=>?_,fun i hi hk'=>by omega,fun i j hi hj=>?_⟩
 ·rw[LM (by omega)];exact h.edge i (by omega)
 ·rw[LM (by omega)];exact h.pred i (by omega)
 ·have:=h.apart i j hi hj;unfold clash at this ⊢;rw[P5 hi,P5 (by omega)];exact this
def RS.closed(h:RS ops k tab F)(hc:Closed ops D):∀ i,i<ops.size→(∀ e∈BA ops i,D e=true)→∀ p∈DD tab i,D p=true:=by
 intro i
 induction i using Nat.strongRecOn with
 |_ i ih =>
  intro hi hd p hp;obtain⟨e,he,h'|h'⟩:=h.pred i hi p hp
  ·subst h';exact hd _ he
  ·have hlt:=h.edge i hi e he;exact ih e hlt (by omega) (hc e (by omega) (hd e he)) p h'
def WL(h:RS ops k tab F){Q:Exit→Act→World→Prop}{i:Nat}(hi:i<k){K:Act→World→Prop}(hw:wpOp X.C.P (Ef ops k) Q i K a w):wpOp X.C.P ops Q i K a w:=by
 unfold wpOp at hw ⊢;rw[P6 hi]at hw;cases ho:ops[i]? with
 |none=>rw[ho]at hw;exact hw
 |some o =>
  rw[ho]at hw;have hg:=h.guard o (Array.mem_of_getElem? ho);simp only[Region.wanted,hg,if_true]at hw ⊢;exact hw
def LC(h:RS ops k tab F){Af:Array Bool}(hs:Af.size=ops.size):∀ n j,j<ops.size→dOf Af j=false→j≤n→∃ i,i≤j∧i∈Region.ready .any ops Af:=by
 intro n
 induction n with
 | zero =>
  intro j hj hd hjn;have:j=0:=by omega
  subst this;exact⟨0,by omega,(BD hs).2 ⟨by omega,hd,fun e he=>by have:=h.edge 0 (by omega) e he;omega⟩⟩
 | succ n ihn =>
  intro j hj hd hjn
  by_cases hed:∀ e∈BA ops j,dOf Af e=true
  ·exact⟨j,by omega,(BD hs).2 ⟨by omega,hd,hed⟩⟩
  ·have:∃ e,e∈BA ops j∧dOf Af e=false:=by
    apply Classical.byContradiction;intro hno;refine hed fun e he=>?_
    cases hde:dOf Af e with
    | true=>rfl
    | false=>exact(hno ⟨e,he,hde⟩).elim
   obtain⟨e,he,hde⟩:=this;have:=h.edge j (by omega) e he;obtain⟨i,h1,h2⟩:=ihn e (by omega) hde (by omega);exact⟨i,by omega,h2⟩
def V0{st:St}{f:Nat}:∀ {F:List Nat},neut X ops st F→f∈F→Ba X ops (MZ ops f) (fun st'=>Jp st' st.tmps∧Gt st' st.Al) st
 |_::_,h,hm=>by
  rcases List.mem_cons.1 hm with rfl|hm
  ·exact h.1
  ·exact V0 h.2 hm
def XV(hA:A.ext=X.ext)(hX:∀ s∈X.ext,s%64=63)(hN:∀ o∈ops,IS N o=true)(hr:RS ops k tab F){Q:Exit→Act→World→Prop}{K:St→Prop}(hQ:∀ g st a w,R X.C A N g st a w→K st→Q .normal a w) :
 ∀ (fuel i:Nat) (Af:Array Bool) (g:Gh) (st:St) (a:Act) (w:World),Af.size=ops.size→unl Af≤fuel→Closed ops (dOf Af)→k≤i→i≤ops.size→(∀ j,j<ops.size→j∉F→dOf Af j=decide (j<i)) →
 XU X ops F K (ops.toList.drop i) st→R X.C A N g st a w→wpAny X.C.P .any ops Q fuel Af a w:=by
 intro fuel
 induction fuel with
 | zero =>
  intro i Af g st a w hs hu hc hk hi hd h hR;have hin:i=ops.size:=by
   rcases Nat.lt_or_ge i ops.size with hlt|hge
   ·have:=HF (by omega) (by omega:i<Af.size);rw[hd i hlt (fun hf=>by have:=hr.small i hf;omega)]at this;simp at this
   ·omega
  subst hin;rw[List.drop_eq_nil_of_le (by simp)]at h;refine⟨?_,hQ g st a w hR h.2⟩;cases hrd:Region.ready .any ops Af with
  | nil=>rfl
  | cons j l =>
   have hj:j∈Region.ready .any ops Af:=by rw[hrd];simp
   have h1:=(BD hs).1 hj;have:=HF (by omega) (by omega:j<Af.size);rw[h1.2.1]at this;cases this
 | succ fuel ih =>
  intro i Af g st a w hs hu hc hk hi hd h hR;have hne:neut X ops st F:=by
   cases hdr:ops.toList.drop i with
   | nil=>rw[hdr]at h;exact h.1
   | cons o l=>rw[hdr]at h;exact h.1
  constructor
  ·intro h0;have hall:∀ j,j<ops.size→dOf Af j=true:=fun j hj=>by
    cases hdj:dOf Af j with
    | true=>rfl
    | false =>
     obtain⟨i',_,h2⟩:=LC hr hs j j hj hdj (Nat.le_refl _);rw[h0]at h2;cases h2
   have hin:i=ops.size:=by
    rcases Nat.lt_or_ge i ops.size with hlt|hge
    ·have h1:=hall i hlt;rw[hd i hlt (fun hf=>by have:=hr.small i hf;omega)]at h1;simp at h1
    ·omega
   subst hin;rw[List.drop_eq_nil_of_le (by simp)]at h;exact hQ g st a w hR h.2
  ·intro j hj;obtain⟨h1,h2,h3⟩:=(BD hs).1 hj;have ho:ops[j]?=some ops[j]:=Array.getElem?_eq_getElem h1;have hunl:=H7 (by omega:j<Af.size) h2;have hc':Closed ops (dOf (Af.setIfInBounds j true)):=by rw[EH (by omega)];exact Kg hc h3
   by_cases hjF:j∈F
   ·have hop:=V0 hne hjF;simp only[MZ,ho,Ba]at hop;refine NS hA hX ho (fun g' st' a' w' hR' hK'=>?_) (hN _ (Array.getElem_mem h1)) hop hR;refine ih i _ g' st a' w' (by simp[hs]) (by omega) hc' hk hi (fun q hq hqF=>?_) h (hR'.Ar hK'.1 hK'.2);rw[EH (by omega)];have:q≠j:=fun e=>hqF (e▸hjF)
    simp only[HJ,this,if_false];exact hd q hq hqF
   ·have hji:j=i:=by
     rw[hd j h1 hjF]at h2;have hge:i≤j:=by simpa using h2
     rcases Nat.lt_or_ge i j with hlt|hle
     ·have hiF:i∉F:=fun hf=>by have:=hr.small i hf;omega
      have:=(hr.tail j h1 (by omega) i hlt).resolve_left hiF;have:=hr.closed hc j h1 h3 i this;rw[hd i (by omega) hiF]at this;simp at this
     ·omega
    subst hji;rw[List.drop_eq_getElem_cons (by simpa using h1)]at h;have hop:=h.2;have e:ops.toList[j]'(by simpa using h1)=ops[j]:=by simp
    rw[e]at hop;simp only[Ba]at hop;refine NS hA hX ho (fun g' st' a' w' hR' hK'=>?_) (hN _ (Array.getElem_mem h1)) hop hR;refine ih (j+1) _ g' st' a' w' (by simp[hs]) (by omega) hc' (by omega) (by omega) (fun q hq hqF=>?_) hK' hR';rw[EH (by omega)];simp only[HJ];split
    ·rename_i e;subst e;simp
    ·rename_i e;rw[hd q hq hqF];congr 1;simp;omega
def SM{all all':Array Oper}{Al:List (Nat × List AV)}{K:St→Prop}:∀ (os:List Oper) (tb:List (List Nat × List Nat)) (i:Nat) (cr:List (Nat × List Nat × List Nat)) (st:St),(∀ o∈os,o.guard=none)→Fx X all Al os tb i cr K st→Fx X all' Al os tb i cr K st
 |[],_,_,_,_,_,h=>h
 |_::_,[],_,_,_,_,h=>h
 | o::os,(p,ts)::tb,i,cr,st,hg,h=>by
  simp only[Fx,hg o (by simp)]at h ⊢;exact h.mono fun e he=>⟨he.1,SM os tb (i+1) _ _ (fun o' ho'=>hg o' (by simp[ho'])) he.2⟩
def Y4(hA:A.ext=X.ext)(hX:∀ s∈X.ext,s%64=63)(hN:∀ o∈ops,IS N o=true)(hr:RS ops k tab F)(hv:Valid X (Ef ops k) tab st0 res k)(hdst:∀ j,j<k→(Eg (Ef ops k) j).isSome=true){Q:Exit→Act→World→Prop}{K:St→Prop}(hQ:∀ g st a w,R X.C A N g st a w→K st→Q .normal a w)
 {keep:List Nat} (hkeep:∀ t∈keep,t∉F.filterMap (Eg ops)) (htail:XU X ops F K (ops.toList.drop k) ⟨restr (canon (Ef ops k) res st0 k) keep,st0.Al⟩):∀ (fuel:Nat) (Af:Array Bool) (g:Gh) (a:Act) (w:World),Af.size=ops.size→unl Af≤fuel→Closed ops (dOf Af)→(∀ j,j<ops.size→dOf Af j=true→j<k) →
 R X.C A N g (stD (Ef ops k) res st0 (dOf Af) k) a w→wpAny X.C.P .any ops Q fuel Af a w:=by
 have hk:=hr.le;have hN':∀ o∈Ef ops k,∀ d,o.dst=some d→d<N:=fun o ho d hd=>by
  have:=hN o (by simp only[Ef,List.mem_toArray]at ho;simpa using List.mem_of_mem_take ho);simpa [IS,hd]using this
 have low:∀ (fuel:Nat) (Af:Array Bool) (g:Gh) (a:Act) (w:World),Af.size=ops.size→unl Af≤fuel→Closed ops (dOf Af)→(∀ j,j<ops.size→dOf Af j=true→j<k)→(∀ j,j<k→j∉F→dOf Af j=true)→R X.C A N g (stD (Ef ops k) res st0 (dOf Af) k) a w→wpAny X.C.P .any ops Q fuel Af a w:=by
  intro fuel Af g a w hs hu hc hlt hall hR;refine XV hA hX hN hr hQ fuel k Af g _ a w hs hu hc (Nat.le_refl _) hk (fun j hj hjF=>?_) htail (hR.le' (fun t x hx=>?_) fun s cs hs=>OW hv hs k (Nat.le_refl _))
  ·cases hd:dOf Af j with
   | true=>simp[hlt j hj hd]
   | false =>
    have:¬ j<k:=fun h=>by rw[hall j h hjF]at hd;cases hd
    simp[this]
  ·obtain⟨h1,h2⟩:=Ls hx
   replace h1:=hkeep _ h1
   simp only[stD,canon]at h2 ⊢;rw[← h2];refine Ra k fun j hj hdj=>?_
   refine hall j hj fun hjF=>h1 ?_
   rw[List.mem_filterMap];exact⟨j,hjF,by rw[← P5 hj];exact hdj⟩
 intro fuel
 induction fuel with
 | zero =>
  intro Af g a w hs hu hc hlt hR;exact low 0 Af g a w hs hu hc hlt (fun j hj _=>HF (by omega) (by omega)) hR
 | succ fuel ih =>
  intro Af g a w hs hu hc hlt hR
  by_cases hall:∀ j,j<k→j∉F→dOf Af j=true
  ·exact low _ Af g a w hs hu hc hlt hall hR
  ·have hc2:Closed (Ef ops k) (dOf Af):=fun i hi hD e he=>by
    have hik:i<k:=by have:(Ef ops k).size=k:=by simp[Ef];omega
                     omega
    rw[LM hik]at he;exact hc i (by omega) hD e he
   have step:∀ i∈Region.ready .any ops Af,wpOp X.C.P ops Q i (wpAny X.C.P .any ops Q fuel (Af.setIfInBounds i true)) a w:=fun i hi=>by
    obtain⟨h1,h2,h3⟩:=(BD hs).1 hi;have hp:=hr.closed hc i h1 h3;have hik:i<k:=by
     rcases Nat.lt_or_ge i k with h|h
     ·exact h
     ·exact(hall fun j hj hjF=>hp j ((hr.tail i h1 h j (by omega)).resolve_left hjF)).elim
    refine WL hr hik (Oz hA hX hN' hr.cut hv hdst hc2 hik h2 hp hR fun g' a' w' hR'=>?_);rw[← EH (by omega)]at hR';refine ih _ g' a' w' (by simp[hs]) (by have:=H7 (by omega:i<Af.size) h2;omega) (by rw[EH (by omega)];exact Kg hc h3) (fun j hj hD=>?_) hR';rw[EH (by omega)]at hD;simp only[HJ]at hD;split at hD
    ·rename_i e;omega
    ·exact hlt j hj hD
   refine⟨fun h0=>?_,step⟩;have hex:∃ j,j<k∧dOf Af j=false:=by
    apply Classical.byContradiction;intro hno;refine hall fun j hj _=>?_
    cases hd:dOf Af j with
    | true=>rfl
    | false=>exact(hno ⟨j,hj,hd⟩).elim
   obtain⟨j,hj,hd⟩:=hex;obtain⟨i,_,hi⟩:=LC hr hs j j (by omega) hd (Nat.le_refl _);rw[h0]at hi;cases hi
end
def QJ{X:Env}{ops:List Oper}{K:St→Prop}{st:St}(k:Nat)(tab:List (List Nat × List Nat))(F keep:List Nat)(hm:X.C.P.follows .mixedOrders=true)(hok:(XM ops.toArray k tab F&&keep.all fun t=>!(F.filterMap (Eg ops.toArray)).contains t)=true)
 (h:A6 X ops.toArray st.Al (ops.take k) tab 0 (fun stf=>XU X ops.toArray F K (ops.drop k) ⟨restr stf keep,st.Al⟩) [] st):Ju X ops.toArray K st:=by
 intro A N g a w hA hN hX hR id Q hQ;rw[Bool.and_eq_true]at hok;have hr:=XM.spec hok.1;have hkeep:∀ t∈keep,t∉F.filterMap (Eg ops.toArray):=fun t ht=>by
  have:=List.all_eq_true.1 hok.2 t ht;simpa using this
 have hk:=hr.le;have hsz:ops.toArray.size=ops.length:=by simp
 have hlen:(ops.take k).length=k:=by simp;omega
 have hN2:∀ o∈ops.toArray,IS N o=true:=fun o ho=>by
  unfold IS;cases hd:o.dst with
  |none=>rfl
  |some d=>simp;exact hN o ho d hd
 have hf:=SM (all':=Ef ops.toArray k) _ _ _ _ _ (fun o ho=>hr.guard o (by simpa using List.mem_of_mem_take ho)) (Hp _ _ _ _ _ h);obtain⟨res,hv,hK⟩:=Ll (X:=X) (st0:=st) (ops:=Ef ops.toArray k) (tab:=tab) (ops.take k) tab 0 [] (fun _=>⟨.undef,[],[],[]⟩) (fun j o hj=>by simpa [Ef]using hj) (fun j q hj=>by simpa using hj) ⟨fun i hi=>by omega,fun i hi=>by omega,fun i hi=>by omega,fun i hi=>by omega,fun i j _ hj=>by omega⟩ (fun i hi=>by omega) hf;rw[hlen,Nat.zero_add]at hv hK;have hdst:∀ j,j<k→(Eg (Ef ops.toArray k) j).isSome=true:=fun j hj=>by
  obtain⟨o,ho,hd,_⟩:=hv.op j hj;simpa [Eg,ho]using hd
 refine wp_region_any hm (Y4 hA hX hN2 hr hv hdst hQ hkeep (by simpa using hK) ops.toArray.size (Array.replicate ops.toArray.size false) g a _ (by simp) (by simp[unl]) ?_ ?_ ?_)
 ·intro i hi hD;have:i<ops.length:=by simpa using hi
  simp[dOf,Array.getD,this]at hD
 ·intro j hj hD;have:j<ops.length:=by simpa using hj
  simp[dOf,Array.getD,this]at hD
 ·have e:stD (Ef ops.toArray k) res st (dOf (Array.replicate ops.toArray.size false)) k=st:=by
   have hf:∀ j,j<k→dOf (Array.replicate ops.toArray.size false) j=false:=fun j hj=>by
    have:j<ops.length:=by omega
    simp[dOf,Array.getD,this]
   have h1:tmD (Eg (Ef ops.toArray k)) res (dOf (Array.replicate ops.toArray.size false)) st.tmps k=st.tmps:=by
    rw[N3 (i:=0) k (by omega) fun j _ hj=>hf j hj];rfl
   have h2:∀ n,n≤k→obD res (dOf (Array.replicate ops.toArray.size false)) st.Al n=st.Al:=fun n=>by
    induction n with
    | zero=>intro _;rfl
    | succ n ih=>intro hn;simp only[obD,hf n (by omega),Bool.false_eq_true,if_false];exact ih (by omega)
   simp only[stD,h1,h2 k (Nat.le_refl _)]
  rw[e];exact hR.drew
def bV(X:Env)(ops:Array Oper)(F:List Nat)(K:St→Prop)(st:St):XU X ops F K [] st=(neut X ops st F∧K st):=nd rfl
def ZO(X:Env)(ops:Array Oper)(F:List Nat)(K:St→Prop)(o:Oper)(os:List Oper)(st:St):XU X ops F K (o::os) st=(neut X ops st F∧Ba X ops [o] (XU X ops F K os) st):=nd rfl
def bu(X:Env)(ops:Array Oper)(st:St):neut X ops st []=True:=nd rfl
def Zv(X:Env)(ops:Array Oper)(st:St)(f:Nat)(F:List Nat):neut X ops st (f::F)=(Ba X ops (MZ ops f) (fun st'=>Jp st' st.tmps∧Gt st' st.Al) st∧neut X ops st F):=nd rfl
attribute [go_sem] bV ZO bu Zv
end Go.Abs
namespace Go.Abs
def Tp:List Nat→List (List Nat)
 |[]=>[[]]
 | f::F=>Tp F++(Tp F).map (f::·)
def Pv(p:Nat→Bool):∀ F:List Nat,F.filter p∈Tp F
 |[]=>by simp[Tp]
 | f::F=>by
  have ih:=Pv p F;simp only[List.filter_cons,Tp,List.mem_append,List.mem_map];split
  ·exact .inr ⟨_,ih,rfl⟩
  ·exact .inl ih
def au(k:Nat)(F G:List Nat):List Nat:=(List.range k).filter fun j=>!F.contains j||G.contains j
def Jb(o:Oper):Bool:=match o.op with
 |.move _=>true
 |.extract _ _=>true
 |.nilCheck _=>true
 |.fieldAddr _ _ _=>true
 |.load _ _=>true
 |_=>false
def YG(ops:Array Oper)(F:List Nat):Bool:=F.all fun f=>match ops[f]? with
 |some o=>Jb o
 |none=>false
def QW(X:Env)(Al:List (Nat × List AV)):List Oper→List (List Nat × List Nat)→Nat→List (Nat × List Nat × List Nat)→(St→Prop)→St→Prop
 |[],_,_,_,K,st=>K st
 |_::_,[],_,_,_,_=>False
 | o::os,(p,ts)::tab,i,cr,K,st=>Kj X o ⟨restr st ts,Al⟩ st p cr fun e=>(Jb o=true→e.Gk=[])∧o.dst.isSome=true∧QW X Al os tab (i+1) (HL i e cr) K ⟨(St.put o.dst e.x st).tmps,e.Gk++st.Al⟩
def bI(d:Option Nat)(x:AV)(st:St):(St.put d x st).Al=st.Al:=by cases d<;>rfl
def Xg{X:Env}{o:Oper}{Al:List (Nat × List AV)}{r st:St}{p:List Nat}{i:Nat}{cr:List (Nat × List Nat × List Nat)}{K:List (Nat × List Nat × List Nat)→St→Prop}(hs:Jb o=true)(h:HN X o Al r p i cr K st) :
 HN X o Al r p i cr (fun c s=>K c s∧s.Al.length=st.Al.length) st:=by
 have key:∀ v:Option AV,EV v p cr o.dst (K cr) st→EV v p cr o.dst ((fun c s=>K c s∧s.Al.length=st.Al.length) cr) st:=fun v hv=>by
  cases v with
  |none=>exact hv
  |some x=>exact⟨hv.1,hv.2,by rw[bI]⟩
 unfold Jb at hs;unfold HN at h ⊢;split at hs
 ·rename_i a ho;rw[ho]at h ⊢;exact key _ h
 ·rename_i a b ho;rw[ho]at h ⊢;exact key _ h
 ·rename_i a ho;rw[ho]at h ⊢;exact key _ h
 ·rename_i a b c ho;rw[ho]at h ⊢;exact key _ h
 ·rename_i a b ho;rw[ho]at h ⊢;exact key _ h
 ·cases hs
def T3{X:Env}{all:Array Oper}{Al:List (Nat × List AV)}{K:St→Prop}:∀ (os:List Oper) (tab:List (List Nat × List Nat)) (i:Nat) (cr:List (Nat × List Nat × List Nat)) (st:St),(∀ o∈os,o.guard=none)→A6 X all Al os tab i K cr st→QW X Al os tab i cr K st
 |[],_,_,_,_,_,h=>h
 |_::_,[],_,_,_,_,h=>h
 | o::os,(p,ts)::tab,i,cr,st,hg,h=>by
  simp only[A6,hg o (by simp)]at h;obtain⟨hd,h⟩:=h;simp only[QW];cases hs:Jb o
  ·exact(Ox rfl hd h).mono fun e he=>⟨(fun e=>by cases e),he.1,T3 os tab (i+1) _ _ (fun o' ho'=>hg o' (by simp[ho'])) he.2⟩
  ·refine(Ox rfl hd (Xg hs h)).mono fun e he=>⟨fun _=>?_,he.1,T3 os tab (i+1) _ _ (fun o' ho'=>hg o' (by simp[ho'])) he.2.1⟩
   have:=he.2.2;simp only[List.length_append]at this;exact List.eq_nil_of_length_eq_zero (by omega)
def closedIn(ops:Array Oper)(F G:List Nat):Bool:=G.all fun g=>(BA ops g).all fun e=>!F.contains e||G.contains e
def XJ(ops:Array Oper)(k:Nat)(F:List Nat)(ss:List (List Nat × List Nat × OT)):Bool :=
 LP ops&&YG ops F&&(Tp F).all fun G=>!closedIn ops F G||ss.any fun s=>s.1==G&&okT ops (au k F G) s.2.2&&s.2.1.all fun t=>!((F.filter fun f=>!G.contains f).filterMap (Eg ops)).contains t
def wpS(X:Env)(ops:Array Oper)(K:St→Prop):List (List Nat × List Nat × OT)→St→Prop
 |[],_=>True
 |(_,keep,t)::ss,st=>wpT X ops K t ⟨restr st keep,st.Al⟩∧wpS X ops K ss st
def YA{X:Env}{ops:Array Oper}{K:St→Prop}{st:St}{s:List Nat × List Nat × OT}:∀ {ss:List (List Nat × List Nat × OT)},wpS X ops K ss st→s∈ss→wpT X ops K s.2.2 ⟨restr st s.2.1,st.Al⟩
 |(G,keep,t)::ss,h,hm=>by
  simp only[wpS]at h;rcases List.mem_cons.1 hm with rfl|hm
  ·exact h.1
  ·exact YA h.2 hm
section
variable {X:Env} {A:A0} {N:Nat} {g:Gh} {st0:St} {a:Act} {w:World} {ops:Array Oper} {k:Nat} {tab:List (List Nat × List Nat)} {res:Nat→Res} {D:Nat→Bool} {F:List Nat}
def V2{base:List (Nat × List AV)}:∀ n,(∀ j,j<n→D j=true∨(res j).Gk=[])→obD res D base n=obD res (fun _=>true) base n
 | 0,_=>rfl
 | n+1,h=>by
  have ih:=V2 (base:=base) n fun j hj=>h j (by omega)
  simp only[obD,ih,if_true];rcases h n (by omega) with h1|h1
  ·rw[h1];rfl
  ·rw[h1];split<;>rfl
def Py{K:St→Prop}:∀ (os:List Oper) (tb:List (List Nat × List Nat)) (n:Nat) (cr:List (Nat × List Nat × List Nat)) (res:Nat→Res),(∀ j o,os[j]?=some o→ops[n+j]?=some o)→(∀ j q,tb[j]?=some q→tab[n+j]?=some q)→(∀ o∈os,o.guard=none) →
 Valid X ops tab st0 res n→UE res n cr→(∀ j o,j<n→ops[j]?=some o→Jb o=true→(res j).Gk=[])→QW X st0.Al os tb n cr K (canon ops res st0 n) →
 ∃ res',Valid X ops tab st0 res' (n+os.length)∧(∀ j o,j<n+os.length→ops[j]?=some o→Jb o=true→(res' j).Gk=[])∧K (canon ops res' st0 (n+os.length))
 |[],tb,n,cr,res,_,_,_,hv,_,hs,h=>⟨res,hv,hs,by simp only[QW]at h;simpa using h⟩
 |_::_,[],_,_,_,_,_,_,_,_,_,h=>by simp[QW]at h
 | o::os,(p,ts)::tb,n,cr,res,ho,ht,hg,hv,hc,hs,h=>by
  have ho0:ops[n]?=some o:=ho 0 o rfl;have ht0:tab[n]?=some (p,ts):=ht 0 (p,ts) rfl;have hp:DD tab n=p:=by simp[DD,List.getD,ht0]
  have hr:HV tab n=ts:=by simp[HV,List.getD,ht0]
  have hos:∀ j o',os[j]?=some o'→ops[n+1+j]?=some o':=fun j o' hj=>by
   have:=ho (j+1) o' (by simpa using hj)
   rwa [show n+(j+1)=n+1+j by omega]at this
  have htb:∀ j q,tb[j]?=some q→tab[n+1+j]?=some q:=fun j q hj=>by
   have:=ht (j+1) q (by simpa using hj)
   rwa [show n+(j+1)=n+1+j by omega]at this
  have hlen:n+(o::os).length=n+1+os.length:=by simp;omega
  rw[hlen];simp only[QW]at h;obtain⟨e,h1,h2,h3,h4,h5,h6,hu,hd,hf⟩:=h;refine Py os tb (n+1) _ _ hos htb (fun o' ho'=>hg o' (by simp[ho'])) (hv.snoc e ho0 hd (.inl ⟨.inl (hg o (by simp)),by rw[hr];exact h1⟩) h2 h3 ⟨h4,h5⟩ (by rw[hp];exact hc.away h6)) (hc.snoc e) (fun j o' hj hjo hjs=>?_) (by rw[Qx ho0 hd];exact hf);unfold Fi;split
  ·rename_i hjn;subst hjn;rw[ho0]at hjo;have:=Option.some.inj hjo;subst this;exact hu hjs
  ·exact hs j o' (by omega) hjo hjs
def Y5(hA:A.ext=X.ext)(hX:∀ s∈X.ext,s%64=63)(hN:YD N ops)(hr:RS ops k tab F)(hv:Valid X (Ef ops k) tab st0 res k)(hdst:∀ j,j<k→(Eg (Ef ops k) j).isSome=true){Q:Exit→Act→World→Prop}{K:St→Prop}(hQ:∀ g st a w,R X.C A N g st a w→K st→Q .normal a w)
 {ss:List (List Nat × List Nat × OT)} (hok:XJ ops k F ss=true) (hupd:∀ j o,j<k→(Ef ops k)[j]?=some o→Jb o=true→(res j).Gk=[]) (htail:wpS X ops K ss (canon (Ef ops k) res st0 k)):∀ (fuel:Nat) (Af:Array Bool) (g:Gh) (a:Act) (w:World),Af.size=ops.size→unl Af≤fuel→Closed ops (dOf Af)→(∀ j,j<ops.size→dOf Af j=true→j<k) →
 R X.C A N g (stD (Ef ops k) res st0 (dOf Af) k) a w→wpAny X.C.P .any ops Q fuel Af a w:=by
 have hk:=hr.le;have hN':∀ o∈Ef ops k,∀ d,o.dst=some d→d<N:=fun o ho d hd=>by
  have:=hN.1 o (by simp only[Ef,List.mem_toArray]at ho;simpa using List.mem_of_mem_take ho);simpa [IS,hd]using this
 have low:∀ (fuel:Nat) (Af:Array Bool) (g:Gh) (a:Act) (w:World),Af.size=ops.size→unl Af≤fuel→Closed ops (dOf Af)→(∀ j,j<ops.size→dOf Af j=true→j<k)→(∀ j,j<k→j∉F→dOf Af j=true)→R X.C A N g (stD (Ef ops k) res st0 (dOf Af) k) a w→wpAny X.C.P .any ops Q fuel Af a w:=by
  intro fuel Af g a w hs hu hc hlt hall hR;simp only[XJ,Bool.and_eq_true,List.all_eq_true]at hok;have h1:=hok.2 (F.filter (dOf Af)) (Pv _ F);have hcl:closedIn ops F (F.filter (dOf Af))=true:=by
   unfold closedIn;rw[List.all_eq_true];intro g hg;rw[List.all_eq_true];intro e he;rw[List.mem_filter]at hg
   by_cases hF:e∈F
   ·have h5:=hc g (by have:=hr.small g hg.1;omega) hg.2 e he;simp[hF,h5]
   ·simp[hF]
  rw[hcl,zT,Bool.false_or]at h1;simp only[List.any_eq_true,Bool.and_eq_true,List.all_eq_true,beq_iff_eq,Bool.not_eq_true']at h1;obtain⟨s,hsm,⟨hs1,hs2⟩,hs3⟩:=h1;have hw:=YA htail hsm;have hobj:(canon (Ef ops k) res st0 k).Al=(stD (Ef ops k) res st0 (dOf Af) k).Al:=by
   refine(V2 k fun j hj=>?_).symm
   by_cases hjF:j∈F
   ·right;have hm:=List.all_eq_true.1 hok.1.2 j hjF;cases ho:ops[j]? with
    |none=>rw[ho]at hm;cases hm
    |some o=>rw[ho]at hm;exact hupd j o hj (by rw[P6 hj];exact ho) hm
   ·exact .inl (hall j hj hjF)
  refine MA hA hX hN hQ s.2.2 fuel (au k F (F.filter (dOf Af))) Af g _ a w hs hu (fun j hj=>?_) hs2 hw (hR.le' (fun t x hx=>?_) fun s cs hs=>hobj▸hs)
  ·rw[Bool.eq_iff_iff];simp only[au,List.contains_iff_mem,List.mem_filter,List.mem_range,Bool.or_eq_true,Bool.not_eq_true',← Bool.not_eq_true];constructor
   ·intro hd;refine⟨hlt j hj hd,?_⟩
    by_cases hjF:j∈F
    ·exact .inr ⟨hjF,hd⟩
    ·exact .inl hjF
   ·rintro⟨h1,h2|h2⟩
    ·exact hall j h1 h2
    ·exact h2.2
  ·obtain⟨h1,h2⟩:=Ls hx;have h3:=hs3 t h1;simp only[stD,canon]at h2 ⊢;rw[← h2];refine Ra k fun j hj hdj=>?_
   cases hd:dOf Af j with
   | true=>rfl
   | false =>
    exfalso;have hjF:j∈F:=by
     apply Classical.byContradiction;intro hjF;rw[hall j hj hjF]at hd;cases hd
    have hm:t∈(F.filter fun f=>!(F.filter (dOf Af)).contains f).filterMap (Eg ops):=by
     rw[List.mem_filterMap];refine⟨j,?_,by rw[← P5 hj];exact hdj⟩;rw[List.mem_filter];refine⟨hjF,?_⟩;simp[hd]
    have h4:((F.filter fun f=>!(F.filter (dOf Af)).contains f).filterMap (Eg ops)).contains t=true:=by simpa using hm
    rw[h4]at h3;cases h3
 intro fuel
 induction fuel with
 | zero =>
  intro Af g a w hs hu hc hlt hR;exact low 0 Af g a w hs hu hc hlt (fun j hj _=>HF (by omega) (by omega)) hR
 | succ fuel ih =>
  intro Af g a w hs hu hc hlt hR
  by_cases hall:∀ j,j<k→j∉F→dOf Af j=true
  ·exact low _ Af g a w hs hu hc hlt hall hR
  ·have hc2:Closed (Ef ops k) (dOf Af):=fun i hi hD e he=>by
    have hik:i<k:=by have:(Ef ops k).size=k:=by simp[Ef];omega
                     omega
    rw[LM hik]at he;exact hc i (by omega) hD e he
   have step:∀ i∈Region.ready .any ops Af,wpOp X.C.P ops Q i (wpAny X.C.P .any ops Q fuel (Af.setIfInBounds i true)) a w:=fun i hi=>by
    obtain⟨h1,h2,h3⟩:=(BD hs).1 hi;have hp:=hr.closed hc i h1 h3;have hik:i<k:=by
     rcases Nat.lt_or_ge i k with h|h
     ·exact h
     ·exact(hall fun j hj hjF=>hp j ((hr.tail i h1 h j (by omega)).resolve_left hjF)).elim
    refine WL hr hik (Oz hA hX hN' hr.cut hv hdst hc2 hik h2 hp hR fun g' a' w' hR'=>?_);rw[← EH (by omega)]at hR';refine ih _ g' a' w' (by simp[hs]) (by have:=H7 (by omega:i<Af.size) h2;omega) (by rw[EH (by omega)];exact Kg hc h3) (fun j hj hD=>?_) hR';rw[EH (by omega)]at hD;simp only[HJ]at hD;split at hD
    ·rename_i e;omega
    ·exact hlt j hj hD
   refine⟨fun h0=>?_,step⟩;have hex:∃ j,j<k∧dOf Af j=false:=by
    apply Classical.byContradiction;intro hno;refine hall fun j hj _=>?_
    cases hd:dOf Af j with
    | true=>rfl
    | false=>exact(hno ⟨j,hj,hd⟩).elim
   obtain⟨j,hj,hd⟩:=hex;obtain⟨i,_,hi⟩:=LC hr hs j j (by omega) hd (Nat.le_refl _);rw[h0]at hi;cases hi
end
def Jv{X:Env}{ops:List Oper}{K:St→Prop}{st:St}(k:Nat)(tab:List (List Nat × List Nat))(F:List Nat)(ss:List (List Nat × List Nat × OT))(hm:X.C.P.follows .mixedOrders=true)(hok:(XM ops.toArray k tab F&&XJ ops.toArray k F ss)=true)
 (h:A6 X ops.toArray st.Al (ops.take k) tab 0 (wpS X ops.toArray K ss) [] st):Ju X ops.toArray K st:=by
 intro A N g a w hA hN hX hR id Q hQ;rw[Bool.and_eq_true]at hok;have hr:=XM.spec hok.1;have hk:=hr.le;have hsz:ops.toArray.size=ops.length:=by simp
 have hlen:(ops.take k).length=k:=by simp;omega
 have hN2:YD N ops.toArray:=by
  refine⟨fun o ho=>?_,fun i hi e he=>?_⟩
  ·unfold IS;cases hd:o.dst with
   |none=>rfl
   |some d=>simp;exact hN o ho d hd
  ·have:=hr.edge i hi e he;omega
 have hf:=T3 _ _ _ _ _ (fun o ho=>hr.guard o (by simpa using List.mem_of_mem_take ho)) h;obtain⟨res,hv,hup,hK⟩:=Py (X:=X) (st0:=st) (ops:=Ef ops.toArray k) (tab:=tab) (ops.take k) tab 0 [] (fun _=>⟨.undef,[],[],[]⟩) (fun j o hj=>by simpa [Ef]using hj) (fun j q hj=>by simpa using hj) (fun o ho=>hr.guard o (by simpa using List.mem_of_mem_take ho)) ⟨fun i hi=>by omega,fun i hi=>by omega,fun i hi=>by omega,fun i hi=>by omega,fun i j _ hj=>by omega⟩ (fun i hi=>by omega) (fun j o hj=>by omega) hf;rw[hlen,Nat.zero_add]at hup;rw[hlen,Nat.zero_add]at hv hK;have hdst:∀ j,j<k→(Eg (Ef ops.toArray k) j).isSome=true:=fun j hj=>by
  obtain⟨o,ho,hd,_⟩:=hv.op j hj;simpa [Eg,ho]using hd
 refine wp_region_any hm (Y5 hA hX hN2 hr hv hdst hQ hok.2 hup hK ops.toArray.size (Array.replicate ops.toArray.size false) g a _ (by simp) (by simp[unl]) ?_ ?_ ?_)
 ·intro i hi hD;have:i<ops.length:=by simpa using hi
  simp[dOf,Array.getD,this]at hD
 ·intro j hj hD;have:j<ops.length:=by simpa using hj
  simp[dOf,Array.getD,this]at hD
 ·have e:stD (Ef ops.toArray k) res st (dOf (Array.replicate ops.toArray.size false)) k=st:=by
   have hf:∀ j,j<k→dOf (Array.replicate ops.toArray.size false) j=false:=fun j hj=>by
    have:j<ops.length:=by omega
    simp[dOf,Array.getD,this]
   have h1:tmD (Eg (Ef ops.toArray k)) res (dOf (Array.replicate ops.toArray.size false)) st.tmps k=st.tmps:=by
    rw[N3 (i:=0) k (by omega) fun j _ hj=>hf j hj];rfl
   have h2:∀ n,n≤k→obD res (dOf (Array.replicate ops.toArray.size false)) st.Al n=st.Al:=fun n=>by
    induction n with
    | zero=>intro _;rfl
    | succ n ih=>intro hn;simp only[obD,hf n (by omega),Bool.false_eq_true,if_false];exact ih (by omega)
   simp only[stD,h1,h2 k (Nat.le_refl _)]
  rw[e];exact hR.drew
def dS(X:Env)(ops:Array Oper)(K:St→Prop)(st:St):wpS X ops K [] st=True:=nd rfl
def cl(X:Env)(ops:Array Oper)(K:St→Prop)(G keep:List Nat)(t:OT)(ss:List (List Nat × List Nat × OT))(st:St):wpS X ops K ((G,keep,t)::ss) st=(wpT X ops K t ⟨restr st keep,st.Al⟩∧wpS X ops K ss st):=nd rfl
attribute [go_sem] dS cl
end Go.Abs
open Go Go.Abs Go.Proofs
set_option maxRecDepth 100000
namespace Go.Rd
set_option maxHeartbeats 8000000
open Tryz
@[reducible] def R5:AV:=.v (.slice none 0 0)
def bY(q:Queue):Bool:=decide (q.holds.length≤12)&&decide (q.Ao.length≤12)&&decide (q.waits.length≤12)
def bZ(s:WS):Bool:=decide (s.Aa.length≤12)&&decide (s.AE.length≤12)&&s.Aa.all bY
def ZQ{s:WS}(h:bZ s=true):Few s:=by
 simp only[bZ,bY,Bool.and_eq_true,zD,List.all_eq_true]at h;refine⟨by omega,by omega,fun q hq=>?_⟩;have:=h.2 q hq;unfold BG BK;omega
def PY(n m:Int):Int:=if m<1 then 0 else if n.tmod m<0 then n.tmod m+m else n.tmod m
def fE(n:Int):0≤PY n 8∧PY n 8<8:=by
 have h1:=Int.tmod_lt_of_pos n (show (0:Int)<8 by decide);have h2:-8<n.tmod 8:=by
  rw[Int.tmod_eq_emod];split<;>omega
 unfold PY;rw[if_neg (by decide)];split<;>omega
def ir(n:Int):Ad C0 51 [I n,I 8] [] (I (PY n 8)) []:=by
 have z:((8:Int)=0)=False:=by simp
 have z2:((8:Int)<1)=False:=by simp
 have h1:=Int.tmod_lt_of_pos n (show (0:Int)<8 by decide);have h2:-8<n.tmod 8:=by
  rw[Int.tmod_eq_emod];split<;>omega
 refine Ad.go f51 ?_;unfold f51
 by_cases h:n.tmod 8<0
 ·have e:PY n 8=n.tmod 8+8:=by simp[PY,h]
  have z3:(n.tmod 8<0)=True:=eq_true h;simp(disch:=omega)only[go_sem,z,z2,if_false,decide_false,z3,e];exact AQ _
 ·have e:PY n 8=n.tmod 8:=by simp[PY,h]
  have z3:(n.tmod 8<0)=False:=eq_false h;simp(disch:=omega)only[go_sem,z,z2,if_false,decide_false,z3,e];exact AQ _
def GD(n:Int):Ab:=⟨(PY n 8).tmod 4,1,1+(PY n 8).tdiv 4⟩
def f22_ok(n:Int):Ad C0 22 [I n] [] (.agg (GD n).c) []:=by
 have z:((4:Int)=0)=False:=by simp
 have hm:=fE n;have hd:0≤(PY n 8).tdiv 4∧(PY n 8).tdiv 4≤2:=by
  rw[Int.tdiv_eq_ediv_of_nonneg hm.1];omega
 refine Ad.go f22 ?_;unfold f22;refine gO ?_;refine Ae (ir n) ?_;simp(disch:=omega)only[go_sem,z,if_false];refine As _ ?_;simp(disch:=omega)only[go_sem,GD]
def wA:Amt:=⟨5,0⟩
def NL(name:Bs)(p q:Ab):Queue:=⟨⟨name,1,1,0⟩,[⟨p,wA⟩],[],[⟨q,wA,0,0⟩],0⟩
def Rl(p:Ab)(name:Bs):Need:=⟨p,.mk 0 ⟨name,wA⟩ [],0⟩
def DO:WS:=⟨[NL [97] (GD 0) (GD 1),NL [98] (GD 1) (GD 0)],[Rl (GD 0) [98],Rl (GD 1) [97]]⟩
def cw:Few wsE:=⟨by simp[wsE],by simp[wsE],by simp[wsE]⟩
def H0{s:WS}(h:Few s)(l:List Ab):Few (A4 s l).1:=by
 unfold A4;split
 ·exact T0 h l
 ·exact cw
end Go.Rd
