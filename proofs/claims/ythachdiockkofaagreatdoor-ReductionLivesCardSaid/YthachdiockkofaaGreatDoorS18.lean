/- part 18 of the proof -/
import Derived.Test.YthachdiockkofaaGreatDoorS17
set_option linter.all false
open Go Go.Abs Go.Proofs
set_option maxRecDepth 100000
namespace Go.Rd
set_option maxHeartbeats 8000000
open Bool (and_eq_true)
theorem Kc:∀ x y z:Bs,Op.bytesLess x y=true→Op.bytesLess y z=true→Op.bytesLess x z=true
 |_,_,[],_,h=>by cases ‹Bs›<;>simp[Op.bytesLess]at h
 |[],_,_::_,_,_=>rfl
 | a::x,[],c::z,h,_=>by simp[Op.bytesLess]at h
 | a::x,b::y,c::z,h1,h2=>by
  simp only[Op.bytesLess,Bool.or_eq_true,and_eq_true,decide_eq_true_eq,beq_iff_eq]at h1 h2 ⊢;rcases h1 with h1|⟨rfl,h1⟩
  ·rcases h2 with h2|⟨rfl,h2⟩
   ·exact .inl (UInt8.lt_trans h1 h2)
   ·exact .inl h1
  ·rcases h2 with h2|⟨rfl,h2⟩
   ·exact .inl h2
   ·exact .inr ⟨rfl,Kc x y z h1 h2⟩
theorem JY{α:Type}{r:α→α→Prop}(ht:∀ a b c,r a b→r b c→r a c):∀ (l:List α),(∀ i a b,l[i]?=some a→l[i+1]?=some b→r a b)→l.Pairwise r
 |[],_=>.nil
 | a::l,h=>by
  have ih:=JY ht l fun i x y hx hy=>h (i+1) x y (by simpa using hx) (by simpa using hy)
  refine List.pairwise_cons.2 ⟨?_,ih⟩;cases l with
  | nil=>simp
  | cons b l =>
   have hab:=h 0 a b rfl rfl;intro c hc;rcases List.mem_cons.1 hc with rfl|hc
   ·exact hab
   ·exact ht a b c hab ((List.pairwise_cons.1 ih).1 c hc)
theorem No{α:Type}{r:α→α→Prop}{l:List α}(h:l.Pairwise r){i:Nat}{a b:α}(ha:l[i]?=some a)(hb:l[i+1]?=some b):r a b:=by
 have h1:=Ae ha;have h2:=Ae hb;have:=List.pairwise_iff_getElem.1 h i (i+1) h1 h2 (by omega)
 rwa [get_eq ha,get_eq hb]at this
theorem Ng(l:List Queue):Cd l=true↔l.length≤8∧(∀ q∈l,valid q=true)∧l.Pairwise fun a b=>BF a.res.name b.res.name=true:=by
 unfold Cd;rw[and_eq_true,decide_eq_true_eq,Cx];refine and_congr Iff.rfl ⟨fun h=>⟨fun q hq=>?_,JY (r:=fun a b:Queue=>BF a.res.name b.res.name=true) (fun a b c=>Kc _ _ _) l fun i a b ha hb=>?_⟩,fun⟨h1,h2⟩ i b hb=>?_⟩
 ·obtain⟨i,hi⟩:=List.mem_iff_getElem?.1 hq;have:=h i q hi;simp only[BN,and_eq_true]at this;exact this.1
 ·have:=h (i+1) b hb;simp only[BN,and_eq_true]at this;have h2:=this.2;simpa [List.getD,ha]using h2
 ·simp only[BN,and_eq_true];refine⟨h1 b (mG hb),?_⟩;cases i with
  | zero=>simp
  | succ i =>
   obtain⟨a,ha⟩:∃ a,l[i]?=some a:=⟨_,gE (by have:=Ae hb;omega)⟩;have:=No h2 ha hb;simpa [List.getD,ha]using this
theorem KT(l:List Need):IB l=true↔l.length≤8∧(∀ n∈l,n.proc.ok=true∧0≤n.gen∧n.gen≤1073741824∧A5 n.expr=true)∧l.Pairwise fun a b=>AT a.proc b.proc<0:=by
 unfold IB;rw[and_eq_true,decide_eq_true_eq,Cx];refine and_congr Iff.rfl ⟨fun h=>⟨fun q hq=>?_,JY (r:=fun a b:Need=>AT a.proc b.proc<0) (fun a b c=>Cz) l fun i a b ha hb=>?_⟩,fun⟨h1,h2⟩ i b hb=>?_⟩
 ·obtain⟨i,hi⟩:=List.mem_iff_getElem?.1 hq;have:=h i q hi;simp only[Ed,and_eq_true,decide_eq_true_eq]at this;exact⟨this.1.1.1.1,this.1.1.1.2,this.1.1.2,this.1.2⟩
 ·have:=h (i+1) b hb;simp only[Ed,and_eq_true]at this;have h2:=this.2;simpa [List.getD,ha]using h2
 ·have h3:=h1 b (mG hb);simp only[Ed,and_eq_true,decide_eq_true_eq];refine⟨⟨⟨⟨h3.1,h3.2.1⟩,h3.2.2.1⟩,h3.2.2.2⟩,?_⟩;cases i with
  | zero=>simp
  | succ i =>
   obtain⟨a,ha⟩:∃ a,l[i]?=some a:=⟨_,gE (by have:=Ae hb;omega)⟩;have:=No h2 ha hb;simpa [List.getD,ha]using this
theorem J8(s:WS):CB s=true↔Cd s.queues=true∧IB s.needs=true∧(Am s).length≤8:=by
 simp only[CB,and_eq_true,decide_eq_true_eq,and_assoc]
theorem WB{s:WS}(h:CB s=true)(p:Proc):CB (BX s p)=true:=by
 have hg:=CM h;obtain⟨h1,h2,h3⟩:=(J8 s).1 h;obtain⟨a1,a2,a3⟩:=(Ng _).1 h1;obtain⟨b1,b2,b3⟩:=(KT _).1 h2;refine(J8 _).2 ⟨(Ng _).2 ⟨?_,?_,?_⟩,(KT _).2 ⟨?_,?_,?_⟩,?_⟩
 ·simpa [BX]using a1
 ·exact CW hg p
 ·simp only[BX,List.pairwise_map,Oe];exact a3
 ·exact Nat.le_trans (List.length_filter_le _ _) b1
 ·exact fun n hn=>b2 n (List.mem_filter.1 hn).1
 ·exact b3.filter _
 ·rw[Lx hg];exact Nat.le_trans (List.length_filter_le _ _) h3
end Go.Rd
namespace Go.Abs
def Vv(x y:AV):Prop:=x=y∨(x=.v (.slice none 0 0)∧∃ n,y=.sl .no (n+1) [])
def Jx:List AV→List AV→Prop
 |[],[]=>True
 | x::xs,y::ys=>Vv x y∧Jx xs ys
 |_,_=>False
def Gs:List (List AV)→List (List AV)→Prop
 |[],[]=>True
 | x::xs,y::ys=>Jx x y∧Gs xs ys
 |_,_=>False
theorem Jx.len:∀ {xs ys:List AV},Jx xs ys→xs.length=ys.length
 |[],[],_=>rfl
 |_::_,_::_,h=>by simp[Jx.len h.2]
 |[],_::_,h=>h.elim
 |_::_,[],h=>h.elim
theorem Gs.len:∀ {xs ys:List (List AV)},Gs xs ys→xs.length=ys.length
 |[],[],_=>rfl
 |_::_,_::_,h=>by simp[Gs.len h.2]
 |[],_::_,h=>h.elim
 |_::_,[],h=>h.elim
theorem Jx.refl:∀ xs:List AV,Jx xs xs
 |[]=>trivial
 |_::xs=>⟨.inl rfl,Jx.refl xs⟩
theorem Gs.refl:∀ xs:List (List AV),Gs xs xs
 |[]=>trivial
 | x::xs=>⟨Jx.refl x,Gs.refl xs⟩
theorem Gs.set{L L':List AV}(h:Jx L L'):∀ (xs:List (List AV)) (i:Nat),Gs (xs.set i L) (xs.set i L')
 |[],_=>trivial
 |_::xs,0=>⟨h,Gs.refl xs⟩
 | x::xs,i+1=>⟨Jx.refl x,Gs.set h xs i⟩
theorem Gs.append{a b:List (List AV)}(c:List (List AV))(h:Gs a b):Gs (c++a) (c++b):=by
 induction c with
 | nil=>exact h
 | cons x c ih=>exact⟨Jx.refl x,ih⟩
section
variable {ro:Nat→Prop} {w:World}
theorem Vv.PR{x y:AV}{u:Value}(h:Vv x y)(hu:PR ro w x u):PR ro w y u:=by
 rcases h with rfl|⟨rfl,n,rfl⟩
 ·exact hu
 ·simp only[Abs.PR]at hu ⊢;obtain⟨rfl,_⟩:=hu;exact⟨(fun _ _ h=>by cases h),none,0,rfl,Nat.le_refl _,by simp[maxLen],(fun h=>by cases h),by omega,.inl trivial⟩
theorem Jx.PRc:∀ {xs ys:List AV} {ad:Addr} {j:Nat},Jx xs ys→PRc ro w xs ad j→PRc ro w ys ad j
 |[],[],_,_,_,_=>trivial
 |_::_,_::_,_,_,h,⟨⟨u,h1,h2⟩,h3⟩=>⟨⟨u,h1,h.1.PR h2⟩,Jx.PRc h.2 h3⟩
 |[],_::_,_,_,h,_=>h.elim
 |_::_,[],_,_,h,_=>h.elim
theorem Gs.PRe:∀ {xs ys:List (List AV)} {ad:Addr} {n i:Nat},Gs xs ys→PRe ro w xs ad n i→PRe ro w ys ad n i
 |[],[],_,_,_,_,_=>trivial
 |_::_,_::_,_,_,_,h,⟨h1,h2,h3⟩=>⟨h.1.len▸h1,h.1.PRc h2,Gs.PRe h.2 h3⟩
 |[],_::_,_,_,_,h,_=>h.elim
 |_::_,[],_,_,_,h,_=>h.elim
end
theorem Gs.nil{a b:List (List AV)}(h:Gs a b)(ha:a=[]):b=[]:=by
 subst ha;cases b with
 | nil=>rfl
 | cons=>exact h.elim
theorem BC.bf{t:Tag}{n:Nat}{a b:List (List AV)}(h:Gs a b):BC (.sl t n a) (.sl t n b):=fun g w u hu=>by
 have hl:=h.len
 match t with
 |.own r lo =>
  simp only[VR,Ci]at hu ⊢;refine⟨hu.1,?_⟩;rcases hu.2 with ⟨h1,h2⟩|⟨h0,h2,h3⟩|⟨cap,cur,T,h1,h2,h3,h5,h6,h7,h8⟩
  ·exact .inl ⟨h1,h.nil h2⟩
  ·exact .inr (.inl ⟨h0,h.nil h2,h3⟩)
  ·exact .inr (.inr ⟨cap,cur,T,hl▸h1,hl▸h2,h3,h5,h6,h7,h.PRe h8⟩)
 |.no =>
  simp only[VR,PR]at hu ⊢;obtain⟨h0,c,cap,h1,h2,h3,h4,h5,h6⟩:=hu;exact⟨h0,c,cap,hl▸h1,hl▸h2,h3,hl▸h4,h5,h6.imp (fun e=>h.nil e) fun⟨ad,k1,k2,k3⟩=>⟨ad,k1,k2,h.PRe k3⟩⟩
 |.full =>
  simp only[VR,PR]at hu ⊢;obtain⟨h0,c,cap,h1,h2,h3,h4,h5,h6⟩:=hu;exact⟨h0,c,cap,hl▸h1,hl▸h2,h3,hl▸h4,h5,h6.imp (fun e=>h.nil e) fun⟨ad,k1,k2,k3⟩=>⟨ad,k1,k2,h.PRe k3⟩⟩
end Go.Abs
namespace Go.Abs
def neut(X:Env)(ops:Array Oper)(st:St):List Nat→Prop
 |[]=>True
 | f::F=>AW X ops (Mp ops f) (fun st'=>IY st' st.tmps∧F1 st' st.objs) st∧neut X ops st F
def Wv(X:Env)(ops:Array Oper)(F:List Nat)(K:St→Prop):List Oper→St→Prop
 |[],st=>neut X ops st F∧K st
 | o::os,st=>neut X ops st F∧AW X ops [o] (Wv X ops F K os) st
def DN(ops:Array Oper)(k:Nat):Array Oper:=(ops.toList.take k).toArray
def Wn(ops:Array Oper)(k:Nat)(tab:List (List Nat × List Nat))(F:List Nat):Bool :=
 decide (k≤ops.size)&&(List.range ops.size).all (fun i=>(Bd ops i).all (fun e=>decide (e<i)) &&
  (Dc tab i).all (fun p=>(Bd ops i).any fun e=>p==e||(Dc tab e).contains p) &&
  (decide (i<k)||(List.range i).all fun j=>F.contains j||(Dc tab i).contains j)) &&
 ((List.range k).all fun i=>(List.range i).all fun j=>(Dc tab i).contains j||!(clash ops tab i j))&&F.all (fun f=>decide (f<k))&&ops.toList.all fun o=>o.guard.isNone
section
variable {X:Env} {A:A0} {N:Nat} {g:Gh} {st0:St} {a:Act} {w:World} {ops:Array Oper} {k:Nat} {tab:List (List Nat × List Nat)} {res:Nat→Res} {D:Nat→Bool} {F:List Nat}
theorem Pf{i:Nat}(h:i<k):(DN ops k)[i]?=ops[i]?:=by
 simp[DN,List.getElem?_take,h]
theorem Lg{i:Nat}(h:i<k):Bd (DN ops k) i=Bd ops i:=by unfold Bd;rw[Pf h]
theorem Pe{i:Nat}(h:i<k):DO (DN ops k) i=DO ops i:=by unfold DO;rw[Pf h]
structure QV(ops:Array Oper)(k:Nat)(tab:List (List Nat × List Nat))(F:List Nat):Prop where
 le:k≤ops.size
 edge:∀ i,i<ops.size→∀ e∈Bd ops i,e<i
 pred:∀ i,i<ops.size→∀ p∈Dc tab i,∃ e∈Bd ops i,p=e∨p∈Dc tab e
 tail:∀ i,i<ops.size→k≤i→∀ j,j<i→j∈F∨j∈Dc tab i
 apart:∀ i j,i<k→j<i→j∈Dc tab i∨clash ops tab i j=false
 small:∀ f∈F,f<k
 guard:∀ o∈ops,o.guard=none
theorem Wn.spec(h:Wn ops k tab F=true):QV ops k tab F:=by
 simp only[Wn,Bool.and_eq_true,decide_eq_true_eq,List.all_eq_true,List.mem_range,Bool.or_eq_true,List.any_eq_true,List.contains_iff_mem,beq_iff_eq,Bool.not_eq_true',Option.isNone_iff_eq_none]at h;obtain⟨⟨⟨⟨h1,h2⟩,h3⟩,h4⟩,h5⟩:=h;exact⟨h1,fun i hi=>(h2 i hi).1.1,fun i hi=>(h2 i hi).1.2,fun i hi hk j hj=>((h2 i hi).2.resolve_left (by omega)) j hj,fun i j hi hj=>h3 i hi j hj,h4,fun o ho=>h5 o (by simpa using ho)⟩
theorem QV.cut(h:QV ops k tab F):IW (DN ops k) k tab:=by
 have hs:(DN ops k).size=k:=by have:=h.le;simp[DN];omega
 have hk:=h.le;refine⟨by omega,fun i hi=>?_,fun i hi=>?_,fun i hi hk'=>by omega,fun i j hi hj=>?_⟩
 ·rw[Lg (by omega)];exact h.edge i (by omega)
 ·rw[Lg (by omega)];exact h.pred i (by omega)
 ·have:=h.apart i j hi hj;unfold clash at this ⊢;rw[Pe hi,Pe (by omega)];exact this
theorem QV.closed(h:QV ops k tab F)(hc:Closed ops D):∀ i,i<ops.size→(∀ e∈Bd ops i,D e=true)→∀ p∈Dc tab i,D p=true:=by
 intro i
 induction i using Nat.strongRecOn with
 |_ i ih =>
  intro hi hd p hp;obtain⟨e,he,h'|h'⟩:=h.pred i hi p hp
  ·subst h';exact hd _ he
  ·have hlt:=h.edge i hi e he;exact ih e hlt (by omega) (hc e (by omega) (hd e he)) p h'
theorem Vs(h:QV ops k tab F){Q:Exit→Act→World→Prop}{i:Nat}(hi:i<k){K:Act→World→Prop}(hw:wpOp X.C.P (DN ops k) Q i K a w):wpOp X.C.P ops Q i K a w:=by
 unfold wpOp at hw ⊢;rw[Pf hi]at hw;cases ho:ops[i]? with
 |none=>rw[ho]at hw;exact hw
 |some o =>
  rw[ho]at hw;have hg:=h.guard o (Array.mem_of_getElem? ho);simp only[Region.wanted,hg,if_true]at hw ⊢;exact hw
theorem K4(h:QV ops k tab F){listed:Array Bool}(hs:listed.size=ops.size):∀ n j,j<ops.size→dOf listed j=false→j≤n→∃ i,i≤j∧i∈Region.ready .any ops listed:=by
 intro n
 induction n with
 | zero =>
  intro j hj hd hjn;have:j=0:=by omega
  subst this;exact⟨0,by omega,(Bg hs).2 ⟨by omega,hd,fun e he=>by have:=h.edge 0 (by omega) e he;omega⟩⟩
 | succ n ihn =>
  intro j hj hd hjn
  by_cases hed:∀ e∈Bd ops j,dOf listed e=true
  ·exact⟨j,by omega,(Bg hs).2 ⟨by omega,hd,hed⟩⟩
  ·have:∃ e,e∈Bd ops j∧dOf listed e=false:=by
    apply Classical.byContradiction;intro hno;refine hed fun e he=>?_
    cases hde:dOf listed e with
    | true=>rfl
    | false=>exact(hno ⟨e,he,hde⟩).elim
   obtain⟨e,he,hde⟩:=this;have:=h.edge j (by omega) e he;obtain⟨i,h1,h2⟩:=ihn e (by omega) hde (by omega);exact⟨i,by omega,h2⟩
theorem UM{st:St}{f:Nat}:∀ {F:List Nat},neut X ops st F→f∈F→AW X ops (Mp ops f) (fun st'=>IY st' st.tmps∧F1 st' st.objs) st
 |_::_,h,hm=>by
  rcases List.mem_cons.1 hm with rfl|hm
  ·exact h.1
  ·exact UM h.2 hm
theorem Ww(hA:A.ext=X.ext)(hX:∀ s∈X.ext,s%64=63)(hN:∀ o∈ops,Iq N o=true)(hr:QV ops k tab F){Q:Exit→Act→World→Prop}{K:St→Prop}(hQ:∀ g st a w,R X.C A N g st a w→K st→Q .normal a w) :
 ∀ (fuel i:Nat) (listed:Array Bool) (g:Gh) (st:St) (a:Act) (w:World),listed.size=ops.size→unl listed≤fuel→Closed ops (dOf listed)→k≤i→i≤ops.size→(∀ j,j<ops.size→j∉F→dOf listed j=decide (j<i)) →
 Wv X ops F K (ops.toList.drop i) st→R X.C A N g st a w→wpAny X.C.P .any ops Q fuel listed a w:=by
 intro fuel
 induction fuel with
 | zero =>
  intro i listed g st a w hs hu hc hk hi hd h hR;have hin:i=ops.size:=by
   rcases Nat.lt_or_ge i ops.size with hlt|hge
   ·have:=Hg (by omega) (by omega:i<listed.size);rw[hd i hlt (fun hf=>by have:=hr.small i hf;omega)]at this;simp at this
   ·omega
  subst hin;rw[List.drop_eq_nil_of_le (by simp)]at h;refine⟨?_,hQ g st a w hR h.2⟩;cases hrd:Region.ready .any ops listed with
  | nil=>rfl
  | cons j l =>
   have hj:j∈Region.ready .any ops listed:=by rw[hrd];simp
   have h1:=(Bg hs).1 hj;have:=Hg (by omega) (by omega:j<listed.size);rw[h1.2.1]at this;cases this
 | succ fuel ih =>
  intro i listed g st a w hs hu hc hk hi hd h hR;have hne:neut X ops st F:=by
   cases hdr:ops.toList.drop i with
   | nil=>rw[hdr]at h;exact h.1
   | cons o l=>rw[hdr]at h;exact h.1
  constructor
  ·intro h0;have hall:∀ j,j<ops.size→dOf listed j=true:=fun j hj=>by
    cases hdj:dOf listed j with
    | true=>rfl
    | false =>
     obtain⟨i',_,h2⟩:=K4 hr hs j j hj hdj (Nat.le_refl _);rw[h0]at h2;cases h2
   have hin:i=ops.size:=by
    rcases Nat.lt_or_ge i ops.size with hlt|hge
    ·have h1:=hall i hlt;rw[hd i hlt (fun hf=>by have:=hr.small i hf;omega)]at h1;simp at h1
    ·omega
   subst hin;rw[List.drop_eq_nil_of_le (by simp)]at h;exact hQ g st a w hR h.2
  ·intro j hj;obtain⟨h1,h2,h3⟩:=(Bg hs).1 hj;have ho:ops[j]?=some ops[j]:=Array.getElem?_eq_getElem h1;have hunl:=HB (by omega:j<listed.size) h2;have hc':Closed ops (dOf (listed.setIfInBounds j true)):=by rw[D9 (by omega)];exact JH hc h3
   by_cases hjF:j∈F
   ·have hop:=UM hne hjF;simp only[Mp,ho,AW]at hop;refine M9 hA hX ho (fun g' st' a' w' hR' hK'=>?_) (hN _ (Array.getElem_mem h1)) hop hR;refine ih i _ g' st a' w' (by simp[hs]) (by omega) hc' hk hi (fun q hq hqF=>?_) h (hR'.weak hK'.1 hK'.2);rw[D9 (by omega)];have:q≠j:=fun e=>hqF (e▸hjF)
    simp only[Hk,this,if_false];exact hd q hq hqF
   ·have hji:j=i:=by
     rw[hd j h1 hjF]at h2;have hge:i≤j:=by simpa using h2
     rcases Nat.lt_or_ge i j with hlt|hle
     ·have hiF:i∉F:=fun hf=>by have:=hr.small i hf;omega
      have:=(hr.tail j h1 (by omega) i hlt).resolve_left hiF;have:=hr.closed hc j h1 h3 i this;rw[hd i (by omega) hiF]at this;simp at this
     ·omega
    subst hji;rw[List.drop_eq_getElem_cons (by simpa using h1)]at h;have hop:=h.2;have e:ops.toList[j]'(by simpa using h1)=ops[j]:=by simp
    rw[e]at hop;simp only[AW]at hop;refine M9 hA hX ho (fun g' st' a' w' hR' hK'=>?_) (hN _ (Array.getElem_mem h1)) hop hR;refine ih (j+1) _ g' st' a' w' (by simp[hs]) (by omega) hc' (by omega) (by omega) (fun q hq hqF=>?_) hK' hR';rw[D9 (by omega)];simp only[Hk];split
    ·rename_i e;subst e;simp
    ·rename_i e;rw[hd q hq hqF];congr 1;simp;omega
theorem RL{all all':Array Oper}{objs:List (Nat × List AV)}{K:St→Prop}:∀ (os:List Oper) (tb:List (List Nat × List Nat)) (i:Nat) (cr:List (Nat × List Nat × List Nat)) (st:St),(∀ o∈os,o.guard=none)→E4 X all objs os tb i cr K st→E4 X all' objs os tb i cr K st
 |[],_,_,_,_,_,h=>h
 |_::_,[],_,_,_,_,h=>h
 | o::os,(p,ts)::tb,i,cr,st,hg,h=>by
  simp only[E4,hg o (by simp)]at h ⊢;exact h.mono fun e he=>⟨he.1,RL os tb (i+1) _ _ (fun o' ho'=>hg o' (by simp[ho'])) he.2⟩
theorem XJ(hA:A.ext=X.ext)(hX:∀ s∈X.ext,s%64=63)(hN:∀ o∈ops,Iq N o=true)(hr:QV ops k tab F)(hv:Valid X (DN ops k) tab st0 res k)(hdst:∀ j,j<k→(DO (DN ops k) j).isSome=true){Q:Exit→Act→World→Prop}{K:St→Prop}(hQ:∀ g st a w,R X.C A N g st a w→K st→Q .normal a w)
 {keep:List Nat} (hkeep:∀ t∈keep,t∉F.filterMap (DO ops)) (htail:Wv X ops F K (ops.toList.drop k) ⟨restr (canon (DN ops k) res st0 k) keep,st0.objs⟩):∀ (fuel:Nat) (listed:Array Bool) (g:Gh) (a:Act) (w:World),listed.size=ops.size→unl listed≤fuel→Closed ops (dOf listed)→(∀ j,j<ops.size→dOf listed j=true→j<k) →
 R X.C A N g (stD (DN ops k) res st0 (dOf listed) k) a w→wpAny X.C.P .any ops Q fuel listed a w:=by
 have hk:=hr.le;have hN':∀ o∈DN ops k,∀ d,o.dst=some d→d<N:=fun o ho d hd=>by
  have:=hN o (by simp only[DN,List.mem_toArray]at ho;simpa using List.mem_of_mem_take ho);simpa [Iq,hd]using this
 have low:∀ (fuel:Nat) (listed:Array Bool) (g:Gh) (a:Act) (w:World),listed.size=ops.size→unl listed≤fuel→Closed ops (dOf listed)→(∀ j,j<ops.size→dOf listed j=true→j<k)→(∀ j,j<k→j∉F→dOf listed j=true)→R X.C A N g (stD (DN ops k) res st0 (dOf listed) k) a w→wpAny X.C.P .any ops Q fuel listed a w:=by
  intro fuel listed g a w hs hu hc hlt hall hR;refine Ww hA hX hN hr hQ fuel k listed g _ a w hs hu hc (Nat.le_refl _) hk (fun j hj hjF=>?_) htail (hR.le' (fun t x hx=>?_) fun s cs hs=>N8 hv hs k (Nat.le_refl _))
  ·cases hd:dOf listed j with
   | true=>simp[hlt j hj hd]
   | false =>
    have:¬ j<k:=fun h=>by rw[hall j h hjF]at hd;cases hd
    simp[this]
  ·obtain⟨h1,h2⟩:=KO hx
   replace h1:=hkeep _ h1
   simp only[stD,canon]at h2 ⊢;rw[← h2];refine Qj k fun j hj hdj=>?_
   refine hall j hj fun hjF=>h1 ?_
   rw[List.mem_filterMap];exact⟨j,hjF,by rw[← Pe hj];exact hdj⟩
 intro fuel
 induction fuel with
 | zero =>
  intro listed g a w hs hu hc hlt hR;exact low 0 listed g a w hs hu hc hlt (fun j hj _=>Hg (by omega) (by omega)) hR
 | succ fuel ih =>
  intro listed g a w hs hu hc hlt hR
  by_cases hall:∀ j,j<k→j∉F→dOf listed j=true
  ·exact low _ listed g a w hs hu hc hlt hall hR
  ·have hc2:Closed (DN ops k) (dOf listed):=fun i hi hD e he=>by
    have hik:i<k:=by have:(DN ops k).size=k:=by simp[DN];omega
                     omega
    rw[Lg hik]at he;exact hc i (by omega) hD e he
   have step:∀ i∈Region.ready .any ops listed,wpOp X.C.P ops Q i (wpAny X.C.P .any ops Q fuel (listed.setIfInBounds i true)) a w:=fun i hi=>by
    obtain⟨h1,h2,h3⟩:=(Bg hs).1 hi;have hp:=hr.closed hc i h1 h3;have hik:i<k:=by
     rcases Nat.lt_or_ge i k with h|h
     ·exact h
     ·exact(hall fun j hj hjF=>hp j ((hr.tail i h1 h j (by omega)).resolve_left hjF)).elim
    refine Vs hr hik (NP hA hX hN' hr.cut hv hdst hc2 hik h2 hp hR fun g' a' w' hR'=>?_);rw[← D9 (by omega)]at hR';refine ih _ g' a' w' (by simp[hs]) (by have:=HB (by omega:i<listed.size) h2;omega) (by rw[D9 (by omega)];exact JH hc h3) (fun j hj hD=>?_) hR';rw[D9 (by omega)]at hD;simp only[Hk]at hD;split at hD
    ·rename_i e;omega
    ·exact hlt j hj hD
   refine⟨fun h0=>?_,step⟩;have hex:∃ j,j<k∧dOf listed j=false:=by
    apply Classical.byContradiction;intro hno;refine hall fun j hj _=>?_
    cases hd:dOf listed j with
    | true=>rfl
    | false=>exact(hno ⟨j,hj,hd⟩).elim
   obtain⟨j,hj,hd⟩:=hex;obtain⟨i,_,hi⟩:=K4 hr hs j j (by omega) hd (Nat.le_refl _);rw[h0]at hi;cases hi
end
theorem PS{X:Env}{ops:List Oper}{K:St→Prop}{st:St}(k:Nat)(tab:List (List Nat × List Nat))(F keep:List Nat)(hm:X.C.P.follows .mixedOrders=true)(hok:(Wn ops.toArray k tab F&&keep.all fun t=>!(F.filterMap (DO ops.toArray)).contains t)=true)
 (h:AM X ops.toArray st.objs (ops.take k) tab 0 (fun stf=>Wv X ops.toArray F K (ops.drop k) ⟨restr stf keep,st.objs⟩) [] st):Kx X ops.toArray K st:=by
 intro A N g a w hA hN hX hR id Q hQ;rw[Bool.and_eq_true]at hok;have hr:=Wn.spec hok.1;have hkeep:∀ t∈keep,t∉F.filterMap (DO ops.toArray):=fun t ht=>by
  have:=List.all_eq_true.1 hok.2 t ht;simpa using this
 have hk:=hr.le;have hsz:ops.toArray.size=ops.length:=by simp
 have hlen:(ops.take k).length=k:=by simp;omega
 have hN2:∀ o∈ops.toArray,Iq N o=true:=fun o ho=>by
  unfold Iq;cases hd:o.dst with
  |none=>rfl
  |some d=>simp;exact hN o ho d hd
 have hf:=RL (all':=DN ops.toArray k) _ _ _ _ _ (fun o ho=>hr.guard o (by simpa using List.mem_of_mem_take ho)) (GZ _ _ _ _ _ h);obtain⟨res,hv,hK⟩:=KG (X:=X) (st0:=st) (ops:=DN ops.toArray k) (tab:=tab) (ops.take k) tab 0 [] (fun _=>⟨.undef,[],[],[]⟩) (fun j o hj=>by simpa [DN]using hj) (fun j q hj=>by simpa using hj) ⟨fun i hi=>by omega,fun i hi=>by omega,fun i hi=>by omega,fun i hi=>by omega,fun i j _ hj=>by omega⟩ (fun i hi=>by omega) hf;rw[hlen,Nat.zero_add]at hv hK;have hdst:∀ j,j<k→(DO (DN ops.toArray k) j).isSome=true:=fun j hj=>by
  obtain⟨o,ho,hd,_⟩:=hv.op j hj;simpa [DO,ho]using hd
 refine wp_region_any hm (XJ hA hX hN2 hr hv hdst hQ hkeep (by simpa using hK) ops.toArray.size (Array.replicate ops.toArray.size false) g a _ (by simp) (by simp[unl]) ?_ ?_ ?_)
 ·intro i hi hD;have:i<ops.length:=by simpa using hi
  simp[dOf,Array.getD,this]at hD
 ·intro j hj hD;have:j<ops.length:=by simpa using hj
  simp[dOf,Array.getD,this]at hD
 ·have e:stD (DN ops.toArray k) res st (dOf (Array.replicate ops.toArray.size false)) k=st:=by
   have hf:∀ j,j<k→dOf (Array.replicate ops.toArray.size false) j=false:=fun j hj=>by
    have:j<ops.length:=by omega
    simp[dOf,Array.getD,this]
   have h1:tmD (DO (DN ops.toArray k)) res (dOf (Array.replicate ops.toArray.size false)) st.tmps k=st.tmps:=by
    rw[Np (i:=0) k (by omega) fun j _ hj=>hf j hj];rfl
   have h2:∀ n,n≤k→obD res (dOf (Array.replicate ops.toArray.size false)) st.objs n=st.objs:=fun n=>by
    induction n with
    | zero=>intro _;rfl
    | succ n ih=>intro hn;simp only[obD,hf n (by omega),Bool.false_eq_true,if_false];exact ih (by omega)
   simp only[stD,h1,h2 k (Nat.le_refl _)]
  rw[e];exact hR.drew
theorem ZY(X:Env)(ops:Array Oper)(F:List Nat)(K:St→Prop)(st:St):Wv X ops F K [] st=(neut X ops st F∧K st):=nd rfl
theorem Yp(X:Env)(ops:Array Oper)(F:List Nat)(K:St→Prop)(o:Oper)(os:List Oper)(st:St):Wv X ops F K (o::os) st=(neut X ops st F∧AW X ops [o] (Wv X ops F K os) st):=nd rfl
theorem Zz(X:Env)(ops:Array Oper)(st:St):neut X ops st []=True:=nd rfl
theorem X8(X:Env)(ops:Array Oper)(st:St)(f:Nat)(F:List Nat):neut X ops st (f::F)=(AW X ops (Mp ops f) (fun st'=>IY st' st.tmps∧F1 st' st.objs) st∧neut X ops st F):=nd rfl
attribute [go_sem] ZY Yp Zz X8
end Go.Abs
