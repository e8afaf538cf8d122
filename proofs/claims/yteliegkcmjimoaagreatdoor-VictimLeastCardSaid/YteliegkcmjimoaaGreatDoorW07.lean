/- part 7 of the proof -/
import Derived.Still
import Derived.Test.YteliegkcmjimoaaGreatDoorW06
set_option linter.all false
namespace Go.Abs
structure BE where
 x:AV
 S:List Nat
 T:List Nat
 H3:List (Nat × List AV)
def P2(dst:Nat->Option Nat)(res:Nat->BE)(D:Nat->Bool)(base:List (Nat × AV)):Nat->List (Nat × AV)
 | 0=>base
 | j+1=>match D j,dst j with
  | true,some d=>(d,(res j).x)::P2 dst res D base j
  |_,_=>P2 dst res D base j
def R5(res:Nat->BE)(D:Nat->Bool)(base:List (Nat × List AV)):Nat->List (Nat × List AV)
 | 0=>base
 | j+1=>if D j then (res j).H3++R5 res D base j else R5 res D base j
def BL(ops:Array Oper)(i:Nat):List Nat:=match ops[i]? with
 |some o=>o.after.toList.filterMap λe=>if Region.binds .any e then some e.on else none
 |none=>[]
def Ey(tab:List (List Nat × List Nat))(i:Nat):List Nat:=(tab.getD i ([],[])).1
def J4(tab:List (List Nat × List Nat))(i:Nat):List Nat:=(tab.getD i ([],[])).2
def FC(ops:Array Oper)(i:Nat):Option Nat:=(ops[i]?).bind (·.dst)
def xy(d:Option Nat)(l:List Nat):Bool:=match d with
 |some t=>l.contains t
 |none=>false
def clash(ops:Array Oper)(tab:List (List Nat × List Nat))(i j:Nat):Bool :=
 (match FC ops i,FC ops j with
 |some d,some e=>d==e
 |_,_=>false)||xy (FC ops j) (J4 tab i)||xy (FC ops i) (J4 tab j)
def Xt(ops:Array Oper)(k:Nat)(tab:List (List Nat × List Nat)):Bool :=
 decide (k<=ops.size)&&(List.range ops.size).all (λi=>(BL ops i).all (λe=>decide (e<i)) &&
  (Ey tab i).all (λp=>(BL ops i).any λe=>p==e||(Ey tab e).contains p) &&
  (decide (i<k)||(List.range i).all λj=>(Ey tab i).contains j)) &&
 (List.range k).all λi=>(List.range i).all λj=>(Ey tab i).contains j||!(clash ops tab i j)
structure LR(ops:Array Oper)(k:Nat)(tab:List (List Nat × List Nat)):Prop where
 le:k<=ops.size
 UJ:∀ i,i<ops.size->∀ e∈BL ops i,e<i
 pred:∀ i,i<ops.size->∀ p∈Ey tab i,∃ e∈BL ops i,p=e\/p∈Ey tab e
 tail:∀ i,i<ops.size->k<=i->∀ j,j<i->j∈Ey tab i
 apart:∀ i j,i<k->j<i->j∈Ey tab i\/clash ops tab i j=false
def Xt.spec{ops:Array Oper}{k:Nat}{tab:List (List Nat × List Nat)}(h:Xt ops k tab=true):LR ops k tab:=by
 simp[Xt]at h;obtain⟨⟨h1,h2⟩,h3⟩:=h;exact⟨h1,λi hi=>(h2 i hi).1.1,λi hi=>(h2 i hi).1.2,λi hi hk j hj=>((h2 i hi).2.resolve_left (by omega)) j hj,λi j hi hj=>h3 i hi j hj⟩
def Closed(ops:Array Oper)(D:Nat->Bool):Prop:=∀ i,i<ops.size->D i=true->∀ e∈BL ops i,D e=true
section
variable {ops:Array Oper} {k:Nat} {tab:List (List Nat × List Nat)} {D:Nat->Bool}
def Closed.pred(hr:LR ops k tab)(hc:Closed ops D):∀ i,i<ops.size->D i=true->∀ p∈Ey tab i,D p=true:=by
 intro i
 induction i using Nat.strongRecOn with
 |_ i ih =>
  intro hi hd p hp;obtain⟨e,he,h|h⟩:=hr.pred i hi p hp
  ·subst h;exact hc i hi hd _ he
  ·have AP:=hr.UJ i hi e he;exact ih e AP (by omega) (hc i hi hd e he) p h
def P8(hr:LR ops k tab)(hc:Closed ops D){i:Nat}(hi:i<ops.size)(hd:∀ e∈BL ops i,D e=true):∀ p∈Ey tab i,D p=true:=by
 intro p hp;obtain⟨e,he,h|h⟩:=hr.pred i hi p hp
 ·grind
 ·exact hc.pred hr e (by have:=hr.UJ i hi e he;omega) (hd e he) p h
variable {dst:Nat->Option Nat} {res res':Nat->BE} {base:List (Nat × AV)} {P7:List (Nat × List AV)}
def MM{D D':Nat->Bool}:∀ n,(∀ j,j<n->res j=res' j/\D j=D' j)->P2 dst res D base n=P2 dst res' D' base n
 | 0,_=>rfl
 | n+1,h=>by
  simp only[P2,(h n (by omega)).1,(h n (by omega)).2];rw[MM n λj hj=>h j (by omega)]
def Ms{D D':Nat->Bool}:∀ n,(∀ j,j<n->res j=res' j/\D j=D' j)->R5 res D P7 n=R5 res' D' P7 n
 | 0,_=>rfl
 | n+1,h=>by
  simp only[R5,(h n (by omega)).1,(h n (by omega)).2];rw[Ms n λj hj=>h j (by omega)]
theorem W0{D D':Nat->Bool}{t:Nat}:∀ n,(∀ j,j<n->dst j=some t->D j=D' j)->lk t (P2 dst res D base n)=lk t (P2 dst res D' base n)
 | 0,_=>rfl
 | n+1,h=>by
  have ih:=W0 (D:=D) (D':=D') (t:=t) n λj hj=>h j (by omega)
  cases hd:dst n with
  |none=>grind[P2]
  |some d =>
   by_cases w9:d=t
   ·grind[P2,lk]
   ·cases h1:D n<;>cases h2:D' n<;>simp only[P2,hd,h1,h2,lk,w9,if_false]<;>exact ih
def Sm{i:Nat}:∀ n,i<=n->(∀ j,i<=j->j<n->D j=false)->P2 dst res D base n=P2 dst res D base i
 | 0,h,_=>by grind
 | n+1,h,hd=>by
  by_cases hi:i=n+1
  ·rw[hi]
  ·have:=hd n (by omega) (by omega);simp only[P2,this];exact Sm n (by omega) λj h1 h2=>hd j h1 (by omega)
def Jk(i:Nat)(D:Nat->Bool)(j:Nat):Bool:=if j=i then true else D j
def NR{i t:Nat}(So:dst i=some t):∀ n,i<n->(∀ j,i<j->j<n->D j=true->dst j≠some t)->lk t (P2 dst res (Jk i D) base n)=some (res i).x
 | 0,h,_=>by omega
 | n+1,h,Y5=>by
  by_cases Hf:i=n
  ·grind[P2,Jk,lk]
  ·have ih:=NR So n (by omega) λj h1 h2=>Y5 j h1 (by omega)
   have hn:Jk i D n=D n:=by simp[Jk,Ne.symm Hf]
   simp[P2,hn];cases h1:D n with
   | false=>omega
   | true =>
    have:=Y5 n (by omega) (by omega) h1;cases hd:dst n<;>simp_all[lk]
theorem WZ{i s:Nat}(hi:D i=false):∀ n,i<n->(∀ c,lk s (res i).H3=some c->∀ j,j≠i->j<n->D j=true->lk s (res j).H3=none) ->
 lk s (R5 res (Jk i D) P7 n)=(lk s (res i).H3).or (lk s (R5 res D P7 n))
 | 0,h,_=>by omega
 | n+1,h,Y5=>by
  by_cases Hf:i=n
  ·subst Hf;have h1:R5 res (Jk i D) P7 i=R5 res D P7 i:=Ms i λj hj=>⟨rfl,by simp[Jk,Nat.ne_of_lt hj]⟩
   simp_all[R5,Jk,IX]
  ·have ih:=WZ (s:=s) hi n (by omega) λc hc j h1 h2=>Y5 c hc j h1 (by omega)
   have hn:Jk i D n=D n:=by simp[Jk,Ne.symm Hf]
   simp[R5,hn];cases h1:D n with
   | false=>grind
   | true =>
    simp[if_true,IX,ih];cases hs:lk s (res i).H3<;>grind
def OB(S T:List Nat)(l:List (Nat × AV)):Prop:=ON S T l=l
def G9(S T:List Nat)(l:List (Nat × List AV)):Prop:=JZ S T (Jp T l)=l
def YR{S T:List Nat}{p:Nat × AV}{l:List (Nat × AV)}:OB S T (p::l)↔p.2.kill S T=p.2/\OB S T l:=by
 obtain⟨k,x⟩:=p;simp[OB,ON,List.cons.injEq,Prod.mk.injEq,true_and]
theorem Zf(S T:List Nat):∀ l:List (Nat × List AV),(JZ S T (Jp T l)).length<=l.length
 |[]=>by simp[Jp,JZ]
 |(k,x)::l=>by
  have:=Zf S T l;simp only[Jp];split
  ·simp;omega
  ·rename_i hk;simp[JZ,hk];omega
theorem YQ{S T:List Nat}{p:Nat × List AV}{l:List (Nat × List AV)}:G9 S T (p::l)↔p.1∉T/\NQ S T p.2=p.2/\G9 S T l:=by
 obtain⟨k,x⟩:=p;simp[G9,Jp]
 by_cases hk:k∈T
 ·simp[hk];grind[Zf]
 grind[JZ]
def T8{S T:List Nat}{l m:List (Nat × List AV)}:G9 S T (l++m)↔G9 S T l/\G9 S T m:=by induction l<;>grind[G9,Jp,JZ,YQ]
theorem QD{S T:List Nat}:∀ {l:List (Nat × List AV)},G9 S T l->∀ s∈T,lk s l=none
 |[],_,_,_=>rfl
 |(k,x)::l,h,s,hs=>by
  obtain⟨h1,_,h3⟩:=YQ.1 h;have:k≠s:=λe=>h1 (by grind)
  simp[lk,this,if_false];exact QD h3 s hs
def dr{S T:List Nat}:∀ n,OB S T base->(∀ j,j<n->D j=true->(res j).x.kill S T=(res j).x)->OB S T (P2 dst res D base n)
 | 0,h,_=>h
 | n+1,h,hj=>by
  have ih:=dr n h λj h1=>hj j (by omega)
  cases h1:D n with
  | false=>simpa [P2,h1]using ih
  | true =>
   cases hd:dst n with
   |none=>simpa [P2,h1,hd]using ih
   |some d=>simp only[P2,h1,hd];exact YR.2 ⟨hj n (by omega) h1,ih⟩
def dq{S T:List Nat}:∀ n,G9 S T P7->(∀ j,j<n->D j=true->G9 S T (res j).H3)->G9 S T (R5 res D P7 n)
 | 0,h,_=>h
 | n+1,h,hj=>by
  have ih:=dq n h λj h1=>hj j (by omega)
  cases h1:D n<;>simp_all[R5,T8]
def OD{S T:List Nat}:∀ n,OB S T (P2 dst res (λ_=>true) base n)->OB S T base/\∀ j,j<n->(dst j).isSome=true->(res j).x.kill S T=(res j).x
 | 0,h=>⟨h,λj hj=>by omega⟩
 | n+1,h=>by
  cases hd:dst n with
  |none =>
   simp only[P2,hd]at h;obtain⟨h1,h2⟩:=OD n h;exact⟨h1,λj hj hs=>if e:j=n then by subst e;simp[hd]at hs else h2 j (by omega) hs⟩
  |some d =>
   simp only[P2,hd]at h;obtain⟨h0,h'⟩:=YR.1 h;obtain⟨h1,h2⟩:=OD n h';exact⟨h1,λj hj hs=>if e:j=n then by subst e;exact h0 else h2 j (by omega) hs⟩
def Lo{S T:List Nat}:∀ n,G9 S T (R5 res (λ_=>true) P7 n)->G9 S T P7/\∀ j,j<n->G9 S T (res j).H3
 | 0,h=>⟨h,λj hj=>by omega⟩
 | n+1,h=>by
  simp[R5]at h;obtain⟨h0,h'⟩:=T8.1 h;obtain⟨h1,h2⟩:=Lo n h';exact⟨h1,λj hj=>if e:j=n then by subst e;exact h0 else h2 j (by omega)⟩
end
end Go.Abs
namespace Go.Abs
def restr(st:St):List Nat->List (Nat × AV)
 |[]=>[]
 | t::ts=>match lk t st.tmps with
  |some x=>(t,x)::restr st ts
  |none=>restr st ts
def away(cr:List (Nat × List Nat × List Nat))(p:List Nat)(r:BE):Prop:=match cr with
 |[]=>True
 |(i,S,T)::l=>(i∈p\/(r.x.kill S T=r.x/\G9 S T r.H3))/\away l p r
def JO(i:Nat)(r:BE)(cr:List (Nat × List Nat × List Nat)):List (Nat × List Nat × List Nat):=match r.S,r.T with
 |[],[]=>cr
 | S,T=>(i,S,T)::cr
def Nf(X:Env)(o:Oper)(r st:St)(p:List Nat)(cr:List (Nat × List Nat × List Nat))(K:BE->Prop):Prop :=
 ∃ e:BE,yu X.C o r e.x e.S e.T e.T e.H3/\(e.T.all λs=>s%32 !=31)=true/\(∀ s∈names e.H3,s∈e.T)/\OB e.S e.T st.tmps/\G9 e.S e.T st.Aj/\away cr p e/\K e
def Afn(b:Bool)(y:Option AV):Prop:=(∃ b',y=some (.v (.bool b'))/\b'≠b)\/y=some (.BC [])
def GH(X:Env)(all:Array Oper)(Aj:List (Nat × List AV)):List Oper->List (List Nat × List Nat)->Nat->List (Nat × List Nat × List Nat)->(St->Prop)->St->Prop
 |[],_,_,_,K,st=>K st
 |_::_,[],_,_,_,_=>False
 | o::os,(p,ts)::tab,i,cr,K,st =>
  let run:=λst:St=>Nf X o ⟨restr st ts,Aj⟩ st p cr λe=>o.dst.isSome=true/\GH X all Aj os tab (i+1) (JO i e cr) K ⟨(St.put o.dst e.x st).tmps,e.H3++st.Aj⟩
  match o.guard with
  |none=>run st
  |some (j,b)=>match guardOf all j ⟨restr st ts,Aj⟩ with
   |some (.v (.bool b'))=>GP b' b (run (st.learn (gdst all j) b)) (o.dst.isSome=true/\away cr p ⟨.BC [],[],[],[]⟩/\GH X all Aj os tab (i+1) cr K ((st.learn (gdst all j) (!b)).put o.dst (.BC [])))
   |some (.BC [])=>o.dst.isSome=true/\away cr p ⟨.BC [],[],[],[]⟩/\GH X all Aj os tab (i+1) cr K (st.put o.dst (.BC []))
   |_=>False
theorem Tj{st:St}{t:Nat}{x:AV}:∀ {ts:List Nat},lk t (restr st ts)=some x->lk t st.tmps=some x
 |[],h=>by cases h
 | u::ts,h=>by
  simp only[restr]at h;split at h
  ·rename_i y hy;simp only[lk]at h;split at h
   ·rename_i hut;subst hut;rw[hy];exact h
   ·exact Tj h
  ·exact Tj h
def Un{all:Array Oper}{j:Nat}{st:St}{ts:List Nat}{Aj:List (Nat × List AV)}{b:Bool}(h:guardOf all j ⟨restr st ts,Aj⟩=some (.v (.bool b))):st.learn (gdst all j) b=st:=by grind[KP,guardOf,Option.bind_eq_some_iff,Tj]
section
variable {X:Env} {A:A0} {N:Nat} {g:Gh} {st0:St} {a:Act} {w:World} {ops:Array Oper} {k:Nat} {tab:List (List Nat × List Nat)}
def canon(ops:Array Oper)(res:Nat->BE)(st0:St)(n:Nat):St:=⟨P2 (FC ops) res (λ_=>true) st0.tmps n,R5 res (λ_=>true) st0.Aj n⟩
def Q1(ops:Array Oper)(res:Nat->BE)(st0:St)(D:Nat->Bool)(n:Nat):St:=⟨P2 (FC ops) res D st0.tmps n,R5 res D st0.Aj n⟩
structure Valid(X:Env)(ops:Array Oper)(tab:List (List Nat × List Nat))(st0:St)(res:Nat->BE)(n:Nat):Prop where
 op:∀ i,i<n->∃ o,ops[i]?=some o/\o.dst.isSome=true /\
  (((o.guard=none\/∃ j b,o.guard=some (j,b)/\guardOf ops j ⟨restr (canon ops res st0 i) (J4 tab i),st0.Aj⟩=some (.v (.bool b))) /\
    yu X.C o ⟨restr (canon ops res st0 i) (J4 tab i),st0.Aj⟩ (res i).x (res i).S (res i).T (res i).T (res i).H3) \/
  ((∃ j b,o.guard=some (j,b)/\Afn b (guardOf ops j ⟨restr (canon ops res st0 i) (J4 tab i),st0.Aj⟩))/\res i=⟨.BC [],[],[],[]⟩))
 ext:∀ i,i<n->((res i).T.all λs=>s%32 !=31)=true
 uI:∀ i,i<n->∀ s∈names (res i).H3,s∈(res i).T
 fix:∀ i,i<n->OB (res i).S (res i).T (canon ops res st0 i).tmps/\G9 (res i).S (res i).T (canon ops res st0 i).Aj
 away:∀ i j,i<j->j<n->i∈Ey tab j\/((res j).x.kill (res i).S (res i).T=(res j).x/\G9 (res i).S (res i).T (res j).H3)
def Gg(res:Nat->BE)(n:Nat)(e:BE)(i:Nat):BE:=if i=n then e else res i
def cU{res res':Nat->BE}{n:Nat}(h:∀ j,j<n->res j=res' j):canon ops res st0 n=canon ops res' st0 n:=by
 simp only[canon];rw[MM n λj hj=>⟨h j hj,rfl⟩,Ms n λj hj=>⟨h j hj,rfl⟩]
def OC(l:List (Nat × AV)):OB [] [] l:=Mh l
theorem L7(l:List (Nat × List AV)):G9 [] [] l:=by simp[G9,Pq,Mg]
def Valid.snoc{res:Nat->BE}{n:Nat}(hv:Valid X ops tab st0 res n)(e:BE){o:Oper}(ho:ops[n]?=some o)(hd:o.dst.isSome=true)
 (h1:((o.guard=none\/∃ j b,o.guard=some (j,b)/\guardOf ops j ⟨restr (canon ops res st0 n) (J4 tab n),st0.Aj⟩=some (.v (.bool b))) /\
  yu X.C o ⟨restr (canon ops res st0 n) (J4 tab n),st0.Aj⟩ e.x e.S e.T e.T e.H3) \/
 ((∃ j b,o.guard=some (j,b)/\Afn b (guardOf ops j ⟨restr (canon ops res st0 n) (J4 tab n),st0.Aj⟩))/\e=⟨.BC [],[],[],[]⟩))
 (h2:(e.T.all λs=>s%32 !=31)=true) (h3:∀ s∈names e.H3,s∈e.T) (h4:OB e.S e.T (canon ops res st0 n).tmps/\G9 e.S e.T (canon ops res st0 n).Aj)
 (h5:∀ i,i<n->i∈Ey tab n\/(e.x.kill (res i).S (res i).T=e.x/\G9 (res i).S (res i).T e.H3)):Valid X ops tab st0 (Gg res n e) (n+1):=by
 have AP:∀ j,j<n->Gg res n e j=res j:=λj hj=>by simp[Gg,Nat.ne_of_lt hj]
 have heq:Gg res n e n=e:=by simp[Gg]
 have Aev:∀ i,i<=n->canon ops (Gg res n e) st0 i=canon ops res st0 i:=λi hi=>cU λj hj=>AP j (by omega)
 refine⟨λi hi=>?_,λi hi=>?_,λi hi=>?_,λi hi=>?_,λi j UN hj=>?_⟩
 ·rw[Aev i (by omega)]
  by_cases Hf:i=n
  ·grind
  ·rw[AP i (by omega)];exact hv.op i (by omega)
 ·by_cases Hf:i=n
  ·grind
  ·rw[AP i (by omega)];exact hv.ext i (by omega)
 ·by_cases Hf:i=n
  ·grind
  ·rw[AP i (by omega)];exact hv.uI i (by omega)
 ·rw[Aev i (by omega)]
  by_cases Hf:i=n
  ·grind
  ·rw[AP i (by omega)];exact hv.fix i (by omega)
 ·rw[AP i (by omega)]
  by_cases Hf:j=n
  ·grind
  ·rw[AP j (by omega)];exact hv.away i j UN (by omega)
def cq(res:Nat->BE)(n:Nat)(cr:List (Nat × List Nat × List Nat)):Prop:=∀ i,i<n->((res i).S=[]/\(res i).T=[])\/(i,(res i).S,(res i).T)∈cr
theorem cP{p:List Nat}{r:BE}:∀ {cr:List (Nat × List Nat × List Nat)},away cr p r->∀ {i:Nat} {S T:List Nat},(i,S,T)∈cr->i∈p\/(r.x.kill S T=r.x/\G9 S T r.H3)
 |(j,S',T')::l,h,i,S,T,hm=>by
  obtain⟨h1,h2⟩:=h;rcases List.mem_cons.1 hm with e|hm
  ·grind
  ·exact cP h2 hm
def cq.away{res:Nat->BE}{n:Nat}{cr:List (Nat × List Nat × List Nat)}(h:cq res n cr){p:List Nat}{r:BE}(ha:Abs.away cr p r):∀ i,i<n->i∈p\/(r.x.kill (res i).S (res i).T=r.x/\G9 (res i).S (res i).T r.H3):=by
 intro i hi;rcases h i hi with ⟨h1,h2⟩|hm<;>grind[OO,L7,cP]
def cq.snoc{res:Nat->BE}{n:Nat}{cr:List (Nat × List Nat × List Nat)}(h:cq res n cr)(e:BE):cq (Gg res n e) (n+1) (JO n e cr):=by
 have GJ:∀ q∈cr,q∈JO n e cr:=λq hq=>by grind[JO]
 intro i hi
 by_cases Hf:i=n
 ·subst Hf;simp[Gg];grind[JO]
 ·simp[Gg,Hf,if_false];exact(h i (by omega)).imp id (GJ _)
theorem VV{res:Nat->BE}{n:Nat}{e:BE}{o:Oper}(ho:ops[n]?=some o)(hd:o.dst.isSome=true) :
 canon ops (Gg res n e) st0 (n+1)=⟨(St.put o.dst e.x (canon ops res st0 n)).tmps,e.H3++(canon ops res st0 n).Aj⟩:=by
 have AP:∀ j,j<n->Gg res n e j=res j:=λj hj=>by simp[Gg,Nat.ne_of_lt hj]
 obtain⟨d,Vp⟩:=Option.isSome_iff_exists.1 hd;have w9:FC ops n=some d:=by grind[FC]
 simp only[canon,P2,R5,w9,if_true];rw[MM (res:=Gg res n e) (res':=res) n λj hj=>⟨AP j hj,rfl⟩,Ms (res:=Gg res n e) (res':=res) n λj hj=>⟨AP j hj,rfl⟩];grind[Gg,St.put]
def OF{K:St->Prop}:∀ (os:List Oper) (tb:List (List Nat × List Nat)) (n:Nat) (cr:List (Nat × List Nat × List Nat)) (res:Nat->BE),(∀ j o,os[j]?=some o->ops[n+j]?=some o)->(∀ j q,tb[j]?=some q->tab[n+j]?=some q) ->
 Valid X ops tab st0 res n->cq res n cr->GH X ops st0.Aj os tb n cr K (canon ops res st0 n)->∃ res',Valid X ops tab st0 res' (n+os.length)/\K (canon ops res' st0 (n+os.length))
 |[],tb,n,cr,res,_,_,hv,_,h=>⟨res,hv,by grind[GH]⟩
 |_::_,[],_,_,_,_,_,_,_,h=>by grind[GH]
 | o::os,(p,ts)::tb,n,cr,res,ho,ht,hv,hc,h=>by
  have UD:ops[n]?=some o:=ho 0 o rfl;have ht0:tab[n]?=some (p,ts):=ht 0 (p,ts) rfl;have hp:Ey tab n=p:=by grind[Ey]
  have hr:J4 tab n=ts:=by grind[J4]
  have xj:∀ j o',os[j]?=some o'->ops[n+1+j]?=some o':=λj o' hj=>by
   have:=ho (j+1) o' (by grind);grind
  have mc:∀ j q,tb[j]?=some q->tab[n+1+j]?=some q:=λj q hj=>by
   have:=ht (j+1) q (by grind);grind
  have hlen:n+(o::os).length=n+1+os.length:=by grind
  rw[hlen];have fin:∀ e:BE,Valid X ops tab st0 (Gg res n e) (n+1)->cq (Gg res n e) (n+1) (JO n e cr)->o.dst.isSome=true->GH X ops st0.Aj os tb (n+1) (JO n e cr) K ⟨(St.put o.dst e.x (canon ops res st0 n)).tmps,e.H3++(canon ops res st0 n).Aj⟩ ->
   ∃ res',Valid X ops tab st0 res' (n+1+os.length)/\K (canon ops res' st0 (n+1+os.length)):=λe Vs X6 hd hf =>
   OF os tb (n+1) _ _ xj mc Vs X6 (by grind[VV])
  have runs:(o.guard=none\/∃ j b,o.guard=some (j,b)/\guardOf ops j ⟨restr (canon ops res st0 n) (J4 tab n),st0.Aj⟩=some (.v (.bool b))) ->
   (Nf X o ⟨restr (canon ops res st0 n) ts,st0.Aj⟩ (canon ops res st0 n) p cr λe=>o.dst.isSome=true/\GH X ops st0.Aj os tb (n+1) (JO n e cr) K ⟨(St.put o.dst e.x (canon ops res st0 n)).tmps,e.H3++(canon ops res st0 n).Aj⟩) ->
   ∃ res',Valid X ops tab st0 res' (n+1+os.length)/\K (canon ops res' st0 (n+1+os.length)):=λhg ⟨e,h1,h2,h3,h4,h5,h6,hd,hf⟩ =>
   fin e (hv.snoc e UD hd (.inl ⟨hg,by grind⟩) h2 h3 ⟨h4,h5⟩ (by rw[hp];exact hc.away h6)) (hc.snoc e) hd hf
  simp[GH]at h;split at h
  ·grind
  ·rename_i j b hg;split at h
   ·rename_i b' hb
    by_cases he:b'=b
    ·subst he;have h1:=h.1 rfl;rw[Un hb]at h1;exact runs (.inr ⟨j,b',hg,by grind⟩) h1
    ·obtain⟨hd,ha,hf⟩:=h.2 he;have sS:(!b)=b':=by cases b<;>cases b'<;>first|rfl|grind
     rw[sS,Un hb]at hf;have:=hc.snoc (⟨.BC [],[],[],[]⟩:BE);refine fin ⟨.BC [],[],[],[]⟩ (hv.snoc _ UD hd (.inr ⟨⟨j,b,hg,.inl ⟨b',by grind,he⟩⟩,rfl⟩) rfl (λs hs=>by cases hs) ⟨OC _,L7 _⟩ (by rw[hp];exact hc.away ha)) this hd ?_;simp[JO];have e:∀ s:St,(St.put o.dst (AV.BC []) s)=⟨(St.put o.dst (AV.BC []) s).tmps,s.Aj⟩:=λs=>by cases o.dst<;>rfl
     grind
   ·rename_i hb;obtain⟨hd,ha,hf⟩:=h;have:=hc.snoc (⟨.BC [],[],[],[]⟩:BE);refine fin ⟨.BC [],[],[],[]⟩ (hv.snoc _ UD hd (.inr ⟨⟨j,b,hg,.inr (by grind)⟩,rfl⟩) rfl (λs hs=>by cases hs) ⟨OC _,L7 _⟩ (by rw[hp];exact hc.away ha)) this hd ?_;simp[JO];have e:∀ s:St,(St.put o.dst (AV.BC []) s)=⟨(St.put o.dst (AV.BC []) s).tmps,s.Aj⟩:=λs=>by cases o.dst<;>rfl
    grind
   grind
end
end Go.Abs
namespace Go.Abs
section
variable {X:Env} {A:A0} {N:Nat} {g:Gh} {st0:St} {a:Act} {w:World} {ops:Array Oper} {k:Nat} {tab:List (List Nat × List Nat)} {res:Nat->BE} {D:Nat->Bool}
def R.le'{st st':St}{C:Ctx}(h:R C A N g st a w)(h1:∀ t x,lk t st'.tmps=some x->lk t st.tmps=some x)(h2:∀ s cs,lk s st'.Aj=some cs->lk s st.Aj=some cs):R C A N g st' a w :=
 ⟨h.size,h.defs,λt x hx=>h.tm t x (h1 t x hx),λs cs hs=>h.ob s cs (h2 s cs hs),h.fr⟩
def OQ{st:St}{t:Nat}{x:AV}:∀ {ts:List Nat},lk t (restr st ts)=some x->t∈ts/\lk t st.tmps=some x
 |[],h=>by cases h
 | u::ts,h=>by
  simp only[restr]at h;split at h
  ·rename_i y hy;simp only[lk]at h;split at h
   ·rename_i hut;subst hut;exact⟨by simp,by rw[hy];exact h⟩
   ·obtain⟨h1,h2⟩:=OQ h;exact⟨by simp[h1],h2⟩
  ·obtain⟨h1,h2⟩:=OQ h;exact⟨by simp[h1],h2⟩
theorem dP{d:Option Nat}{l:List Nat}:xy d l=true↔∃ t,d=some t/\t∈l:=by cases d<;>simp[xy]
theorem Yg(hr:LR ops k tab)(hc:Closed ops D){i:Nat}(hi:i<k)(UO:D i=false)(hp:∀ p∈Ey tab i,D p=true){t:Nat}(ht:t∈J4 tab i)(j:Nat)(hj:j<k)(hd:FC ops j=some t)(gh:j≠i):D j=decide (j<i):=by
 have hk:=hr.le;rcases Nat.lt_or_gt_of_ne gh with AP|bg
 ·rcases hr.apart i j hi AP with h|h<;>grind[clash,dP]
 ·have Up:¬ j<i:=by omega
  simp[Up];rcases hr.apart j i hj bg with h|h
  ·cases hD:D j with
   | false=>rfl
   | true=>have:=hc.pred hr j (by omega) hD i h;grind
  grind[clash,dP]
def fb(hr:LR ops k tab)(hc:Closed ops D){i:Nat}(hi:i<k)(UO:D i=false)(hp:∀ p∈Ey tab i,D p=true){t:Nat}(ht:t∈J4 tab i)(OJ:FC ops i≠some t\/True) :
 lk t (P2 (FC ops) res D st0.tmps k)=lk t (P2 (FC ops) res (λ_=>true) st0.tmps i):=by
 have h1:lk t (P2 (FC ops) res D st0.tmps k)=lk t (P2 (FC ops) res (λj=>decide (j<i)) st0.tmps k):=W0 k λj hj hd=>by grind[Yg]
 rw[h1,Sm (i:=i) k (by omega) (λj h1 _=>by grind)];rw[MM (res:=res) (res':=res) (D:=λj=>decide (j<i)) (D':=λ_=>true) i λj hj=>⟨rfl,by grind⟩]
def Tp(hv:Valid X ops tab st0 res k){s:Nat}{cs:List AV}(hs:lk s st0.Aj=some cs):∀ n,n<=k->lk s (R5 res D st0.Aj n)=some cs
 | 0,_=>hs
 | n+1,hn=>by
  have ih:=Tp hv hs n (by omega);simp only[R5];split
  ·rw[IX];have hf:=(hv.fix n (by omega)).2;obtain⟨hb,_⟩:=Lo n hf;have Y5:s∉(res n).T:=λh=>by
    have:=QD hb s h;rw[this]at hs;cases hs
   have:lk s (res n).H3=none:=bF λh=>Y5 (hv.uI n (by omega) s h)
   rw[this];simpa using ih
  ·exact ih
def tt(hr:LR ops k tab)(hv:Valid X ops tab st0 res k)(hc:Closed ops D){i:Nat}(hi:i<k)(UO:D i=false)(hp:∀ p∈Ey tab i,D p=true)(hR:R X.C A N g (Q1 ops res st0 D k) a w) :
 R X.C A N g ⟨restr (canon ops res st0 i) (J4 tab i),st0.Aj⟩ a w:=by
 refine hR.le' (λt x hx=>?_) λs cs hs=>Tp hv hs k (Nat.le_refl _)
 obtain⟨h1,h2⟩:=OQ hx;simp[Q1];rw[fb hr hc hi UO hp h1 (.inr trivial)];exact h2
def wU(hr:LR ops k tab)(hv:Valid X ops tab st0 res k)(N0:∀ j,j<k->(FC ops j).isSome=true)(hc:Closed ops D){i:Nat}(hi:i<k)(UO:D i=false) :
 OB (res i).S (res i).T (Q1 ops res st0 D k).tmps/\G9 (res i).S (res i).T (Q1 ops res st0 D k).Aj:=by
 have hk:=hr.le;obtain⟨h1,h2⟩:=hv.fix i hi;obtain⟨b1,b2⟩:=OD i h1;obtain⟨c1,c2⟩:=Lo i h2;have key:∀ j,j<k->D j=true->(res j).x.kill (res i).S (res i).T=(res j).x/\G9 (res i).S (res i).T (res j).H3:=λj hj hD=>by
  rcases Nat.lt_trichotomy j i with h|h|h
  ·grind
  ·grind
  ·rcases hv.away i j h hj with h'|h'
   ·have:=hc.pred hr j (by omega) hD i h';grind
   omega
 exact⟨dr k b1 λj hj hD=>(key j hj hD).1,dq k c1 λj hj hD=>(key j hj hD).2⟩
theorem qz(hr:LR ops k tab)(hv:Valid X ops tab st0 res k)(N0:∀ j,j<k->(FC ops j).isSome=true)(hc:Closed ops D){i:Nat}(hi:i<k)(UO:D i=false){s:Nat}{c:List AV}(hs:lk s (res i).H3=some c) :
 ∀ j,j≠i->j<k->D j=true->lk s (res j).H3=none:=λj gh hj hD=>by
 have hk:=hr.le;have hT:s∈(res i).T:=hv.uI i hi s (Yd hs);have:G9 (res i).S (res i).T (res j).H3:=by
  rcases Nat.lt_trichotomy j i with h|h|h
  ·exact(Lo i (hv.fix i hi).2).2 j h
  ·omega
  ·rcases hv.away i j h hj with h'|h'
   ·have:=hc.pred hr j (by omega) hD i h';grind
   grind
 grind[QD]
def fI(hr:LR ops k tab)(hv:Valid X ops tab st0 res k)(N0:∀ j,j<k->(FC ops j).isSome=true)(hc:Closed ops D){i d:Nat}(hi:i<k)(UO:D i=false)(hp:∀ p∈Ey tab i,D p=true)(hd:FC ops i=some d)
 (hR:R X.C A N g ⟨(d,(res i).x)::(Q1 ops res st0 D k).tmps,(res i).H3++(Q1 ops res st0 D k).Aj⟩ a w):R X.C A N g (Q1 ops res st0 (Jk i D) k) a w:=by
 have hk:=hr.le;refine hR.le' (λt x hx=>?_) λs cs hs=>?_
 ·simp[Q1]at hx ⊢
  by_cases w9:d=t
  ·subst w9;rw[NR hd k hi λj h1 h2 h3 h4=>?_]at hx
   ·grind[lk]
   ·rcases hr.apart j i h2 h1 with h|h
    ·have:=hc.pred hr j (by omega) h3 i h;grind
    grind[clash]
  ·simp[lk,w9,if_false];grind[W0,Jk]
 grind[Q1,WZ,qz,IX]
theorem M1(hc:Closed ops D){i:Nat}(hd:∀ e∈BL ops i,D e=true):Closed ops (Jk i D):=λj hj hD e he=>by
 simp only[Jk]at hD ⊢;split
 ·rfl
 ·by_cases gh:j=i
  ·grind
  ·simp[gh]at hD;exact hc j hj hD e he
end
end Go.Abs
namespace Go.Abs
section
variable {X:Env} {A:A0} {N:Nat} {g:Gh} {st0:St} {a:Act} {w:World} {ops:Array Oper} {k:Nat} {tab:List (List Nat × List Nat)} {res:Nat->BE} {D:Nat->Bool}
def ES(Af:Array Bool)(i:Nat):Bool:=Af.getD i false
theorem Cj{Af:Array Bool}(hs:Af.size=ops.size){i:Nat}:i∈Region.ready .any ops Af↔i<ops.size/\ES Af i=false/\∀ e∈BL ops i,ES Af e=true:=by
 rw[mem_ready];constructor
 ·rintro⟨h1,o,ho,h2⟩;have hi:i<ops.size:=by grind
  refine⟨hi,?_,λe he=>?_⟩
  ·simp_all[ES]
  ·simp only[BL,ho,List.mem_filterMap]at he;obtain⟨ed,hed,he⟩:=he;split at he
   ·rename_i hb;injection he with he
    subst he;exact h2 ed (by grind) hb
   grind
 ·rintro⟨hi,h1,h2⟩;refine⟨?_,ops[i],Array.getElem?_eq_getElem hi,λe he hb=>?_⟩
  ·simp_all[ES]
  ·refine h2 e.on ?_;grind[BL]
theorem Ff{Af:Array Bool}{i:Nat}(hi:i<Af.size):ES (Af.setIfInBounds i true)=Jk i (ES Af):=by
 funext j;simp only[ES,Jk,Array.getD_eq_getD_getElem?,Array.getElem?_setIfInBounds];grind
def XU(Af:Array Bool):Nat:=Af.toList.count false
theorem Jh{Af:Array Bool}{i:Nat}(hi:i<Af.size)(hd:ES Af i=false):XU (Af.setIfInBounds i true)+1=XU Af:=by
 have hl:i<Af.toList.length:=by omega
 have hv:Af.toList[i]=false:=by simp_all[ES]
 unfold XU;grind
theorem Iv{Af:Array Bool}(h:XU Af=0){i:Nat}(hi:i<Af.size):ES Af i=true:=by grind[Jh]
def dj(hr:LR ops k tab){Q:Exit->Act->World->Prop}:∀ (fuel i:Nat) (Af:Array Bool) (a:Act) (w:World),Af.size=ops.size->XU Af<=fuel->k<=i->i<=ops.size->(∀ j,j<ops.size->ES Af j=decide (j<i)) ->
 wpList X.C.P ops Q (ops.toList.drop i) a w->wpAny X.C.P .any ops Q fuel Af a w:=by
 intro fuel
 induction fuel with
 | zero =>
  intro i Af a w hs hu hk hi hd h;have Hf:i=ops.size:=by rcases Nat.lt_or_ge i ops.size with AP|JX<;>grind[Iv]
  subst Hf;rw[List.drop_eq_nil_of_le (by simp)]at h;refine⟨?_,h⟩;cases hrd:Region.ready .any ops Af with
  | nil=>rfl
  | cons j l =>
   have hj:j∈Region.ready .any ops Af:=by grind
   grind[Cj]
 | succ fuel ih =>
  intro i Af a w hs hu hk hi hd h;have AeS:∀ j∈Region.ready .any ops Af,j=i:=λj hj=>by
   obtain⟨h1,h2,h3⟩:=(Cj hs).1 hj;rw[hd j h1]at h2;have JX:i<=j:=by grind
   rcases Nat.lt_or_ge i j with AP|hle
   ·have hp:=P8 hr (D:=ES Af) (λq hq hD e he=>by
     rw[hd q hq]at hD;have:=hr.UJ q hq e he;grind) h1 h3 i (hr.tail j h1 (by omega) i AP)
    grind
   ·omega
  constructor
  ·intro h0;rcases Nat.lt_or_ge i ops.size with AP|JX
   ·have:i∈Region.ready .any ops Af:=(Cj hs).2 ⟨AP,by grind,λe he=>by
     have:=hr.UJ i AP e he;grind⟩
    grind
   ·have Hf:i=ops.size:=by omega
    subst Hf;rw[List.drop_eq_nil_of_le (by simp)]at h;exact h
  ·intro j hj;have gh:=AeS j hj;subst gh;obtain⟨AP,UO,_⟩:=(Cj hs).1 hj;have S5:ops[j]?=some ops[j]:=Array.getElem?_eq_getElem AP;rw[List.drop_eq_getElem_cons (by omega)]at h;have hw:wpOp X.C.P ops Q j (wpList X.C.P ops Q (ops.toList.drop (j+1))) a w:=by grind[wpOp,wpList]
   refine wpOp_mono (λa' w' h'=>ih (j+1) _ a' w' (by grind) (by grind[Jh]) (by omega) (by omega) (λq hq=>?_) h') hw;rw[Ff (by omega)];grind[Jk]
def SU(hA:A.ext=X.ext)(hX:∀ s∈X.ext,s%32=31)(hN:∀ o∈ops,∀ d,o.dst=some d->d<N)(hr:LR ops k tab)(hv:Valid X ops tab st0 res k)(N0:∀ j,j<k->(FC ops j).isSome=true)(hc:Closed ops D){i:Nat}(hi:i<k)(UO:D i=false)(hp:∀ p∈Ey tab i,D p=true)
 (hR:R X.C A N g (Q1 ops res st0 D k) a w) {K:Act->World->Prop} {Q:Exit->Act->World->Prop} (hK:∀ g' a' w',R X.C A N g' (Q1 ops res st0 (Jk i D) k) a' w'->K a' w'):wpOp X.C.P ops Q i K a w:=by
 obtain⟨o,ho,AeZ,bp⟩:=hv.op i hi;obtain⟨d,hd⟩:=Option.isSome_iff_exists.1 AeZ;have w9:FC ops i=some d:=by grind[FC]
 have hRr:=tt hr hv hc hi UO hp hR;have hdN:∀ d',o.dst=some d'->d'<N:=hN o (Array.mem_of_getElem? ho);unfold wpOp;simp[ho];rcases bp with ⟨hg,hG⟩|⟨⟨j,b,hg,xh⟩,N2⟩
 ·have hw:Region.wanted o (yielded ops a.tmps)=true:=by
   grind[Region.wanted,Nh]
  simp only[hw,if_true];refine .inl (hG A N g a w hRr K Q λu g' w' pE hx hu=>?_);have JR:∀ s,s∈A.ext->s∉(res i).T:=λs hs hT=>by
   have h7:=hX s (hA▸hs);have h8:=List.all_eq_true.1 (hv.ext i hi) s hT;grind
  have h1:=(hR.app pE JR hu).put hdN hx;obtain⟨f1,f2⟩:=wU hr hv N0 hc hi UO;refine hK g' _ w' (fI hr hv N0 hc hi UO hp w9 ?_);have e:(St.put o.dst (res i).x (St.app (res i).S (res i).T (res i).T (res i).H3 (Q1 ops res st0 D k)))=⟨(d,(res i).x)::(Q1 ops res st0 D k).tmps,(res i).H3++(Q1 ops res st0 D k).Aj⟩:=by
   simp only[hd,St.put,St.app];rw[f1,f2]
  grind
 ·have hw:Region.wanted o (yielded ops a.tmps)=false:=by
   rcases xh with ⟨b',hb,CZ⟩|hb
   ·simp[Region.wanted,hg,Nh hRr hb,CZ]
   grind[Region.wanted,SZ]
  simp only[hw,Bool.false_eq_true,if_false];refine hK g _ w (fI hr hv N0 hc hi UO hp w9 ?_);have h1:=hR.put (x:=.BC []) (u:=undef) hdN VI;rw[N2];rw[hd]at h1 ⊢;exact h1
def explore(hA:A.ext=X.ext)(hX:∀ s∈X.ext,s%32=31)(hN:∀ o∈ops,∀ d,o.dst=some d->d<N)(hr:LR ops k tab)(hv:Valid X ops tab st0 res k)(N0:∀ j,j<k->(FC ops j).isSome=true){Q:Exit->Act->World->Prop}
 (dH:∀ g a w,R X.C A N g (canon ops res st0 k) a w->wpList X.C.P ops Q (ops.toList.drop k) a w):∀ (fuel:Nat) (Af:Array Bool) (g:Gh) (a:Act) (w:World),Af.size=ops.size->XU Af<=fuel->Closed ops (ES Af)->(∀ j,j<ops.size->ES Af j=true->j<k) ->
 R X.C A N g (Q1 ops res st0 (ES Af) k) a w->wpAny X.C.P .any ops Q fuel Af a w:=by
 have hk:=hr.le;have full:∀ (fuel:Nat) (Af:Array Bool) (g:Gh) (a:Act) (w:World),Af.size=ops.size->XU Af<=fuel->(∀ j,j<ops.size->ES Af j=true->j<k)->(∀ j,j<k->ES Af j=true)->R X.C A N g (Q1 ops res st0 (ES Af) k) a w->wpAny X.C.P .any ops Q fuel Af a w:=by
  intro fuel Af g a w hs hu AP Ka hR;have e:Q1 ops res st0 (ES Af) k=canon ops res st0 k:=by
   simp only[Q1,canon];rw[MM (res:=res) (res':=res) (D:=ES Af) (D':=λ_=>true) k λj hj=>⟨rfl,Ka j hj⟩,Ms (res:=res) (res':=res) (D:=ES Af) (D':=λ_=>true) k λj hj=>⟨rfl,Ka j hj⟩]
  rw[e]at hR;refine dj hr fuel k Af a w hs hu (Nat.le_refl _) hk (λj hj=>?_) (dH g a w hR);grind
 intro fuel
 induction fuel with
 | zero =>
  grind[Iv]
 | succ fuel ih =>
  intro Af g a w hs hu hc AP hR
  by_cases Ka:∀ j,j<k->ES Af j=true
  ·grind
  ·have step:∀ i∈Region.ready .any ops Af,wpOp X.C.P ops Q i (wpAny X.C.P .any ops Q fuel (Af.setIfInBounds i true)) a w:=λi hi=>by
    obtain⟨h1,h2,h3⟩:=(Cj hs).1 hi;have hp:=P8 hr hc h1 h3;have iG:i<k:=by
     rcases Nat.lt_or_ge i k with h|h
     ·exact h
     ·exact(Ka λj hj=>hp j (hr.tail i h1 h j (by omega))).elim
    refine SU hA hX hN hr hv N0 hc iG h2 hp hR λg' a' w' WC=>?_
    rw[<- Ff (by omega)]at WC;refine ih _ g' a' w' (by grind) (by grind[Jh]) (by grind[Ff,M1]) (λj hj hD=>?_) WC;rw[Ff (by omega)]at hD;grind[Jk]
   refine⟨λh0=>?_,step⟩;have hex:∃ j,j<k/\ES Af j=false:=by grind
   have least:∀ n j,j<k->ES Af j=false->j<=n->∃ i,i<k/\i∈Region.ready .any ops Af:=by
    intro n
    induction n with
    | zero =>
     intro j hj hd hjn;have:j=0:=by omega
     subst this;exact⟨0,hj,(Cj hs).2 ⟨by omega,hd,λe he=>by have:=hr.UJ 0 (by omega) e he;omega⟩⟩
    | succ n ihn =>
     intro j hj hd hjn
     by_cases hed:∀ e∈BL ops j,ES Af e=true
     ·exact⟨j,hj,(Cj hs).2 ⟨by omega,hd,hed⟩⟩
     ·have:∃ e,e∈BL ops j/\ES Af e=false:=by
       grind
      obtain⟨e,he,hde⟩:=this;have:=hr.UJ j (by omega) e he;grind
   obtain⟨j,hj,hd⟩:=hex;obtain⟨i,_,hi⟩:=least k j hj hd (by omega);grind
end
theorem We{X:Env}{ops:Array Oper}{K:St->Prop}{st:St}(k:Nat)(tab:List (List Nat × List Nat))(hm:X.C.P.follows .mixedOrders=true)(CC:Xt ops k tab=true)
 (h:GH X ops st.Aj (ops.toList.take k) tab 0 [] (Bw X ops (ops.toList.drop k) K) st):Lj X ops K st:=by
 intro A N g a w hA hN hX hR id Q hQ;have hr:=Xt.spec CC;have hk:=hr.le;have hlen:(ops.toList.take k).length=k:=by grind
 obtain⟨res,hv,hK⟩:=OF (X:=X) (st0:=st) (ops:=ops) (tab:=tab) (ops.toList.take k) tab 0 [] (λ_=>⟨.undef,[],[],[]⟩) (λj o hj=>by grind) (λj q hj=>by grind) ⟨λi hi=>by omega,λi hi=>by omega,λi hi=>by omega,λi hi=>by omega,λi j _ hj=>by omega⟩ (λi hi=>by omega) h;rw[hlen,Nat.zero_add]at hv hK;have N0:∀ j,j<k->(FC ops j).isSome=true:=λj hj=>by
  obtain⟨o,ho,hd,_⟩:=hv.op j hj;grind[FC]
 refine wp_region_any hm (explore hA hX hN hr hv N0 (λg' a' w' WC=>?_) ops.size (Array.replicate ops.size false) g a _ (by simp) (by simp[XU]) ?_ ?_ ?_)
 ·grind[QV,KS]
 ·intro i hi hD;simp_all[ES]
 ·simp_all[ES]
 ·have e:Q1 ops res st (ES (Array.replicate ops.size false)) k=st:=by
   have hf:∀ j,j<k->ES (Array.replicate ops.size false) j=false:=λj hj=>by simp_all[ES,Array.getD]
   have h1:P2 (FC ops) res (ES (Array.replicate ops.size false)) st.tmps k=st.tmps:=by rw[Sm (i:=0) k (by omega) λj _ hj=>hf j hj];rfl
   have h2:∀ n,n<=k->R5 res (ES (Array.replicate ops.size false)) st.Aj n=st.Aj:=λn=>by
    induction n with
    | zero=>intro _;rfl
    | succ n ih=>intro hn;simp[R5,hf n (by omega),Bool.false_eq_true,if_false];grind
   simp_all[Q1]
  rw[e];exact hR.drew
end Go.Abs
namespace Go.Abs
def Ep{X:Env}{ops:Array Oper}{K:St->Prop}{st st':St}(h:AT X st st')(hd:Lj X ops K st'):Lj X ops K st:=λA N g a w hA hN hX hR id Q hQ=>by
 obtain⟨g',WC⟩:=h A N g a w hA hR;exact hd A N g' a w hA hN hX WC id Q hQ
def Q8(P:Program)(t t2:TypeId)(x y:AV):Option AV:=match x,Cs P t with
 |.sl .full m es,some (_,n,_)=>match elems n y with
  |some fs=>if m=n/\AZ P t2=true/\es.length+fs.length<=4294967296 then some (.sl .no n (es++fs)) else none
  |none=>none
 |_,_=>none
section
variable {C:Ctx} {A:A0} {N:Nat} {g g':Gh} {st:St} {a:Act} {w w':World} {P:Program}
def wX(g:Gh)(w:World)(o:Obj):Grow [] [] [] g w { g with own:=λx=>if x=w.heap.size then .ro else g.own x } (w.drew.alloc o) where
 ro:=λb hb h=>⟨by grind,At w.drew o b hb⟩
 row:=λb q hb _ h=>⟨by grind,At w.drew o b hb⟩
 rows:=λ_ _=>rfl
 boxes:=λ_ _=>rfl
 os:=rfl
 tape:=⟨rfl,by simp⟩
 output:=rfl
 size:=by simp
 other:=λb hb h=>⟨by grind,At w.drew o b hb⟩
 kept:=λs _ _ h hb=>⟨by grind,At w.drew o _ hb⟩
def pV{o:Oper}{x y:Operand}{t t2:TypeId}{z:AV}(ho:o.op=.call { callee:=.builtin .append,args:=#[x,y],argTypes:=#[t,t2] })(h:Q8 C.P t t2 (ev C st x) (ev C st y)=some z):yu C o st z [] [] [] []:=by
 intro A N g a w hR K Q hk;unfold Q8 at h;split at h
 ·rename_i m es e n b hx hr;split at h
  ·rename_i fs Su;split at h
   ·rename_i hc;obtain⟨rfl,IE,nP⟩:=hc;simp at h;subst h;obtain⟨hu,i,zv,hi,hz,cm,Hb,Qu,hn,hb⟩:=FJ hr;subst Hb;obtain⟨consts,he⟩:=M5 a ho;have zh:=hR.ev x;rw[hx]at zh;obtain⟨vs,sy,py,ly⟩:=L1 hn Su (hR.ev y);obtain⟨us,sx,px,lx⟩:=L1 (n:=i.size) (es:=es) hn (by simp[elems]) zh;have hp:=zh;simp only[VR,PR]at hp;obtain⟨_,ad,cap,uH,k2,k3,k4,k5,k6⟩:=hp;have dy:=k4 trivial;subst dy;have YZ:∀ u w',(Builtin.append_ #[t,t2] o.type #[a.eval x,a.eval y]).run C.P w=.ok u w'->Does C.P o a w u w':=λu w' GI=>Kg he (by grind)
    by_cases hm:fs.length=0
    ·have hf:fs=[]:=List.eq_nil_of_length_eq_zero hm;subst hf;have hv0:vs=[]:=List.eq_nil_of_length_eq_zero (by simpa using sy.1);subst hv0;rw[uH]at YZ;refine(YZ _ _ (JV hu IE hi sy k2)).wp (hk _ g w (Grow.refl g w) ?_ (λs cs hs=>by cases hs));rw[List.append_nil,<- uH];exact Ci.full _ _ _ zh
    ·have S2:(es.length+fs.length)*i.bytes<=140737488355328:=by
      have:(es.length+fs.length)*i.bytes<=4294967296*32768:=Nat.mul_le_mul nP (by omega);omega
     have GI:=Iu (ty:=o.type) hu IE hi hz (base:=ad) (sLen:=es.length) (sCap:=es.length) (olds:=us) (uH▸sx) sy (by omega) (Nat.le_refl _) S2 (by omega);rw[uH]at YZ;have pE:=wX g w (.cells (us.toArray++vs.toArray++Builtin.zeroCells zv.cells (grownCap w (es.length+fs.length) es.length e-(es.length+fs.length))) e);refine(YZ _ _ GI).wp (hk _ _ _ pE ?_ (λs cs hs=>by cases hs));simp only[VR,PR];refine⟨(λ_ _ h=>by cases h),some ⟨w.heap.size,0,none⟩,grownCap w (es.length+fs.length) es.length e,by simp,by grind[grownCap_ge],grownCap_le_maxLen w _ _ e (by grind[maxLen]),(λh=>by cases h),k5,.inr ⟨⟨w.heap.size,0,none⟩,rfl,by simp[CK],?_⟩⟩;refine Ea.FO (es++fs) (us++vs) _ _ 0 (λe' nT=>(List.mem_append.1 nT).elim (lx e') (ly e')) ?_ ?_
     ·rw[List.flatten_append];exact CR.append (CR.mono pE.QX px) (CR.mono pE.QX py)
     ·intro j v hj;simp only[Nat.zero_mul,Nat.zero_add,add_lit];have hh:(w.drew.alloc (.cells (us.toArray++vs.toArray++Builtin.zeroCells zv.cells (grownCap w (es.length+fs.length) es.length e-(es.length+fs.length))) e)).heap[w.heap.size]?=some (.cells (us.toArray++vs.toArray++Builtin.zeroCells zv.cells (grownCap w (es.length+fs.length) es.length e-(es.length+fs.length))) e):=heap_alloc_new w.drew _;rw[cell_of_row _ _ _ _ _ _ hh];grind
   grind
  grind
 grind
def bD(n len:Nat)(zs:List Value)(parts:List (Nat × AV)):Option AV :=
 match Oy (λi=>some (i*n,n)) (List.replicate len (vals zs)).flatten parts with
 |some L=>match P9 L with
  |some ps=>if DD L=true/\ps.length=len*n/\len*n<=16777216/\rowsOf L=[] then some (.sl .full n (chunk n len ps)) else none
  |none=>none
 |none=>none
def sm(P:Program)(t:TypeId)(len:Nat)(parts:List (Nat × AV)):Option AV:=match Cs P t with
 |some (e,n,_)=>match zeroOf P e with
  |some zs=>bD n len zs parts
  |none=>none
 |none=>none
def X5(g:Gh):g.freeze []=g:=by
 cases g;simp[Gh.freeze];grind
def sn{o:Oper}{t:TypeId}{len:Nat}{ps:Array (Nat × Operand)}{z:AV}(ho:o.op=.buildSlice t len ps)(h:sm C.P t len (parts C st ps)=some z):yu C o st z [] [] [] []:=by
 intro A N g a w hR K Q hk;unfold sm at h;split at h
 ·rename_i e n b ht;split at h
  ·rename_i zs cm;obtain⟨hu,i,zv,hi,hz,Afb,Hb,Qu,hn,hb⟩:=FJ ht;have pK:=JM cm hi hz;have Yx:zs.length=n:=by grind
   have og:=Pj hR ps;have iJ:(parts C st ps).map (·.1)=(ps.toList.map λp=>(p.1,a.eval p.2)).map (·.1):=by simp[parts]
   have hex:=NL a ho;generalize parts C st ps=pa at h iJ og;generalize (ps.toList.map λp=>(p.1,a.eval p.2))=pv at iJ og hex;unfold bD at h;split at h
   ·rename_i L hL;have hz0:Bf g w (List.replicate len (vals zs)).flatten (List.replicate len zs).flatten:=by
     have:∀ m:Nat,Bf g w (List.replicate m (vals zs)).flatten (List.replicate m zs).flatten:=by
      intro m
      induction m<;>grind[Bf,Bf.append,Kv]
     grind
    have Ahi:((Array.range (len*n)).map (zv.cells[·%zv.cells.size]!)).toList=(List.replicate len zs).flatten:=by
     apply List.ext_getElem?;intro j;cases hj:(List.replicate len zs).flatten[j]? with
     |none =>
      simp_all
     |some v =>
      obtain⟨h1,h2⟩:=DN zs _ _ _ hj;grind
    obtain⟨cur,hf,nS⟩:=Nd (λi=>some (i*n,n)) pa pv _ ((Array.range (len*n)).map (zv.cells[·%zv.cells.size]!)) L iJ og (by grind) hL;split at h
    ·rename_i qs iL;split at h
     ·rename_i hc;obtain⟨CC,Sv,nP,AjR⟩:=hc;simp at h;subst h;obtain⟨c1,c2,c3⟩:=SG n len qs Sv;have Vq:=Sa (S:=[]) nS iL (λr hr=>by grind) CC;rw[X5]at Vq;have pD:Instr.fill (λi=>some (i*n,n)) (if len*n=0 then #[] else (Array.range (len*n)).map (zv.cells[·%zv.cells.size]!)) pv=some cur:=by grind
      have GI:(Instr.buildSlice t len pv.toArray).run C.P w=.ok (.slice (some ⟨w.heap.size,0,none⟩) len len) (w.alloc (.cells cur e)):=by
       by_cases h0:len*n=0
       ·simp[h0]at pD;simp[Instr.buildSlice,run_underlying hu,sizeOf,typeInfo,hi,Hb,h0,Array.range_zero',pD,newRow]
       ·simp[h0]at pD;simp[Instr.buildSlice,run_underlying hu,sizeOf,typeInfo,hi,Hb,h0,zeroValue,hz,pD,newRow];omega
      have pE:Grow [] [] [] g w { g with own:=λx=>if x=w.heap.size then .ro else g.own x } (w.alloc (.cells cur e)) :=
       { ro:=λb hb h=>⟨by grind,At w _ b hb⟩
         row:=λb q hb _ h=>⟨by grind,At w _ b hb⟩
         rows:=λ_ _=>rfl
         boxes:=λ_ _=>rfl
         os:=rfl
         tape:=⟨rfl,by simp⟩
         output:=rfl
         size:=by simp
         other:=λb hb h=>⟨by grind,At w _ b hb⟩
         kept:=λs _ _ h hb=>⟨by grind,At w _ _ hb⟩ }
      refine(Kg hex GI).wp (hk _ _ _ pE ?_ (λs cs hs=>by cases hs));simp only[VR,PR,c1];refine⟨(λ_ _ h=>by cases h),some ⟨w.heap.size,0,none⟩,len,rfl,Nat.le_refl _,by simp only[maxLen];have:=Nat.le_mul_of_pos_right len hn;omega,(λ_=>rfl),hn,.inr ⟨⟨w.heap.size,0,none⟩,rfl,by simp[CK],?_⟩⟩;refine Ea.FO _ cur.toList _ _ 0 c2 (by rw[c3];exact CR.mono pE.QX Vq) ?_;simp_all[add_lit]
     grind
    grind
   grind
  grind
 grind
end
end Go.Abs
