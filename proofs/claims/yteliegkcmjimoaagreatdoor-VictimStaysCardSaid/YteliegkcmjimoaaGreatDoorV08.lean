/- part 8 of the proof -/
import Derived.Still
import Derived.Test.YteliegkcmjimoaaGreatDoorV07
set_option linter.all false
namespace Go.Abs
structure Bo where
 x:AV
 S:List Nat
 T:List Nat
 GY:List (Nat × List AV)
def NR(dst:Nat->Option Nat)(res:Nat->Bo)(D:Nat->Bool)(base:List (Nat × AV)):Nat->List (Nat × AV)
 | 0=>base
 | j+1=>match D j,dst j with
  | true,some d=>(d,(res j).x)::NR dst res D base j
  |_,_=>NR dst res D base j
def OZ(res:Nat->Bo)(D:Nat->Bool)(base:List (Nat × List AV)):Nat->List (Nat × List AV)
 | 0=>base
 | j+1=>if D j then (res j).GY++OZ res D base j else OZ res D base j
def Bq(ops:Array Oper)(i:Nat):List Nat:=match ops[i]? with
 |some o=>o.after.toList.filterMap λe=>if Region.binds .any e then some e.on else none
 |none=>[]
def DX(tab:List (List Nat × List Nat))(i:Nat):List Nat:=(tab.getD i ([],[])).1
def IE(tab:List (List Nat × List Nat))(i:Nat):List Nat:=(tab.getD i ([],[])).2
def Ek(ops:Array Oper)(i:Nat):Option Nat:=(ops[i]?).bind (·.dst)
def pW(d:Option Nat)(l:List Nat):Bool:=match d with
 |some t=>l.contains t
 |none=>false
def clash(ops:Array Oper)(tab:List (List Nat × List Nat))(i j:Nat):Bool :=
 (match Ek ops i,Ek ops j with
 |some d,some e=>d==e
 |_,_=>false)||pW (Ek ops j) (IE tab i)||pW (Ek ops i) (IE tab j)
def UA(ops:Array Oper)(k:Nat)(tab:List (List Nat × List Nat)):Bool :=
 decide (k<=ops.size)&&(List.range ops.size).all (λi=>(Bq ops i).all (λe=>decide (e<i)) &&
  (DX tab i).all (λp=>(Bq ops i).any λe=>p==e||(DX tab e).contains p) &&
  (decide (i<k)||(List.range i).all λj=>(DX tab i).contains j)) &&
 (List.range k).all λi=>(List.range i).all λj=>(DX tab i).contains j||!(clash ops tab i j)
structure Kl(ops:Array Oper)(k:Nat)(tab:List (List Nat × List Nat)):Prop where
 le:k<=ops.size
 Se:∀ i,i<ops.size->∀ e∈Bq ops i,e<i
 pred:∀ i,i<ops.size->∀ p∈DX tab i,∃ e∈Bq ops i,p=e\/p∈DX tab e
 tail:∀ i,i<ops.size->k<=i->∀ j,j<i->j∈DX tab i
 apart:∀ i j,i<k->j<i->j∈DX tab i\/clash ops tab i j=false
def UA.spec{ops:Array Oper}{k:Nat}{tab:List (List Nat × List Nat)}(h:UA ops k tab=true):Kl ops k tab:=by
 simp only[UA,Bool.and_eq_true,decide_eq_true_eq,List.all_eq_true,List.mem_range,Bool.or_eq_true,List.any_eq_true,List.contains_iff_mem,beq_iff_eq,Bool.not_eq_true']at h;obtain⟨⟨h1,h2⟩,h3⟩:=h;exact⟨h1,λi hi=>(h2 i hi).1.1,λi hi=>(h2 i hi).1.2,λi hi hk j hj=>((h2 i hi).2.resolve_left (by omega)) j hj,λi j hi hj=>h3 i hi j hj⟩
def Closed(ops:Array Oper)(D:Nat->Bool):Prop:=∀ i,i<ops.size->D i=true->∀ e∈Bq ops i,D e=true
section
variable {ops:Array Oper} {k:Nat} {tab:List (List Nat × List Nat)} {D:Nat->Bool}
def Closed.pred(hr:Kl ops k tab)(hc:Closed ops D):∀ i,i<ops.size->D i=true->∀ p∈DX tab i,D p=true:=by
 intro i
 induction i using Nat.strongRecOn with
 |_ i ih =>
  intro hi hd p hp;obtain⟨e,he,h|h⟩:=hr.pred i hi p hp
  ·subst h;exact hc i hi hd _ he
  ·have Au:=hr.Se i hi e he;exact ih e Au (by omega) (hc i hi hd e he) p h
def N4(hr:Kl ops k tab)(hc:Closed ops D){i:Nat}(hi:i<ops.size)(hd:∀ e∈Bq ops i,D e=true):∀ p∈DX tab i,D p=true:=by
 intro p hp;obtain⟨e,he,h|h⟩:=hr.pred i hi p hp
 ·subst h;exact hd _ he
 ·exact hc.pred hr e (by have:=hr.Se i hi e he;omega) (hd e he) p h
variable {dst:Nat->Option Nat} {res res':Nat->Bo} {base:List (Nat × AV)} {N2:List (Nat × List AV)}
def K6{D D':Nat->Bool}:∀ n,(∀ j,j<n->res j=res' j/\D j=D' j)->NR dst res D base n=NR dst res' D' base n
 | 0,_=>rfl
 | n+1,h=>by
  simp only[NR,(h n (by omega)).1,(h n (by omega)).2];rw[K6 n λj hj=>h j (by omega)]
def KP{D D':Nat->Bool}:∀ n,(∀ j,j<n->res j=res' j/\D j=D' j)->OZ res D N2 n=OZ res' D' N2 n
 | 0,_=>rfl
 | n+1,h=>by
  simp only[OZ,(h n (by omega)).1,(h n (by omega)).2];rw[KP n λj hj=>h j (by omega)]
def Uf{D D':Nat->Bool}{t:Nat}:∀ n,(∀ j,j<n->dst j=some t->D j=D' j)->lk t (NR dst res D base n)=lk t (NR dst res D' base n)
 | 0,_=>rfl
 | n+1,h=>by
  have ih:=Uf (D:=D) (D':=D') (t:=t) n λj hj=>h j (by omega)
  cases hd:dst n with
  |none=>cases h1:D n<;>cases h2:D' n<;>simp only[NR,hd,h1,h2]<;>exact ih
  |some d =>
   by_cases eF:d=t
   ·have:=h n (by omega) (by rw[hd,eF]);cases h1:D n<;>rw[h1]at this<;>simp only[NR,hd,h1,<- this]
    ·exact ih
    ·simp[lk,eF]
   ·cases h1:D n<;>cases h2:D' n<;>simp only[NR,hd,h1,h2,lk,eF,if_false]<;>exact ih
def Qn{i:Nat}:∀ n,i<=n->(∀ j,i<=j->j<n->D j=false)->NR dst res D base n=NR dst res D base i
 | 0,h,_=>by have:i=0:=by omega
             rw[this]
 | n+1,h,hd=>by
  by_cases hi:i=n+1
  ·rw[hi]
  ·have:=hd n (by omega) (by omega);simp only[NR,this];exact Qn n (by omega) λj h1 h2=>hd j h1 (by omega)
def H3(i:Nat)(D:Nat->Bool)(j:Nat):Bool:=if j=i then true else D j
def LW{i t:Nat}(ru:dst i=some t):∀ n,i<n->(∀ j,i<j->j<n->D j=true->dst j≠some t)->lk t (NR dst res (H3 i D) base n)=some (res i).x
 | 0,h,_=>by omega
 | n+1,h,Qr=>by
  by_cases HT:i=n
  ·subst HT;simp[NR,H3,ru,lk]
  ·have ih:=LW ru n (by omega) λj h1 h2=>Qr j h1 (by omega)
   have hn:H3 i D n=D n:=by simp[H3,Ne.symm HT]
   simp only[NR,hn];cases h1:D n with
   | false=>simpa using ih
   | true =>
    have:=Qr n (by omega) (by omega) h1;cases hd:dst n with
    |none=>simpa using ih
    |some d =>
     have eF:d≠t:=λe=>this (by rw[hd,e])
     simp only[lk,eF,if_false];exact ih
def Ue{i s:Nat}(hi:D i=false):∀ n,i<n->(∀ c,lk s (res i).GY=some c->∀ j,j≠i->j<n->D j=true->lk s (res j).GY=none) ->
 lk s (OZ res (H3 i D) N2 n)=(lk s (res i).GY).or (lk s (OZ res D N2 n))
 | 0,h,_=>by omega
 | n+1,h,Qr=>by
  by_cases HT:i=n
  ·subst HT;have h1:OZ res (H3 i D) N2 i=OZ res D N2 i:=KP i λj hj=>⟨rfl,by simp[H3,Nat.ne_of_lt hj]⟩
   simp only[OZ,H3,if_true,hi,Bool.false_eq_true,if_false,HJ];rw[<- h1]
  ·have ih:=Ue (s:=s) hi n (by omega) λc hc j h1 h2=>Qr c hc j h1 (by omega)
   have hn:H3 i D n=D n:=by simp[H3,Ne.symm HT]
   simp only[OZ,hn];cases h1:D n with
   | false=>simpa using ih
   | true =>
    simp only[if_true,HJ,ih];cases hs:lk s (res i).GY with
    |none=>simp
    |some c =>
     have:=Qr c hs n (Ne.symm HT) (by omega) h1;simp[this]
def Mx(S T:List Nat)(l:List (Nat × AV)):Prop:=MH S T l=l
def Gb(S T:List Nat)(l:List (Nat × List AV)):Prop:=IB S T (H4 T l)=l
def VT{S T:List Nat}{p:Nat × AV}{l:List (Nat × AV)}:Mx S T (p::l)↔p.2.kill S T=p.2/\Mx S T l:=by
 obtain⟨k,x⟩:=p;simp only[Mx,MH,List.cons.injEq,Prod.mk.injEq,true_and]
def Wh(S T:List Nat):∀ l:List (Nat × List AV),(IB S T (H4 T l)).length<=l.length
 |[]=>by simp[H4,IB]
 |(k,x)::l=>by
  have:=Wh S T l;simp only[H4];split
  ·simp;omega
  ·rename_i hk;simp[IB,hk];omega
def VS{S T:List Nat}{p:Nat × List AV}{l:List (Nat × List AV)}:Gb S T (p::l)↔p.1∉T/\EK S T p.2=p.2/\Gb S T l:=by
 obtain⟨k,x⟩:=p;simp only[Gb,H4]
 by_cases hk:k∈T
 ·simp only[hk,if_true,not_true_eq_false,false_and,iff_false];intro h;have:=Wh S T l;rw[h]at this;simp at this;omega
 ·simp[hk,IB]
def RO{S T:List Nat}{l m:List (Nat × List AV)}:Gb S T (l++m)↔Gb S T l/\Gb S T m:=by
 induction l with
 | nil=>simp[Gb,H4,IB]
 | cons p l ih =>
  simp only[List.cons_append,VS,ih];constructor
  ·rintro⟨h1,h2,h3,h4⟩;exact⟨⟨h1,h2,h3⟩,h4⟩
  ·rintro⟨⟨h1,h2,h3⟩,h4⟩;exact⟨h1,h2,h3,h4⟩
def OC{S T:List Nat}:∀ {l:List (Nat × List AV)},Gb S T l->∀ s∈T,lk s l=none
 |[],_,_,_=>rfl
 |(k,x)::l,h,s,hs=>by
  obtain⟨h1,_,h3⟩:=VS.1 h;have:k≠s:=λe=>h1 (by rw[e];exact hs)
  simp only[lk,this,if_false];exact OC h3 s hs
def Zl{S T:List Nat}:∀ n,Mx S T base->(∀ j,j<n->D j=true->(res j).x.kill S T=(res j).x)->Mx S T (NR dst res D base n)
 | 0,h,_=>h
 | n+1,h,hj=>by
  have ih:=Zl n h λj h1=>hj j (by omega)
  cases h1:D n with
  | false=>simpa [NR,h1]using ih
  | true =>
   cases hd:dst n with
   |none=>simpa [NR,h1,hd]using ih
   |some d=>simp only[NR,h1,hd];exact VT.2 ⟨hj n (by omega) h1,ih⟩
def Zk{S T:List Nat}:∀ n,Gb S T N2->(∀ j,j<n->D j=true->Gb S T (res j).GY)->Gb S T (OZ res D N2 n)
 | 0,h,_=>h
 | n+1,h,hj=>by
  have ih:=Zk n h λj h1=>hj j (by omega)
  cases h1:D n with
  | false=>simpa [OZ,h1]using ih
  | true=>simp only[OZ,h1,if_true];exact RO.2 ⟨hj n (by omega) h1,ih⟩
def Mz{S T:List Nat}:∀ n,Mx S T (NR dst res (λ_=>true) base n)->Mx S T base/\∀ j,j<n->(dst j).isSome=true->(res j).x.kill S T=(res j).x
 | 0,h=>⟨h,λj hj=>by omega⟩
 | n+1,h=>by
  cases hd:dst n with
  |none =>
   simp only[NR,hd]at h;obtain⟨h1,h2⟩:=Mz n h;exact⟨h1,λj hj hs=>if e:j=n then by subst e;simp[hd]at hs else h2 j (by omega) hs⟩
  |some d =>
   simp only[NR,hd]at h;obtain⟨h0,h'⟩:=VT.1 h;obtain⟨h1,h2⟩:=Mz n h';exact⟨h1,λj hj hs=>if e:j=n then by subst e;exact h0 else h2 j (by omega) hs⟩
def JL{S T:List Nat}:∀ n,Gb S T (OZ res (λ_=>true) N2 n)->Gb S T N2/\∀ j,j<n->Gb S T (res j).GY
 | 0,h=>⟨h,λj hj=>by omega⟩
 | n+1,h=>by
  simp only[OZ,if_true]at h;obtain⟨h0,h'⟩:=RO.1 h;obtain⟨h1,h2⟩:=JL n h';exact⟨h1,λj hj=>if e:j=n then by subst e;exact h0 else h2 j (by omega)⟩
end
end Go.Abs
namespace Go.Abs
def restr(st:St):List Nat->List (Nat × AV)
 |[]=>[]
 | t::ts=>match lk t st.tmps with
  |some x=>(t,x)::restr st ts
  |none=>restr st ts
def away(cr:List (Nat × List Nat × List Nat))(p:List Nat)(r:Bo):Prop:=match cr with
 |[]=>True
 |(i,S,T)::l=>(i∈p\/(r.x.kill S T=r.x/\Gb S T r.GY))/\away l p r
def Ir(i:Nat)(r:Bo)(cr:List (Nat × List Nat × List Nat)):List (Nat × List Nat × List Nat):=match r.S,r.T with
 |[],[]=>cr
 | S,T=>(i,S,T)::cr
def Ls(X:Env)(o:Oper)(r st:St)(p:List Nat)(cr:List (Nat × List Nat × List Nat))(K:Bo->Prop):Prop :=
 ∃ e:Bo,qP X.C o r e.x e.S e.T e.T e.GY/\(e.T.all λs=>s%32 !=31)=true/\(∀ s∈names e.GY,s∈e.T)/\Mx e.S e.T st.tmps/\Gb e.S e.T st.Ah/\away cr p e/\K e
def yJ(b:Bool)(y:Option AV):Prop:=(∃ b',y=some (.v (.bool b'))/\b'≠b)\/y=some (.Bl [])
def FG(X:Env)(all:Array Oper)(Ah:List (Nat × List AV)):List Oper->List (List Nat × List Nat)->Nat->List (Nat × List Nat × List Nat)->(St->Prop)->St->Prop
 |[],_,_,_,K,st=>K st
 |_::_,[],_,_,_,_=>False
 | o::os,(p,ts)::tab,i,cr,K,st =>
  let run:=λst:St=>Ls X o ⟨restr st ts,Ah⟩ st p cr λe=>o.dst.isSome=true/\FG X all Ah os tab (i+1) (Ir i e cr) K ⟨(St.put o.dst e.x st).tmps,e.GY++st.Ah⟩
  match o.guard with
  |none=>run st
  |some (j,b)=>match guardOf all j ⟨restr st ts,Ah⟩ with
   |some (.v (.bool b'))=>FT b' b (run (st.learn (gdst all j) b)) (o.dst.isSome=true/\away cr p ⟨.Bl [],[],[],[]⟩/\FG X all Ah os tab (i+1) cr K ((st.learn (gdst all j) (!b)).put o.dst (.Bl [])))
   |some (.Bl [])=>o.dst.isSome=true/\away cr p ⟨.Bl [],[],[],[]⟩/\FG X all Ah os tab (i+1) cr K (st.put o.dst (.Bl []))
   |_=>False
def Q6{st:St}{t:Nat}{x:AV}:∀ {ts:List Nat},lk t (restr st ts)=some x->lk t st.tmps=some x
 |[],h=>by cases h
 | u::ts,h=>by
  simp only[restr]at h;split at h
  ·rename_i y hy;simp only[lk]at h;split at h
   ·rename_i hut;subst hut;rw[hy];exact h
   ·exact Q6 h
  ·exact Q6 h
def R0{all:Array Oper}{j:Nat}{st:St}{ts:List Nat}{Ah:List (Nat × List AV)}{b:Bool}(h:guardOf all j ⟨restr st ts,Ah⟩=some (.v (.bool b))):st.learn (gdst all j) b=st:=by
 apply Ji;unfold guardOf at h ⊢;obtain⟨d,h1,h2⟩:=Option.bind_eq_some_iff.1 h;rw[h1];exact Q6 h2
section
variable {X:Env} {A:A0} {N:Nat} {g:Gh} {st0:St} {a:Act} {w:World} {ops:Array Oper} {k:Nat} {tab:List (List Nat × List Nat)}
def canon(ops:Array Oper)(res:Nat->Bo)(st0:St)(n:Nat):St:=⟨NR (Ek ops) res (λ_=>true) st0.tmps n,OZ res (λ_=>true) st0.Ah n⟩
def OU(ops:Array Oper)(res:Nat->Bo)(st0:St)(D:Nat->Bool)(n:Nat):St:=⟨NR (Ek ops) res D st0.tmps n,OZ res D st0.Ah n⟩
structure Valid(X:Env)(ops:Array Oper)(tab:List (List Nat × List Nat))(st0:St)(res:Nat->Bo)(n:Nat):Prop where
 op:∀ i,i<n->∃ o,ops[i]?=some o/\o.dst.isSome=true /\
  (((o.guard=none\/∃ j b,o.guard=some (j,b)/\guardOf ops j ⟨restr (canon ops res st0 i) (IE tab i),st0.Ah⟩=some (.v (.bool b))) /\
    qP X.C o ⟨restr (canon ops res st0 i) (IE tab i),st0.Ah⟩ (res i).x (res i).S (res i).T (res i).T (res i).GY) \/
  ((∃ j b,o.guard=some (j,b)/\yJ b (guardOf ops j ⟨restr (canon ops res st0 i) (IE tab i),st0.Ah⟩))/\res i=⟨.Bl [],[],[],[]⟩))
 ext:∀ i,i<n->((res i).T.all λs=>s%32 !=31)=true
 nam:∀ i,i<n->∀ s∈names (res i).GY,s∈(res i).T
 fix:∀ i,i<n->Mx (res i).S (res i).T (canon ops res st0 i).tmps/\Gb (res i).S (res i).T (canon ops res st0 i).Ah
 away:∀ i j,i<j->j<n->i∈DX tab j\/((res j).x.kill (res i).S (res i).T=(res j).x/\Gb (res i).S (res i).T (res j).GY)
def Fi(res:Nat->Bo)(n:Nat)(e:Bo)(i:Nat):Bo:=if i=n then e else res i
def YZ{res res':Nat->Bo}{n:Nat}(h:∀ j,j<n->res j=res' j):canon ops res st0 n=canon ops res' st0 n:=by
 simp only[canon];rw[K6 n λj hj=>⟨h j hj,rfl⟩,KP n λj hj=>⟨h j hj,rfl⟩]
def My(l:List (Nat × AV)):Mx [] [] l:=KE l
def Kz(l:List (Nat × List AV)):Gb [] [] l:=by simp[Gb,Nh,KD]
def Valid.snoc{res:Nat->Bo}{n:Nat}(hv:Valid X ops tab st0 res n)(e:Bo){o:Oper}(ho:ops[n]?=some o)(hd:o.dst.isSome=true)
 (h1:((o.guard=none\/∃ j b,o.guard=some (j,b)/\guardOf ops j ⟨restr (canon ops res st0 n) (IE tab n),st0.Ah⟩=some (.v (.bool b))) /\
  qP X.C o ⟨restr (canon ops res st0 n) (IE tab n),st0.Ah⟩ e.x e.S e.T e.T e.GY) \/
 ((∃ j b,o.guard=some (j,b)/\yJ b (guardOf ops j ⟨restr (canon ops res st0 n) (IE tab n),st0.Ah⟩))/\e=⟨.Bl [],[],[],[]⟩))
 (h2:(e.T.all λs=>s%32 !=31)=true) (h3:∀ s∈names e.GY,s∈e.T) (h4:Mx e.S e.T (canon ops res st0 n).tmps/\Gb e.S e.T (canon ops res st0 n).Ah)
 (h5:∀ i,i<n->i∈DX tab n\/(e.x.kill (res i).S (res i).T=e.x/\Gb (res i).S (res i).T e.GY)):Valid X ops tab st0 (Fi res n e) (n+1):=by
 have Au:∀ j,j<n->Fi res n e j=res j:=λj hj=>by simp[Fi,Nat.ne_of_lt hj]
 have heq:Fi res n e n=e:=by simp[Fi]
 have xH:∀ i,i<=n->canon ops (Fi res n e) st0 i=canon ops res st0 i:=λi hi=>YZ λj hj=>Au j (by omega)
 refine⟨λi hi=>?_,λi hi=>?_,λi hi=>?_,λi hi=>?_,λi j Sg hj=>?_⟩
 ·rw[xH i (by omega)]
  by_cases HT:i=n
  ·subst HT;rw[heq];exact⟨o,ho,hd,h1⟩
  ·rw[Au i (by omega)];exact hv.op i (by omega)
 ·by_cases HT:i=n
  ·subst HT;rw[heq];exact h2
  ·rw[Au i (by omega)];exact hv.ext i (by omega)
 ·by_cases HT:i=n
  ·subst HT;rw[heq];exact h3
  ·rw[Au i (by omega)];exact hv.nam i (by omega)
 ·rw[xH i (by omega)]
  by_cases HT:i=n
  ·subst HT;rw[heq];exact h4
  ·rw[Au i (by omega)];exact hv.fix i (by omega)
 ·rw[Au i (by omega)]
  by_cases HT:j=n
  ·subst HT;rw[heq];exact h5 i (by omega)
  ·rw[Au j (by omega)];exact hv.away i j Sg (by omega)
def Yv(res:Nat->Bo)(n:Nat)(cr:List (Nat × List Nat × List Nat)):Prop:=∀ i,i<n->((res i).S=[]/\(res i).T=[])\/(i,(res i).S,(res i).T)∈cr
def YT{p:List Nat}{r:Bo}:∀ {cr:List (Nat × List Nat × List Nat)},away cr p r->∀ {i:Nat} {S T:List Nat},(i,S,T)∈cr->i∈p\/(r.x.kill S T=r.x/\Gb S T r.GY)
 |(j,S',T')::l,h,i,S,T,hm=>by
  obtain⟨h1,h2⟩:=h;rcases List.mem_cons.1 hm with e|hm
  ·simp only[Prod.mk.injEq]at e;obtain⟨rfl,rfl,rfl⟩:=e;exact h1
  ·exact YT h2 hm
def Yv.away{res:Nat->Bo}{n:Nat}{cr:List (Nat × List Nat × List Nat)}(h:Yv res n cr){p:List Nat}{r:Bo}(ha:Abs.away cr p r):∀ i,i<n->i∈p\/(r.x.kill (res i).S (res i).T=r.x/\Gb (res i).S (res i).T r.GY):=by
 intro i hi;rcases h i hi with ⟨h1,h2⟩|hm
 ·rw[h1,h2];exact .inr ⟨Jh _,Kz _⟩
 ·exact YT ha hm
def Yv.snoc{res:Nat->Bo}{n:Nat}{cr:List (Nat × List Nat × List Nat)}(h:Yv res n cr)(e:Bo):Yv (Fi res n e) (n+1) (Ir n e cr):=by
 have ED:∀ q∈cr,q∈Ir n e cr:=λq hq=>by
  unfold Ir;split
  ·exact hq
  ·exact List.mem_cons_of_mem _ hq
 intro i hi
 by_cases HT:i=n
 ·subst HT;simp only[Fi,if_true];unfold Ir;split
  ·rename_i h1 h2;exact .inl ⟨h1,h2⟩
  ·exact .inr (by simp)
 ·simp only[Fi,HT,if_false];exact(h i (by omega)).imp id (ED _)
def Tj{res:Nat->Bo}{n:Nat}{e:Bo}{o:Oper}(ho:ops[n]?=some o)(hd:o.dst.isSome=true) :
 canon ops (Fi res n e) st0 (n+1)=⟨(St.put o.dst e.x (canon ops res st0 n)).tmps,e.GY++(canon ops res st0 n).Ah⟩:=by
 have Au:∀ j,j<n->Fi res n e j=res j:=λj hj=>by simp[Fi,Nat.ne_of_lt hj]
 obtain⟨d,LV⟩:=Option.isSome_iff_exists.1 hd;have eF:Ek ops n=some d:=by simp[Ek,ho,LV]
 simp only[canon,NR,OZ,eF,if_true];rw[K6 (res:=Fi res n e) (res':=res) n λj hj=>⟨Au j hj,rfl⟩,KP (res:=Fi res n e) (res':=res) n λj hj=>⟨Au j hj,rfl⟩];simp[Fi,LV,St.put]
def MC{K:St->Prop}:∀ (os:List Oper) (tb:List (List Nat × List Nat)) (n:Nat) (cr:List (Nat × List Nat × List Nat)) (res:Nat->Bo),(∀ j o,os[j]?=some o->ops[n+j]?=some o)->(∀ j q,tb[j]?=some q->tab[n+j]?=some q) ->
 Valid X ops tab st0 res n->Yv res n cr->FG X ops st0.Ah os tb n cr K (canon ops res st0 n)->∃ res',Valid X ops tab st0 res' (n+os.length)/\K (canon ops res' st0 (n+os.length))
 |[],tb,n,cr,res,_,_,hv,_,h=>⟨res,hv,by simp only[FG]at h;simpa using h⟩
 |_::_,[],_,_,_,_,_,_,_,h=>by simp[FG]at h
 | o::os,(p,ts)::tb,n,cr,res,ho,ht,hv,hc,h=>by
  have rH:ops[n]?=some o:=ho 0 o rfl;have yk:tab[n]?=some (p,ts):=ht 0 (p,ts) rfl;have hp:DX tab n=p:=by simp[DX,List.getD,yk]
  have hr:IE tab n=ts:=by simp[IE,List.getD,yk]
  have gK:∀ j o',os[j]?=some o'->ops[n+1+j]?=some o':=λj o' hj=>by
   have:=ho (j+1) o' (by simpa using hj)
   rwa [show n+(j+1)=n+1+j by omega]at this
  have v7:∀ j q,tb[j]?=some q->tab[n+1+j]?=some q:=λj q hj=>by
   have:=ht (j+1) q (by simpa using hj)
   rwa [show n+(j+1)=n+1+j by omega]at this
  have hlen:n+(o::os).length=n+1+os.length:=by simp;omega
  rw[hlen];have fin:∀ e:Bo,Valid X ops tab st0 (Fi res n e) (n+1)->Yv (Fi res n e) (n+1) (Ir n e cr)->o.dst.isSome=true->FG X ops st0.Ah os tb (n+1) (Ir n e cr) K ⟨(St.put o.dst e.x (canon ops res st0 n)).tmps,e.GY++(canon ops res st0 n).Ah⟩ ->
   ∃ res',Valid X ops tab st0 res' (n+1+os.length)/\K (canon ops res' st0 (n+1+os.length)):=λe L8 XM hd hf =>
   MC os tb (n+1) _ _ gK v7 L8 XM (by rw[Tj rH hd];exact hf)
  have runs:(o.guard=none\/∃ j b,o.guard=some (j,b)/\guardOf ops j ⟨restr (canon ops res st0 n) (IE tab n),st0.Ah⟩=some (.v (.bool b))) ->
   (Ls X o ⟨restr (canon ops res st0 n) ts,st0.Ah⟩ (canon ops res st0 n) p cr λe=>o.dst.isSome=true/\FG X ops st0.Ah os tb (n+1) (Ir n e cr) K ⟨(St.put o.dst e.x (canon ops res st0 n)).tmps,e.GY++(canon ops res st0 n).Ah⟩) ->
   ∃ res',Valid X ops tab st0 res' (n+1+os.length)/\K (canon ops res' st0 (n+1+os.length)):=λhg ⟨e,h1,h2,h3,h4,h5,h6,hd,hf⟩ =>
   fin e (hv.snoc e rH hd (.inl ⟨hg,by rw[hr];exact h1⟩) h2 h3 ⟨h4,h5⟩ (by rw[hp];exact hc.away h6)) (hc.snoc e) hd hf
  simp only[FG]at h;split at h
  ·rename_i hg;exact runs (.inl hg) h
  ·rename_i j b hg;split at h
   ·rename_i b' hb
    by_cases he:b'=b
    ·subst he;have h1:=h.1 rfl;rw[R0 hb]at h1;exact runs (.inr ⟨j,b',hg,by rw[hr];exact hb⟩) h1
    ·obtain⟨hd,ha,hf⟩:=h.2 he;have ky:(!b)=b':=by cases b<;>cases b'<;>first|rfl|exact absurd rfl he
     rw[ky,R0 hb]at hf;have:=hc.snoc (⟨.Bl [],[],[],[]⟩:Bo);refine fin ⟨.Bl [],[],[],[]⟩ (hv.snoc _ rH hd (.inr ⟨⟨j,b,hg,.inl ⟨b',by rw[hr];exact hb,he⟩⟩,rfl⟩) rfl (λs hs=>by cases hs) ⟨My _,Kz _⟩ (by rw[hp];exact hc.away ha)) this hd ?_;simp only[Ir,List.nil_append];have e:∀ s:St,(St.put o.dst (AV.Bl []) s)=⟨(St.put o.dst (AV.Bl []) s).tmps,s.Ah⟩:=λs=>by cases o.dst<;>rfl
     rw[<- e];exact hf
   ·rename_i hb;obtain⟨hd,ha,hf⟩:=h;have:=hc.snoc (⟨.Bl [],[],[],[]⟩:Bo);refine fin ⟨.Bl [],[],[],[]⟩ (hv.snoc _ rH hd (.inr ⟨⟨j,b,hg,.inr (by rw[hr];exact hb)⟩,rfl⟩) rfl (λs hs=>by cases hs) ⟨My _,Kz _⟩ (by rw[hp];exact hc.away ha)) this hd ?_;simp only[Ir,List.nil_append];have e:∀ s:St,(St.put o.dst (AV.Bl []) s)=⟨(St.put o.dst (AV.Bl []) s).tmps,s.Ah⟩:=λs=>by cases o.dst<;>rfl
    rw[<- e];exact hf
   ·cases h
end
end Go.Abs
namespace Go.Abs
section
variable {X:Env} {A:A0} {N:Nat} {g:Gh} {st0:St} {a:Act} {w:World} {ops:Array Oper} {k:Nat} {tab:List (List Nat × List Nat)} {res:Nat->Bo} {D:Nat->Bool}
def R.zP{st st':St}{C:Ctx}(h:R C A N g st a w)(h1:∀ t x,lk t st'.tmps=some x->lk t st.tmps=some x)(h2:∀ s cs,lk s st'.Ah=some cs->lk s st.Ah=some cs):R C A N g st' a w :=
 ⟨h.size,h.defs,λt x hx=>h.tm t x (h1 t x hx),λs cs hs=>h.ob s cs (h2 s cs hs),h.fr⟩
def MK{st:St}{t:Nat}{x:AV}:∀ {ts:List Nat},lk t (restr st ts)=some x->t∈ts/\lk t st.tmps=some x
 |[],h=>by cases h
 | u::ts,h=>by
  simp only[restr]at h;split at h
  ·rename_i y hy;simp only[lk]at h;split at h
   ·rename_i hut;subst hut;exact⟨by simp,by rw[hy];exact h⟩
   ·obtain⟨h1,h2⟩:=MK h;exact⟨by simp[h1],h2⟩
  ·obtain⟨h1,h2⟩:=MK h;exact⟨by simp[h1],h2⟩
def ZE{d:Option Nat}{l:List Nat}:pW d l=true↔∃ t,d=some t/\t∈l:=by
 cases d<;>simp[pW]
def Vl(hr:Kl ops k tab)(hc:Closed ops D){i:Nat}(hi:i<k)(El:D i=false)(hp:∀ p∈DX tab i,D p=true){t:Nat}(ht:t∈IE tab i)(j:Nat)(hj:j<k)(hd:Ek ops j=some t)(Vb:j≠i):D j=decide (j<i):=by
 have hk:=hr.le;rcases Nat.lt_or_gt_of_ne Vb with Au|OE
 ·rcases hr.apart i j hi Au with h|h
  ·simp[hp j h,Au]
  ·simp only[clash,Bool.or_eq_false_iff]at h;have:=h.1.2;rw[ZE.2 ⟨t,hd,ht⟩]at this;cases this
 ·have hni:¬ j<i:=by omega
  simp only[hni,decide_false];rcases hr.apart j i hj OE with h|h
  ·cases hD:D j with
   | false=>rfl
   | true=>have:=hc.pred hr j (by omega) hD i h;rw[El]at this;cases this
  ·simp only[clash,Bool.or_eq_false_iff]at h;have:=h.2;rw[ZE.2 ⟨t,hd,ht⟩]at this;cases this
def aj(hr:Kl ops k tab)(hc:Closed ops D){i:Nat}(hi:i<k)(El:D i=false)(hp:∀ p∈DX tab i,D p=true){t:Nat}(ht:t∈IE tab i)(KC:Ek ops i≠some t\/True) :
 lk t (NR (Ek ops) res D st0.tmps k)=lk t (NR (Ek ops) res (λ_=>true) st0.tmps i):=by
 have h1:lk t (NR (Ek ops) res D st0.tmps k)=lk t (NR (Ek ops) res (λj=>decide (j<i)) st0.tmps k):=Uf k λj hj hd=>by
  by_cases Vb:j=i
  ·subst Vb;simp[El]
  ·exact Vl hr hc hi El hp ht j hj hd Vb
 rw[h1,Qn (i:=i) k (by omega) (λj h1 _=>by simp;omega)];rw[K6 (res:=res) (res':=res) (D:=λj=>decide (j<i)) (D':=λ_=>true) i λj hj=>⟨rfl,by simp[hj]⟩]
def Ra(hv:Valid X ops tab st0 res k){s:Nat}{cs:List AV}(hs:lk s st0.Ah=some cs):∀ n,n<=k->lk s (OZ res D st0.Ah n)=some cs
 | 0,_=>hs
 | n+1,hn=>by
  have ih:=Ra hv hs n (by omega);simp only[OZ];split
  ·rw[HJ];have hf:=(hv.fix n (by omega)).2;obtain⟨hb,_⟩:=JL n hf;have Qr:s∉(res n).T:=λh=>by
    have:=OC hb s h;rw[this]at hs;cases hs
   have:lk s (res n).GY=none:=SY λh=>Qr (hv.nam n (by omega) s h)
   rw[this];simpa using ih
  ·exact ih
def l7(hr:Kl ops k tab)(hv:Valid X ops tab st0 res k)(hc:Closed ops D){i:Nat}(hi:i<k)(El:D i=false)(hp:∀ p∈DX tab i,D p=true)(hR:R X.C A N g (OU ops res st0 D k) a w) :
 R X.C A N g ⟨restr (canon ops res st0 i) (IE tab i),st0.Ah⟩ a w:=by
 refine hR.zP (λt x hx=>?_) λs cs hs=>Ra hv hs k (Nat.le_refl _)
 obtain⟨h1,h2⟩:=MK hx;simp only[OU];rw[aj hr hc hi El hp h1 (.inr trivial)];exact h2
def ph(hr:Kl ops k tab)(hv:Valid X ops tab st0 res k)(KB:∀ j,j<k->(Ek ops j).isSome=true)(hc:Closed ops D){i:Nat}(hi:i<k)(El:D i=false) :
 Mx (res i).S (res i).T (OU ops res st0 D k).tmps/\Gb (res i).S (res i).T (OU ops res st0 D k).Ah:=by
 have hk:=hr.le;obtain⟨h1,h2⟩:=hv.fix i hi;obtain⟨b1,b2⟩:=Mz i h1;obtain⟨c1,c2⟩:=JL i h2;have key:∀ j,j<k->D j=true->(res j).x.kill (res i).S (res i).T=(res j).x/\Gb (res i).S (res i).T (res j).GY:=λj hj hD=>by
  rcases Nat.lt_trichotomy j i with h|h|h
  ·exact⟨b2 j h (KB j hj),c2 j h⟩
  ·subst h;rw[El]at hD;cases hD
  ·rcases hv.away i j h hj with h'|h'
   ·have:=hc.pred hr j (by omega) hD i h';rw[El]at this;cases this
   ·exact h'
 exact⟨Zl k b1 λj hj hD=>(key j hj hD).1,Zk k c1 λj hj hD=>(key j hj hD).2⟩
def jC(hr:Kl ops k tab)(hv:Valid X ops tab st0 res k)(KB:∀ j,j<k->(Ek ops j).isSome=true)(hc:Closed ops D){i:Nat}(hi:i<k)(El:D i=false){s:Nat}{c:List AV}(hs:lk s (res i).GY=some c) :
 ∀ j,j≠i->j<k->D j=true->lk s (res j).GY=none:=λj Vb hj hD=>by
 have hk:=hr.le;have hT:s∈(res i).T:=hv.nam i hi s (Vh hs);have:Gb (res i).S (res i).T (res j).GY:=by
  rcases Nat.lt_trichotomy j i with h|h|h
  ·exact(JL i (hv.fix i hi).2).2 j h
  ·exact(Vb h).elim
  ·rcases hv.away i j h hj with h'|h'
   ·have:=hc.pred hr j (by omega) hD i h';rw[El]at this;cases this
   ·exact h'.2
 exact OC this s hT
def aK(hr:Kl ops k tab)(hv:Valid X ops tab st0 res k)(KB:∀ j,j<k->(Ek ops j).isSome=true)(hc:Closed ops D){i d:Nat}(hi:i<k)(El:D i=false)(hp:∀ p∈DX tab i,D p=true)(hd:Ek ops i=some d)
 (hR:R X.C A N g ⟨(d,(res i).x)::(OU ops res st0 D k).tmps,(res i).GY++(OU ops res st0 D k).Ah⟩ a w):R X.C A N g (OU ops res st0 (H3 i D) k) a w:=by
 have hk:=hr.le;refine hR.zP (λt x hx=>?_) λs cs hs=>?_
 ·simp only[OU]at hx ⊢
  by_cases eF:d=t
  ·subst eF;rw[LW hd k hi λj h1 h2 h3 h4=>?_]at hx
   ·simpa [lk]using hx
   ·rcases hr.apart j i h2 h1 with h|h
    ·have:=hc.pred hr j (by omega) h3 i h;rw[El]at this;cases this
    ·simp[clash,hd,h4]at h
  ·simp only[lk,eF,if_false];rw[<- hx];exact Uf k λj hj ry=>by
    have:j≠i:=λe=>by subst e;rw[hd]at ry;injection ry with e;exact eF e
    simp[H3,this]
 ·simp only[OU]at hs ⊢;rw[Ue El k hi λc RR=>jC hr hv KB hc hi El RR]at hs;rw[HJ];exact hs
def Lg(hc:Closed ops D){i:Nat}(hd:∀ e∈Bq ops i,D e=true):Closed ops (H3 i D):=λj hj hD e he=>by
 simp only[H3]at hD ⊢;split
 ·rfl
 ·by_cases Vb:j=i
  ·subst Vb;exact hd e he
  ·simp only[Vb,if_false]at hD;exact hc j hj hD e he
end
end Go.Abs
namespace Go.Abs
section
variable {X:Env} {A:A0} {N:Nat} {g:Gh} {st0:St} {a:Act} {w:World} {ops:Array Oper} {k:Nat} {tab:List (List Nat × List Nat)} {res:Nat->Bo} {D:Nat->Bool}
def DE(Ae:Array Bool)(i:Nat):Bool:=Ae.getD i false
def BI{Ae:Array Bool}(hs:Ae.size=ops.size){i:Nat}:i∈Region.ready .any ops Ae↔i<ops.size/\DE Ae i=false/\∀ e∈Bq ops i,DE Ae e=true:=by
 rw[mem_ready];constructor
 ·rintro⟨h1,o,ho,h2⟩;have hi:i<ops.size:=by
   rcases Nat.lt_or_ge i ops.size with h|h
   ·exact h
   ·rw[Array.getElem?_eq_none h]at ho;cases ho
  refine⟨hi,?_,λe he=>?_⟩
  ·simpa [DE,Array.getD,hs,hi]using h1
  ·simp only[Bq,ho,List.mem_filterMap]at he;obtain⟨ed,tR,he⟩:=he;split at he
   ·rename_i hb;injection he with he
    subst he;exact h2 ed (by simpa using tR) hb
   ·cases he
 ·rintro⟨hi,h1,h2⟩;refine⟨?_,ops[i],Array.getElem?_eq_getElem hi,λe he hb=>?_⟩
  ·simpa [DE,Array.getD,hs,hi]using h1
  ·refine h2 e.on ?_;simp only[Bq,Array.getElem?_eq_getElem hi,List.mem_filterMap];exact⟨e,by simpa using he,by simp[hb]⟩
def En{Ae:Array Bool}{i:Nat}(hi:i<Ae.size):DE (Ae.setIfInBounds i true)=H3 i (DE Ae):=by
 funext j;simp only[DE,H3,Array.getD_eq_getD_getElem?,Array.getElem?_setIfInBounds]
 by_cases Sg:i=j
 ·subst Sg;simp[hi]
 ·have:j≠i:=λe=>Sg e.symm
  simp[Sg,this]
def UR(Ae:Array Bool):Nat:=Ae.toList.count false
def HY{Ae:Array Bool}{i:Nat}(hi:i<Ae.size)(hd:DE Ae i=false):UR (Ae.setIfInBounds i true)+1=UR Ae:=by
 have hl:i<Ae.toList.length:=by simpa using hi
 have hv:Ae.toList[i]=false:=by simpa [DE,Array.getD,hi]using hd
 unfold UR;rw[Array.toList_setIfInBounds,List.count_set hl,hv];have:0<Ae.toList.count false:=List.count_pos_iff.2 (by rw[<- hv];exact List.getElem_mem hl);have h1:(true==false)=false:=rfl;rw[h1];simp only[beq_self_eq_true,if_true,Bool.false_eq_true,if_false];omega
def Ho{Ae:Array Bool}(h:UR Ae=0){i:Nat}(hi:i<Ae.size):DE Ae i=true:=by
 cases hd:DE Ae i with
 | true=>rfl
 | false=>have:=HY hi hd;omega
def Zg(hr:Kl ops k tab){Q:Exit->Act->World->Prop}:∀ (fuel i:Nat) (Ae:Array Bool) (a:Act) (w:World),Ae.size=ops.size->UR Ae<=fuel->k<=i->i<=ops.size->(∀ j,j<ops.size->DE Ae j=decide (j<i)) ->
 wpList X.C.P ops Q (ops.toList.drop i) a w->wpAny X.C.P .any ops Q fuel Ae a w:=by
 intro fuel
 induction fuel with
 | zero =>
  intro i Ae a w hs hu hk hi hd h;have HT:i=ops.size:=by
   rcases Nat.lt_or_ge i ops.size with Au|G9
   ·have:=Ho (by omega) (by omega:i<Ae.size);rw[hd i Au]at this;simp at this
   ·omega
  subst HT;rw[List.drop_eq_nil_of_le (by simp)]at h;refine⟨?_,h⟩;cases pJ:Region.ready .any ops Ae with
  | nil=>rfl
  | cons j l =>
   have hj:j∈Region.ready .any ops Ae:=by rw[pJ];simp
   have:=(BI hs).1 hj;rw[hd j this.1]at this;simp at this;omega
 | succ fuel ih =>
  intro i Ae a w hs hu hk hi hd h;have ya:∀ j∈Region.ready .any ops Ae,j=i:=λj hj=>by
   obtain⟨h1,h2,h3⟩:=(BI hs).1 hj;rw[hd j h1]at h2;have G9:i<=j:=by simpa using h2
   rcases Nat.lt_or_ge i j with Au|hle
   ·have hp:=N4 hr (D:=DE Ae) (λq hq hD e he=>by
     rw[hd q hq]at hD;have:=hr.Se q hq e he;rw[hd e (by omega)];simp at hD ⊢;omega) h1 h3 i (hr.tail j h1 (by omega) i Au)
    rw[hd i (by omega)]at hp;simp at hp
   ·omega
  constructor
  ·intro h0;rcases Nat.lt_or_ge i ops.size with Au|G9
   ·have:i∈Region.ready .any ops Ae:=(BI hs).2 ⟨Au,by rw[hd i Au];simp,λe he=>by
     have:=hr.Se i Au e he;rw[hd e (by omega)];simp;omega⟩
    rw[h0]at this;cases this
   ·have HT:i=ops.size:=by omega
    subst HT;rw[List.drop_eq_nil_of_le (by simp)]at h;exact h
  ·intro j hj;have Vb:=ya j hj;subst Vb;obtain⟨Au,El,_⟩:=(BI hs).1 hj;have Jw:ops[j]?=some ops[j]:=Array.getElem?_eq_getElem Au;rw[List.drop_eq_getElem_cons (by simpa using Au)]at h;have hw:wpOp X.C.P ops Q j (wpList X.C.P ops Q (ops.toList.drop (j+1))) a w:=by
    unfold wpOp;simp only[Jw];simpa [wpList]using h
   refine wpOp_mono (λa' w' h'=>ih (j+1) _ a' w' (by simp[hs]) (by have:=HY (by omega:j<Ae.size) El;omega) (by omega) (by omega) (λq hq=>?_) h') hw;rw[En (by omega)];simp only[H3];split
   ·rename_i e;subst e;simp
   ·rename_i e;rw[hd q hq];congr 1;simp;omega
def QN(hA:A.ext=X.ext)(hX:∀ s∈X.ext,s%32=31)(hN:∀ o∈ops,∀ d,o.dst=some d->d<N)(hr:Kl ops k tab)(hv:Valid X ops tab st0 res k)(KB:∀ j,j<k->(Ek ops j).isSome=true)(hc:Closed ops D){i:Nat}(hi:i<k)(El:D i=false)(hp:∀ p∈DX tab i,D p=true)
 (hR:R X.C A N g (OU ops res st0 D k) a w) {K:Act->World->Prop} {Q:Exit->Act->World->Prop} (hK:∀ g' a' w',R X.C A N g' (OU ops res st0 (H3 i D) k) a' w'->K a' w'):wpOp X.C.P ops Q i K a w:=by
 obtain⟨o,ho,yh,ZA⟩:=hv.op i hi;obtain⟨d,hd⟩:=Option.isSome_iff_exists.1 yh;have eF:Ek ops i=some d:=by simp[Ek,ho,hd]
 have zw:=l7 hr hv hc hi El hp hR;have hdN:∀ d',o.dst=some d'->d'<N:=hN o (Array.mem_of_getElem? ho);unfold wpOp;simp only[ho];rcases ZA with ⟨hg,hG⟩|⟨⟨j,b,hg,Abi⟩,PL⟩
 ·have hw:Region.wanted o (yielded ops a.tmps)=true:=by
   rcases hg with hg|⟨j,b,hg,hb⟩
   ·simp[Region.wanted,hg]
   ·simp[Region.wanted,hg,Lt zw hb]
  simp only[hw,if_true];refine .inl (hG A N g a w zw K Q λu g' w' rz hx hu=>?_);have H6:∀ s,s∈A.ext->s∉(res i).T:=λs hs hT=>by
   have h7:=hX s (hA▸hs);have h8:=List.all_eq_true.1 (hv.ext i hi) s hT;simp[h7]at h8
  have h1:=(hR.app rz H6 hu).put hdN hx;obtain⟨f1,f2⟩:=ph hr hv KB hc hi El;refine hK g' _ w' (aK hr hv KB hc hi El hp eF ?_);have e:(St.put o.dst (res i).x (St.app (res i).S (res i).T (res i).T (res i).GY (OU ops res st0 D k)))=⟨(d,(res i).x)::(OU ops res st0 D k).tmps,(res i).GY++(OU ops res st0 D k).Ah⟩:=by
   simp only[hd,St.put,St.app];rw[f1,f2]
  rw[<- e];exact h1
 ·have hw:Region.wanted o (yielded ops a.tmps)=false:=by
   rcases Abi with ⟨b',hb,Ca⟩|hb
   ·simp[Region.wanted,hg,Lt zw hb,Ca]
   ·simp[Region.wanted,hg,QR zw hb]
  simp only[hw,Bool.false_eq_true,if_false];refine hK g _ w (aK hr hv KB hc hi El hp eF ?_);have h1:=hR.put (x:=.Bl []) (u:=undef) hdN S7;rw[PL];rw[hd]at h1 ⊢;exact h1
def explore(hA:A.ext=X.ext)(hX:∀ s∈X.ext,s%32=31)(hN:∀ o∈ops,∀ d,o.dst=some d->d<N)(hr:Kl ops k tab)(hv:Valid X ops tab st0 res k)(KB:∀ j,j<k->(Ek ops j).isSome=true){Q:Exit->Act->World->Prop}
 (ZB:∀ g a w,R X.C A N g (canon ops res st0 k) a w->wpList X.C.P ops Q (ops.toList.drop k) a w):∀ (fuel:Nat) (Ae:Array Bool) (g:Gh) (a:Act) (w:World),Ae.size=ops.size->UR Ae<=fuel->Closed ops (DE Ae)->(∀ j,j<ops.size->DE Ae j=true->j<k) ->
 R X.C A N g (OU ops res st0 (DE Ae) k) a w->wpAny X.C.P .any ops Q fuel Ae a w:=by
 have hk:=hr.le;have full:∀ (fuel:Nat) (Ae:Array Bool) (g:Gh) (a:Act) (w:World),Ae.size=ops.size->UR Ae<=fuel->(∀ j,j<ops.size->DE Ae j=true->j<k)->(∀ j,j<k->DE Ae j=true)->R X.C A N g (OU ops res st0 (DE Ae) k) a w->wpAny X.C.P .any ops Q fuel Ae a w:=by
  intro fuel Ae g a w hs hu Au Fw hR;have e:OU ops res st0 (DE Ae) k=canon ops res st0 k:=by
   simp only[OU,canon];rw[K6 (res:=res) (res':=res) (D:=DE Ae) (D':=λ_=>true) k λj hj=>⟨rfl,Fw j hj⟩,KP (res:=res) (res':=res) (D:=DE Ae) (D':=λ_=>true) k λj hj=>⟨rfl,Fw j hj⟩]
  rw[e]at hR;refine Zg hr fuel k Ae a w hs hu (Nat.le_refl _) hk (λj hj=>?_) (ZB g a w hR);cases hd:DE Ae j with
  | true=>simp[Au j hj hd]
  | false =>
   have:¬ j<k:=λh=>by rw[Fw j h]at hd;cases hd
   simp[this]
 intro fuel
 induction fuel with
 | zero =>
  intro Ae g a w hs hu hc Au hR;exact full 0 Ae g a w hs hu Au (λj hj=>Ho (by omega) (by omega)) hR
 | succ fuel ih =>
  intro Ae g a w hs hu hc Au hR
  by_cases Fw:∀ j,j<k->DE Ae j=true
  ·exact full _ Ae g a w hs hu Au Fw hR
  ·have step:∀ i∈Region.ready .any ops Ae,wpOp X.C.P ops Q i (wpAny X.C.P .any ops Q fuel (Ae.setIfInBounds i true)) a w:=λi hi=>by
    obtain⟨h1,h2,h3⟩:=(BI hs).1 hi;have hp:=N4 hr hc h1 h3;have bU:i<k:=by
     rcases Nat.lt_or_ge i k with h|h
     ·exact h
     ·exact(Fw λj hj=>hp j (hr.tail i h1 h j (by omega))).elim
    refine QN hA hX hN hr hv KB hc bU h2 hp hR λg' a' w' SP=>?_
    rw[<- En (by omega)]at SP;refine ih _ g' a' w' (by simp[hs]) (by have:=HY (by omega:i<Ae.size) h2;omega) (by rw[En (by omega)];exact Lg hc h3) (λj hj hD=>?_) SP;rw[En (by omega)]at hD;simp only[H3]at hD;split at hD
    ·rename_i e;omega
    ·exact Au j hj hD
   refine⟨λh0=>?_,step⟩;have hex:∃ j,j<k/\DE Ae j=false:=by
    apply Classical.byContradiction;intro Qr;refine Fw λj hj=>?_
    cases hd:DE Ae j with
    | true=>rfl
    | false=>exact(Qr ⟨j,hj,hd⟩).elim
   have least:∀ n j,j<k->DE Ae j=false->j<=n->∃ i,i<k/\i∈Region.ready .any ops Ae:=by
    intro n
    induction n with
    | zero =>
     intro j hj hd xW;have:j=0:=by omega
     subst this;exact⟨0,hj,(BI hs).2 ⟨by omega,hd,λe he=>by have:=hr.Se 0 (by omega) e he;omega⟩⟩
    | succ n ihn =>
     intro j hj hd xW
     by_cases tR:∀ e∈Bq ops j,DE Ae e=true
     ·exact⟨j,hj,(BI hs).2 ⟨by omega,hd,tR⟩⟩
     ·have:∃ e,e∈Bq ops j/\DE Ae e=false:=by
       apply Classical.byContradiction;intro Qr;refine tR λe he=>?_
       cases tQ:DE Ae e with
       | true=>rfl
       | false=>exact(Qr ⟨e,he,tQ⟩).elim
      obtain⟨e,he,tQ⟩:=this;have:=hr.Se j (by omega) e he;exact ihn e (by omega) tQ (by omega)
   obtain⟨j,hj,hd⟩:=hex;obtain⟨i,_,hi⟩:=least k j hj hd (by omega);rw[h0]at hi;cases hi
end
def Tx{X:Env}{ops:Array Oper}{K:St->Prop}{st:St}(k:Nat)(tab:List (List Nat × List Nat))(hm:X.C.P.follows .mixedOrders=true)(Ce:UA ops k tab=true)
 (h:FG X ops st.Ah (ops.toList.take k) tab 0 [] (Bg X ops (ops.toList.drop k) K) st):JG X ops K st:=by
 intro A N g a w hA hN hX hR id Q hQ;have hr:=UA.spec Ce;have hk:=hr.le;have hlen:(ops.toList.take k).length=k:=by simp;omega
 obtain⟨res,hv,hK⟩:=MC (X:=X) (st0:=st) (ops:=ops) (tab:=tab) (ops.toList.take k) tab 0 [] (λ_=>⟨.undef,[],[],[]⟩) (λj o hj=>by
  rw[List.getElem?_take]at hj;split at hj
  ·simpa using hj
  ·cases hj) (λj q hj=>by simpa using hj) ⟨λi hi=>by omega,λi hi=>by omega,λi hi=>by omega,λi hi=>by omega,λi j _ hj=>by omega⟩ (λi hi=>by omega) h
 rw[hlen,Nat.zero_add]at hv hK;have KB:∀ j,j<k->(Ek ops j).isSome=true:=λj hj=>by
  obtain⟨o,ho,hd,_⟩:=hv.op j hj;simpa [Ek,ho]using hd
 refine wp_region_any hm (explore hA hX hN hr hv KB (λg' a' w' SP=>?_) ops.size (Array.replicate ops.size false) g a _ (by simp) (by simp[UR]) ?_ ?_ ?_)
 ·exact OQ hA hX (N:=N) (K:=K) (Q:=Q) hQ (ops.toList.drop k) g' _ a' w' (λo ho=>by
   have HG:o∈ops:=by simpa using List.mem_of_mem_drop ho
   unfold Jn;cases hd:o.dst with
   |none=>rfl
   |some d=>simp;exact hN o HG d hd) hK SP
 ·intro i hi hD;simp[DE,Array.getD,hi]at hD
 ·intro j hj hD;simp[DE,Array.getD,hj]at hD
 ·have e:OU ops res st (DE (Array.replicate ops.size false)) k=st:=by
   have hf:∀ j,j<k->DE (Array.replicate ops.size false) j=false:=λj hj=>by
    have:j<ops.size:=by omega
    simp[DE,Array.getD,this]
   have h1:NR (Ek ops) res (DE (Array.replicate ops.size false)) st.tmps k=st.tmps:=by
    rw[Qn (i:=0) k (by omega) λj _ hj=>hf j hj];rfl
   have h2:∀ n,n<=k->OZ res (DE (Array.replicate ops.size false)) st.Ah n=st.Ah:=λn=>by
    induction n with
    | zero=>intro _;rfl
    | succ n ih=>intro hn;simp only[OZ,hf n (by omega),Bool.false_eq_true,if_false];exact ih (by omega)
   simp only[OU,h1,h2 k (Nat.le_refl _)]
  rw[e];exact hR.drew
end Go.Abs
namespace Go.Abs
def D4{X:Env}{ops:Array Oper}{K:St->Prop}{st st':St}(h:AQ X st st')(hd:JG X ops K st'):JG X ops K st:=λA N g a w hA hN hX hR id Q hQ=>by
 obtain⟨g',SP⟩:=h A N g a w hA hR;exact hd A N g' a w hA hN hX SP id Q hQ
def O3(P:Program)(t t2:TypeId)(x y:AV):Option AV:=match x,Bz P t with
 |.sl .full m es,some (_,n,_)=>match elems n y with
  |some fs=>if m=n/\AJ P t2=true/\es.length+fs.length<=4294967296 then some (.sl .no n (es++fs)) else none
  |none=>none
 |_,_=>none
section
variable {C:Ctx} {A:A0} {N:Nat} {g g':Gh} {st:St} {a:Act} {w w':World} {P:Program}
def pk(g:Gh)(w:World)(o:Obj):Grow [] [] [] g w { g with own:=λx=>if x=w.heap.size then .ro else g.own x } (w.drew.alloc o) where
 ro:=λb hb h=>⟨by simp[Nat.ne_of_lt hb,h],alloc_old w.drew o b hb⟩
 row:=λb q hb _ h=>⟨by simp[Nat.ne_of_lt hb,h],alloc_old w.drew o b hb⟩
 rows:=λ_ _=>rfl
 boxes:=λ_ _=>rfl
 Cz:=λb q i hb _ h=>⟨by simp[Nat.ne_of_lt hb,h],alloc_old w.drew o b hb⟩
 cc:=λ_ _ _=>rfl
 os:=rfl
 tape:=⟨rfl,by first|exact Nat.le_refl _|exact Nat.le_succ _⟩
 output:=rfl
 size:=by simp
 other:=λb hb h=>⟨by simp[Nat.ne_of_lt hb,h],alloc_old w.drew o b hb⟩
 kept:=λs _ _ h hb=>⟨by simp[Nat.ne_of_lt hb,h],alloc_old w.drew o _ hb⟩
def jb{o:Oper}{x y:Operand}{t t2:TypeId}{z:AV}(ho:o.op=.call { callee:=.builtin .append,args:=#[x,y],argTypes:=#[t,t2] })(h:O3 C.P t t2 (ev C st x) (ev C st y)=some z):qP C o st z [] [] [] []:=by
 intro A N g a w hR K Q hk;unfold O3 at h;split at h
 ·rename_i m es e n b hx hr;split at h
  ·rename_i fs NX;split at h
   ·rename_i hc;obtain⟨rfl,GP,NM⟩:=hc;simp only[Option.some.injEq]at h;subst h;obtain⟨hu,i,zv,hi,hz,SV,Ec,pw,hn,hb⟩:=DL hr;subst Ec;obtain⟨consts,he⟩:=IK a ho;have rQ:=hR.ev x;rw[hx]at rQ;obtain⟨vs,sy,py,ly⟩:=HC hn NX (hR.ev y);obtain⟨us,sx,px,lx⟩:=HC (n:=i.size) (es:=es) hn (by simp[elems]) rQ;have hp:=rQ;simp only[VR,PR]at hp;obtain⟨_,ad,cap,kN,k2,k3,k4,k5,k6⟩:=hp;have TT:=k4 trivial;subst TT;have VY:∀ u w',(Builtin.append_ #[t,t2] o.type #[a.eval x,a.eval y]).run C.P w=.ok u w'->Does C.P o a w u w':=λu w' CZ=>IV he (by simpa using CZ)
    by_cases hm:fs.length=0
    ·have hf:fs=[]:=List.eq_nil_of_length_eq_zero hm;subst hf;have pK:vs=[]:=List.eq_nil_of_length_eq_zero (by simpa using sy.1);subst pK;rw[kN]at VY;refine(VY _ _ (E4 hu GP hi sy k2)).wp (hk _ g w (Grow.refl g w) ?_ (λs cs hs=>by cases hs));rw[List.append_nil,<- kN];exact B8.full _ _ _ rQ
    ·have Ka:(es.length+fs.length)*i.bytes<=140737488355328:=by
      have:(es.length+fs.length)*i.bytes<=4294967296*32768:=Nat.mul_le_mul NM (by omega);omega
     have CZ:=FQ (ty:=o.type) hu GP hi hz (base:=ad) (sLen:=es.length) (sCap:=es.length) (olds:=us) (kN▸sx) sy (by omega) (Nat.le_refl _) Ka (by omega);rw[kN]at VY;have rz:=pk g w (.cells (us.toArray++vs.toArray++Builtin.zeroCells zv.cells (grownCap w (es.length+fs.length) es.length e-(es.length+fs.length))) e);refine(VY _ _ CZ).wp (hk _ _ _ rz ?_ (λs cs hs=>by cases hs));simp only[VR,PR];refine⟨(λ_ _ h=>by cases h),some ⟨w.heap.size,0,none⟩,grownCap w (es.length+fs.length) es.length e,by simp,by simpa using grownCap_ge w (es.length+fs.length) es.length e,grownCap_le_maxLen w _ _ e (by simp only[maxLen];omega),(λh=>by cases h),k5,.inr ⟨⟨w.heap.size,0,none⟩,rfl,by simp[BX],?_⟩⟩;refine CH.Dt (es++fs) (us++vs) _ _ 0 (λe' SR=>(List.mem_append.1 SR).elim (lx e') (ly e')) ?_ ?_
     ·rw[List.flatten_append];exact B3.append (B3.mono rz.M1 px) (B3.mono rz.M1 py)
     ·intro j v hj;simp only[Nat.zero_mul,Nat.zero_add,add_lit];have hh:(w.drew.alloc (.cells (us.toArray++vs.toArray++Builtin.zeroCells zv.cells (grownCap w (es.length+fs.length) es.length e-(es.length+fs.length))) e)).heap[w.heap.size]?=some (.cells (us.toArray++vs.toArray++Builtin.zeroCells zv.cells (grownCap w (es.length+fs.length) es.length e-(es.length+fs.length))) e):=heap_alloc_new w.drew _;rw[cell_of_row _ _ _ _ _ _ hh];have V3:j<(us++vs).length:=by
       rcases Nat.lt_or_ge j (us++vs).length with h|h
       ·exact h
       ·rw[List.getElem?_eq_none h]at hj;cases hj
      rw[Array.getElem?_append_left (by simpa using V3)];simpa using hj
   ·cases h
  ·cases h
 ·cases h
def X3(n len:Nat)(zs:List Value)(parts:List (Nat × AV)):Option AV :=
 match Mu (λi=>some (i*n,n)) (List.replicate len (vals zs)).flatten parts with
 |some L=>match MY L with
  |some ps=>if Cx L=true/\ps.length=len*n/\len*n<=16777216/\rowsOf L=[] then some (.sl .full n (chunk n len ps)) else none
  |none=>none
 |none=>none
def lg(P:Program)(t:TypeId)(len:Nat)(parts:List (Nat × AV)):Option AV:=match Bz P t with
 |some (e,n,_)=>match zeroOf P e with
  |some zs=>X3 n len zs parts
  |none=>none
 |none=>none
def U6(g:Gh):g.freeze []=g:=by
 cases g;simp only[Gh.freeze,List.not_mem_nil,if_false,Gh.mk.injEq,and_true];funext b;split<;>simp_all
def lh{o:Oper}{t:TypeId}{len:Nat}{ps:Array (Nat × Operand)}{z:AV}(ho:o.op=.buildSlice t len ps)(h:lg C.P t len (parts C st ps)=some z):qP C o st z [] [] [] []:=by
 intro A N g a w hR K Q hk;unfold lg at h;split at h
 ·rename_i e n b ht;split at h
  ·rename_i zs SV;obtain⟨hu,i,zv,hi,hz,gP,Ec,pw,hn,hb⟩:=DL ht;have Wa:=Io SV hi hz;have b9:zs.length=n:=by rw[Wa];simpa using gP
   have V6:=Km hR ps;have TZ:(parts C st ps).map (·.1)=(ps.toList.map λp=>(p.1,a.eval p.2)).map (·.1):=by simp[parts]
   have hex:=Is a ho;generalize parts C st ps=pa at h TZ V6;generalize (ps.toList.map λp=>(p.1,a.eval p.2))=pv at TZ V6 hex;unfold X3 at h;split at h
   ·rename_i L hL;have yt:Az g w (List.replicate len (vals zs)).flatten (List.replicate len zs).flatten:=by
     have:∀ m:Nat,Az g w (List.replicate m (vals zs)).flatten (List.replicate m zs).flatten:=by
      intro m
      induction m with
      | zero=>simp[Az]
      | succ m ih=>rw[List.replicate_succ,List.replicate_succ,List.flatten_cons,List.flatten_cons];exact Az.append (H0 zs) ih
     exact this len
    have tL:((Array.range (len*n)).map (zv.cells[·%zv.cells.size]!)).toList=(List.replicate len zs).flatten:=by
     apply List.ext_getElem?;intro j;cases hj:(List.replicate len zs).flatten[j]? with
     |none =>
      have:len*n<=j:=by
       have:=List.getElem?_eq_none_iff.1 hj;simpa [List.length_flatten,b9,Nat.mul_comm]using this
      simp;omega
     |some v =>
      obtain⟨h1,h2⟩:=CY zs _ _ _ hj;rw[b9]at h2;simp only[Array.getElem?_toList,Array.getElem?_map,Array.getElem?_range,if_pos h2,Option.map_some];rw[Wa]at h1;simp only[Array.length_toList,Array.getElem?_toList]at h1;rw[getElem!_def,h1]
    obtain⟨cur,hf,gx⟩:=Lr (λi=>some (i*n,n)) pa pv _ ((Array.range (len*n)).map (zv.cells[·%zv.cells.size]!)) L TZ V6 (by rw[tL];exact yt) hL;split at h
    ·rename_i qs Vf;split at h
     ·rename_i hc;obtain⟨Ce,NP,NM,yf⟩:=hc;simp only[Option.some.injEq]at h;subst h;obtain⟨c1,c2,c3⟩:=QC n len qs NP;have XT:=P9 (S:=[]) gx Vf (λr hr=>by rw[yf]at hr;exact hr) Ce;rw[U6]at XT;have eI:Instr.fill (λi=>some (i*n,n)) (if len*n=0 then #[] else (Array.range (len*n)).map (zv.cells[·%zv.cells.size]!)) pv=some cur:=by
       by_cases h0:len*n=0
       ·rw[h0]at hf ⊢;simpa [Array.range_zero']using hf
       ·simpa [h0]using hf
      have CZ:(Instr.buildSlice t len pv.toArray).run C.P w=.ok (.slice (some ⟨w.heap.size,0,none⟩) len len) (w.alloc (.cells cur e)):=by
       by_cases h0:len*n=0
       ·simp only[h0,if_true]at eI;simp[Instr.buildSlice,run_underlying hu,sizeOf,typeInfo,hi,Ec,h0,Array.range_zero',eI,newRow]
       ·simp only[h0,if_false]at eI;simp[Instr.buildSlice,run_underlying hu,sizeOf,typeInfo,hi,Ec,h0,zeroValue,hz,eI,newRow];exact NM
      have rz:Grow [] [] [] g w { g with own:=λx=>if x=w.heap.size then .ro else g.own x } (w.alloc (.cells cur e)) :=
       { ro:=λb hb h=>⟨by simp[Nat.ne_of_lt hb,h],alloc_old w _ b hb⟩
         row:=λb q hb _ h=>⟨by simp[Nat.ne_of_lt hb,h],alloc_old w _ b hb⟩
         rows:=λ_ _=>rfl
         boxes:=λ_ _=>rfl
         Cz:=λb q i hb _ h=>⟨by simp[Nat.ne_of_lt hb,h],alloc_old w _ b hb⟩
         cc:=λ_ _ _=>rfl
         os:=rfl
         tape:=⟨rfl,by first|exact Nat.le_refl _|exact Nat.le_succ _⟩
         output:=rfl
         size:=by simp
         other:=λb hb h=>⟨by simp[Nat.ne_of_lt hb,h],alloc_old w _ b hb⟩
         kept:=λs _ _ h hb=>⟨by simp[Nat.ne_of_lt hb,h],alloc_old w _ _ hb⟩ }
      refine(IV hex CZ).wp (hk _ _ _ rz ?_ (λs cs hs=>by cases hs));simp only[VR,PR,c1];refine⟨(λ_ _ h=>by cases h),some ⟨w.heap.size,0,none⟩,len,rfl,Nat.le_refl _,by simp only[maxLen];have:=Nat.le_mul_of_pos_right len hn;omega,(λ_=>rfl),hn,.inr ⟨⟨w.heap.size,0,none⟩,rfl,by simp[BX],?_⟩⟩;refine CH.Dt _ cur.toList _ _ 0 c2 (by rw[c3];exact B3.mono rz.M1 XT) ?_;intro j v hj;simp only[Nat.zero_mul,Nat.zero_add,add_lit];have hh:(w.alloc (.cells cur e)).heap[w.heap.size]?=some (.cells cur e):=heap_alloc_new w _;rw[cell_of_row _ _ _ _ _ _ hh];simpa using hj
     ·cases h
    ·cases h
   ·cases h
  ·cases h
 ·cases h
end
end Go.Abs
