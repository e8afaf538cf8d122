/- part 8 of the proof -/
import Derived.Still
import Derived.Test.YthachdiockkofaaGreatDoorL07
set_option linter.all false
namespace Go.Abs
def restr(st:St):List Nat→List (Nat × AV)
 |[]=>[]
 | t::ts=>match lk t st.tmps with
  |some x=>(t,x)::restr st ts
  |none=>restr st ts
def away(cr:List (Nat × List Nat × List Nat))(p:List Nat)(r:Res):Prop:=match cr with
 |[]=>True
 |(i,S,T)::l=>(i∈p∨(r.x.kill S T=r.x∧F1 S T r.Gk))∧away l p r
def HL(i:Nat)(r:Res)(cr:List (Nat × List Nat × List Nat)):List (Nat × List Nat × List Nat):=match r.S,r.T with
 |[],[]=>cr
 | S,T=>(i,S,T)::cr
def Kj(X:Env)(o:Oper)(r st:St)(p:List Nat)(cr:List (Nat × List Nat × List Nat))(K:Res→Prop):Prop :=
 ∃ e:Res,OpG X.C o r e.x e.S e.T e.T e.Gk∧(e.T.all fun s=>s%64 !=63)=true∧(∀ s∈names e.Gk,s∈e.T)∧Lh e.S e.T st.tmps∧F1 e.S e.T st.Al∧away cr p e∧K e
def iR(b:Bool)(y:Option AV):Prop:=(∃ b',y=some (.v (.bool b'))∧b'≠b)∨y=some (.tup [])
def Fx(X:Env)(all:Array Oper)(Al:List (Nat × List AV)):List Oper→List (List Nat × List Nat)→Nat→List (Nat × List Nat × List Nat)→(St→Prop)→St→Prop
 |[],_,_,_,K,st=>K st
 |_::_,[],_,_,_,_=>False
 | o::os,(p,ts)::tab,i,cr,K,st =>
  let run:=fun st:St=>Kj X o ⟨restr st ts,Al⟩ st p cr fun e=>o.dst.isSome=true∧Fx X all Al os tab (i+1) (HL i e cr) K ⟨(St.put o.dst e.x st).tmps,e.Gk++st.Al⟩
  match o.guard with
  |none=>run st
  |some (j,b)=>match guardOf all j ⟨restr st ts,Al⟩ with
   |some (.v (.bool b'))=>FF b' b (run (st.learn (gdst all j) b)) (o.dst.isSome=true∧away cr p ⟨.tup [],[],[],[]⟩∧Fx X all Al os tab (i+1) cr K ((st.learn (gdst all j) (!b)).put o.dst (.tup [])))
   |some (.tup [])=>o.dst.isSome=true∧away cr p ⟨.tup [],[],[],[]⟩∧Fx X all Al os tab (i+1) cr K (st.put o.dst (.tup []))
   |_=>False
def OR{st:St}{t:Nat}{x:AV}:∀ {ts:List Nat},lk t (restr st ts)=some x→lk t st.tmps=some x
 |[],h=>by cases h
 | u::ts,h=>by
  simp only[restr]at h;split at h
  ·rename_i y hy;simp only[lk]at h;split at h
   ·rename_i hut;subst hut;rw[hy];exact h
   ·exact OR h
  ·exact OR h
def PF{all:Array Oper}{j:Nat}{st:St}{ts:List Nat}{Al:List (Nat × List AV)}{b:Bool}(h:guardOf all j ⟨restr st ts,Al⟩=some (.v (.bool b))):st.learn (gdst all j) b=st:=by
 apply IA;unfold guardOf at h ⊢;obtain⟨d,h1,h2⟩:=Option.bind_eq_some_iff.1 h;rw[h1];exact OR h2
section
variable {X:Env} {A:A0} {N:Nat} {g:Gh} {st0:St} {a:Act} {w:World} {ops:Array Oper} {k:Nat} {tab:List (List Nat × List Nat)}
def canon(ops:Array Oper)(res:Nat→Res)(st0:St)(n:Nat):St:=⟨tmD (Eg ops) res (fun _=>true) st0.tmps n,obD res (fun _=>true) st0.Al n⟩
def stD(ops:Array Oper)(res:Nat→Res)(st0:St)(D:Nat→Bool)(n:Nat):St:=⟨tmD (Eg ops) res D st0.tmps n,obD res D st0.Al n⟩
structure Valid(X:Env)(ops:Array Oper)(tab:List (List Nat × List Nat))(st0:St)(res:Nat→Res)(n:Nat):Prop where
 op:∀ i,i<n→∃ o,ops[i]?=some o∧o.dst.isSome=true ∧
  (((o.guard=none∨∃ j b,o.guard=some (j,b)∧guardOf ops j ⟨restr (canon ops res st0 i) (HV tab i),st0.Al⟩=some (.v (.bool b))) ∧
    OpG X.C o ⟨restr (canon ops res st0 i) (HV tab i),st0.Al⟩ (res i).x (res i).S (res i).T (res i).T (res i).Gk) ∨
  ((∃ j b,o.guard=some (j,b)∧iR b (guardOf ops j ⟨restr (canon ops res st0 i) (HV tab i),st0.Al⟩))∧res i=⟨.tup [],[],[],[]⟩))
 ext:∀ i,i<n→((res i).T.all fun s=>s%64 !=63)=true
 nam:∀ i,i<n→∀ s∈names (res i).Gk,s∈(res i).T
 fix:∀ i,i<n→Lh (res i).S (res i).T (canon ops res st0 i).tmps∧F1 (res i).S (res i).T (canon ops res st0 i).Al
 away:∀ i j,i<j→j<n→i∈DD tab j∨((res j).x.kill (res i).S (res i).T=(res j).x∧F1 (res i).S (res i).T (res j).Gk)
def Fi(res:Nat→Res)(n:Nat)(e:Res)(i:Nat):Res:=if i=n then e else res i
def U1{res res':Nat→Res}{n:Nat}(h:∀ j,j<n→res j=res' j):canon ops res st0 n=canon ops res' st0 n:=by
 simp only[canon];rw[J3 n fun j hj=>⟨h j hj,rfl⟩,JN n fun j hj=>⟨h j hj,rfl⟩]
def Li(l:List (Nat × AV)):Lh [] [] l:=JJ l
def JG(l:List (Nat × List AV)):F1 [] [] l:=by simp[F1,LO,JI]
def Valid.snoc{res:Nat→Res}{n:Nat}(hv:Valid X ops tab st0 res n)(e:Res){o:Oper}(ho:ops[n]?=some o)(hd:o.dst.isSome=true)
 (h1:((o.guard=none∨∃ j b,o.guard=some (j,b)∧guardOf ops j ⟨restr (canon ops res st0 n) (HV tab n),st0.Al⟩=some (.v (.bool b))) ∧
  OpG X.C o ⟨restr (canon ops res st0 n) (HV tab n),st0.Al⟩ e.x e.S e.T e.T e.Gk) ∨
 ((∃ j b,o.guard=some (j,b)∧iR b (guardOf ops j ⟨restr (canon ops res st0 n) (HV tab n),st0.Al⟩))∧e=⟨.tup [],[],[],[]⟩))
 (h2:(e.T.all fun s=>s%64 !=63)=true) (h3:∀ s∈names e.Gk,s∈e.T) (h4:Lh e.S e.T (canon ops res st0 n).tmps∧F1 e.S e.T (canon ops res st0 n).Al)
 (h5:∀ i,i<n→i∈DD tab n∨(e.x.kill (res i).S (res i).T=e.x∧F1 (res i).S (res i).T e.Gk)):Valid X ops tab st0 (Fi res n e) (n+1):=by
 have hlt:∀ j,j<n→Fi res n e j=res j:=fun j hj=>by simp[Fi,Nat.ne_of_lt hj]
 have heq:Fi res n e n=e:=by simp[Fi]
 have hcan:∀ i,i≤n→canon ops (Fi res n e) st0 i=canon ops res st0 i:=fun i hi=>U1 fun j hj=>hlt j (by omega)
 refine⟨fun i hi=>?_,fun i hi=>?_,fun i hi=>?_,fun i hi=>?_,fun i j hij hj=>?_⟩
 ·rw[hcan i (by omega)]
  by_cases hin:i=n
  ·subst hin;rw[heq];exact⟨o,ho,hd,h1⟩
  ·rw[hlt i (by omega)];exact hv.op i (by omega)
 ·by_cases hin:i=n
  ·subst hin;rw[heq];exact h2
  ·rw[hlt i (by omega)];exact hv.ext i (by omega)
 ·by_cases hin:i=n
  ·subst hin;rw[heq];exact h3
  ·rw[hlt i (by omega)];exact hv.nam i (by omega)
 ·rw[hcan i (by omega)]
  by_cases hin:i=n
  ·subst hin;rw[heq];exact h4
  ·rw[hlt i (by omega)];exact hv.fix i (by omega)
 ·rw[hlt i (by omega)]
  by_cases hin:j=n
  ·subst hin;rw[heq];exact h5 i (by omega)
  ·rw[hlt j (by omega)];exact hv.away i j hij (by omega)
def UE(res:Nat→Res)(n:Nat)(cr:List (Nat × List Nat × List Nat)):Prop:=∀ i,i<n→((res i).S=[]∧(res i).T=[])∨(i,(res i).S,(res i).T)∈cr
def UY{p:List Nat}{r:Res}:∀ {cr:List (Nat × List Nat × List Nat)},away cr p r→∀ {i:Nat} {S T:List Nat},(i,S,T)∈cr→i∈p∨(r.x.kill S T=r.x∧F1 S T r.Gk)
 |(j,S',T')::l,h,i,S,T,hm=>by
  obtain⟨h1,h2⟩:=h;rcases List.mem_cons.1 hm with e|hm
  ·simp only[Prod.mk.injEq]at e;obtain⟨rfl,rfl,rfl⟩:=e;exact h1
  ·exact UY h2 hm
def UE.away{res:Nat→Res}{n:Nat}{cr:List (Nat × List Nat × List Nat)}(h:UE res n cr){p:List Nat}{r:Res}(ha:Abs.away cr p r):∀ i,i<n→i∈p∨(r.x.kill (res i).S (res i).T=r.x∧F1 (res i).S (res i).T r.Gk):=by
 intro i hi;rcases h i hi with ⟨h1,h2⟩|hm
 ·rw[h1,h2];exact .inr ⟨Iy _,JG _⟩
 ·exact UY ha hm
def UE.snoc{res:Nat→Res}{n:Nat}{cr:List (Nat × List Nat × List Nat)}(h:UE res n cr)(e:Res):UE (Fi res n e) (n+1) (HL n e cr):=by
 have hsub:∀ q∈cr,q∈HL n e cr:=fun q hq=>by
  unfold HL;split
  ·exact hq
  ·exact List.mem_cons_of_mem _ hq
 intro i hi
 by_cases hin:i=n
 ·subst hin;simp only[Fi,if_true];unfold HL;split
  ·rename_i h1 h2;exact .inl ⟨h1,h2⟩
  ·exact .inr (by simp)
 ·simp only[Fi,hin,if_false];exact(h i (by omega)).imp id (hsub _)
def Qx{res:Nat→Res}{n:Nat}{e:Res}{o:Oper}(ho:ops[n]?=some o)(hd:o.dst.isSome=true) :
 canon ops (Fi res n e) st0 (n+1)=⟨(St.put o.dst e.x (canon ops res st0 n)).tmps,e.Gk++(canon ops res st0 n).Al⟩:=by
 have hlt:∀ j,j<n→Fi res n e j=res j:=fun j hj=>by simp[Fi,Nat.ne_of_lt hj]
 obtain⟨d,hd'⟩:=Option.isSome_iff_exists.1 hd;have hdt:Eg ops n=some d:=by simp[Eg,ho,hd']
 simp only[canon,tmD,obD,hdt,if_true];rw[J3 (res:=Fi res n e) (res':=res) n fun j hj=>⟨hlt j hj,rfl⟩,JN (res:=Fi res n e) (res':=res) n fun j hj=>⟨hlt j hj,rfl⟩];simp[Fi,hd',St.put]
def Ll{K:St→Prop}:∀ (os:List Oper) (tb:List (List Nat × List Nat)) (n:Nat) (cr:List (Nat × List Nat × List Nat)) (res:Nat→Res),(∀ j o,os[j]?=some o→ops[n+j]?=some o)→(∀ j q,tb[j]?=some q→tab[n+j]?=some q) →
 Valid X ops tab st0 res n→UE res n cr→Fx X ops st0.Al os tb n cr K (canon ops res st0 n)→∃ res',Valid X ops tab st0 res' (n+os.length)∧K (canon ops res' st0 (n+os.length))
 |[],tb,n,cr,res,_,_,hv,_,h=>⟨res,hv,by simp only[Fx]at h;simpa using h⟩
 |_::_,[],_,_,_,_,_,_,_,h=>by simp[Fx]at h
 | o::os,(p,ts)::tb,n,cr,res,ho,ht,hv,hc,h=>by
  have ho0:ops[n]?=some o:=ho 0 o rfl;have ht0:tab[n]?=some (p,ts):=ht 0 (p,ts) rfl;have hp:DD tab n=p:=by simp[DD,List.getD,ht0]
  have hr:HV tab n=ts:=by simp[HV,List.getD,ht0]
  have hos:∀ j o',os[j]?=some o'→ops[n+1+j]?=some o':=fun j o' hj=>by
   have:=ho (j+1) o' (by simpa using hj)
   rwa [show n+(j+1)=n+1+j by omega]at this
  have htb:∀ j q,tb[j]?=some q→tab[n+1+j]?=some q:=fun j q hj=>by
   have:=ht (j+1) q (by simpa using hj)
   rwa [show n+(j+1)=n+1+j by omega]at this
  have hlen:n+(o::os).length=n+1+os.length:=by simp;omega
  rw[hlen];have fin:∀ e:Res,Valid X ops tab st0 (Fi res n e) (n+1)→UE (Fi res n e) (n+1) (HL n e cr)→o.dst.isSome=true→Fx X ops st0.Al os tb (n+1) (HL n e cr) K ⟨(St.put o.dst e.x (canon ops res st0 n)).tmps,e.Gk++(canon ops res st0 n).Al⟩ →
   ∃ res',Valid X ops tab st0 res' (n+1+os.length)∧K (canon ops res' st0 (n+1+os.length)):=fun e hv' hc' hd hf =>
   Ll os tb (n+1) _ _ hos htb hv' hc' (by rw[Qx ho0 hd];exact hf)
  have runs:(o.guard=none∨∃ j b,o.guard=some (j,b)∧guardOf ops j ⟨restr (canon ops res st0 n) (HV tab n),st0.Al⟩=some (.v (.bool b))) →
   (Kj X o ⟨restr (canon ops res st0 n) ts,st0.Al⟩ (canon ops res st0 n) p cr fun e=>o.dst.isSome=true∧Fx X ops st0.Al os tb (n+1) (HL n e cr) K ⟨(St.put o.dst e.x (canon ops res st0 n)).tmps,e.Gk++(canon ops res st0 n).Al⟩) →
   ∃ res',Valid X ops tab st0 res' (n+1+os.length)∧K (canon ops res' st0 (n+1+os.length)):=fun hg ⟨e,h1,h2,h3,h4,h5,h6,hd,hf⟩ =>
   fin e (hv.snoc e ho0 hd (.inl ⟨hg,by rw[hr];exact h1⟩) h2 h3 ⟨h4,h5⟩ (by rw[hp];exact hc.away h6)) (hc.snoc e) hd hf
  simp only[Fx]at h;split at h
  ·rename_i hg;exact runs (.inl hg) h
  ·rename_i j b hg;split at h
   ·rename_i b' hb
    by_cases he:b'=b
    ·subst he;have h1:=h.1 rfl;rw[PF hb]at h1;exact runs (.inr ⟨j,b',hg,by rw[hr];exact hb⟩) h1
    ·obtain⟨hd,ha,hf⟩:=h.2 he;have hbb:(!b)=b':=by cases b<;>cases b'<;>first|rfl|exact absurd rfl he
     rw[hbb,PF hb]at hf;have:=hc.snoc (⟨.tup [],[],[],[]⟩:Res);refine fin ⟨.tup [],[],[],[]⟩ (hv.snoc _ ho0 hd (.inr ⟨⟨j,b,hg,.inl ⟨b',by rw[hr];exact hb,he⟩⟩,rfl⟩) rfl (fun s hs=>by cases hs) ⟨Li _,JG _⟩ (by rw[hp];exact hc.away ha)) this hd ?_;simp only[HL,List.nil_append];have e:∀ s:St,(St.put o.dst (AV.tup []) s)=⟨(St.put o.dst (AV.tup []) s).tmps,s.Al⟩:=fun s=>by cases o.dst<;>rfl
     rw[← e];exact hf
   ·rename_i hb;obtain⟨hd,ha,hf⟩:=h;have:=hc.snoc (⟨.tup [],[],[],[]⟩:Res);refine fin ⟨.tup [],[],[],[]⟩ (hv.snoc _ ho0 hd (.inr ⟨⟨j,b,hg,.inr (by rw[hr];exact hb)⟩,rfl⟩) rfl (fun s hs=>by cases hs) ⟨Li _,JG _⟩ (by rw[hp];exact hc.away ha)) this hd ?_;simp only[HL,List.nil_append];have e:∀ s:St,(St.put o.dst (AV.tup []) s)=⟨(St.put o.dst (AV.tup []) s).tmps,s.Al⟩:=fun s=>by cases o.dst<;>rfl
    rw[← e];exact hf
   ·cases h
end
end Go.Abs
namespace Go.Abs
section
variable {X:Env} {A:A0} {N:Nat} {g:Gh} {st0:St} {a:Act} {w:World} {ops:Array Oper} {k:Nat} {tab:List (List Nat × List Nat)} {res:Nat→Res} {D:Nat→Bool}
def R.le'{st st':St}{C:Ctx}(h:R C A N g st a w)(h1:∀ t x,lk t st'.tmps=some x→lk t st.tmps=some x)(h2:∀ s cs,lk s st'.Al=some cs→lk s st.Al=some cs):R C A N g st' a w :=
 ⟨h.size,h.defs,fun t x hx=>h.tm t x (h1 t x hx),fun s cs hs=>h.ob s cs (h2 s cs hs),h.fr⟩
def Ls{st:St}{t:Nat}{x:AV}:∀ {ts:List Nat},lk t (restr st ts)=some x→t∈ts∧lk t st.tmps=some x
 |[],h=>by cases h
 | u::ts,h=>by
  simp only[restr]at h;split at h
  ·rename_i y hy;simp only[lk]at h;split at h
   ·rename_i hut;subst hut;exact⟨by simp,by rw[hy];exact h⟩
   ·obtain⟨h1,h2⟩:=Ls h;exact⟨by simp[h1],h2⟩
  ·obtain⟨h1,h2⟩:=Ls h;exact⟨by simp[h1],h2⟩
def Vv{d:Option Nat}{l:List Nat}:db d l=true↔∃ t,d=some t∧t∈l:=by
 cases d<;>simp[db]
def R7(hr:Jn ops k tab)(hc:Closed ops D){i:Nat}(hi:i<k)(hnd:D i=false)(hp:∀ p∈DD tab i,D p=true){t:Nat}(ht:t∈HV tab i)(j:Nat)(hj:j<k)(hd:Eg ops j=some t)(hji:j≠i):D j=decide (j<i):=by
 have hk:=hr.le;rcases Nat.lt_or_gt_of_ne hji with hlt|hgt
 ·rcases hr.apart i j hi hlt with h|h
  ·simp[hp j h,hlt]
  ·simp only[clash,Bool.or_eq_false_iff]at h;have:=h.1.2;rw[Vv.2 ⟨t,hd,ht⟩]at this;cases this
 ·have hni:¬ j<i:=by omega
  simp only[hni,decide_false];rcases hr.apart j i hj hgt with h|h
  ·cases hD:D j with
   | false=>rfl
   | true=>have:=hc.pred hr j (by omega) hD i h;rw[hnd]at this;cases this
  ·simp only[clash,Bool.or_eq_false_iff]at h;have:=h.2;rw[Vv.2 ⟨t,hd,ht⟩]at this;cases this
def We(hr:Jn ops k tab)(hc:Closed ops D){i:Nat}(hi:i<k)(hnd:D i=false)(hp:∀ p∈DD tab i,D p=true){t:Nat}(ht:t∈HV tab i)(hself:Eg ops i≠some t∨True) :
 lk t (tmD (Eg ops) res D st0.tmps k)=lk t (tmD (Eg ops) res (fun _=>true) st0.tmps i):=by
 have h1:lk t (tmD (Eg ops) res D st0.tmps k)=lk t (tmD (Eg ops) res (fun j=>decide (j<i)) st0.tmps k):=Ra k fun j hj hd=>by
  by_cases hji:j=i
  ·subst hji;simp[hnd]
  ·exact R7 hr hc hi hnd hp ht j hj hd hji
 rw[h1,N3 (i:=i) k (by omega) (fun j h1 _=>by simp;omega)];rw[J3 (res:=res) (res':=res) (D:=fun j=>decide (j<i)) (D':=fun _=>true) i fun j hj=>⟨rfl,by simp[hj]⟩]
def OW(hv:Valid X ops tab st0 res k){s:Nat}{cs:List AV}(hs:lk s st0.Al=some cs):∀ n,n≤k→lk s (obD res D st0.Al n)=some cs
 | 0,_=>hs
 | n+1,hn=>by
  have ih:=OW hv hs n (by omega);simp only[obD];split
  ·rw[G1];have hf:=(hv.fix n (by omega)).2;obtain⟨hb,_⟩:=I1 n hf;have hno:s∉(res n).T:=fun h=>by
    have:=MJ hb s h;rw[this]at hs;cases hs
   have:lk s (res n).Gk=none:=Qb fun h=>hno (hv.nam n (by omega) s h)
   rw[this];simpa using ih
  ·exact ih
def bP(hr:Jn ops k tab)(hv:Valid X ops tab st0 res k)(hc:Closed ops D){i:Nat}(hi:i<k)(hnd:D i=false)(hp:∀ p∈DD tab i,D p=true)(hR:R X.C A N g (stD ops res st0 D k) a w) :
 R X.C A N g ⟨restr (canon ops res st0 i) (HV tab i),st0.Al⟩ a w:=by
 refine hR.le' (fun t x hx=>?_) fun s cs hs=>OW hv hs k (Nat.le_refl _)
 obtain⟨h1,h2⟩:=Ls hx;simp only[stD];rw[We hr hc hi hnd hp h1 (.inr trivial)];exact h2
def cY(hr:Jn ops k tab)(hv:Valid X ops tab st0 res k)(hdst:∀ j,j<k→(Eg ops j).isSome=true)(hc:Closed ops D){i:Nat}(hi:i<k)(hnd:D i=false) :
 Lh (res i).S (res i).T (stD ops res st0 D k).tmps∧F1 (res i).S (res i).T (stD ops res st0 D k).Al:=by
 have hk:=hr.le;obtain⟨h1,h2⟩:=hv.fix i hi;obtain⟨b1,b2⟩:=Lj i h1;obtain⟨c1,c2⟩:=I1 i h2;have key:∀ j,j<k→D j=true→(res j).x.kill (res i).S (res i).T=(res j).x∧F1 (res i).S (res i).T (res j).Gk:=fun j hj hD=>by
  rcases Nat.lt_trichotomy j i with h|h|h
  ·exact⟨b2 j h (hdst j hj),c2 j h⟩
  ·subst h;rw[hnd]at hD;cases hD
  ·rcases hv.away i j h hj with h'|h'
   ·have:=hc.pred hr j (by omega) hD i h';rw[hnd]at this;cases this
   ·exact h'
 exact⟨Vm k b1 fun j hj hD=>(key j hj hD).1,Vl k c1 fun j hj hD=>(key j hj hD).2⟩
def ar(hr:Jn ops k tab)(hv:Valid X ops tab st0 res k)(hdst:∀ j,j<k→(Eg ops j).isSome=true)(hc:Closed ops D){i:Nat}(hi:i<k)(hnd:D i=false){s:Nat}{c:List AV}(hs:lk s (res i).Gk=some c) :
 ∀ j,j≠i→j<k→D j=true→lk s (res j).Gk=none:=fun j hji hj hD=>by
 have hk:=hr.le;have hT:s∈(res i).T:=hv.nam i hi s (R4 hs);have:F1 (res i).S (res i).T (res j).Gk:=by
  rcases Nat.lt_trichotomy j i with h|h|h
  ·exact(I1 i (hv.fix i hi).2).2 j h
  ·exact(hji h).elim
  ·rcases hv.away i j h hj with h'|h'
   ·have:=hc.pred hr j (by omega) hD i h';rw[hnd]at this;cases this
   ·exact h'.2
 exact MJ this s hT
def Wx(hr:Jn ops k tab)(hv:Valid X ops tab st0 res k)(hdst:∀ j,j<k→(Eg ops j).isSome=true)(hc:Closed ops D){i d:Nat}(hi:i<k)(hnd:D i=false)(hp:∀ p∈DD tab i,D p=true)(hd:Eg ops i=some d)
 (hR:R X.C A N g ⟨(d,(res i).x)::(stD ops res st0 D k).tmps,(res i).Gk++(stD ops res st0 D k).Al⟩ a w):R X.C A N g (stD ops res st0 (HJ i D) k) a w:=by
 have hk:=hr.le;refine hR.le' (fun t x hx=>?_) fun s cs hs=>?_
 ·simp only[stD]at hx ⊢
  by_cases hdt:d=t
  ·subst hdt;rw[KQ hd k hi fun j h1 h2 h3 h4=>?_]at hx
   ·simpa [lk]using hx
   ·rcases hr.apart j i h2 h1 with h|h
    ·have:=hc.pred hr j (by omega) h3 i h;rw[hnd]at this;cases this
    ·simp[clash,hd,h4]at h
  ·simp only[lk,hdt,if_false];rw[← hx];exact Ra k fun j hj hdj=>by
    have:j≠i:=fun e=>by subst e;rw[hd]at hdj;injection hdj with e;exact hdt e
    simp[HJ,this]
 ·simp only[stD]at hs ⊢;rw[Q9 hnd k hi fun c hcs=>ar hr hv hdst hc hi hnd hcs]at hs;rw[G1];exact hs
def Kg(hc:Closed ops D){i:Nat}(hd:∀ e∈BA ops i,D e=true):Closed ops (HJ i D):=fun j hj hD e he=>by
 simp only[HJ]at hD ⊢;split
 ·rfl
 ·by_cases hji:j=i
  ·subst hji;exact hd e he
  ·simp only[hji,if_false]at hD;exact hc j hj hD e he
end
end Go.Abs
namespace Go.Abs
section
variable {X:Env} {A:A0} {N:Nat} {g:Gh} {st0:St} {a:Act} {w:World} {ops:Array Oper} {k:Nat} {tab:List (List Nat × List Nat)} {res:Nat→Res} {D:Nat→Bool}
def dOf(Af:Array Bool)(i:Nat):Bool:=Af.getD i false
def BD{Af:Array Bool}(hs:Af.size=ops.size){i:Nat}:i∈Region.ready .any ops Af↔i<ops.size∧dOf Af i=false∧∀ e∈BA ops i,dOf Af e=true:=by
 rw[mem_ready];constructor
 ·rintro⟨h1,o,ho,h2⟩;have hi:i<ops.size:=by
   rcases Nat.lt_or_ge i ops.size with h|h
   ·exact h
   ·rw[Array.getElem?_eq_none h]at ho;cases ho
  refine⟨hi,?_,fun e he=>?_⟩
  ·simpa [dOf,Array.getD,hs,hi]using h1
  ·simp only[BA,ho,List.mem_filterMap]at he;obtain⟨ed,hed,he⟩:=he;split at he
   ·rename_i hb;injection he with he
    subst he;exact h2 ed (by simpa using hed) hb
   ·cases he
 ·rintro⟨hi,h1,h2⟩;refine⟨?_,ops[i],Array.getElem?_eq_getElem hi,fun e he hb=>?_⟩
  ·simpa [dOf,Array.getD,hs,hi]using h1
  ·refine h2 e.on ?_;simp only[BA,Array.getElem?_eq_getElem hi,List.mem_filterMap];exact⟨e,by simpa using he,by simp[hb]⟩
def EH{Af:Array Bool}{i:Nat}(hi:i<Af.size):dOf (Af.setIfInBounds i true)=HJ i (dOf Af):=by
 funext j;simp only[dOf,HJ,Array.getD_eq_getD_getElem?,Array.getElem?_setIfInBounds]
 by_cases hij:i=j
 ·subst hij;simp[hi]
 ·have:j≠i:=fun e=>hij e.symm
  simp[hij,this]
def unl(Af:Array Bool):Nat:=Af.toList.count false
def H7{Af:Array Bool}{i:Nat}(hi:i<Af.size)(hd:dOf Af i=false):unl (Af.setIfInBounds i true)+1=unl Af:=by
 have hl:i<Af.toList.length:=by simpa using hi
 have hv:Af.toList[i]=false:=by simpa [dOf,Array.getD,hi]using hd
 unfold unl;rw[Array.toList_setIfInBounds,List.count_set hl,hv];have:0<Af.toList.count false:=List.count_pos_iff.2 (by rw[← hv];exact List.getElem_mem hl);have h1:(true==false)=false:=rfl;rw[h1];simp only[beq_self_eq_true,if_true,Bool.false_eq_true,if_false];omega
def HF{Af:Array Bool}(h:unl Af=0){i:Nat}(hi:i<Af.size):dOf Af i=true:=by
 cases hd:dOf Af i with
 | true=>rfl
 | false=>have:=H7 hi hd;omega
def Vk(hr:Jn ops k tab){Q:Exit→Act→World→Prop}:∀ (fuel i:Nat) (Af:Array Bool) (a:Act) (w:World),Af.size=ops.size→unl Af≤fuel→k≤i→i≤ops.size→(∀ j,j<ops.size→dOf Af j=decide (j<i)) →
 wpList X.C.P ops Q (ops.toList.drop i) a w→wpAny X.C.P .any ops Q fuel Af a w:=by
 intro fuel
 induction fuel with
 | zero =>
  intro i Af a w hs hu hk hi hd h;have hin:i=ops.size:=by
   rcases Nat.lt_or_ge i ops.size with hlt|hge
   ·have:=HF (by omega) (by omega:i<Af.size);rw[hd i hlt]at this;simp at this
   ·omega
  subst hin;rw[List.drop_eq_nil_of_le (by simp)]at h;refine⟨?_,h⟩;cases hrd:Region.ready .any ops Af with
  | nil=>rfl
  | cons j l =>
   have hj:j∈Region.ready .any ops Af:=by rw[hrd];simp
   have:=(BD hs).1 hj;rw[hd j this.1]at this;simp at this;omega
 | succ fuel ih =>
  intro i Af a w hs hu hk hi hd h;have honly:∀ j∈Region.ready .any ops Af,j=i:=fun j hj=>by
   obtain⟨h1,h2,h3⟩:=(BD hs).1 hj;rw[hd j h1]at h2;have hge:i≤j:=by simpa using h2
   rcases Nat.lt_or_ge i j with hlt|hle
   ·have hp:=Mm hr (D:=dOf Af) (fun q hq hD e he=>by
     rw[hd q hq]at hD;have:=hr.edge q hq e he;rw[hd e (by omega)];simp at hD ⊢;omega) h1 h3 i (hr.tail j h1 (by omega) i hlt)
    rw[hd i (by omega)]at hp;simp at hp
   ·omega
  constructor
  ·intro h0;rcases Nat.lt_or_ge i ops.size with hlt|hge
   ·have:i∈Region.ready .any ops Af:=(BD hs).2 ⟨hlt,by rw[hd i hlt];simp,fun e he=>by
     have:=hr.edge i hlt e he;rw[hd e (by omega)];simp;omega⟩
    rw[h0]at this;cases this
   ·have hin:i=ops.size:=by omega
    subst hin;rw[List.drop_eq_nil_of_le (by simp)]at h;exact h
  ·intro j hj;have hji:=honly j hj;subst hji;obtain⟨hlt,hnd,_⟩:=(BD hs).1 hj;have hget:ops[j]?=some ops[j]:=Array.getElem?_eq_getElem hlt;rw[List.drop_eq_getElem_cons (by simpa using hlt)]at h;have hw:wpOp X.C.P ops Q j (wpList X.C.P ops Q (ops.toList.drop (j+1))) a w:=by
    unfold wpOp;simp only[hget];simpa [wpList]using h
   refine wpOp_mono (fun a' w' h'=>ih (j+1) _ a' w' (by simp[hs]) (by have:=H7 (by omega:j<Af.size) hnd;omega) (by omega) (by omega) (fun q hq=>?_) h') hw;rw[EH (by omega)];simp only[HJ];split
   ·rename_i e;subst e;simp
   ·rename_i e;rw[hd q hq];congr 1;simp;omega
def Oz(hA:A.ext=X.ext)(hX:∀ s∈X.ext,s%64=63)(hN:∀ o∈ops,∀ d,o.dst=some d→d<N)(hr:Jn ops k tab)(hv:Valid X ops tab st0 res k)(hdst:∀ j,j<k→(Eg ops j).isSome=true)(hc:Closed ops D){i:Nat}(hi:i<k)(hnd:D i=false)(hp:∀ p∈DD tab i,D p=true)
 (hR:R X.C A N g (stD ops res st0 D k) a w) {K:Act→World→Prop} {Q:Exit→Act→World→Prop} (hK:∀ g' a' w',R X.C A N g' (stD ops res st0 (HJ i D) k) a' w'→K a' w'):wpOp X.C.P ops Q i K a w:=by
 obtain⟨o,ho,hsome,hop⟩:=hv.op i hi;obtain⟨d,hd⟩:=Option.isSome_iff_exists.1 hsome;have hdt:Eg ops i=some d:=by simp[Eg,ho,hd]
 have hRr:=bP hr hv hc hi hnd hp hR;have hdN:∀ d',o.dst=some d'→d'<N:=hN o (Array.mem_of_getElem? ho);unfold wpOp;simp only[ho];rcases hop with ⟨hg,hG⟩|⟨⟨j,b,hg,hoff⟩,hres⟩
 ·have hw:Region.wanted o (yielded ops a.tmps)=true:=by
   rcases hg with hg|⟨j,b,hg,hb⟩
   ·simp[Region.wanted,hg]
   ·simp[Region.wanted,hg,Kk hRr hb]
  simp only[hw,if_true];refine .inl (hG A N g a w hRr K Q fun u g' w' hgr hx hu=>?_);have hext:∀ s,s∈A.ext→s∉(res i).T:=fun s hs hT=>by
   have h7:=hX s (hA▸hs);have h8:=List.all_eq_true.1 (hv.ext i hi) s hT;simp[h7]at h8
  have h1:=(hR.app hgr hext hu).put hdN hx;obtain⟨f1,f2⟩:=cY hr hv hdst hc hi hnd;refine hK g' _ w' (Wx hr hv hdst hc hi hnd hp hdt ?_);have e:(St.put o.dst (res i).x (St.app (res i).S (res i).T (res i).T (res i).Gk (stD ops res st0 D k)))=⟨(d,(res i).x)::(stD ops res st0 D k).tmps,(res i).Gk++(stD ops res st0 D k).Al⟩:=by
   simp only[hd,St.put,St.app];rw[f1,f2]
  rw[← e];exact h1
 ·have hw:Region.wanted o (yielded ops a.tmps)=false:=by
   rcases hoff with ⟨b',hb,hne⟩|hb
   ·simp[Region.wanted,hg,Kk hRr hb,hne]
   ·simp[Region.wanted,hg,OD hRr hb]
  simp only[hw,Bool.false_eq_true,if_false];refine hK g _ w (Wx hr hv hdst hc hi hnd hp hdt ?_);have h1:=hR.put (x:=.tup []) (u:=undef) hdN Ql;rw[hres];rw[hd]at h1 ⊢;exact h1
def explore(hA:A.ext=X.ext)(hX:∀ s∈X.ext,s%64=63)(hN:∀ o∈ops,∀ d,o.dst=some d→d<N)(hr:Jn ops k tab)(hv:Valid X ops tab st0 res k)(hdst:∀ j,j<k→(Eg ops j).isSome=true){Q:Exit→Act→World→Prop}
 (htail:∀ g a w,R X.C A N g (canon ops res st0 k) a w→wpList X.C.P ops Q (ops.toList.drop k) a w):∀ (fuel:Nat) (Af:Array Bool) (g:Gh) (a:Act) (w:World),Af.size=ops.size→unl Af≤fuel→Closed ops (dOf Af)→(∀ j,j<ops.size→dOf Af j=true→j<k) →
 R X.C A N g (stD ops res st0 (dOf Af) k) a w→wpAny X.C.P .any ops Q fuel Af a w:=by
 have hk:=hr.le;have full:∀ (fuel:Nat) (Af:Array Bool) (g:Gh) (a:Act) (w:World),Af.size=ops.size→unl Af≤fuel→(∀ j,j<ops.size→dOf Af j=true→j<k)→(∀ j,j<k→dOf Af j=true)→R X.C A N g (stD ops res st0 (dOf Af) k) a w→wpAny X.C.P .any ops Q fuel Af a w:=by
  intro fuel Af g a w hs hu hlt hall hR;have e:stD ops res st0 (dOf Af) k=canon ops res st0 k:=by
   simp only[stD,canon];rw[J3 (res:=res) (res':=res) (D:=dOf Af) (D':=fun _=>true) k fun j hj=>⟨rfl,hall j hj⟩,JN (res:=res) (res':=res) (D:=dOf Af) (D':=fun _=>true) k fun j hj=>⟨rfl,hall j hj⟩]
  rw[e]at hR;refine Vk hr fuel k Af a w hs hu (Nat.le_refl _) hk (fun j hj=>?_) (htail g a w hR);cases hd:dOf Af j with
  | true=>simp[hlt j hj hd]
  | false =>
   have:¬ j<k:=fun h=>by rw[hall j h]at hd;cases hd
   simp[this]
 intro fuel
 induction fuel with
 | zero =>
  intro Af g a w hs hu hc hlt hR;exact full 0 Af g a w hs hu hlt (fun j hj=>HF (by omega) (by omega)) hR
 | succ fuel ih =>
  intro Af g a w hs hu hc hlt hR
  by_cases hall:∀ j,j<k→dOf Af j=true
  ·exact full _ Af g a w hs hu hlt hall hR
  ·have step:∀ i∈Region.ready .any ops Af,wpOp X.C.P ops Q i (wpAny X.C.P .any ops Q fuel (Af.setIfInBounds i true)) a w:=fun i hi=>by
    obtain⟨h1,h2,h3⟩:=(BD hs).1 hi;have hp:=Mm hr hc h1 h3;have hik:i<k:=by
     rcases Nat.lt_or_ge i k with h|h
     ·exact h
     ·exact(hall fun j hj=>hp j (hr.tail i h1 h j (by omega))).elim
    refine Oz hA hX hN hr hv hdst hc hik h2 hp hR fun g' a' w' hR'=>?_
    rw[← EH (by omega)]at hR';refine ih _ g' a' w' (by simp[hs]) (by have:=H7 (by omega:i<Af.size) h2;omega) (by rw[EH (by omega)];exact Kg hc h3) (fun j hj hD=>?_) hR';rw[EH (by omega)]at hD;simp only[HJ]at hD;split at hD
    ·rename_i e;omega
    ·exact hlt j hj hD
   refine⟨fun h0=>?_,step⟩;have hex:∃ j,j<k∧dOf Af j=false:=by
    apply Classical.byContradiction;intro hno;refine hall fun j hj=>?_
    cases hd:dOf Af j with
    | true=>rfl
    | false=>exact(hno ⟨j,hj,hd⟩).elim
   have least:∀ n j,j<k→dOf Af j=false→j≤n→∃ i,i<k∧i∈Region.ready .any ops Af:=by
    intro n
    induction n with
    | zero =>
     intro j hj hd hjn;have:j=0:=by omega
     subst this;exact⟨0,hj,(BD hs).2 ⟨by omega,hd,fun e he=>by have:=hr.edge 0 (by omega) e he;omega⟩⟩
    | succ n ihn =>
     intro j hj hd hjn
     by_cases hed:∀ e∈BA ops j,dOf Af e=true
     ·exact⟨j,hj,(BD hs).2 ⟨by omega,hd,hed⟩⟩
     ·have:∃ e,e∈BA ops j∧dOf Af e=false:=by
       apply Classical.byContradiction;intro hno;refine hed fun e he=>?_
       cases hde:dOf Af e with
       | true=>rfl
       | false=>exact(hno ⟨e,he,hde⟩).elim
      obtain⟨e,he,hde⟩:=this;have:=hr.edge j (by omega) e he;exact ihn e (by omega) hde (by omega)
   obtain⟨j,hj,hd⟩:=hex;obtain⟨i,_,hi⟩:=least k j hj hd (by omega);rw[h0]at hi;cases hi
end
def Xf{X:Env}{ops:Array Oper}{K:St→Prop}{st:St}(k:Nat)(tab:List (List Nat × List Nat))(hm:X.C.P.follows .mixedOrders=true)(hok:Th ops k tab=true)
 (h:Fx X ops st.Al (ops.toList.take k) tab 0 [] (Ba X ops (ops.toList.drop k) K) st):Ju X ops K st:=by
 intro A N g a w hA hN hX hR id Q hQ;have hr:=Th.spec hok;have hk:=hr.le;have hlen:(ops.toList.take k).length=k:=by simp;omega
 obtain⟨res,hv,hK⟩:=Ll (X:=X) (st0:=st) (ops:=ops) (tab:=tab) (ops.toList.take k) tab 0 [] (fun _=>⟨.undef,[],[],[]⟩) (fun j o hj=>by
  rw[List.getElem?_take]at hj;split at hj
  ·simpa using hj
  ·cases hj) (fun j q hj=>by simpa using hj) ⟨fun i hi=>by omega,fun i hi=>by omega,fun i hi=>by omega,fun i hi=>by omega,fun i j _ hj=>by omega⟩ (fun i hi=>by omega) h
 rw[hlen,Nat.zero_add]at hv hK;have hdst:∀ j,j<k→(Eg ops j).isSome=true:=fun j hj=>by
  obtain⟨o,ho,hd,_⟩:=hv.op j hj;simpa [Eg,ho]using hd
 refine wp_region_any hm (explore hA hX hN hr hv hdst (fun g' a' w' hR'=>?_) ops.size (Array.replicate ops.size false) g a _ (by simp) (by simp[unl]) ?_ ?_ ?_)
 ·exact M0 hA hX (N:=N) (K:=K) (Q:=Q) hQ (ops.toList.drop k) g' _ a' w' (fun o ho=>by
   have hmem:o∈ops:=by simpa using List.mem_of_mem_drop ho
   unfold IS;cases hd:o.dst with
   |none=>rfl
   |some d=>simp;exact hN o hmem d hd) hK hR'
 ·intro i hi hD;simp[dOf,Array.getD,hi]at hD
 ·intro j hj hD;simp[dOf,Array.getD,hj]at hD
 ·have e:stD ops res st (dOf (Array.replicate ops.size false)) k=st:=by
   have hf:∀ j,j<k→dOf (Array.replicate ops.size false) j=false:=fun j hj=>by
    have:j<ops.size:=by omega
    simp[dOf,Array.getD,this]
   have h1:tmD (Eg ops) res (dOf (Array.replicate ops.size false)) st.tmps k=st.tmps:=by
    rw[N3 (i:=0) k (by omega) fun j _ hj=>hf j hj];rfl
   have h2:∀ n,n≤k→obD res (dOf (Array.replicate ops.size false)) st.Al n=st.Al:=fun n=>by
    induction n with
    | zero=>intro _;rfl
    | succ n ih=>intro hn;simp only[obD,hf n (by omega),Bool.false_eq_true,if_false];exact ih (by omega)
   simp only[stD,h1,h2 k (Nat.le_refl _)]
  rw[e];exact hR.drew
end Go.Abs
namespace Go.Abs
def En{X:Env}{ops:Array Oper}{K:St→Prop}{st st':St}(h:Imp X st st')(hd:Ju X ops K st'):Ju X ops K st:=fun A N g a w hA hN hX hR id Q hQ=>by
 obtain⟨g',hR'⟩:=h A N g a w hA hR;exact hd A N g' a w hA hN hX hR' id Q hQ
def Na(P:Program)(t t2:TypeId)(x y:AV):Option AV:=match x,Bg P t with
 |.sl .full m es,some (_,n,_)=>match elems n y with
  |some fs=>if m=n∧AD P t2=true∧es.length+fs.length≤4294967296 then some (.sl .no n (es++fs)) else none
  |none=>none
 |_,_=>none
section
variable {C:Ctx} {A:A0} {N:Nat} {g g':Gh} {st:St} {a:Act} {w w':World} {P:Program}
def c8(g:Gh)(w:World)(o:Obj):Grow [] [] [] g w { g with own:=fun x=>if x=w.heap.size then .ro else g.own x } (w.drew.alloc o) where
 ro:=fun b hb h=>⟨by simp[Nat.ne_of_lt hb,h],alloc_old w.drew o b hb⟩
 row:=fun b q hb _ h=>⟨by simp[Nat.ne_of_lt hb,h],alloc_old w.drew o b hb⟩
 rows:=fun _ _=>rfl
 boxes:=fun _ _=>rfl
 inn:=fun b q i hb _ h=>⟨by simp[Nat.ne_of_lt hb,h],alloc_old w.drew o b hb⟩
 inns:=fun _ _ _=>rfl
 os:=rfl
 tape:=⟨rfl,by first|exact Nat.le_refl _|exact Nat.le_succ _⟩
 output:=rfl
 size:=by simp
 other:=fun b hb h=>⟨by simp[Nat.ne_of_lt hb,h],alloc_old w.drew o b hb⟩
 kept:=fun s _ _ h hb=>⟨by simp[Nat.ne_of_lt hb,h],alloc_old w.drew o _ hb⟩
def Z0{o:Oper}{x y:Operand}{t t2:TypeId}{z:AV}(ho:o.op=.call { callee:=.builtin .append,args:=#[x,y],argTypes:=#[t,t2] })(h:Na C.P t t2 (ev C st x) (ev C st y)=some z):OpG C o st z [] [] [] []:=by
 intro A N g a w hR K Q hk;unfold Na at h;split at h
 ·rename_i m es e n b hx hr;split at h
  ·rename_i fs hfs;split at h
   ·rename_i hc;obtain⟨rfl,ht2,hbig⟩:=hc;simp only[Option.some.injEq]at h;subst h;obtain⟨hu,i,zv,hi,hz,hzs,hsz,hby,hn,hb⟩:=Dw hr;subst hsz;obtain⟨consts,he⟩:=HZ a ho;have hxv:=hR.ev x;rw[hx]at hxv;obtain⟨vs,sy,py,ly⟩:=GW hn hfs (hR.ev y);obtain⟨us,sx,px,lx⟩:=GW (n:=i.size) (es:=es) hn (by simp[elems]) hxv;have hp:=hxv;simp only[VR,PR]at hp;obtain⟨_,ad,cap,hu2,k2,k3,k4,k5,k6⟩:=hp;have hcap:=k4 trivial;subst hcap;have hdoes:∀ u w',(Builtin.append_ #[t,t2] o.type #[a.eval x,a.eval y]).run C.P w=.ok u w'→Does C.P o a w u w':=fun u w' hrun=>H8 he (by simpa using hrun)
    by_cases hm:fs.length=0
    ·have hf:fs=[]:=List.eq_nil_of_length_eq_zero hm;subst hf;have hv0:vs=[]:=List.eq_nil_of_length_eq_zero (by simpa using sy.1);subst hv0;rw[hu2]at hdoes;refine(hdoes _ _ (EZ hu ht2 hi sy k2)).wp (hk _ g w (Grow.refl g w) ?_ (fun s cs hs=>by cases hs));rw[List.append_nil,← hu2];exact BZ.full _ _ _ hxv
    ·have hbytes:(es.length+fs.length)*i.bytes≤140737488355328:=by
      have:(es.length+fs.length)*i.bytes≤4294967296*32768:=Nat.mul_le_mul hbig (by omega);omega
     have hrun:=FE (ty:=o.type) hu ht2 hi hz (base:=ad) (sLen:=es.length) (sCap:=es.length) (olds:=us) (hu2▸sx) sy (by omega) (Nat.le_refl _) hbytes (by omega);rw[hu2]at hdoes;have hgr:=c8 g w (.cells (us.toArray++vs.toArray++Builtin.zeroCells zv.cells (grownCap w (es.length+fs.length) es.length e-(es.length+fs.length))) e);refine(hdoes _ _ hrun).wp (hk _ _ _ hgr ?_ (fun s cs hs=>by cases hs));simp only[VR,PR];refine⟨(fun _ _ h=>by cases h),some ⟨w.heap.size,0,none⟩,grownCap w (es.length+fs.length) es.length e,by simp,by simpa using grownCap_ge w (es.length+fs.length) es.length e,grownCap_le_maxLen w _ _ e (by simp only[maxLen];omega),(fun h=>by cases h),k5,.inr ⟨⟨w.heap.size,0,none⟩,rfl,by simp[BJ],?_⟩⟩;refine PRe.Dh (es++fs) (us++vs) _ _ 0 (fun e' he'=>(List.mem_append.1 he').elim (lx e') (ly e')) ?_ ?_
     ·rw[List.flatten_append];exact PRl.append (PRl.mono hgr.ro' px) (PRl.mono hgr.ro' py)
     ·intro j v hj;simp only[Nat.zero_mul,Nat.zero_add,add_lit];have hh:(w.drew.alloc (.cells (us.toArray++vs.toArray++Builtin.zeroCells zv.cells (grownCap w (es.length+fs.length) es.length e-(es.length+fs.length))) e)).heap[w.heap.size]?=some (.cells (us.toArray++vs.toArray++Builtin.zeroCells zv.cells (grownCap w (es.length+fs.length) es.length e-(es.length+fs.length))) e):=heap_alloc_new w.drew _;rw[cell_of_row _ _ _ _ _ _ hh];have hj':j<(us++vs).length:=by
       rcases Nat.lt_or_ge j (us++vs).length with h|h
       ·exact h
       ·rw[List.getElem?_eq_none h]at hj;cases hj
      rw[Array.getElem?_append_left (by simpa using hj')];simpa using hj
   ·cases h
  ·cases h
 ·cases h
def Uf(n len:Nat)(zs:List Value)(parts:List (Nat × AV)):Option AV :=
 match Lg (fun i=>some (i*n,n)) (List.replicate len (vals zs)).flatten parts with
 |some L=>match LA L with
  |some ps=>if Cf L=true∧ps.length=len*n∧len*n≤16777216∧rowsOf L=[] then some (.sl .full n (chunk n len ps)) else none
  |none=>none
 |none=>none
def bb(P:Program)(t:TypeId)(len:Nat)(parts:List (Nat × AV)):Option AV:=match Bg P t with
 |some (e,n,_)=>match zeroOf P e with
  |some zs=>Uf n len zs parts
  |none=>none
 |none=>none
def R1(g:Gh):g.freeze []=g:=by
 cases g;simp only[Gh.freeze,List.not_mem_nil,if_false,Gh.mk.injEq,and_true];funext b;split<;>simp_all
def bc{o:Oper}{t:TypeId}{len:Nat}{ps:Array (Nat × Operand)}{z:AV}(ho:o.op=.buildSlice t len ps)(h:bb C.P t len (parts C st ps)=some z):OpG C o st z [] [] [] []:=by
 intro A N g a w hR K Q hk;unfold bb at h;split at h
 ·rename_i e n b ht;split at h
  ·rename_i zs hzs;obtain⟨hu,i,zv,hi,hz,hzsz,hsz,hby,hn,hb⟩:=Dw ht;have hzz:=HI hzs hi hz;have hzl:zs.length=n:=by rw[hzz];simpa using hzsz
   have hp2:=Jo hR ps;have hp1:(parts C st ps).map (·.1)=(ps.toList.map fun p=>(p.1,a.eval p.2)).map (·.1):=by simp[parts]
   have hex:=HM a ho;generalize parts C st ps=pa at h hp1 hp2;generalize (ps.toList.map fun p=>(p.1,a.eval p.2))=pv at hp1 hp2 hex;unfold Uf at h;split at h
   ·rename_i L hL;have hz0:VRs g w (List.replicate len (vals zs)).flatten (List.replicate len zs).flatten:=by
     have:∀ m:Nat,VRs g w (List.replicate m (vals zs)).flatten (List.replicate m zs).flatten:=by
      intro m
      induction m with
      | zero=>simp[VRs]
      | succ m ih=>rw[List.replicate_succ,List.replicate_succ,List.flatten_cons,List.flatten_cons];exact VRs.append (Hi zs) ih
     exact this len
    have harr:((Array.range (len*n)).map (zv.cells[·%zv.cells.size]!)).toList=(List.replicate len zs).flatten:=by
     apply List.ext_getElem?;intro j;cases hj:(List.replicate len zs).flatten[j]? with
     |none =>
      have:len*n≤j:=by
       have:=List.getElem?_eq_none_iff.1 hj;simpa [List.length_flatten,hzl,Nat.mul_comm]using this
      simp;omega
     |some v =>
      obtain⟨h1,h2⟩:=CR zs _ _ _ hj;rw[hzl]at h2;simp only[Array.getElem?_toList,Array.getElem?_map,Array.getElem?_range,if_pos h2,Option.map_some];rw[hzz]at h1;simp only[Array.length_toList,Array.getElem?_toList]at h1;rw[getElem!_def,h1]
    obtain⟨cur,hf,hcur⟩:=Ki (fun i=>some (i*n,n)) pa pv _ ((Array.range (len*n)).map (zv.cells[·%zv.cells.size]!)) L hp1 hp2 (by rw[harr];exact hz0) hL;split at h
    ·rename_i qs hps;split at h
     ·rename_i hc;obtain⟨hok,hpl,hbig,hrows⟩:=hc;simp only[Option.some.injEq]at h;subst h;obtain⟨c1,c2,c3⟩:=Of n len qs hpl;have hpr:=NX (S:=[]) hcur hps (fun r hr=>by rw[hrows]at hr;exact hr) hok;rw[R1]at hpr;have hf':Instr.fill (fun i=>some (i*n,n)) (if len*n=0 then #[] else (Array.range (len*n)).map (zv.cells[·%zv.cells.size]!)) pv=some cur:=by
       by_cases h0:len*n=0
       ·rw[h0]at hf ⊢;simpa [Array.range_zero']using hf
       ·simpa [h0]using hf
      have hrun:(Instr.buildSlice t len pv.toArray).run C.P w=.ok (.slice (some ⟨w.heap.size,0,none⟩) len len) (w.alloc (.cells cur e)):=by
       by_cases h0:len*n=0
       ·simp only[h0,if_true]at hf';simp[Instr.buildSlice,run_underlying hu,sizeOf,typeInfo,hi,hsz,h0,Array.range_zero',hf',newRow]
       ·simp only[h0,if_false]at hf';simp[Instr.buildSlice,run_underlying hu,sizeOf,typeInfo,hi,hsz,h0,zeroValue,hz,hf',newRow];exact hbig
      have hgr:Grow [] [] [] g w { g with own:=fun x=>if x=w.heap.size then .ro else g.own x } (w.alloc (.cells cur e)) :=
       { ro:=fun b hb h=>⟨by simp[Nat.ne_of_lt hb,h],alloc_old w _ b hb⟩
         row:=fun b q hb _ h=>⟨by simp[Nat.ne_of_lt hb,h],alloc_old w _ b hb⟩
         rows:=fun _ _=>rfl
         boxes:=fun _ _=>rfl
         inn:=fun b q i hb _ h=>⟨by simp[Nat.ne_of_lt hb,h],alloc_old w _ b hb⟩
         inns:=fun _ _ _=>rfl
         os:=rfl
         tape:=⟨rfl,by first|exact Nat.le_refl _|exact Nat.le_succ _⟩
         output:=rfl
         size:=by simp
         other:=fun b hb h=>⟨by simp[Nat.ne_of_lt hb,h],alloc_old w _ b hb⟩
         kept:=fun s _ _ h hb=>⟨by simp[Nat.ne_of_lt hb,h],alloc_old w _ _ hb⟩ }
      refine(H8 hex hrun).wp (hk _ _ _ hgr ?_ (fun s cs hs=>by cases hs));simp only[VR,PR,c1];refine⟨(fun _ _ h=>by cases h),some ⟨w.heap.size,0,none⟩,len,rfl,Nat.le_refl _,by simp only[maxLen];have:=Nat.le_mul_of_pos_right len hn;omega,(fun _=>rfl),hn,.inr ⟨⟨w.heap.size,0,none⟩,rfl,by simp[BJ],?_⟩⟩;refine PRe.Dh _ cur.toList _ _ 0 c2 (by rw[c3];exact PRl.mono hgr.ro' hpr) ?_;intro j v hj;simp only[Nat.zero_mul,Nat.zero_add,add_lit];have hh:(w.alloc (.cells cur e)).heap[w.heap.size]?=some (.cells cur e):=heap_alloc_new w _;rw[cell_of_row _ _ _ _ _ _ hh];simpa using hj
     ·cases h
    ·cases h
   ·cases h
  ·cases h
 ·cases h
end
end Go.Abs
namespace Go.Abs
def EV(v:Option AV)(p:List Nat)(cr:List (Nat × List Nat × List Nat))(d:Option Nat)(K:St→Prop)(st:St):Prop:=match v with
 |some x=>away cr p ⟨x,[],[],[]⟩∧K (st.put d x)
 |none=>False
def AU(X:Env)(d:Option Nat)(fid:Nat)(xs:List AV)(Al:List (Nat × List AV))(p:List Nat)(i:Nat)(cr:List (Nat × List Nat × List Nat))(K:List (Nat × List Nat × List Nat)→St→Prop)(st:St):Prop :=
 ∃ v ob y ob',v.OK ob∧(rngs v.fm).all (fun s=>s%64 !=63)=true∧v.ρ.m=[]∧Ad X.C fid (Fq v.ρ xs) ob y ob'∧Has v ⟨[],Al⟩ ob∧(v.ρ.bs=[]∨(Flat (y.ren v.back)∧IT (Ey v.back ob'))) ∧
  Lh (rngs v.back.l) (rngs v.fm) st.tmps∧F1 (rngs v.back.l) (rngs v.fm) st.Al∧away cr p ⟨y.ren v.back,rngs v.back.l,rngs v.fm,Ey v.back ob'⟩ ∧
  K (HL i ⟨y.ren v.back,rngs v.back.l,rngs v.fm,Ey v.back ob'⟩ cr) ⟨(St.put d (y.ren v.back) st).tmps,Ey v.back ob'++st.Al⟩
def NB(X:Env)(d:Option Nat)(f:AV)(xs:List AV)(Al:List (Nat × List AV))(p:List Nat)(i:Nat)(cr:List (Nat × List Nat × List Nat))(K:List (Nat × List Nat × List Nat)→St→Prop)(st:St):Prop :=
 match f with
 |.fn fid AS=>AU X d fid (xs++AS) Al p i cr K st
 |_=>False
def Ow(k:Nat)(zs:List Value)(p:List Nat)(i:Nat)(cr:List (Nat × List Nat × List Nat))(K:List (Nat × List Nat × List Nat)→St→Prop)(st:St):Prop :=
 Lh [] [nm k] st.tmps∧F1 [] [nm k] st.Al∧away cr p ⟨.ptr (nm k) 0,[],[nm k],[(nm k,vals zs)]⟩ ∧
  K (HL i ⟨.ptr (nm k) 0,[],[nm k],[(nm k,vals zs)]⟩ cr) ⟨(k,.ptr (nm k) 0)::st.tmps,(nm k,vals zs)::st.Al⟩
def HN(X:Env)(o:Oper)(Al:List (Nat × List AV))(r:St)(p:List Nat)(i:Nat)(cr:List (Nat × List Nat × List Nat))(K:List (Nat × List Nat × List Nat)→St→Prop)(st:St):Prop :=
 match o.op with
 |.call ⟨.value f,args,_⟩=>NB X o.dst (ev X.C r f) (CX X.C r args.toList) Al p i cr K st
 |.alloc t=>match o.dst,zeroOf X.C.P t with
  |some k,some zs=>Ow k zs p i cr K st
  |_,_=>False
 |.call ⟨.builtin .append,args,tys⟩=>match args.toList,tys.toList with
  |[x,y],[t,t2]=>EV (Na X.C.P t t2 (ev X.C r x) (ev X.C r y)) p cr o.dst (K cr) st
  |_,_=>False
 |.buildSlice t len ps=>EV (bb X.C.P t len (parts X.C r ps)) p cr o.dst (K cr) st
 |_=>EV (Yt X.C o r) p cr o.dst (K cr) st
def A6(X:Env)(all:Array Oper)(Al:List (Nat × List AV)):List Oper→List (List Nat × List Nat)→Nat→(St→Prop)→List (Nat × List Nat × List Nat)→St→Prop
 |[],_,_,K,_,st=>K st
 |_::_,[],_,_,_,_=>False
 | o::os,(p,ts)::tab,i,K,cr,st =>
  o.dst.isSome=true∧match o.guard with
  |none=>HN X o Al ⟨restr st ts,Al⟩ p i cr (A6 X all Al os tab (i+1) K) st
  |some (j,b)=>match guardOf all j ⟨restr st ts,Al⟩ with
   |some (.v (.bool b'))=>FF b' b (HN X o Al ⟨restr (st.learn (gdst all j) b) ts,Al⟩ p i cr (A6 X all Al os tab (i+1) K) (st.learn (gdst all j) b)) (away cr p ⟨.tup [],[],[],[]⟩∧A6 X all Al os tab (i+1) K cr ((st.learn (gdst all j) (!b)).put o.dst (.tup [])))
   |some (.tup [])=>away cr p ⟨.tup [],[],[],[]⟩∧A6 X all Al os tab (i+1) K cr (st.put o.dst (.tup []))
   |_=>False
section
variable {X:Env} {all:Array Oper} {Al:List (Nat × List AV)}
def MU{ρ:Rn}:∀ {o:List (Nat × List AV)} {s:Nat},s∈names (Ey ρ o)→s∈rngs ρ.m
 |[],s,h=>by simp[Ey,names]at h
 |(k,c)::o,s,h=>by
  simp only[Ey,List.filterMap_cons]at h;cases hk:lk k ρ.m with
  |none=>rw[hk]at h;exact MU (o:=o) h
  |some k' =>
   rw[hk]at h;simp only[Option.map_some,names,List.map_cons,List.mem_cons]at h;rcases h with h|h
   ·subst h;simp only[rngs,List.mem_map];exact⟨_,IB hk,rfl⟩
   ·exact MU (o:=o) h
def Ox{o:Oper}{r st:St}{p:List Nat}{i:Nat}{cr:List (Nat × List Nat × List Nat)}{K:List (Nat × List Nat × List Nat)→St→Prop}(hr:r.Al=Al)(hd:o.dst.isSome=true)(h:HN X o Al r p i cr K st) :
 Kj X o r st p cr fun e=>o.dst.isSome=true∧K (HL i e cr) ⟨(St.put o.dst e.x st).tmps,e.Gk++st.Al⟩:=by
 subst hr;unfold HN at h;split at h
 ·rename_i f args ts ho;unfold NB at h;split at h
  ·rename_i fid AS hf;obtain⟨v,ob,y,ob',h1,h2,hm,h3,h4,h5,h6,h7,h8,h9⟩:=h;rw[LQ]at h3;have hbm:rngs v.back.m=rngs v.fm:=by simp[Way.back,hm,inv]
   refine⟨⟨y.ren v.back,rngs v.back.l,rngs v.fm,Ey v.back ob'⟩,?_,h2,fun s hs=>?_,h6,h7,h8,hd,h9⟩
   ·have:=hZ (st:=r) ho rfl hf h1 h3 (fun s' cs hs=>h4 s' cs hs) h5;rw[hbm]at this;exact this
   ·rw[← hbm];exact MU hs
  ·cases h
 ·rename_i t ho;split at h
  ·rename_i k zs hdk hz;obtain⟨h6,h7,h8,h9⟩:=h;refine⟨⟨.ptr (nm k) 0,[],[nm k],[(nm k,vals zs)]⟩,eO ho hdk hz,?_,fun s hs=>by simpa [names]using hs,h6,h7,h8,hd,?_⟩
   ·simp[nm]
   ·simp only[hdk,St.put];exact h9
  ·cases h
 ·rename_i args tys ho;split at h
  ·rename_i x y t t2 hxy htt;unfold EV at h;split at h
   ·rename_i z hz;obtain⟨h8,h9⟩:=h;rw[Ob hxy,Ob htt]at ho;refine⟨⟨z,[],[],[]⟩,Z0 ho hz,rfl,(fun s hs=>by simp[names]at hs),Li _,JG _,h8,hd,?_⟩;have e:∀ s:St,(St.put o.dst z s)=⟨(St.put o.dst z s).tmps,s.Al⟩:=fun s=>by cases o.dst<;>rfl
    simp only[HL,List.nil_append];rw[← e];exact h9
   ·cases h
  ·cases h
 ·rename_i t len ps ho;unfold EV at h;split at h
  ·rename_i x hx;obtain⟨h8,h9⟩:=h;refine⟨⟨x,[],[],[]⟩,bc ho hx,rfl,(fun s hs=>by simp[names]at hs),Li _,JG _,h8,hd,?_⟩;have e:∀ s:St,(St.put o.dst x s)=⟨(St.put o.dst x s).tmps,s.Al⟩:=fun s=>by cases o.dst<;>rfl
   simp only[HL,List.nil_append];rw[← e];exact h9
  ·cases h
 ·unfold EV at h;split at h
  ·rename_i x hx;obtain⟨h8,h9⟩:=h;refine⟨⟨x,[],[],[]⟩,jg hx,rfl,(fun s hs=>by simp[names]at hs),Li _,JG _,h8,hd,?_⟩;have e:∀ s:St,(St.put o.dst x s)=⟨(St.put o.dst x s).tmps,s.Al⟩:=fun s=>by cases o.dst<;>rfl
   simp only[HL,List.nil_append];rw[← e];exact h9
  ·cases h
def Kj.mono{o:Oper}{r st:St}{p:List Nat}{cr:List (Nat × List Nat × List Nat)}{K K':Res→Prop}(h:Kj X o r st p cr K)(hk:∀ e,K e→K' e):Kj X o r st p cr K':=by
 obtain⟨e,h1,h2,h3,h4,h5,h6,h7⟩:=h;exact⟨e,h1,h2,h3,h4,h5,h6,hk e h7⟩
def Hp{K:St→Prop}:∀ (os:List Oper) (tab:List (List Nat × List Nat)) (i:Nat) (cr:List (Nat × List Nat × List Nat)) (st:St),A6 X all Al os tab i K cr st→Fx X all Al os tab i cr K st
 |[],tab,i,cr,st,h=>h
 |_::_,[],_,_,_,h=>h
 | o::os,(p,ts)::tab,i,cr,st,h=>by
  simp only[A6]at h;obtain⟨hd,h⟩:=h;simp only[Fx];have run:=fun(st:St) (h:HN X o Al ⟨restr st ts,Al⟩ p i cr (A6 X all Al os tab (i+1) K) st)=>(Ox rfl hd h).mono fun e he=>(⟨he.1,Hp os tab (i+1) _ _ he.2⟩:o.dst.isSome=true∧Fx X all Al os tab (i+1) (HL i e cr) K ⟨(St.put o.dst e.x st).tmps,e.Gk++st.Al⟩)
  split at h
  ·rename_i hg;(try rw[hg]);exact run st h
  ·rename_i j b hg
   (try rw[hg])
   try simp only
   split at h
   ·rename_i b' hb
    (try rw[hb])
    exact⟨fun he=>run _ (h.1 he),fun he=>⟨hd,(h.2 he).1,Hp os tab (i+1) _ _ (h.2 he).2⟩⟩
   ·rename_i hb
    (try rw[hb])
    exact⟨hd,h.1,Hp os tab (i+1) _ _ h.2⟩
   ·exact h.elim
def Az{d:Option Nat}{fid:Nat}{xs xs':List AV}{p:List Nat}{i:Nat}{cr:List (Nat × List Nat × List Nat)}{K:List (Nat × List Nat × List Nat)→St→Prop}{st:St}{y:AV}{ob ob':List (Nat × List AV)}(v:Way)(hok:Ad X.C fid xs' ob y ob')(hx:Ai (Fq v.ρ xs) xs')(hv:HG v ob=true)(hm:v.ρ.m=[])(hh:YC v ⟨[],Al⟩ ob)
 (hfl:v.ρ.bs=[]∨(Flat (y.ren v.back)∧IT (Ey v.back ob')))
 (h:Lh (rngs v.back.l) (rngs v.fm) st.tmps∧F1 (rngs v.back.l) (rngs v.fm) st.Al∧away cr p ⟨y.ren v.back,rngs v.back.l,rngs v.fm,Ey v.back ob'⟩ ∧
  K (HL i ⟨y.ren v.back,rngs v.back.l,rngs v.fm,Ey v.back ob'⟩ cr) ⟨(St.put d (y.ren v.back) st).tmps,Ey v.back ob'++st.Al⟩):AU X d fid xs Al p i cr K st:=by
 exact⟨v,ob,y,ob',(HG.ok hv).1,(HG.ok hv).2,hm,hok.Ar hx.AR,hh.has,hfl,h⟩
end
@[go_sem] theorem fq(x:AV)(p:List Nat)(cr:List (Nat × List Nat × List Nat))(d:Option Nat)(K:St→Prop)(st:St):EV (some x) p cr d K st=(away cr p ⟨x,[],[],[]⟩∧K (st.put d x)):=rfl
@[go_sem] theorem ey(X:Env)(d:Option Nat)(fid:Nat)(AS xs:List AV)(Al:List (Nat × List AV))(p:List Nat)(i:Nat)(cr:List (Nat × List Nat × List Nat))(K:List (Nat × List Nat × List Nat)→St→Prop)(st:St):NB X d (.fn fid AS) xs Al p i cr K st=AU X d fid (xs++AS) Al p i cr K st:=rfl
@[go_sem] theorem gY(p:List Nat)(r:Res):away [] p r=True:=rfl
@[go_sem] theorem gi(i:Nat)(S T:List Nat)(l:List (Nat × List Nat × List Nat))(p:List Nat)(r:Res):away ((i,S,T)::l) p r=((i∈p∨(r.x.kill S T=r.x∧F1 S T r.Gk))∧away l p r):=rfl
@[go_sem] theorem gM(st:St):restr st []=[]:=rfl
@[go_sem] theorem fP(st:St)(t:Nat)(ts:List Nat):restr st (t::ts)=(match lk t st.tmps with
 |some x=>(t,x)::restr st ts
 |none=>restr st ts):=rfl
@[go_sem] theorem ie(i:Nat)(x:AV)(u:List (Nat × List AV))(cr:List (Nat × List Nat × List Nat)):HL i ⟨x,[],[],u⟩ cr=cr:=rfl
@[go_sem] theorem j5(i s:Nat)(S T:List Nat)(x:AV)(u:List (Nat × List AV))(cr:List (Nat × List Nat × List Nat)):HL i ⟨x,s::S,T,u⟩ cr=(i,s::S,T)::cr:=rfl
@[go_sem] theorem j6(i s:Nat)(T:List Nat)(x:AV)(u:List (Nat × List AV))(cr:List (Nat × List Nat × List Nat)):HL i ⟨x,[],s::T,u⟩ cr=(i,[],s::T)::cr:=rfl
attribute [go_sem] Ow Lh F1
section
variable (X:Env) (all:Array Oper) (Al:List (Nat × List AV)) (K:St→Prop) (os:List Oper) (p ts:List Nat) (tab:List (List Nat × List Nat)) (i:Nat) (cr:List (Nat × List Nat × List Nat)) (st:St) (d:Nat) (ty:TypeId) (pos:String) (aft:Array Edge)
@[go_sem] theorem gz(tab:List (List Nat × List Nat)):A6 X all Al [] tab i K cr st=K st:=rfl
@[go_sem] theorem gx(op:Op)(j:Nat)(b:Bool):A6 X all Al (⟨some d,op,ty,pos,aft,some (j,b)⟩::os) ((p,ts)::tab) i K cr st =
 (match guardOf all j ⟨restr st ts,Al⟩ with
  |some (.v (.bool b'))=>FF b' b (A6 X all Al (⟨some d,op,ty,pos,aft,none⟩::os) ((p,ts)::tab) i K cr (st.learn (gdst all j) b)) (away cr p ⟨.tup [],[],[],[]⟩∧A6 X all Al os tab (i+1) K cr ((st.learn (gdst all j) (!b)).put (some d) (.tup [])))
  |some (.tup [])=>away cr p ⟨.tup [],[],[],[]⟩∧A6 X all Al os tab (i+1) K cr (st.put (some d) (.tup []))
  |_=>False):=by
 have e:∀ r KK st,HN X ⟨some d,op,ty,pos,aft,some (j,b)⟩ Al r p i cr KK st=HN X ⟨some d,op,ty,pos,aft,none⟩ Al r p i cr KK st:=fun r KK st=>by cases op<;>rfl
 simp only[A6,Option.isSome_some,true_and,e]
@[go_sem] theorem iy(f:Operand)(args:Array Operand)(tys:Array TypeId):A6 X all Al (⟨some d,.call ⟨.value f,args,tys⟩,ty,pos,aft,none⟩::os) ((p,ts)::tab) i K cr st=NB X (some d) (ev X.C ⟨restr st ts,Al⟩ f) (CX X.C ⟨restr st ts,Al⟩ args.toList) Al p i cr (A6 X all Al os tab (i+1) K) st:=by
 simp only[A6,Option.isSome_some,true_and];rfl
@[go_sem] theorem gu(t:TypeId):A6 X all Al (⟨some d,.alloc t,ty,pos,aft,none⟩::os) ((p,ts)::tab) i K cr st=(match zeroOf X.C.P t with
  |some zs=>Ow d zs p i cr (A6 X all Al os tab (i+1) K) st
  |none=>False):=by
 simp only[A6,Option.isSome_some,true_and,HN];cases zeroOf X.C.P t<;>rfl
@[go_sem] theorem iA(x:Operand):A6 X all Al (⟨some d,.move x,ty,pos,aft,none⟩::os) ((p,ts)::tab) i K cr st=EV (some (ev X.C ⟨restr st ts,Al⟩ x)) p cr (some d) (A6 X all Al os tab (i+1) K cr) st:=by
 simp only[A6,Option.isSome_some,true_and];rfl
@[go_sem] theorem fp(x:Operand):A6 X all Al (⟨some d,.assign x,ty,pos,aft,none⟩::os) ((p,ts)::tab) i K cr st=EV (some (ev X.C ⟨restr st ts,Al⟩ x)) p cr (some d) (A6 X all Al os tab (i+1) K cr) st:=by
 simp only[A6,Option.isSome_some,true_and];rfl
@[go_sem] theorem iB(c a b:Operand):A6 X all Al (⟨some d,.pick c a b,ty,pos,aft,none⟩::os) ((p,ts)::tab) i K cr st=EV (Lx (ev X.C ⟨restr st ts,Al⟩ c) (ev X.C ⟨restr st ts,Al⟩ a) (ev X.C ⟨restr st ts,Al⟩ b)) p cr (some d) (A6 X all Al os tab (i+1) K cr) st:=by
 simp only[A6,Option.isSome_some,true_and];rfl
@[go_sem] theorem iz(t:TypeId)(x:Operand):A6 X all Al (⟨some d,.load t x,ty,pos,aft,none⟩::os) ((p,ts)::tab) i K cr st=EV (SY X.C t (ev X.C ⟨restr st ts,Al⟩ x) Al) p cr (some d) (A6 X all Al os tab (i+1) K cr) st:=by
 simp only[A6,Option.isSome_some,true_and];rfl
@[go_sem] theorem cn(t:TypeId)(x:Operand)(n:Nat):A6 X all Al (⟨some d,.fieldAddr t x n,ty,pos,aft,none⟩::os) ((p,ts)::tab) i K cr st=EV ((match A1 X.C.P t n with
  |some off=>MH off (ev X.C ⟨restr st ts,Al⟩ x)
  |none=>none)) p cr (some d) (A6 X all Al os tab (i+1) K cr) st:=by
 simp only[A6,Option.isSome_some,true_and];rfl
@[go_sem] theorem cp(t:TypeId)(x y:Operand):A6 X all Al (⟨some d,.indexAddr t x y,ty,pos,aft,none⟩::os) ((p,ts)::tab) i K cr st=EV (OJ X.C t (ev X.C ⟨restr st ts,Al⟩ x) (ev X.C ⟨restr st ts,Al⟩ y)) p cr (some d) (A6 X all Al os tab (i+1) K cr) st:=by
 simp only[A6,Option.isSome_some,true_and];rfl
@[go_sem] theorem cZ(x:Operand):A6 X all Al (⟨some d,.nilCheck x,ty,pos,aft,none⟩::os) ((p,ts)::tab) i K cr st=EV (R5 (ev X.C ⟨restr st ts,Al⟩ x)) p cr (some d) (A6 X all Al os tab (i+1) K cr) st:=by
 simp only[A6,Option.isSome_some,true_and];rfl
@[go_sem] theorem gv(op:BinOp)(t t2:TypeId)(x y:Operand):A6 X all Al (⟨some d,.binOp op t x y t2,ty,pos,aft,none⟩::os) ((p,ts)::tab) i K cr st=EV (WW X.C.P op t (ev X.C ⟨restr st ts,Al⟩ x) (ev X.C ⟨restr st ts,Al⟩ y)) p cr (some d) (A6 X all Al os tab (i+1) K cr) st:=by
 simp only[A6,Option.isSome_some,true_and];rfl
@[go_sem] theorem iC(op:UnOp)(t:TypeId)(x:Operand):A6 X all Al (⟨some d,.unOp op t x,ty,pos,aft,none⟩::os) ((p,ts)::tab) i K cr st=EV (unA op (ev X.C ⟨restr st ts,Al⟩ x)) p cr (some d) (A6 X all Al os tab (i+1) K cr) st:=by
 simp only[A6,Option.isSome_some,true_and];rfl
@[go_sem] theorem eu(s t:TypeId)(x:Operand):A6 X all Al (⟨some d,.convert s t x,ty,pos,aft,none⟩::os) ((p,ts)::tab) i K cr st=EV (U6 X.C.P s t (ev X.C ⟨restr st ts,Al⟩ x)) p cr (some d) (A6 X all Al os tab (i+1) K cr) st:=by
 simp only[A6,Option.isSome_some,true_and];rfl
@[go_sem] theorem ew(x:Operand)(n:Nat):A6 X all Al (⟨some d,.extract x n,ty,pos,aft,none⟩::os) ((p,ts)::tab) i K cr st=EV (JB n (ev X.C ⟨restr st ts,Al⟩ x)) p cr (some d) (A6 X all Al os tab (i+1) K cr) st:=by
 simp only[A6,Option.isSome_some,true_and];rfl
@[go_sem] theorem gw(t:TypeId)(ps:Array (Nat × Operand)):A6 X all Al (⟨some d,.build t ps,ty,pos,aft,none⟩::os) ((p,ts)::tab) i K cr st=EV (Oe X.C t (HO X.C ⟨restr st ts,Al⟩ ps.toList)) p cr (some d) (A6 X all Al os tab (i+1) K cr) st:=by
 simp only[A6,Option.isSome_some,true_and];rfl
@[go_sem] theorem gy(t:TypeId)(x:Operand)(lo hi mx:Option Operand):A6 X all Al (⟨some d,.slice t x lo hi mx,ty,pos,aft,none⟩::os) ((p,ts)::tab) i K cr st=EV ((if Ud (ev X.C ⟨restr st ts,Al⟩ x)&&mx.isSome then (TX X.C ⟨restr st ts,Al⟩ t (ev X.C ⟨restr st ts,Al⟩ x) lo hi mx).map (·.1) else (Hf X.C ⟨restr st ts,Al⟩ t (ev X.C ⟨restr st ts,Al⟩ x) lo hi mx).map (·.1))) p cr (some d) (A6 X all Al os tab (i+1) K cr) st:=by
 simp only[A6,Option.isSome_some,true_and];rfl
@[go_sem] theorem jE(x:Operand)(t:TypeId):A6 X all Al (⟨some d,.call ⟨.builtin .len,#[x],#[t]⟩,ty,pos,aft,none⟩::os) ((p,ts)::tab) i K cr st=EV ((if Lq X.C.P t (ev X.C ⟨restr st ts,Al⟩ x)=true then OP (ev X.C ⟨restr st ts,Al⟩ x) else none)) p cr (some d) (A6 X all Al os tab (i+1) K cr) st:=by
 simp only[A6,Option.isSome_some,true_and];rfl
@[go_sem] theorem fo(x y:Operand)(t t2:TypeId):A6 X all Al (⟨some d,.call ⟨.builtin .append,#[x,y],#[t,t2]⟩,ty,pos,aft,none⟩::os) ((p,ts)::tab) i K cr st=EV ((Na X.C.P t t2 (ev X.C ⟨restr st ts,Al⟩ x) (ev X.C ⟨restr st ts,Al⟩ y))) p cr (some d) (A6 X all Al os tab (i+1) K cr) st:=by
 simp only[A6,Option.isSome_some,true_and];rfl
@[go_sem] theorem aP(t:TypeId)(len:Nat)(ps:Array (Nat × Operand)):A6 X all Al (⟨some d,.buildSlice t len ps,ty,pos,aft,none⟩::os) ((p,ts)::tab) i K cr st=EV (bb X.C.P t len (HO X.C ⟨restr st ts,Al⟩ ps.toList)) p cr (some d) (A6 X all Al os tab (i+1) K cr) st:=by
 simp only[A6,Option.isSome_some,true_and,HN,JO]
end
attribute [go_sem] U6 Ud Na bb Uf
end Go.Abs
