/- part 8 of the proof -/
import Derived.Still
import Derived.Test.YthachdiockkofaaGreatDoorW07
set_option linter.all false
namespace Go.Abs
def restr(st:St):List Nat→List (Nat × AV)
 |[]=>[]
 | t::ts=>match lk t st.tmps with
  |some x=>(t,x)::restr st ts
  |none=>restr st ts
def away(cr:List (Nat × List Nat × List Nat))(p:List Nat)(r:Res):Prop:=match cr with
 |[]=>True
 |(i,S,T)::l=>(i∈p∨(r.x.kill S T=r.x∧Ft S T r.FL))∧away l p r
def G8(i:Nat)(r:Res)(cr:List (Nat × List Nat × List Nat)):List (Nat × List Nat × List Nat):=match r.S,r.T with
 |[],[]=>cr
 | S,T=>(i,S,T)::cr
def JF(X:Env)(o:Oper)(r st:St)(p:List Nat)(cr:List (Nat × List Nat × List Nat))(K:Res→Prop):Prop :=
 ∃ e:Res,OpG X.C o r e.x e.S e.T e.T e.FL∧(e.T.all fun s=>s%64 !=63)=true∧(∀ s∈names e.FL,s∈e.T)∧KB e.S e.T st.tmps∧Ft e.S e.T st.Al∧away cr p e∧K e
def fh(b:Bool)(y:Option AV):Prop:=(∃ b',y=some (.v (.bool b'))∧b'≠b)∨y=some (.tup [])
def E4(X:Env)(all:Array Oper)(Al:List (Nat × List AV)):List Oper→List (List Nat × List Nat)→Nat→List (Nat × List Nat × List Nat)→(St→Prop)→St→Prop
 |[],_,_,_,K,st=>K st
 |_::_,[],_,_,_,_=>False
 | o::os,(p,ts)::tab,i,cr,K,st =>
  let run:=fun st:St=>JF X o ⟨restr st ts,Al⟩ st p cr fun e=>o.dst.isSome=true∧E4 X all Al os tab (i+1) (G8 i e cr) K ⟨(St.put o.dst e.x st).tmps,e.FL++st.Al⟩
  match o.guard with
  |none=>run st
  |some (j,b)=>match guardOf all j ⟨restr st ts,Al⟩ with
   |some (.v (.bool b'))=>Ff b' b (run (st.learn (gdst all j) b)) (o.dst.isSome=true∧away cr p ⟨.tup [],[],[],[]⟩∧E4 X all Al os tab (i+1) cr K ((st.learn (gdst all j) (!b)).put o.dst (.tup [])))
   |some (.tup [])=>o.dst.isSome=true∧away cr p ⟨.tup [],[],[],[]⟩∧E4 X all Al os tab (i+1) cr K (st.put o.dst (.tup []))
   |_=>False
theorem Og{st:St}{t:Nat}{x:AV}:∀ {ts:List Nat},lk t (restr st ts)=some x→lk t st.tmps=some x
 |[],h=>by cases h
 | u::ts,h=>by
  simp only[restr]at h;split at h
  ·rename_i y hy;simp only[lk]at h;split at h
   ·rename_i hut;subst hut;rw[hy];exact h
   ·exact Og h
  ·exact Og h
theorem O4{all:Array Oper}{j:Nat}{st:St}{ts:List Nat}{Al:List (Nat × List AV)}{b:Bool}(h:guardOf all j ⟨restr st ts,Al⟩=some (.v (.bool b))):st.learn (gdst all j) b=st:=by
 apply HY;unfold guardOf at h ⊢;obtain⟨d,h1,h2⟩:=Option.bind_eq_some_iff.1 h;rw[h1];exact Og h2
section
variable {X:Env} {A:A0} {N:Nat} {g:Gh} {st0:St} {a:Act} {w:World} {ops:Array Oper} {k:Nat} {tab:List (List Nat × List Nat)}
def canon(ops:Array Oper)(res:Nat→Res)(st0:St)(n:Nat):St:=⟨tmD (D1 ops) res (fun _=>true) st0.tmps n,obD res (fun _=>true) st0.Al n⟩
def stD(ops:Array Oper)(res:Nat→Res)(st0:St)(D:Nat→Bool)(n:Nat):St:=⟨tmD (D1 ops) res D st0.tmps n,obD res D st0.Al n⟩
structure Valid(X:Env)(ops:Array Oper)(tab:List (List Nat × List Nat))(st0:St)(res:Nat→Res)(n:Nat):Prop where
 op:∀ i,i<n→∃ o,ops[i]?=some o∧o.dst.isSome=true ∧
  (((o.guard=none∨∃ j b,o.guard=some (j,b)∧guardOf ops j ⟨restr (canon ops res st0 i) (Hm tab i),st0.Al⟩=some (.v (.bool b))) ∧
    OpG X.C o ⟨restr (canon ops res st0 i) (Hm tab i),st0.Al⟩ (res i).x (res i).S (res i).T (res i).T (res i).FL) ∨
  ((∃ j b,o.guard=some (j,b)∧fh b (guardOf ops j ⟨restr (canon ops res st0 i) (Hm tab i),st0.Al⟩))∧res i=⟨.tup [],[],[],[]⟩))
 ext:∀ i,i<n→((res i).T.all fun s=>s%64 !=63)=true
 nam:∀ i,i<n→∀ s∈names (res i).FL,s∈(res i).T
 fix:∀ i,i<n→KB (res i).S (res i).T (canon ops res st0 i).tmps∧Ft (res i).S (res i).T (canon ops res st0 i).Al
 away:∀ i j,i<j→j<n→i∈Dx tab j∨((res j).x.kill (res i).S (res i).T=(res j).x∧Ft (res i).S (res i).T (res j).FL)
def EN(res:Nat→Res)(n:Nat)(e:Res)(i:Nat):Res:=if i=n then e else res i
theorem TZ{res res':Nat→Res}{n:Nat}(h:∀ j,j<n→res j=res' j):canon ops res st0 n=canon ops res' st0 n:=by
 simp only[canon];rw[Jn n fun j hj=>⟨h j hj,rfl⟩,Jb n fun j hj=>⟨h j hj,rfl⟩]
theorem KC(l:List (Nat × AV)):KB [] [] l:=I8 l
theorem I4(l:List (Nat × List AV)):Ft [] [] l:=by simp[Ft,Li,I7]
theorem Valid.snoc{res:Nat→Res}{n:Nat}(hv:Valid X ops tab st0 res n)(e:Res){o:Oper}(ho:ops[n]?=some o)(hd:o.dst.isSome=true)
 (h1:((o.guard=none∨∃ j b,o.guard=some (j,b)∧guardOf ops j ⟨restr (canon ops res st0 n) (Hm tab n),st0.Al⟩=some (.v (.bool b))) ∧
  OpG X.C o ⟨restr (canon ops res st0 n) (Hm tab n),st0.Al⟩ e.x e.S e.T e.T e.FL) ∨
 ((∃ j b,o.guard=some (j,b)∧fh b (guardOf ops j ⟨restr (canon ops res st0 n) (Hm tab n),st0.Al⟩))∧e=⟨.tup [],[],[],[]⟩))
 (h2:(e.T.all fun s=>s%64 !=63)=true) (h3:∀ s∈names e.FL,s∈e.T) (h4:KB e.S e.T (canon ops res st0 n).tmps∧Ft e.S e.T (canon ops res st0 n).Al)
 (h5:∀ i,i<n→i∈Dx tab n∨(e.x.kill (res i).S (res i).T=e.x∧Ft (res i).S (res i).T e.FL)):Valid X ops tab st0 (EN res n e) (n+1):=by
 have hlt:∀ j,j<n→EN res n e j=res j:=fun j hj=>by simp[EN,Nat.ne_of_lt hj]
 have heq:EN res n e n=e:=by simp[EN]
 have hcan:∀ i,i≤n→canon ops (EN res n e) st0 i=canon ops res st0 i:=fun i hi=>TZ fun j hj=>hlt j (by omega)
 refine⟨fun i hi=>?_,fun i hi=>?_,fun i hi=>?_,fun i hi=>?_,fun i j hij hj=>?_⟩
 ·rw[hcan i (by omega)]
  by_cases hin:i=n
  ·subst hin;rw[heq];exact⟨o,ho,hd,h1⟩
  ·rw[hlt i (by omega)];exact hv.op i (by omega)
 ·by_cases hin:i=n
  ·subst hin;rw[heq];exact h2
  ·rw[hlt i (by omega)];exact hv.ext i (by omega)
 ·by_cases hin:i=n
  ·subst hin;rw[heq];exact h3
  ·rw[hlt i (by omega)];exact hv.nam i (by omega)
 ·rw[hcan i (by omega)]
  by_cases hin:i=n
  ·subst hin;rw[heq];exact h4
  ·rw[hlt i (by omega)];exact hv.fix i (by omega)
 ·rw[hlt i (by omega)]
  by_cases hin:j=n
  ·subst hin;rw[heq];exact h5 i (by omega)
  ·rw[hlt j (by omega)];exact hv.away i j hij (by omega)
def TB(res:Nat→Res)(n:Nat)(cr:List (Nat × List Nat × List Nat)):Prop:=∀ i,i<n→((res i).S=[]∧(res i).T=[])∨(i,(res i).S,(res i).T)∈cr
theorem TW{p:List Nat}{r:Res}:∀ {cr:List (Nat × List Nat × List Nat)},away cr p r→∀ {i:Nat} {S T:List Nat},(i,S,T)∈cr→i∈p∨(r.x.kill S T=r.x∧Ft S T r.FL)
 |(j,S',T')::l,h,i,S,T,hm=>by
  obtain⟨h1,h2⟩:=h;rcases List.mem_cons.1 hm with e|hm
  ·simp only[Prod.mk.injEq]at e;obtain⟨rfl,rfl,rfl⟩:=e;exact h1
  ·exact TW h2 hm
theorem TB.away{res:Nat→Res}{n:Nat}{cr:List (Nat × List Nat × List Nat)}(h:TB res n cr){p:List Nat}{r:Res}(ha:Abs.away cr p r):∀ i,i<n→i∈p∨(r.x.kill (res i).S (res i).T=r.x∧Ft (res i).S (res i).T r.FL):=by
 intro i hi;rcases h i hi with ⟨h1,h2⟩|hm
 ·rw[h1,h2];exact .inr ⟨HX _,I4 _⟩
 ·exact TW ha hm
theorem TB.snoc{res:Nat→Res}{n:Nat}{cr:List (Nat × List Nat × List Nat)}(h:TB res n cr)(e:Res):TB (EN res n e) (n+1) (G8 n e cr):=by
 have hsub:∀ q∈cr,q∈G8 n e cr:=fun q hq=>by
  unfold G8;split
  ·exact hq
  ·exact List.mem_cons_of_mem _ hq
 intro i hi
 by_cases hin:i=n
 ·subst hin;simp only[EN,if_true];unfold G8;split
  ·rename_i h1 h2;exact .inl ⟨h1,h2⟩
  ·exact .inr (by simp)
 ·simp only[EN,hin,if_false];exact(h i (by omega)).imp id (hsub _)
theorem PT{res:Nat→Res}{n:Nat}{e:Res}{o:Oper}(ho:ops[n]?=some o)(hd:o.dst.isSome=true) :
 canon ops (EN res n e) st0 (n+1)=⟨(St.put o.dst e.x (canon ops res st0 n)).tmps,e.FL++(canon ops res st0 n).Al⟩:=by
 have hlt:∀ j,j<n→EN res n e j=res j:=fun j hj=>by simp[EN,Nat.ne_of_lt hj]
 obtain⟨d,hd'⟩:=Option.isSome_iff_exists.1 hd;have hdt:D1 ops n=some d:=by simp[D1,ho,hd']
 simp only[canon,tmD,obD,hdt,if_true];rw[Jn (res:=EN res n e) (res':=res) n fun j hj=>⟨hlt j hj,rfl⟩,Jb (res:=EN res n e) (res':=res) n fun j hj=>⟨hlt j hj,rfl⟩];simp[EN,hd',St.put]
theorem KG{K:St→Prop}:∀ (os:List Oper) (tb:List (List Nat × List Nat)) (n:Nat) (cr:List (Nat × List Nat × List Nat)) (res:Nat→Res),(∀ j o,os[j]?=some o→ops[n+j]?=some o)→(∀ j q,tb[j]?=some q→tab[n+j]?=some q) →
 Valid X ops tab st0 res n→TB res n cr→E4 X ops st0.Al os tb n cr K (canon ops res st0 n)→∃ res',Valid X ops tab st0 res' (n+os.length)∧K (canon ops res' st0 (n+os.length))
 |[],tb,n,cr,res,_,_,hv,_,h=>⟨res,hv,by simp only[E4]at h;simpa using h⟩
 |_::_,[],_,_,_,_,_,_,_,h=>by simp[E4]at h
 | o::os,(p,ts)::tb,n,cr,res,ho,ht,hv,hc,h=>by
  have ho0:ops[n]?=some o:=ho 0 o rfl;have ht0:tab[n]?=some (p,ts):=ht 0 (p,ts) rfl;have hp:Dx tab n=p:=by simp[Dx,List.getD,ht0]
  have hr:Hm tab n=ts:=by simp[Hm,List.getD,ht0]
  have hos:∀ j o',os[j]?=some o'→ops[n+1+j]?=some o':=fun j o' hj=>by
   have:=ho (j+1) o' (by simpa using hj)
   rwa [show n+(j+1)=n+1+j by omega]at this
  have htb:∀ j q,tb[j]?=some q→tab[n+1+j]?=some q:=fun j q hj=>by
   have:=ht (j+1) q (by simpa using hj)
   rwa [show n+(j+1)=n+1+j by omega]at this
  have hlen:n+(o::os).length=n+1+os.length:=by simp;omega
  rw[hlen];have fin:∀ e:Res,Valid X ops tab st0 (EN res n e) (n+1)→TB (EN res n e) (n+1) (G8 n e cr)→o.dst.isSome=true→E4 X ops st0.Al os tb (n+1) (G8 n e cr) K ⟨(St.put o.dst e.x (canon ops res st0 n)).tmps,e.FL++(canon ops res st0 n).Al⟩ →
   ∃ res',Valid X ops tab st0 res' (n+1+os.length)∧K (canon ops res' st0 (n+1+os.length)):=fun e hv' hc' hd hf =>
   KG os tb (n+1) _ _ hos htb hv' hc' (by rw[PT ho0 hd];exact hf)
  have runs:(o.guard=none∨∃ j b,o.guard=some (j,b)∧guardOf ops j ⟨restr (canon ops res st0 n) (Hm tab n),st0.Al⟩=some (.v (.bool b))) →
   (JF X o ⟨restr (canon ops res st0 n) ts,st0.Al⟩ (canon ops res st0 n) p cr fun e=>o.dst.isSome=true∧E4 X ops st0.Al os tb (n+1) (G8 n e cr) K ⟨(St.put o.dst e.x (canon ops res st0 n)).tmps,e.FL++(canon ops res st0 n).Al⟩) →
   ∃ res',Valid X ops tab st0 res' (n+1+os.length)∧K (canon ops res' st0 (n+1+os.length)):=fun hg ⟨e,h1,h2,h3,h4,h5,h6,hd,hf⟩ =>
   fin e (hv.snoc e ho0 hd (.inl ⟨hg,by rw[hr];exact h1⟩) h2 h3 ⟨h4,h5⟩ (by rw[hp];exact hc.away h6)) (hc.snoc e) hd hf
  simp only[E4]at h;split at h
  ·rename_i hg;exact runs (.inl hg) h
  ·rename_i j b hg;split at h
   ·rename_i b' hb
    by_cases he:b'=b
    ·subst he;have h1:=h.1 rfl;rw[O4 hb]at h1;exact runs (.inr ⟨j,b',hg,by rw[hr];exact hb⟩) h1
    ·obtain⟨hd,ha,hf⟩:=h.2 he;have hbb:(!b)=b':=by cases b<;>cases b'<;>first|rfl|exact absurd rfl he
     rw[hbb,O4 hb]at hf;have:=hc.snoc (⟨.tup [],[],[],[]⟩:Res);refine fin ⟨.tup [],[],[],[]⟩ (hv.snoc _ ho0 hd (.inr ⟨⟨j,b,hg,.inl ⟨b',by rw[hr];exact hb,he⟩⟩,rfl⟩) rfl (fun s hs=>by cases hs) ⟨KC _,I4 _⟩ (by rw[hp];exact hc.away ha)) this hd ?_;simp only[G8,List.nil_append];have e:∀ s:St,(St.put o.dst (AV.tup []) s)=⟨(St.put o.dst (AV.tup []) s).tmps,s.Al⟩:=fun s=>by cases o.dst<;>rfl
     rw[← e];exact hf
   ·rename_i hb;obtain⟨hd,ha,hf⟩:=h;have:=hc.snoc (⟨.tup [],[],[],[]⟩:Res);refine fin ⟨.tup [],[],[],[]⟩ (hv.snoc _ ho0 hd (.inr ⟨⟨j,b,hg,.inr (by rw[hr];exact hb)⟩,rfl⟩) rfl (fun s hs=>by cases hs) ⟨KC _,I4 _⟩ (by rw[hp];exact hc.away ha)) this hd ?_;simp only[G8,List.nil_append];have e:∀ s:St,(St.put o.dst (AV.tup []) s)=⟨(St.put o.dst (AV.tup []) s).tmps,s.Al⟩:=fun s=>by cases o.dst<;>rfl
    rw[← e];exact hf
   ·cases h
end
end Go.Abs
namespace Go.Abs
section
variable {X:Env} {A:A0} {N:Nat} {g:Gh} {st0:St} {a:Act} {w:World} {ops:Array Oper} {k:Nat} {tab:List (List Nat × List Nat)} {res:Nat→Res} {D:Nat→Bool}
theorem R.le'{st st':St}{C:Ctx}(h:R C A N g st a w)(h1:∀ t x,lk t st'.tmps=some x→lk t st.tmps=some x)(h2:∀ s cs,lk s st'.Al=some cs→lk s st.Al=some cs):R C A N g st' a w :=
 ⟨h.size,h.defs,fun t x hx=>h.tm t x (h1 t x hx),fun s cs hs=>h.ob s cs (h2 s cs hs),h.fr⟩
theorem KO{st:St}{t:Nat}{x:AV}:∀ {ts:List Nat},lk t (restr st ts)=some x→t∈ts∧lk t st.tmps=some x
 |[],h=>by cases h
 | u::ts,h=>by
  simp only[restr]at h;split at h
  ·rename_i y hy;simp only[lk]at h;split at h
   ·rename_i hut;subst hut;exact⟨by simp,by rw[hy];exact h⟩
   ·obtain⟨h1,h2⟩:=KO h;exact⟨by simp[h1],h2⟩
  ·obtain⟨h1,h2⟩:=KO h;exact⟨by simp[h1],h2⟩
theorem Ut{d:Option Nat}{l:List Nat}:a7 d l=true↔∃ t,d=some t∧t∈l:=by
 cases d<;>simp[a7]
theorem Ro(hr:IP ops k tab)(hc:Closed ops D){i:Nat}(hi:i<k)(hnd:D i=false)(hp:∀ p∈Dx tab i,D p=true){t:Nat}(ht:t∈Hm tab i)(j:Nat)(hj:j<k)(hd:D1 ops j=some t)(hji:j≠i):D j=decide (j<i):=by
 have hk:=hr.le;rcases Nat.lt_or_gt_of_ne hji with hlt|hgt
 ·rcases hr.apart i j hi hlt with h|h
  ·simp[hp j h,hlt]
  ·simp only[clash,Bool.or_eq_false_iff]at h;have:=h.1.2;rw[Ut.2 ⟨t,hd,ht⟩]at this;cases this
 ·have hni:¬ j<i:=by omega
  simp only[hni,decide_false];rcases hr.apart j i hj hgt with h|h
  ·cases hD:D j with
   | false=>rfl
   | true=>have:=hc.pred hr j (by omega) hD i h;rw[hnd]at this;cases this
  ·simp only[clash,Bool.or_eq_false_iff]at h;have:=h.2;rw[Ut.2 ⟨t,hd,ht⟩]at this;cases this
theorem U6(hr:IP ops k tab)(hc:Closed ops D){i:Nat}(hi:i<k)(hnd:D i=false)(hp:∀ p∈Dx tab i,D p=true){t:Nat}(ht:t∈Hm tab i)(hself:D1 ops i≠some t∨True) :
 lk t (tmD (D1 ops) res D st0.tmps k)=lk t (tmD (D1 ops) res (fun _=>true) st0.tmps i):=by
 have h1:lk t (tmD (D1 ops) res D st0.tmps k)=lk t (tmD (D1 ops) res (fun j=>decide (j<i)) st0.tmps k):=Qy k fun j hj hd=>by
  by_cases hji:j=i
  ·subst hji;simp[hnd]
  ·exact Ro hr hc hi hnd hp ht j hj hd hji
 rw[h1,NF (i:=i) k (by omega) (fun j h1 _=>by simp;omega)];rw[Jn (res:=res) (res':=res) (D:=fun j=>decide (j<i)) (D':=fun _=>true) i fun j hj=>⟨rfl,by simp[hj]⟩]
theorem Oj(hv:Valid X ops tab st0 res k){s:Nat}{cs:List AV}(hs:lk s st0.Al=some cs):∀ n,n≤k→lk s (obD res D st0.Al n)=some cs
 | 0,_=>hs
 | n+1,hn=>by
  have ih:=Oj hv hs n (by omega);simp only[obD];split
  ·rw[Gy];have hf:=(hv.fix n (by omega)).2;obtain⟨hb,_⟩:=Im n hf;have hno:s∉(res n).T:=fun h=>by
    have:=Mf hb s h;rw[this]at hs;cases hs
   have:lk s (res n).FL=none:=Pw fun h=>hno (hv.nam n (by omega) s h)
   rw[this];simpa using ih
  ·exact ih
theorem Z6(hr:IP ops k tab)(hv:Valid X ops tab st0 res k)(hc:Closed ops D){i:Nat}(hi:i<k)(hnd:D i=false)(hp:∀ p∈Dx tab i,D p=true)(hR:R X.C A N g (stD ops res st0 D k) a w) :
 R X.C A N g ⟨restr (canon ops res st0 i) (Hm tab i),st0.Al⟩ a w:=by
 refine hR.le' (fun t x hx=>?_) fun s cs hs=>Oj hv hs k (Nat.le_refl _)
 obtain⟨h1,h2⟩:=KO hx;simp only[stD];rw[U6 hr hc hi hnd hp h1 (.inr trivial)];exact h2
theorem aV(hr:IP ops k tab)(hv:Valid X ops tab st0 res k)(hdst:∀ j,j<k→(D1 ops j).isSome=true)(hc:Closed ops D){i:Nat}(hi:i<k)(hnd:D i=false) :
 KB (res i).S (res i).T (stD ops res st0 D k).tmps∧Ft (res i).S (res i).T (stD ops res st0 D k).Al:=by
 have hk:=hr.le;obtain⟨h1,h2⟩:=hv.fix i hi;obtain⟨b1,b2⟩:=KD i h1;obtain⟨c1,c2⟩:=Im i h2;have key:∀ j,j<k→D j=true→(res j).x.kill (res i).S (res i).T=(res j).x∧Ft (res i).S (res i).T (res j).FL:=fun j hj hD=>by
  rcases Nat.lt_trichotomy j i with h|h|h
  ·exact⟨b2 j h (hdst j hj),c2 j h⟩
  ·subst h;rw[hnd]at hD;cases hD
  ·rcases hv.away i j h hj with h'|h'
   ·have:=hc.pred hr j (by omega) hD i h';rw[hnd]at this;cases this
   ·exact h'
 exact⟨Uk k b1 fun j hj hD=>(key j hj hD).1,Uj k c1 fun j hj hD=>(key j hj hD).2⟩
theorem Y0(hr:IP ops k tab)(hv:Valid X ops tab st0 res k)(hdst:∀ j,j<k→(D1 ops j).isSome=true)(hc:Closed ops D){i:Nat}(hi:i<k)(hnd:D i=false){s:Nat}{c:List AV}(hs:lk s (res i).FL=some c) :
 ∀ j,j≠i→j<k→D j=true→lk s (res j).FL=none:=fun j hji hj hD=>by
 have hk:=hr.le;have hT:s∈(res i).T:=hv.nam i hi s (Rj hs);have:Ft (res i).S (res i).T (res j).FL:=by
  rcases Nat.lt_trichotomy j i with h|h|h
  ·exact(Im i (hv.fix i hi).2).2 j h
  ·exact(hji h).elim
  ·rcases hv.away i j h hj with h'|h'
   ·have:=hc.pred hr j (by omega) hD i h';rw[hnd]at this;cases this
   ·exact h'.2
 exact Mf this s hT
theorem Vk(hr:IP ops k tab)(hv:Valid X ops tab st0 res k)(hdst:∀ j,j<k→(D1 ops j).isSome=true)(hc:Closed ops D){i d:Nat}(hi:i<k)(hnd:D i=false)(hp:∀ p∈Dx tab i,D p=true)(hd:D1 ops i=some d)
 (hR:R X.C A N g ⟨(d,(res i).x)::(stD ops res st0 D k).tmps,(res i).FL++(stD ops res st0 D k).Al⟩ a w):R X.C A N g (stD ops res st0 (G7 i D) k) a w:=by
 have hk:=hr.le;refine hR.le' (fun t x hx=>?_) fun s cs hs=>?_
 ·simp only[stD]at hx ⊢
  by_cases hdt:d=t
  ·subst hdt;rw[J5 hd k hi fun j h1 h2 h3 h4=>?_]at hx
   ·simpa [lk]using hx
   ·rcases hr.apart j i h2 h1 with h|h
    ·have:=hc.pred hr j (by omega) h3 i h;rw[hnd]at this;cases this
    ·simp[clash,hd,h4]at h
  ·simp only[lk,hdt,if_false];rw[← hx];exact Qy k fun j hj hdj=>by
    have:j≠i:=fun e=>by subst e;rw[hd]at hdj;injection hdj with e;exact hdt e
    simp[G7,this]
 ·simp only[stD]at hs ⊢;rw[Qx hnd k hi fun c hcs=>Y0 hr hv hdst hc hi hnd hcs]at hs;rw[Gy];exact hs
theorem Jy(hc:Closed ops D){i:Nat}(hd:∀ e∈BA ops i,D e=true):Closed ops (G7 i D):=fun j hj hD e he=>by
 simp only[G7]at hD ⊢;split
 ·rfl
 ·by_cases hji:j=i
  ·subst hji;exact hd e he
  ·simp only[hji,if_false]at hD;exact hc j hj hD e he
end
end Go.Abs
namespace Go.Abs
section
variable {X:Env} {A:A0} {N:Nat} {g:Gh} {st0:St} {a:Act} {w:World} {ops:Array Oper} {k:Nat} {tab:List (List Nat × List Nat)} {res:Nat→Res} {D:Nat→Bool}
def dOf(Af:Array Bool)(i:Nat):Bool:=Af.getD i false
theorem BE{Af:Array Bool}(hs:Af.size=ops.size){i:Nat}:i∈Region.ready .any ops Af↔i<ops.size∧dOf Af i=false∧∀ e∈BA ops i,dOf Af e=true:=by
 rw[mem_ready];constructor
 ·rintro⟨h1,o,ho,h2⟩;have hi:i<ops.size:=by
   rcases Nat.lt_or_ge i ops.size with h|h
   ·exact h
   ·rw[Array.getElem?_eq_none h]at ho;cases ho
  refine⟨hi,?_,fun e he=>?_⟩
  ·simpa [dOf,Array.getD,hs,hi]using h1
  ·simp only[BA,ho,List.mem_filterMap]at he;obtain⟨ed,hed,he⟩:=he;split at he
   ·rename_i hb;injection he with he
    subst he;exact h2 ed (by simpa using hed) hb
   ·cases he
 ·rintro⟨hi,h1,h2⟩;refine⟨?_,ops[i],Array.getElem?_eq_getElem hi,fun e he hb=>?_⟩
  ·simpa [dOf,Array.getD,hs,hi]using h1
  ·refine h2 e.on ?_;simp only[BA,Array.getElem?_eq_getElem hi,List.mem_filterMap];exact⟨e,by simpa using he,by simp[hb]⟩
theorem Em{Af:Array Bool}{i:Nat}(hi:i<Af.size):dOf (Af.setIfInBounds i true)=G7 i (dOf Af):=by
 funext j;simp only[dOf,G7,Array.getD_eq_getD_getElem?,Array.getElem?_setIfInBounds]
 by_cases hij:i=j
 ·subst hij;simp[hi]
 ·have:j≠i:=fun e=>hij e.symm
  simp[hij,this]
def unl(Af:Array Bool):Nat:=Af.toList.count false
theorem Hz{Af:Array Bool}{i:Nat}(hi:i<Af.size)(hd:dOf Af i=false):unl (Af.setIfInBounds i true)+1=unl Af:=by
 have hl:i<Af.toList.length:=by simpa using hi
 have hv:Af.toList[i]=false:=by simpa [dOf,Array.getD,hi]using hd
 unfold unl;rw[Array.toList_setIfInBounds,List.count_set hl,hv];have:0<Af.toList.count false:=List.count_pos_iff.2 (by rw[← hv];exact List.getElem_mem hl);have h1:(true==false)=false:=rfl;rw[h1];simp only[beq_self_eq_true,if_true,Bool.false_eq_true,if_false];omega
theorem G4{Af:Array Bool}(h:unl Af=0){i:Nat}(hi:i<Af.size):dOf Af i=true:=by
 cases hd:dOf Af i with
 | true=>rfl
 | false=>have:=Hz hi hd;omega
theorem Uh(hr:IP ops k tab){Q:Exit→Act→World→Prop}:∀ (fuel i:Nat) (Af:Array Bool) (a:Act) (w:World),Af.size=ops.size→unl Af≤fuel→k≤i→i≤ops.size→(∀ j,j<ops.size→dOf Af j=decide (j<i)) →
 wpList X.C.P ops Q (ops.toList.drop i) a w→wpAny X.C.P .any ops Q fuel Af a w:=by
 intro fuel
 induction fuel with
 | zero =>
  intro i Af a w hs hu hk hi hd h;have hin:i=ops.size:=by
   rcases Nat.lt_or_ge i ops.size with hlt|hge
   ·have:=G4 (by omega) (by omega:i<Af.size);rw[hd i hlt]at this;simp at this
   ·omega
  subst hin;rw[List.drop_eq_nil_of_le (by simp)]at h;refine⟨?_,h⟩;cases hrd:Region.ready .any ops Af with
  | nil=>rfl
  | cons j l =>
   have hj:j∈Region.ready .any ops Af:=by rw[hrd];simp
   have:=(BE hs).1 hj;rw[hd j this.1]at this;simp at this;omega
 | succ fuel ih =>
  intro i Af a w hs hu hk hi hd h;have honly:∀ j∈Region.ready .any ops Af,j=i:=fun j hj=>by
   obtain⟨h1,h2,h3⟩:=(BE hs).1 hj;rw[hd j h1]at h2;have hge:i≤j:=by simpa using h2
   rcases Nat.lt_or_ge i j with hlt|hle
   ·have hp:=LQ hr (D:=dOf Af) (fun q hq hD e he=>by
     rw[hd q hq]at hD;have:=hr.edge q hq e he;rw[hd e (by omega)];simp at hD ⊢;omega) h1 h3 i (hr.tail j h1 (by omega) i hlt)
    rw[hd i (by omega)]at hp;simp at hp
   ·omega
  constructor
  ·intro h0;rcases Nat.lt_or_ge i ops.size with hlt|hge
   ·have:i∈Region.ready .any ops Af:=(BE hs).2 ⟨hlt,by rw[hd i hlt];simp,fun e he=>by
     have:=hr.edge i hlt e he;rw[hd e (by omega)];simp;omega⟩
    rw[h0]at this;cases this
   ·have hin:i=ops.size:=by omega
    subst hin;rw[List.drop_eq_nil_of_le (by simp)]at h;exact h
  ·intro j hj;have hji:=honly j hj;subst hji;obtain⟨hlt,hnd,_⟩:=(BE hs).1 hj;have hget:ops[j]?=some ops[j]:=Array.getElem?_eq_getElem hlt;rw[List.drop_eq_getElem_cons (by simpa using hlt)]at h;have hw:wpOp X.C.P ops Q j (wpList X.C.P ops Q (ops.toList.drop (j+1))) a w:=by
    unfold wpOp;simp only[hget];simpa [wpList]using h
   refine wpOp_mono (fun a' w' h'=>ih (j+1) _ a' w' (by simp[hs]) (by have:=Hz (by omega:j<Af.size) hnd;omega) (by omega) (by omega) (fun q hq=>?_) h') hw;rw[Em (by omega)];simp only[G7];split
   ·rename_i e;subst e;simp
   ·rename_i e;rw[hd q hq];congr 1;simp;omega
theorem N2(hA:A.ext=X.ext)(hX:∀ s∈X.ext,s%64=63)(hN:∀ o∈ops,∀ d,o.dst=some d→d<N)(hr:IP ops k tab)(hv:Valid X ops tab st0 res k)(hdst:∀ j,j<k→(D1 ops j).isSome=true)(hc:Closed ops D){i:Nat}(hi:i<k)(hnd:D i=false)(hp:∀ p∈Dx tab i,D p=true)
 (hR:R X.C A N g (stD ops res st0 D k) a w) {K:Act→World→Prop} {Q:Exit→Act→World→Prop} (hK:∀ g' a' w',R X.C A N g' (stD ops res st0 (G7 i D) k) a' w'→K a' w'):wpOp X.C.P ops Q i K a w:=by
 obtain⟨o,ho,hsome,hop⟩:=hv.op i hi;obtain⟨d,hd⟩:=Option.isSome_iff_exists.1 hsome;have hdt:D1 ops i=some d:=by simp[D1,ho,hd]
 have hRr:=Z6 hr hv hc hi hnd hp hR;have hdN:∀ d',o.dst=some d'→d'<N:=hN o (Array.mem_of_getElem? ho);unfold wpOp;simp only[ho];rcases hop with ⟨hg,hG⟩|⟨⟨j,b,hg,hoff⟩,hres⟩
 ·have hw:Region.wanted o (yielded ops a.tmps)=true:=by
   rcases hg with hg|⟨j,b,hg,hb⟩
   ·simp[Region.wanted,hg]
   ·simp[Region.wanted,hg,JG hRr hb]
  simp only[hw,if_true];refine .inl (hG A N g a w hRr K Q fun u g' w' hgr hx hu=>?_);have hext:∀ s,s∈A.ext→s∉(res i).T:=fun s hs hT=>by
   have h7:=hX s (hA▸hs);have h8:=List.all_eq_true.1 (hv.ext i hi) s hT;simp[h7]at h8
  have h1:=(hR.app hgr hext hu).put hdN hx;obtain⟨f1,f2⟩:=aV hr hv hdst hc hi hnd;refine hK g' _ w' (Vk hr hv hdst hc hi hnd hp hdt ?_);have e:(St.put o.dst (res i).x (St.app (res i).S (res i).T (res i).T (res i).FL (stD ops res st0 D k)))=⟨(d,(res i).x)::(stD ops res st0 D k).tmps,(res i).FL++(stD ops res st0 D k).Al⟩:=by
   simp only[hd,St.put,St.app];rw[f1,f2]
  rw[← e];exact h1
 ·have hw:Region.wanted o (yielded ops a.tmps)=false:=by
   rcases hoff with ⟨b',hb,hne⟩|hb
   ·simp[Region.wanted,hg,JG hRr hb,hne]
   ·simp[Region.wanted,hg,N6 hRr hb]
  simp only[hw,Bool.false_eq_true,if_false];refine hK g _ w (Vk hr hv hdst hc hi hnd hp hdt ?_);have h1:=hR.put (x:=.tup []) (u:=undef) hdN PG;rw[hres];rw[hd]at h1 ⊢;exact h1
theorem explore(hA:A.ext=X.ext)(hX:∀ s∈X.ext,s%64=63)(hN:∀ o∈ops,∀ d,o.dst=some d→d<N)(hr:IP ops k tab)(hv:Valid X ops tab st0 res k)(hdst:∀ j,j<k→(D1 ops j).isSome=true){Q:Exit→Act→World→Prop}
 (htail:∀ g a w,R X.C A N g (canon ops res st0 k) a w→wpList X.C.P ops Q (ops.toList.drop k) a w):∀ (fuel:Nat) (Af:Array Bool) (g:Gh) (a:Act) (w:World),Af.size=ops.size→unl Af≤fuel→Closed ops (dOf Af)→(∀ j,j<ops.size→dOf Af j=true→j<k) →
 R X.C A N g (stD ops res st0 (dOf Af) k) a w→wpAny X.C.P .any ops Q fuel Af a w:=by
 have hk:=hr.le;have full:∀ (fuel:Nat) (Af:Array Bool) (g:Gh) (a:Act) (w:World),Af.size=ops.size→unl Af≤fuel→(∀ j,j<ops.size→dOf Af j=true→j<k)→(∀ j,j<k→dOf Af j=true)→R X.C A N g (stD ops res st0 (dOf Af) k) a w→wpAny X.C.P .any ops Q fuel Af a w:=by
  intro fuel Af g a w hs hu hlt hall hR;have e:stD ops res st0 (dOf Af) k=canon ops res st0 k:=by
   simp only[stD,canon];rw[Jn (res:=res) (res':=res) (D:=dOf Af) (D':=fun _=>true) k fun j hj=>⟨rfl,hall j hj⟩,Jb (res:=res) (res':=res) (D:=dOf Af) (D':=fun _=>true) k fun j hj=>⟨rfl,hall j hj⟩]
  rw[e]at hR;refine Uh hr fuel k Af a w hs hu (Nat.le_refl _) hk (fun j hj=>?_) (htail g a w hR);cases hd:dOf Af j with
  | true=>simp[hlt j hj hd]
  | false =>
   have:¬ j<k:=fun h=>by rw[hall j h]at hd;cases hd
   simp[this]
 intro fuel
 induction fuel with
 | zero =>
  intro Af g a w hs hu hc hlt hR;exact full 0 Af g a w hs hu hlt (fun j hj=>G4 (by omega) (by omega)) hR
 | succ fuel ih =>
  intro Af g a w hs hu hc hlt hR
  by_cases hall:∀ j,j<k→dOf Af j=true
  ·exact full _ Af g a w hs hu hlt hall hR
  ·have step:∀ i∈Region.ready .any ops Af,wpOp X.C.P ops Q i (wpAny X.C.P .any ops Q fuel (Af.setIfInBounds i true)) a w:=fun i hi=>by
    obtain⟨h1,h2,h3⟩:=(BE hs).1 hi;have hp:=LQ hr hc h1 h3;have hik:i<k:=by
     rcases Nat.lt_or_ge i k with h|h
     ·exact h
     ·exact(hall fun j hj=>hp j (hr.tail i h1 h j (by omega))).elim
    refine N2 hA hX hN hr hv hdst hc hik h2 hp hR fun g' a' w' hR'=>?_
    rw[← Em (by omega)]at hR';refine ih _ g' a' w' (by simp[hs]) (by have:=Hz (by omega:i<Af.size) h2;omega) (by rw[Em (by omega)];exact Jy hc h3) (fun j hj hD=>?_) hR';rw[Em (by omega)]at hD;simp only[G7]at hD;split at hD
    ·rename_i e;omega
    ·exact hlt j hj hD
   refine⟨fun h0=>?_,step⟩;have hex:∃ j,j<k∧dOf Af j=false:=by
    apply Classical.byContradiction;intro hno;refine hall fun j hj=>?_
    cases hd:dOf Af j with
    | true=>rfl
    | false=>exact(hno ⟨j,hj,hd⟩).elim
   have least:∀ n j,j<k→dOf Af j=false→j≤n→∃ i,i<k∧i∈Region.ready .any ops Af:=by
    intro n
    induction n with
    | zero =>
     intro j hj hd hjn;have:j=0:=by omega
     subst this;exact⟨0,hj,(BE hs).2 ⟨by omega,hd,fun e he=>by have:=hr.edge 0 (by omega) e he;omega⟩⟩
    | succ n ihn =>
     intro j hj hd hjn
     by_cases hed:∀ e∈BA ops j,dOf Af e=true
     ·exact⟨j,hj,(BE hs).2 ⟨by omega,hd,hed⟩⟩
     ·have:∃ e,e∈BA ops j∧dOf Af e=false:=by
       apply Classical.byContradiction;intro hno;refine hed fun e he=>?_
       cases hde:dOf Af e with
       | true=>rfl
       | false=>exact(hno ⟨e,he,hde⟩).elim
      obtain⟨e,he,hde⟩:=this;have:=hr.edge j (by omega) e he;exact ihn e (by omega) hde (by omega)
   obtain⟨j,hj,hd⟩:=hex;obtain⟨i,_,hi⟩:=least k j hj hd (by omega);rw[h0]at hi;cases hi
end
theorem VV{X:Env}{ops:Array Oper}{K:St→Prop}{st:St}(k:Nat)(tab:List (List Nat × List Nat))(hm:X.C.P.follows .mixedOrders=true)(hok:Sq ops k tab=true)
 (h:E4 X ops st.Al (ops.toList.take k) tab 0 [] (A9 X ops (ops.toList.drop k) K) st):IX X ops K st:=by
 intro A N g a w hA hN hX hR id Q hQ;have hr:=Sq.spec hok;have hk:=hr.le;have hlen:(ops.toList.take k).length=k:=by simp;omega
 obtain⟨res,hv,hK⟩:=KG (X:=X) (st0:=st) (ops:=ops) (tab:=tab) (ops.toList.take k) tab 0 [] (fun _=>⟨.undef,[],[],[]⟩) (fun j o hj=>by
  rw[List.getElem?_take]at hj;split at hj
  ·simpa using hj
  ·cases hj) (fun j q hj=>by simpa using hj) ⟨fun i hi=>by omega,fun i hi=>by omega,fun i hi=>by omega,fun i hi=>by omega,fun i j _ hj=>by omega⟩ (fun i hi=>by omega) h
 rw[hlen,Nat.zero_add]at hv hK;have hdst:∀ j,j<k→(D1 ops j).isSome=true:=fun j hj=>by
  obtain⟨o,ho,hd,_⟩:=hv.op j hj;simpa [D1,ho]using hd
 refine wp_region_any hm (explore hA hX hN hr hv hdst (fun g' a' w' hR'=>?_) ops.size (Array.replicate ops.size false) g a _ (by simp) (by simp[unl]) ?_ ?_ ?_)
 ·exact Mr hA hX (N:=N) (K:=K) (Q:=Q) hQ (ops.toList.drop k) g' _ a' w' (fun o ho=>by
   have hmem:o∈ops:=by simpa using List.mem_of_mem_drop ho
   unfold Ic;cases hd:o.dst with
   |none=>rfl
   |some d=>simp;exact hN o hmem d hd) hK hR'
 ·intro i hi hD;simp[dOf,Array.getD,hi]at hD
 ·intro j hj hD;simp[dOf,Array.getD,hj]at hD
 ·have e:stD ops res st (dOf (Array.replicate ops.size false)) k=st:=by
   have hf:∀ j,j<k→dOf (Array.replicate ops.size false) j=false:=fun j hj=>by
    have:j<ops.size:=by omega
    simp[dOf,Array.getD,this]
   have h1:tmD (D1 ops) res (dOf (Array.replicate ops.size false)) st.tmps k=st.tmps:=by
    rw[NF (i:=0) k (by omega) fun j _ hj=>hf j hj];rfl
   have h2:∀ n,n≤k→obD res (dOf (Array.replicate ops.size false)) st.Al n=st.Al:=fun n=>by
    induction n with
    | zero=>intro _;rfl
    | succ n ih=>intro hn;simp only[obD,hf n (by omega),Bool.false_eq_true,if_false];exact ih (by omega)
   simp only[stD,h1,h2 k (Nat.le_refl _)]
  rw[e];exact hR.drew
end Go.Abs
namespace Go.Abs
theorem D7{X:Env}{ops:Array Oper}{K:St→Prop}{st st':St}(h:Imp X st st')(hd:IX X ops K st'):IX X ops K st:=fun A N g a w hA hN hX hR id Q hQ=>by
 obtain⟨g',hR'⟩:=h A N g a w hA hR;exact hd A N g' a w hA hN hX hR' id Q hQ
def MB(P:Program)(t t2:TypeId)(x y:AV):Option AV:=match x,Bg P t with
 |.sl .full m es,some (_,n,_)=>match elems n y with
  |some fs=>if m=n∧AI P t2=true∧es.length+fs.length≤4294967296 then some (.sl .no n (es++fs)) else none
  |none=>none
 |_,_=>none
section
variable {C:Ctx} {A:A0} {N:Nat} {g g':Gh} {st:St} {a:Act} {w w':World} {P:Program}
theorem aX(g:Gh)(w:World)(o:Obj):Grow [] [] [] g w { g with own:=fun x=>if x=w.heap.size then .ro else g.own x } (w.drew.alloc o) where
 ro:=fun b hb h=>⟨by simp[Nat.ne_of_lt hb,h],alloc_old w.drew o b hb⟩
 row:=fun b q hb _ h=>⟨by simp[Nat.ne_of_lt hb,h],alloc_old w.drew o b hb⟩
 rows:=fun _ _=>rfl
 boxes:=fun _ _=>rfl
 inn:=fun b q i hb _ h=>⟨by simp[Nat.ne_of_lt hb,h],alloc_old w.drew o b hb⟩
 inns:=fun _ _ _=>rfl
 os:=rfl
 tape:=⟨rfl,by first|exact Nat.le_refl _|exact Nat.le_succ _⟩
 output:=rfl
 size:=by simp
 other:=fun b hb h=>⟨by simp[Nat.ne_of_lt hb,h],alloc_old w.drew o b hb⟩
 kept:=fun s _ _ h hb=>⟨by simp[Nat.ne_of_lt hb,h],alloc_old w.drew o _ hb⟩
theorem YK{o:Oper}{x y:Operand}{t t2:TypeId}{z:AV}(ho:o.op=.call { callee:=.builtin .append,args:=#[x,y],argTypes:=#[t,t2] })(h:MB C.P t t2 (ev C st x) (ev C st y)=some z):OpG C o st z [] [] [] []:=by
 intro A N g a w hR K Q hk;unfold MB at h;split at h
 ·rename_i m es e n b hx hr;split at h
  ·rename_i fs hfs;split at h
   ·rename_i hc;obtain⟨rfl,ht2,hbig⟩:=hc;simp only[Option.some.injEq]at h;subst h;obtain⟨hu,i,zv,hi,hz,hzs,hsz,hby,hn,hb⟩:=Dr hr;subst hsz;obtain⟨consts,he⟩:=Hu a ho;have hxv:=hR.ev x;rw[hx]at hxv;obtain⟨vs,sy,py,ly⟩:=Gs hn hfs (hR.ev y);obtain⟨us,sx,px,lx⟩:=Gs (n:=i.size) (es:=es) hn (by simp[elems]) hxv;have hp:=hxv;simp only[VR,PR]at hp;obtain⟨_,ad,cap,hu2,k2,k3,k4,k5,k6⟩:=hp;have hcap:=k4 trivial;subst hcap;have hdoes:∀ u w',(Builtin.append_ #[t,t2] o.type #[a.eval x,a.eval y]).run C.P w=.ok u w'→Does C.P o a w u w':=fun u w' hrun=>HB he (by simpa using hrun)
    by_cases hm:fs.length=0
    ·have hf:fs=[]:=List.eq_nil_of_length_eq_zero hm;subst hf;have hv0:vs=[]:=List.eq_nil_of_length_eq_zero (by simpa using sy.1);subst hv0;rw[hu2]at hdoes;refine(hdoes _ _ (Ey hu ht2 hi sy k2)).wp (hk _ g w (Grow.refl g w) ?_ (fun s cs hs=>by cases hs));rw[List.append_nil,← hu2];exact BW.full _ _ _ hxv
    ·have hbytes:(es.length+fs.length)*i.bytes≤140737488355328:=by
      have:(es.length+fs.length)*i.bytes≤4294967296*32768:=Nat.mul_le_mul hbig (by omega);omega
     have hrun:=Fc (ty:=o.type) hu ht2 hi hz (base:=ad) (sLen:=es.length) (sCap:=es.length) (olds:=us) (hu2▸sx) sy (by omega) (Nat.le_refl _) hbytes (by omega);rw[hu2]at hdoes;have hgr:=aX g w (.cells (us.toArray++vs.toArray++Builtin.zeroCells zv.cells (grownCap w (es.length+fs.length) es.length e-(es.length+fs.length))) e);refine(hdoes _ _ hrun).wp (hk _ _ _ hgr ?_ (fun s cs hs=>by cases hs));simp only[VR,PR];refine⟨(fun _ _ h=>by cases h),some ⟨w.heap.size,0,none⟩,grownCap w (es.length+fs.length) es.length e,by simp,by simpa using grownCap_ge w (es.length+fs.length) es.length e,grownCap_le_maxLen w _ _ e (by simp only[maxLen];omega),(fun h=>by cases h),k5,.inr ⟨⟨w.heap.size,0,none⟩,rfl,by simp[BM],?_⟩⟩;refine PRe.C4 (es++fs) (us++vs) _ _ 0 (fun e' he'=>(List.mem_append.1 he').elim (lx e') (ly e')) ?_ ?_
     ·rw[List.flatten_append];exact PRl.append (PRl.mono hgr.ro' px) (PRl.mono hgr.ro' py)
     ·intro j v hj;simp only[Nat.zero_mul,Nat.zero_add,add_lit];have hh:(w.drew.alloc (.cells (us.toArray++vs.toArray++Builtin.zeroCells zv.cells (grownCap w (es.length+fs.length) es.length e-(es.length+fs.length))) e)).heap[w.heap.size]?=some (.cells (us.toArray++vs.toArray++Builtin.zeroCells zv.cells (grownCap w (es.length+fs.length) es.length e-(es.length+fs.length))) e):=heap_alloc_new w.drew _;rw[cell_of_row _ _ _ _ _ _ hh];have hj':j<(us++vs).length:=by
       rcases Nat.lt_or_ge j (us++vs).length with h|h
       ·exact h
       ·rw[List.getElem?_eq_none h]at hj;cases hj
      rw[Array.getElem?_append_left (by simpa using hj')];simpa using hj
   ·cases h
  ·cases h
 ·cases h
def Td(n len:Nat)(zs:List Value)(parts:List (Nat × AV)):Option AV :=
 match Kz (fun i=>some (i*n,n)) (List.replicate len (vals zs)).flatten parts with
 |some L=>match K0 L with
  |some ps=>if Cc L=true∧ps.length=len*n∧len*n≤16777216∧rowsOf L=[] then some (.sl .full n (chunk n len ps)) else none
  |none=>none
 |none=>none
def Zx(P:Program)(t:TypeId)(len:Nat)(parts:List (Nat × AV)):Option AV:=match Bg P t with
 |some (e,n,_)=>match zeroOf P e with
  |some zs=>Td n len zs parts
  |none=>none
 |none=>none
theorem Rh(g:Gh):g.freeze []=g:=by
 cases g;simp only[Gh.freeze,List.not_mem_nil,if_false,Gh.mk.injEq,and_true];funext b;split<;>simp_all
theorem Zy{o:Oper}{t:TypeId}{len:Nat}{ps:Array (Nat × Operand)}{z:AV}(ho:o.op=.buildSlice t len ps)(h:Zx C.P t len (parts C st ps)=some z):OpG C o st z [] [] [] []:=by
 intro A N g a w hR K Q hk;unfold Zx at h;split at h
 ·rename_i e n b ht;split at h
  ·rename_i zs hzs;obtain⟨hu,i,zv,hi,hz,hzsz,hsz,hby,hn,hb⟩:=Dr ht;have hzz:=G6 hzs hi hz;have hzl:zs.length=n:=by rw[hzz];simpa using hzsz
   have hp2:=IQ hR ps;have hp1:(parts C st ps).map (·.1)=(ps.toList.map fun p=>(p.1,a.eval p.2)).map (·.1):=by simp[parts]
   have hex:=Ha a ho;generalize parts C st ps=pa at h hp1 hp2;generalize (ps.toList.map fun p=>(p.1,a.eval p.2))=pv at hp1 hp2 hex;unfold Td at h;split at h
   ·rename_i L hL;have hz0:VRs g w (List.replicate len (vals zs)).flatten (List.replicate len zs).flatten:=by
     have:∀ m:Nat,VRs g w (List.replicate m (vals zs)).flatten (List.replicate m zs).flatten:=by
      intro m
      induction m with
      | zero=>simp[VRs]
      | succ m ih=>rw[List.replicate_succ,List.replicate_succ,List.flatten_cons,List.flatten_cons];exact VRs.append (GM zs) ih
     exact this len
    have harr:((Array.range (len*n)).map (zv.cells[·%zv.cells.size]!)).toList=(List.replicate len zs).flatten:=by
     apply List.ext_getElem?;intro j;cases hj:(List.replicate len zs).flatten[j]? with
     |none =>
      have:len*n≤j:=by
       have:=List.getElem?_eq_none_iff.1 hj;simpa [List.length_flatten,hzl,Nat.mul_comm]using this
      simp;omega
     |some v =>
      obtain⟨h1,h2⟩:=CD zs _ _ _ hj;rw[hzl]at h2;simp only[Array.getElem?_toList,Array.getElem?_map,Array.getElem?_range,if_pos h2,Option.map_some];rw[hzz]at h1;simp only[Array.length_toList,Array.getElem?_toList]at h1;rw[getElem!_def,h1]
    obtain⟨cur,hf,hcur⟩:=JD (fun i=>some (i*n,n)) pa pv _ ((Array.range (len*n)).map (zv.cells[·%zv.cells.size]!)) L hp1 hp2 (by rw[harr];exact hz0) hL;split at h
    ·rename_i qs hps;split at h
     ·rename_i hc;obtain⟨hok,hpl,hbig,hrows⟩:=hc;simp only[Option.some.injEq]at h;subst h;obtain⟨c1,c2,c3⟩:=NQ n len qs hpl;have hpr:=Nq (S:=[]) hcur hps (fun r hr=>by rw[hrows]at hr;exact hr) hok;rw[Rh]at hpr;have hf':Instr.fill (fun i=>some (i*n,n)) (if len*n=0 then #[] else (Array.range (len*n)).map (zv.cells[·%zv.cells.size]!)) pv=some cur:=by
       by_cases h0:len*n=0
       ·rw[h0]at hf ⊢;simpa [Array.range_zero']using hf
       ·simpa [h0]using hf
      have hrun:(Instr.buildSlice t len pv.toArray).run C.P w=.ok (.slice (some ⟨w.heap.size,0,none⟩) len len) (w.alloc (.cells cur e)):=by
       by_cases h0:len*n=0
       ·simp only[h0,if_true]at hf';simp[Instr.buildSlice,run_underlying hu,sizeOf,typeInfo,hi,hsz,h0,Array.range_zero',hf',newRow]
       ·simp only[h0,if_false]at hf';simp[Instr.buildSlice,run_underlying hu,sizeOf,typeInfo,hi,hsz,h0,zeroValue,hz,hf',newRow];exact hbig
      have hgr:Grow [] [] [] g w { g with own:=fun x=>if x=w.heap.size then .ro else g.own x } (w.alloc (.cells cur e)) :=
       { ro:=fun b hb h=>⟨by simp[Nat.ne_of_lt hb,h],alloc_old w _ b hb⟩
         row:=fun b q hb _ h=>⟨by simp[Nat.ne_of_lt hb,h],alloc_old w _ b hb⟩
         rows:=fun _ _=>rfl
         boxes:=fun _ _=>rfl
         inn:=fun b q i hb _ h=>⟨by simp[Nat.ne_of_lt hb,h],alloc_old w _ b hb⟩
         inns:=fun _ _ _=>rfl
         os:=rfl
         tape:=⟨rfl,by first|exact Nat.le_refl _|exact Nat.le_succ _⟩
         output:=rfl
         size:=by simp
         other:=fun b hb h=>⟨by simp[Nat.ne_of_lt hb,h],alloc_old w _ b hb⟩
         kept:=fun s _ _ h hb=>⟨by simp[Nat.ne_of_lt hb,h],alloc_old w _ _ hb⟩ }
      refine(HB hex hrun).wp (hk _ _ _ hgr ?_ (fun s cs hs=>by cases hs));simp only[VR,PR,c1];refine⟨(fun _ _ h=>by cases h),some ⟨w.heap.size,0,none⟩,len,rfl,Nat.le_refl _,by simp only[maxLen];have:=Nat.le_mul_of_pos_right len hn;omega,(fun _=>rfl),hn,.inr ⟨⟨w.heap.size,0,none⟩,rfl,by simp[BM],?_⟩⟩;refine PRe.C4 _ cur.toList _ _ 0 c2 (by rw[c3];exact PRl.mono hgr.ro' hpr) ?_;intro j v hj;simp only[Nat.zero_mul,Nat.zero_add,add_lit];have hh:(w.alloc (.cells cur e)).heap[w.heap.size]?=some (.cells cur e):=heap_alloc_new w _;rw[cell_of_row _ _ _ _ _ _ hh];simpa using hj
     ·cases h
    ·cases h
   ·cases h
  ·cases h
 ·cases h
end
end Go.Abs
namespace Go.Abs
def Et(v:Option AV)(p:List Nat)(cr:List (Nat × List Nat × List Nat))(d:Option Nat)(K:St→Prop)(st:St):Prop:=match v with
 |some x=>away cr p ⟨x,[],[],[]⟩∧K (st.put d x)
 |none=>False
def AW(X:Env)(d:Option Nat)(fid:Nat)(xs:List AV)(Al:List (Nat × List AV))(p:List Nat)(i:Nat)(cr:List (Nat × List Nat × List Nat))(K:List (Nat × List Nat × List Nat)→St→Prop)(st:St):Prop :=
 ∃ v ob y ob',v.OK ob∧(rngs v.fm).all (fun s=>s%64 !=63)=true∧v.ρ.m=[]∧Ad X.C fid (EY v.ρ xs) ob y ob'∧Has v ⟨[],Al⟩ ob∧(v.ρ.bs=[]∨(Flat (y.ren v.back)∧Ie (Ee v.back ob'))) ∧
  KB (rngs v.back.l) (rngs v.fm) st.tmps∧Ft (rngs v.back.l) (rngs v.fm) st.Al∧away cr p ⟨y.ren v.back,rngs v.back.l,rngs v.fm,Ee v.back ob'⟩ ∧
  K (G8 i ⟨y.ren v.back,rngs v.back.l,rngs v.fm,Ee v.back ob'⟩ cr) ⟨(St.put d (y.ren v.back) st).tmps,Ee v.back ob'++st.Al⟩
def M3(X:Env)(d:Option Nat)(f:AV)(xs:List AV)(Al:List (Nat × List AV))(p:List Nat)(i:Nat)(cr:List (Nat × List Nat × List Nat))(K:List (Nat × List Nat × List Nat)→St→Prop)(st:St):Prop :=
 match f with
 |.fn fid AU=>AW X d fid (xs++AU) Al p i cr K st
 |_=>False
def NZ(k:Nat)(zs:List Value)(p:List Nat)(i:Nat)(cr:List (Nat × List Nat × List Nat))(K:List (Nat × List Nat × List Nat)→St→Prop)(st:St):Prop :=
 KB [] [nm k] st.tmps∧Ft [] [nm k] st.Al∧away cr p ⟨.ptr (nm k) 0,[],[nm k],[(nm k,vals zs)]⟩ ∧
  K (G8 i ⟨.ptr (nm k) 0,[],[nm k],[(nm k,vals zs)]⟩ cr) ⟨(k,.ptr (nm k) 0)::st.tmps,(nm k,vals zs)::st.Al⟩
def Hb(X:Env)(o:Oper)(Al:List (Nat × List AV))(r:St)(p:List Nat)(i:Nat)(cr:List (Nat × List Nat × List Nat))(K:List (Nat × List Nat × List Nat)→St→Prop)(st:St):Prop :=
 match o.op with
 |.call ⟨.value f,args,_⟩=>M3 X o.dst (ev X.C r f) (CL X.C r args.toList) Al p i cr K st
 |.alloc t=>match o.dst,zeroOf X.C.P t with
  |some k,some zs=>NZ k zs p i cr K st
  |_,_=>False
 |.call ⟨.builtin .append,args,tys⟩=>match args.toList,tys.toList with
  |[x,y],[t,t2]=>Et (MB X.C.P t t2 (ev X.C r x) (ev X.C r y)) p cr o.dst (K cr) st
  |_,_=>False
 |.buildSlice t len ps=>Et (Zx X.C.P t len (parts X.C r ps)) p cr o.dst (K cr) st
 |_=>Et (W9 X.C o r) p cr o.dst (K cr) st
def A8(X:Env)(all:Array Oper)(Al:List (Nat × List AV)):List Oper→List (List Nat × List Nat)→Nat→(St→Prop)→List (Nat × List Nat × List Nat)→St→Prop
 |[],_,_,K,_,st=>K st
 |_::_,[],_,_,_,_=>False
 | o::os,(p,ts)::tab,i,K,cr,st =>
  o.dst.isSome=true∧match o.guard with
  |none=>Hb X o Al ⟨restr st ts,Al⟩ p i cr (A8 X all Al os tab (i+1) K) st
  |some (j,b)=>match guardOf all j ⟨restr st ts,Al⟩ with
   |some (.v (.bool b'))=>Ff b' b (Hb X o Al ⟨restr (st.learn (gdst all j) b) ts,Al⟩ p i cr (A8 X all Al os tab (i+1) K) (st.learn (gdst all j) b)) (away cr p ⟨.tup [],[],[],[]⟩∧A8 X all Al os tab (i+1) K cr ((st.learn (gdst all j) (!b)).put o.dst (.tup [])))
   |some (.tup [])=>away cr p ⟨.tup [],[],[],[]⟩∧A8 X all Al os tab (i+1) K cr (st.put o.dst (.tup []))
   |_=>False
section
variable {X:Env} {all:Array Oper} {Al:List (Nat × List AV)}
theorem Mn{ρ:Rn}:∀ {o:List (Nat × List AV)} {s:Nat},s∈names (Ee ρ o)→s∈rngs ρ.m
 |[],s,h=>by simp[Ee,names]at h
 |(k,c)::o,s,h=>by
  simp only[Ee,List.filterMap_cons]at h;cases hk:lk k ρ.m with
  |none=>rw[hk]at h;exact Mn (o:=o) h
  |some k' =>
   rw[hk]at h;simp only[Option.map_some,names,List.map_cons,List.mem_cons]at h;rcases h with h|h
   ·subst h;simp only[rngs,List.mem_map];exact⟨_,HZ hk,rfl⟩
   ·exact Mn (o:=o) h
theorem N0{o:Oper}{r st:St}{p:List Nat}{i:Nat}{cr:List (Nat × List Nat × List Nat)}{K:List (Nat × List Nat × List Nat)→St→Prop}(hr:r.Al=Al)(hd:o.dst.isSome=true)(h:Hb X o Al r p i cr K st) :
 JF X o r st p cr fun e=>o.dst.isSome=true∧K (G8 i e cr) ⟨(St.put o.dst e.x st).tmps,e.FL++st.Al⟩:=by
 subst hr;unfold Hb at h;split at h
 ·rename_i f args ts ho;unfold M3 at h;split at h
  ·rename_i fid AU hf;obtain⟨v,ob,y,ob',h1,h2,hm,h3,h4,h5,h6,h7,h8,h9⟩:=h;rw[Ll]at h3;have hbm:rngs v.back.m=rngs v.fm:=by simp[Way.back,hm,inv]
   refine⟨⟨y.ren v.back,rngs v.back.l,rngs v.fm,Ee v.back ob'⟩,?_,h2,fun s hs=>?_,h6,h7,h8,hd,h9⟩
   ·have:=eB (st:=r) ho rfl hf h1 h3 (fun s' cs hs=>h4 s' cs hs) h5;rw[hbm]at this;exact this
   ·rw[← hbm];exact Mn hs
  ·cases h
 ·rename_i t ho;split at h
  ·rename_i k zs hdk hz;obtain⟨h6,h7,h8,h9⟩:=h;refine⟨⟨.ptr (nm k) 0,[],[nm k],[(nm k,vals zs)]⟩,cA ho hdk hz,?_,fun s hs=>by simpa [names]using hs,h6,h7,h8,hd,?_⟩
   ·simp[nm]
   ·simp only[hdk,St.put];exact h9
  ·cases h
 ·rename_i args tys ho;split at h
  ·rename_i x y t t2 hxy htt;unfold Et at h;split at h
   ·rename_i z hz;obtain⟨h8,h9⟩:=h;rw[NM hxy,NM htt]at ho;refine⟨⟨z,[],[],[]⟩,YK ho hz,rfl,(fun s hs=>by simp[names]at hs),KC _,I4 _,h8,hd,?_⟩;have e:∀ s:St,(St.put o.dst z s)=⟨(St.put o.dst z s).tmps,s.Al⟩:=fun s=>by cases o.dst<;>rfl
    simp only[G8,List.nil_append];rw[← e];exact h9
   ·cases h
  ·cases h
 ·rename_i t len ps ho;unfold Et at h;split at h
  ·rename_i x hx;obtain⟨h8,h9⟩:=h;refine⟨⟨x,[],[],[]⟩,Zy ho hx,rfl,(fun s hs=>by simp[names]at hs),KC _,I4 _,h8,hd,?_⟩;have e:∀ s:St,(St.put o.dst x s)=⟨(St.put o.dst x s).tmps,s.Al⟩:=fun s=>by cases o.dst<;>rfl
   simp only[G8,List.nil_append];rw[← e];exact h9
  ·cases h
 ·unfold Et at h;split at h
  ·rename_i x hx;obtain⟨h8,h9⟩:=h;refine⟨⟨x,[],[],[]⟩,fC hx,rfl,(fun s hs=>by simp[names]at hs),KC _,I4 _,h8,hd,?_⟩;have e:∀ s:St,(St.put o.dst x s)=⟨(St.put o.dst x s).tmps,s.Al⟩:=fun s=>by cases o.dst<;>rfl
   simp only[G8,List.nil_append];rw[← e];exact h9
  ·cases h
theorem JF.mono{o:Oper}{r st:St}{p:List Nat}{cr:List (Nat × List Nat × List Nat)}{K K':Res→Prop}(h:JF X o r st p cr K)(hk:∀ e,K e→K' e):JF X o r st p cr K':=by
 obtain⟨e,h1,h2,h3,h4,h5,h6,h7⟩:=h;exact⟨e,h1,h2,h3,h4,h5,h6,hk e h7⟩
theorem GS{K:St→Prop}:∀ (os:List Oper) (tab:List (List Nat × List Nat)) (i:Nat) (cr:List (Nat × List Nat × List Nat)) (st:St),A8 X all Al os tab i K cr st→E4 X all Al os tab i cr K st
 |[],tab,i,cr,st,h=>h
 |_::_,[],_,_,_,h=>h
 | o::os,(p,ts)::tab,i,cr,st,h=>by
  simp only[A8]at h;obtain⟨hd,h⟩:=h;simp only[E4];have run:=fun(st:St) (h:Hb X o Al ⟨restr st ts,Al⟩ p i cr (A8 X all Al os tab (i+1) K) st)=>(N0 rfl hd h).mono fun e he=>(⟨he.1,GS os tab (i+1) _ _ he.2⟩:o.dst.isSome=true∧E4 X all Al os tab (i+1) (G8 i e cr) K ⟨(St.put o.dst e.x st).tmps,e.FL++st.Al⟩)
  split at h
  ·rename_i hg;(try rw[hg]);exact run st h
  ·rename_i j b hg
   (try rw[hg])
   try simp only
   split at h
   ·rename_i b' hb
    (try rw[hb])
    exact⟨fun he=>run _ (h.1 he),fun he=>⟨hd,(h.2 he).1,GS os tab (i+1) _ _ (h.2 he).2⟩⟩
   ·rename_i hb
    (try rw[hb])
    exact⟨hd,h.1,GS os tab (i+1) _ _ h.2⟩
   ·exact h.elim
theorem Aw{d:Option Nat}{fid:Nat}{xs xs':List AV}{p:List Nat}{i:Nat}{cr:List (Nat × List Nat × List Nat)}{K:List (Nat × List Nat × List Nat)→St→Prop}{st:St}{y:AV}{ob ob':List (Nat × List AV)}(v:Way)(hok:Ad X.C fid xs' ob y ob')(hx:Aj (EY v.ρ xs) xs')(hv:G5 v ob=true)(hm:v.ρ.m=[])(hh:Xj v ⟨[],Al⟩ ob)
 (hfl:v.ρ.bs=[]∨(Flat (y.ren v.back)∧Ie (Ee v.back ob')))
 (h:KB (rngs v.back.l) (rngs v.fm) st.tmps∧Ft (rngs v.back.l) (rngs v.fm) st.Al∧away cr p ⟨y.ren v.back,rngs v.back.l,rngs v.fm,Ee v.back ob'⟩ ∧
  K (G8 i ⟨y.ren v.back,rngs v.back.l,rngs v.fm,Ee v.back ob'⟩ cr) ⟨(St.put d (y.ren v.back) st).tmps,Ee v.back ob'++st.Al⟩):AW X d fid xs Al p i cr K st:=by
 exact⟨v,ob,y,ob',(G5.ok hv).1,(G5.ok hv).2,hm,hok.Am hx.AM,hh.has,hfl,h⟩
end
@[go_sem] theorem cO(x:AV)(p:List Nat)(cr:List (Nat × List Nat × List Nat))(d:Option Nat)(K:St→Prop)(st:St):Et (some x) p cr d K st=(away cr p ⟨x,[],[],[]⟩∧K (st.put d x)):=rfl
@[go_sem] theorem ca(X:Env)(d:Option Nat)(fid:Nat)(AU xs:List AV)(Al:List (Nat × List AV))(p:List Nat)(i:Nat)(cr:List (Nat × List Nat × List Nat))(K:List (Nat × List Nat × List Nat)→St→Prop)(st:St):M3 X d (.fn fid AU) xs Al p i cr K st=AW X d fid (xs++AU) Al p i cr K st:=rfl
@[go_sem] theorem eu(p:List Nat)(r:Res):away [] p r=True:=rfl
@[go_sem] theorem dy(i:Nat)(S T:List Nat)(l:List (Nat × List Nat × List Nat))(p:List Nat)(r:Res):away ((i,S,T)::l) p r=((i∈p∨(r.x.kill S T=r.x∧Ft S T r.FL))∧away l p r):=rfl
@[go_sem] theorem dV(st:St):restr st []=[]:=rfl
@[go_sem] theorem dd(st:St)(t:Nat)(ts:List Nat):restr st (t::ts)=(match lk t st.tmps with
 |some x=>(t,x)::restr st ts
 |none=>restr st ts):=rfl
@[go_sem] theorem eF(i:Nat)(x:AV)(u:List (Nat × List AV))(cr:List (Nat × List Nat × List Nat)):G8 i ⟨x,[],[],u⟩ cr=cr:=rfl
@[go_sem] theorem gC(i s:Nat)(S T:List Nat)(x:AV)(u:List (Nat × List AV))(cr:List (Nat × List Nat × List Nat)):G8 i ⟨x,s::S,T,u⟩ cr=(i,s::S,T)::cr:=rfl
@[go_sem] theorem gD(i s:Nat)(T:List Nat)(x:AV)(u:List (Nat × List AV))(cr:List (Nat × List Nat × List Nat)):G8 i ⟨x,[],s::T,u⟩ cr=(i,[],s::T)::cr:=rfl
attribute [go_sem] NZ KB Ft
section
variable (X:Env) (all:Array Oper) (Al:List (Nat × List AV)) (K:St→Prop) (os:List Oper) (p ts:List Nat) (tab:List (List Nat × List Nat)) (i:Nat) (cr:List (Nat × List Nat × List Nat)) (st:St) (d:Nat) (ty:TypeId) (pos:String) (aft:Array Edge)
@[go_sem] theorem dK(tab:List (List Nat × List Nat)):A8 X all Al [] tab i K cr st=K st:=rfl
@[go_sem] theorem dI(op:Op)(j:Nat)(b:Bool):A8 X all Al (⟨some d,op,ty,pos,aft,some (j,b)⟩::os) ((p,ts)::tab) i K cr st =
 (match guardOf all j ⟨restr st ts,Al⟩ with
  |some (.v (.bool b'))=>Ff b' b (A8 X all Al (⟨some d,op,ty,pos,aft,none⟩::os) ((p,ts)::tab) i K cr (st.learn (gdst all j) b)) (away cr p ⟨.tup [],[],[],[]⟩∧A8 X all Al os tab (i+1) K cr ((st.learn (gdst all j) (!b)).put (some d) (.tup [])))
  |some (.tup [])=>away cr p ⟨.tup [],[],[],[]⟩∧A8 X all Al os tab (i+1) K cr (st.put (some d) (.tup []))
  |_=>False):=by
 have e:∀ r KK st,Hb X ⟨some d,op,ty,pos,aft,some (j,b)⟩ Al r p i cr KK st=Hb X ⟨some d,op,ty,pos,aft,none⟩ Al r p i cr KK st:=fun r KK st=>by cases op<;>rfl
 simp only[A8,Option.isSome_some,true_and,e]
@[go_sem] theorem eO(f:Operand)(args:Array Operand)(tys:Array TypeId):A8 X all Al (⟨some d,.call ⟨.value f,args,tys⟩,ty,pos,aft,none⟩::os) ((p,ts)::tab) i K cr st=M3 X (some d) (ev X.C ⟨restr st ts,Al⟩ f) (CL X.C ⟨restr st ts,Al⟩ args.toList) Al p i cr (A8 X all Al os tab (i+1) K) st:=by
 simp only[A8,Option.isSome_some,true_and];rfl
@[go_sem] theorem dF(t:TypeId):A8 X all Al (⟨some d,.alloc t,ty,pos,aft,none⟩::os) ((p,ts)::tab) i K cr st=(match zeroOf X.C.P t with
  |some zs=>NZ d zs p i cr (A8 X all Al os tab (i+1) K) st
  |none=>False):=by
 simp only[A8,Option.isSome_some,true_and,Hb];cases zeroOf X.C.P t<;>rfl
@[go_sem] theorem eQ(x:Operand):A8 X all Al (⟨some d,.move x,ty,pos,aft,none⟩::os) ((p,ts)::tab) i K cr st=Et (some (ev X.C ⟨restr st ts,Al⟩ x)) p cr (some d) (A8 X all Al os tab (i+1) K cr) st:=by
 simp only[A8,Option.isSome_some,true_and];rfl
@[go_sem] theorem cN(x:Operand):A8 X all Al (⟨some d,.assign x,ty,pos,aft,none⟩::os) ((p,ts)::tab) i K cr st=Et (some (ev X.C ⟨restr st ts,Al⟩ x)) p cr (some d) (A8 X all Al os tab (i+1) K cr) st:=by
 simp only[A8,Option.isSome_some,true_and];rfl
@[go_sem] theorem eR(c a b:Operand):A8 X all Al (⟨some d,.pick c a b,ty,pos,aft,none⟩::os) ((p,ts)::tab) i K cr st=Et (KW (ev X.C ⟨restr st ts,Al⟩ c) (ev X.C ⟨restr st ts,Al⟩ a) (ev X.C ⟨restr st ts,Al⟩ b)) p cr (some d) (A8 X all Al os tab (i+1) K cr) st:=by
 simp only[A8,Option.isSome_some,true_and];rfl
@[go_sem] theorem eP(t:TypeId)(x:Operand):A8 X all Al (⟨some d,.load t x,ty,pos,aft,none⟩::os) ((p,ts)::tab) i K cr st=Et (R6 X.C t (ev X.C ⟨restr st ts,Al⟩ x) Al) p cr (some d) (A8 X all Al os tab (i+1) K cr) st:=by
 simp only[A8,Option.isSome_some,true_and];rfl
@[go_sem] theorem aA(t:TypeId)(x:Operand)(n:Nat):A8 X all Al (⟨some d,.fieldAddr t x n,ty,pos,aft,none⟩::os) ((p,ts)::tab) i K cr st=Et ((match A1 X.C.P t n with
  |some off=>Md off (ev X.C ⟨restr st ts,Al⟩ x)
  |none=>none)) p cr (some d) (A8 X all Al os tab (i+1) K cr) st:=by
 simp only[A8,Option.isSome_some,true_and];rfl
@[go_sem] theorem aB(t:TypeId)(x y:Operand):A8 X all Al (⟨some d,.indexAddr t x y,ty,pos,aft,none⟩::os) ((p,ts)::tab) i K cr st=Et (Oa X.C t (ev X.C ⟨restr st ts,Al⟩ x) (ev X.C ⟨restr st ts,Al⟩ y)) p cr (some d) (A8 X all Al os tab (i+1) K cr) st:=by
 simp only[A8,Option.isSome_some,true_and];rfl
@[go_sem] theorem aW(x:Operand):A8 X all Al (⟨some d,.nilCheck x,ty,pos,aft,none⟩::os) ((p,ts)::tab) i K cr st=Et (Ib (ev X.C ⟨restr st ts,Al⟩ x)) p cr (some d) (A8 X all Al os tab (i+1) K cr) st:=by
 simp only[A8,Option.isSome_some,true_and];rfl
@[go_sem] theorem dG(op:BinOp)(t t2:TypeId)(x y:Operand):A8 X all Al (⟨some d,.binOp op t x y t2,ty,pos,aft,none⟩::os) ((p,ts)::tab) i K cr st=Et (VG X.C.P op t (ev X.C ⟨restr st ts,Al⟩ x) (ev X.C ⟨restr st ts,Al⟩ y)) p cr (some d) (A8 X all Al os tab (i+1) K cr) st:=by
 simp only[A8,Option.isSome_some,true_and];rfl
@[go_sem] theorem eS(op:UnOp)(t:TypeId)(x:Operand):A8 X all Al (⟨some d,.unOp op t x,ty,pos,aft,none⟩::os) ((p,ts)::tab) i K cr st=Et (unA op (ev X.C ⟨restr st ts,Al⟩ x)) p cr (some d) (A8 X all Al os tab (i+1) K cr) st:=by
 simp only[A8,Option.isSome_some,true_and];rfl
@[go_sem] theorem b8(s t:TypeId)(x:Operand):A8 X all Al (⟨some d,.convert s t x,ty,pos,aft,none⟩::os) ((p,ts)::tab) i K cr st=Et (T6 X.C.P s t (ev X.C ⟨restr st ts,Al⟩ x)) p cr (some d) (A8 X all Al os tab (i+1) K cr) st:=by
 simp only[A8,Option.isSome_some,true_and];rfl
@[go_sem] theorem b9(x:Operand)(n:Nat):A8 X all Al (⟨some d,.extract x n,ty,pos,aft,none⟩::os) ((p,ts)::tab) i K cr st=Et (I1 n (ev X.C ⟨restr st ts,Al⟩ x)) p cr (some d) (A8 X all Al os tab (i+1) K cr) st:=by
 simp only[A8,Option.isSome_some,true_and];rfl
@[go_sem] theorem dH(t:TypeId)(ps:Array (Nat × Operand)):A8 X all Al (⟨some d,.build t ps,ty,pos,aft,none⟩::os) ((p,ts)::tab) i K cr st=Et (NP X.C t (Hd X.C ⟨restr st ts,Al⟩ ps.toList)) p cr (some d) (A8 X all Al os tab (i+1) K cr) st:=by
 simp only[A8,Option.isSome_some,true_and];rfl
@[go_sem] theorem dJ(t:TypeId)(x:Operand)(lo hi mx:Option Operand):A8 X all Al (⟨some d,.slice t x lo hi mx,ty,pos,aft,none⟩::os) ((p,ts)::tab) i K cr st=Et ((if Tb (ev X.C ⟨restr st ts,Al⟩ x)&&mx.isSome then (SZ X.C ⟨restr st ts,Al⟩ t (ev X.C ⟨restr st ts,Al⟩ x) lo hi mx).map (·.1) else (GK X.C ⟨restr st ts,Al⟩ t (ev X.C ⟨restr st ts,Al⟩ x) lo hi mx).map (·.1))) p cr (some d) (A8 X all Al os tab (i+1) K cr) st:=by
 simp only[A8,Option.isSome_some,true_and];rfl
@[go_sem] theorem fY(x:Operand)(t:TypeId):A8 X all Al (⟨some d,.call ⟨.builtin .len,#[x],#[t]⟩,ty,pos,aft,none⟩::os) ((p,ts)::tab) i K cr st=Et ((if KM X.C.P t (ev X.C ⟨restr st ts,Al⟩ x)=true then Oe (ev X.C ⟨restr st ts,Al⟩ x) else none)) p cr (some d) (A8 X all Al os tab (i+1) K cr) st:=by
 simp only[A8,Option.isSome_some,true_and];rfl
@[go_sem] theorem cM(x y:Operand)(t t2:TypeId):A8 X all Al (⟨some d,.call ⟨.builtin .append,#[x,y],#[t,t2]⟩,ty,pos,aft,none⟩::os) ((p,ts)::tab) i K cr st=Et ((MB X.C.P t t2 (ev X.C ⟨restr st ts,Al⟩ x) (ev X.C ⟨restr st ts,Al⟩ y))) p cr (some d) (A8 X all Al os tab (i+1) K cr) st:=by
 simp only[A8,Option.isSome_some,true_and];rfl
@[go_sem] theorem Zi(t:TypeId)(len:Nat)(ps:Array (Nat × Operand)):A8 X all Al (⟨some d,.buildSlice t len ps,ty,pos,aft,none⟩::os) ((p,ts)::tab) i K cr st=Et (Zx X.C.P t len (Hd X.C ⟨restr st ts,Al⟩ ps.toList)) p cr (some d) (A8 X all Al os tab (i+1) K cr) st:=by
 simp only[A8,Option.isSome_some,true_and,Hb,Je]
end
attribute [go_sem] T6 Tb MB Zx Td
end Go.Abs
