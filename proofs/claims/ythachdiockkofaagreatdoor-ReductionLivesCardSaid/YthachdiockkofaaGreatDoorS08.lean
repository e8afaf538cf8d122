/- part 8 of the proof -/
import Derived.Still
import Derived.Test.YthachdiockkofaaGreatDoorS07
set_option linter.all false
namespace Go.Abs
def restr(st:St):List Nat→List (Nat × AV)
 |[]=>[]
 | t::ts=>match lk t st.tmps with
  |some x=>(t,x)::restr st ts
  |none=>restr st ts
def away(cr:List (Nat × List Nat × List Nat))(p:List Nat)(r:Res):Prop:=match cr with
 |[]=>True
 |(i,S,T)::l=>(i∈p∨(r.x.kill S T=r.x∧FB S T r.upd))∧away l p r
def Hl(i:Nat)(r:Res)(cr:List (Nat × List Nat × List Nat)):List (Nat × List Nat × List Nat):=match r.S,r.T with
 |[],[]=>cr
 | S,T=>(i,S,T)::cr
def JK(X:Env)(o:Oper)(r st:St)(p:List Nat)(cr:List (Nat × List Nat × List Nat))(K:Res→Prop):Prop :=
 ∃ e:Res,OpG X.C o r e.x e.S e.T e.T e.upd∧(e.T.all fun s=>s%64 !=63)=true∧(∀ s∈names e.upd,s∈e.T)∧KB e.S e.T st.tmps∧FB e.S e.T st.objs∧away cr p e∧K e
def fi(b:Bool)(y:Option AV):Prop:=(∃ b',y=some (.v (.bool b'))∧b'≠b)∨y=some (.tup [])
def E4(X:Env)(all:Array Oper)(objs:List (Nat × List AV)):List Oper→List (List Nat × List Nat)→Nat→List (Nat × List Nat × List Nat)→(St→Prop)→St→Prop
 |[],_,_,_,K,st=>K st
 |_::_,[],_,_,_,_=>False
 | o::os,(p,ts)::tab,i,cr,K,st =>
  let run:=fun st:St=>JK X o ⟨restr st ts,objs⟩ st p cr fun e=>o.dst.isSome=true∧E4 X all objs os tab (i+1) (Hl i e cr) K ⟨(St.put o.dst e.x st).tmps,e.upd++st.objs⟩
  match o.guard with
  |none=>run st
  |some (j,b)=>match guardOf all j ⟨restr st ts,objs⟩ with
   |some (.v (.bool b'))=>Ff b' b (run (st.learn (gdst all j) b)) (o.dst.isSome=true∧away cr p ⟨.tup [],[],[],[]⟩∧E4 X all objs os tab (i+1) cr K ((st.learn (gdst all j) (!b)).put o.dst (.tup [])))
   |some (.tup [])=>o.dst.isSome=true∧away cr p ⟨.tup [],[],[],[]⟩∧E4 X all objs os tab (i+1) cr K (st.put o.dst (.tup []))
   |_=>False
theorem N4{st:St}{t:Nat}{x:AV}:∀ {ts:List Nat},lk t (restr st ts)=some x→lk t st.tmps=some x
 |[],h=>by cases h
 | u::ts,h=>by
  simp only[restr]at h;split at h
  ·rename_i y hy;simp only[lk]at h;split at h
   ·rename_i hut;subst hut;rw[hy];exact h
   ·exact N4 h
  ·exact N4 h
theorem OQ{all:Array Oper}{j:Nat}{st:St}{ts:List Nat}{objs:List (Nat × List AV)}{b:Bool}(h:guardOf all j ⟨restr st ts,objs⟩=some (.v (.bool b))):st.learn (gdst all j) b=st:=by
 apply H3;unfold guardOf at h ⊢;obtain⟨d,h1,h2⟩:=Option.bind_eq_some_iff.1 h;rw[h1];exact N4 h2
section
variable {X:Env} {A:A0} {N:Nat} {g:Gh} {st0:St} {a:Act} {w:World} {ops:Array Oper} {k:Nat} {tab:List (List Nat × List Nat)}
def canon(ops:Array Oper)(res:Nat→Res)(st0:St)(n:Nat):St:=⟨tmD (DO ops) res (fun _=>true) st0.tmps n,obD res (fun _=>true) st0.objs n⟩
def stD(ops:Array Oper)(res:Nat→Res)(st0:St)(D:Nat→Bool)(n:Nat):St:=⟨tmD (DO ops) res D st0.tmps n,obD res D st0.objs n⟩
structure Valid(X:Env)(ops:Array Oper)(tab:List (List Nat × List Nat))(st0:St)(res:Nat→Res)(n:Nat):Prop where
 op:∀ i,i<n→∃ o,ops[i]?=some o∧o.dst.isSome=true ∧
  (((o.guard=none∨∃ j b,o.guard=some (j,b)∧guardOf ops j ⟨restr (canon ops res st0 i) (Ht tab i),st0.objs⟩=some (.v (.bool b))) ∧
    OpG X.C o ⟨restr (canon ops res st0 i) (Ht tab i),st0.objs⟩ (res i).x (res i).S (res i).T (res i).T (res i).upd) ∨
  ((∃ j b,o.guard=some (j,b)∧fi b (guardOf ops j ⟨restr (canon ops res st0 i) (Ht tab i),st0.objs⟩))∧res i=⟨.tup [],[],[],[]⟩))
 ext:∀ i,i<n→((res i).T.all fun s=>s%64 !=63)=true
 nam:∀ i,i<n→∀ s∈names (res i).upd,s∈(res i).T
 fix:∀ i,i<n→KB (res i).S (res i).T (canon ops res st0 i).tmps∧FB (res i).S (res i).T (canon ops res st0 i).objs
 away:∀ i j,i<j→j<n→i∈Dc tab j∨((res j).x.kill (res i).S (res i).T=(res j).x∧FB (res i).S (res i).T (res j).upd)
def EN(res:Nat→Res)(n:Nat)(e:Res)(i:Nat):Res:=if i=n then e else res i
theorem TR{res res':Nat→Res}{n:Nat}(h:∀ j,j<n→res j=res' j):canon ops res st0 n=canon ops res' st0 n:=by
 simp only[canon];rw[Js n fun j hj=>⟨h j hj,rfl⟩,Jf n fun j hj=>⟨h j hj,rfl⟩]
theorem KC(l:List (Nat × AV)):KB [] [] l:=Jc l
theorem I9(l:List (Nat × List AV)):FB [] [] l:=by simp[FB,Li,Jb]
theorem Valid.snoc{res:Nat→Res}{n:Nat}(hv:Valid X ops tab st0 res n)(e:Res){o:Oper}(ho:ops[n]?=some o)(hd:o.dst.isSome=true)
 (h1:((o.guard=none∨∃ j b,o.guard=some (j,b)∧guardOf ops j ⟨restr (canon ops res st0 n) (Ht tab n),st0.objs⟩=some (.v (.bool b))) ∧
  OpG X.C o ⟨restr (canon ops res st0 n) (Ht tab n),st0.objs⟩ e.x e.S e.T e.T e.upd) ∨
 ((∃ j b,o.guard=some (j,b)∧fi b (guardOf ops j ⟨restr (canon ops res st0 n) (Ht tab n),st0.objs⟩))∧e=⟨.tup [],[],[],[]⟩))
 (h2:(e.T.all fun s=>s%64 !=63)=true) (h3:∀ s∈names e.upd,s∈e.T) (h4:KB e.S e.T (canon ops res st0 n).tmps∧FB e.S e.T (canon ops res st0 n).objs)
 (h5:∀ i,i<n→i∈Dc tab n∨(e.x.kill (res i).S (res i).T=e.x∧FB (res i).S (res i).T e.upd)):Valid X ops tab st0 (EN res n e) (n+1):=by
 have hlt:∀ j,j<n→EN res n e j=res j:=fun j hj=>by simp[EN,Nat.ne_of_lt hj]
 have heq:EN res n e n=e:=by simp[EN]
 have hcan:∀ i,i≤n→canon ops (EN res n e) st0 i=canon ops res st0 i:=fun i hi=>TR fun j hj=>hlt j (by omega)
 refine⟨fun i hi=>?_,fun i hi=>?_,fun i hi=>?_,fun i hi=>?_,fun i j hij hj=>?_⟩
 ·rw[hcan i (by omega)]
  by_cases hin:i=n
  ·subst hin;rw[heq];exact⟨o,ho,hd,h1⟩
  ·rw[hlt i (by omega)];exact hv.op i (by omega)
 ·by_cases hin:i=n
  ·subst hin;rw[heq];exact h2
  ·rw[hlt i (by omega)];exact hv.ext i (by omega)
 ·by_cases hin:i=n
  ·subst hin;rw[heq];exact h3
  ·rw[hlt i (by omega)];exact hv.nam i (by omega)
 ·rw[hcan i (by omega)]
  by_cases hin:i=n
  ·subst hin;rw[heq];exact h4
  ·rw[hlt i (by omega)];exact hv.fix i (by omega)
 ·rw[hlt i (by omega)]
  by_cases hin:j=n
  ·subst hin;rw[heq];exact h5 i (by omega)
  ·rw[hlt j (by omega)];exact hv.away i j hij (by omega)
def Tu(res:Nat→Res)(n:Nat)(cr:List (Nat × List Nat × List Nat)):Prop:=∀ i,i<n→((res i).S=[]∧(res i).T=[])∨(i,(res i).S,(res i).T)∈cr
theorem TO{p:List Nat}{r:Res}:∀ {cr:List (Nat × List Nat × List Nat)},away cr p r→∀ {i:Nat} {S T:List Nat},(i,S,T)∈cr→i∈p∨(r.x.kill S T=r.x∧FB S T r.upd)
 |(j,S',T')::l,h,i,S,T,hm=>by
  obtain⟨h1,h2⟩:=h;rcases List.mem_cons.1 hm with e|hm
  ·simp only[Prod.mk.injEq]at e;obtain⟨rfl,rfl,rfl⟩:=e;exact h1
  ·exact TO h2 hm
theorem Tu.away{res:Nat→Res}{n:Nat}{cr:List (Nat × List Nat × List Nat)}(h:Tu res n cr){p:List Nat}{r:Res}(ha:Abs.away cr p r):∀ i,i<n→i∈p∨(r.x.kill (res i).S (res i).T=r.x∧FB (res i).S (res i).T r.upd):=by
 intro i hi;rcases h i hi with ⟨h1,h2⟩|hm
 ·rw[h1,h2];exact .inr ⟨H0 _,I9 _⟩
 ·exact TO ha hm
theorem Tu.snoc{res:Nat→Res}{n:Nat}{cr:List (Nat × List Nat × List Nat)}(h:Tu res n cr)(e:Res):Tu (EN res n e) (n+1) (Hl n e cr):=by
 have hsub:∀ q∈cr,q∈Hl n e cr:=fun q hq=>by
  unfold Hl;split
  ·exact hq
  ·exact List.mem_cons_of_mem _ hq
 intro i hi
 by_cases hin:i=n
 ·subst hin;simp only[EN,if_true];unfold Hl;split
  ·rename_i h1 h2;exact .inl ⟨h1,h2⟩
  ·exact .inr (by simp)
 ·simp only[EN,hin,if_false];exact(h i (by omega)).imp id (hsub _)
theorem PF{res:Nat→Res}{n:Nat}{e:Res}{o:Oper}(ho:ops[n]?=some o)(hd:o.dst.isSome=true) :
 canon ops (EN res n e) st0 (n+1)=⟨(St.put o.dst e.x (canon ops res st0 n)).tmps,e.upd++(canon ops res st0 n).objs⟩:=by
 have hlt:∀ j,j<n→EN res n e j=res j:=fun j hj=>by simp[EN,Nat.ne_of_lt hj]
 obtain⟨d,hd'⟩:=Option.isSome_iff_exists.1 hd;have hdt:DO ops n=some d:=by simp[DO,ho,hd']
 simp only[canon,tmD,obD,hdt,if_true];rw[Js (res:=EN res n e) (res':=res) n fun j hj=>⟨hlt j hj,rfl⟩,Jf (res:=EN res n e) (res':=res) n fun j hj=>⟨hlt j hj,rfl⟩];simp[EN,hd',St.put]
theorem KG{K:St→Prop}:∀ (os:List Oper) (tb:List (List Nat × List Nat)) (n:Nat) (cr:List (Nat × List Nat × List Nat)) (res:Nat→Res),(∀ j o,os[j]?=some o→ops[n+j]?=some o)→(∀ j q,tb[j]?=some q→tab[n+j]?=some q) →
 Valid X ops tab st0 res n→Tu res n cr→E4 X ops st0.objs os tb n cr K (canon ops res st0 n)→∃ res',Valid X ops tab st0 res' (n+os.length)∧K (canon ops res' st0 (n+os.length))
 |[],tb,n,cr,res,_,_,hv,_,h=>⟨res,hv,by simp only[E4]at h;simpa using h⟩
 |_::_,[],_,_,_,_,_,_,_,h=>by simp[E4]at h
 | o::os,(p,ts)::tb,n,cr,res,ho,ht,hv,hc,h=>by
  have ho0:ops[n]?=some o:=ho 0 o rfl;have ht0:tab[n]?=some (p,ts):=ht 0 (p,ts) rfl;have hp:Dc tab n=p:=by simp[Dc,List.getD,ht0]
  have hr:Ht tab n=ts:=by simp[Ht,List.getD,ht0]
  have hos:∀ j o',os[j]?=some o'→ops[n+1+j]?=some o':=fun j o' hj=>by
   have:=ho (j+1) o' (by simpa using hj)
   rwa [show n+(j+1)=n+1+j by omega]at this
  have htb:∀ j q,tb[j]?=some q→tab[n+1+j]?=some q:=fun j q hj=>by
   have:=ht (j+1) q (by simpa using hj)
   rwa [show n+(j+1)=n+1+j by omega]at this
  have hlen:n+(o::os).length=n+1+os.length:=by simp;omega
  rw[hlen];have fin:∀ e:Res,Valid X ops tab st0 (EN res n e) (n+1)→Tu (EN res n e) (n+1) (Hl n e cr)→o.dst.isSome=true→E4 X ops st0.objs os tb (n+1) (Hl n e cr) K ⟨(St.put o.dst e.x (canon ops res st0 n)).tmps,e.upd++(canon ops res st0 n).objs⟩ →
   ∃ res',Valid X ops tab st0 res' (n+1+os.length)∧K (canon ops res' st0 (n+1+os.length)):=fun e hv' hc' hd hf =>
   KG os tb (n+1) _ _ hos htb hv' hc' (by rw[PF ho0 hd];exact hf)
  have runs:(o.guard=none∨∃ j b,o.guard=some (j,b)∧guardOf ops j ⟨restr (canon ops res st0 n) (Ht tab n),st0.objs⟩=some (.v (.bool b))) →
   (JK X o ⟨restr (canon ops res st0 n) ts,st0.objs⟩ (canon ops res st0 n) p cr fun e=>o.dst.isSome=true∧E4 X ops st0.objs os tb (n+1) (Hl n e cr) K ⟨(St.put o.dst e.x (canon ops res st0 n)).tmps,e.upd++(canon ops res st0 n).objs⟩) →
   ∃ res',Valid X ops tab st0 res' (n+1+os.length)∧K (canon ops res' st0 (n+1+os.length)):=fun hg ⟨e,h1,h2,h3,h4,h5,h6,hd,hf⟩ =>
   fin e (hv.snoc e ho0 hd (.inl ⟨hg,by rw[hr];exact h1⟩) h2 h3 ⟨h4,h5⟩ (by rw[hp];exact hc.away h6)) (hc.snoc e) hd hf
  simp only[E4]at h;split at h
  ·rename_i hg;exact runs (.inl hg) h
  ·rename_i j b hg;split at h
   ·rename_i b' hb
    by_cases he:b'=b
    ·subst he;have h1:=h.1 rfl;rw[OQ hb]at h1;exact runs (.inr ⟨j,b',hg,by rw[hr];exact hb⟩) h1
    ·obtain⟨hd,ha,hf⟩:=h.2 he;have hbb:(!b)=b':=by cases b<;>cases b'<;>first|rfl|exact absurd rfl he
     rw[hbb,OQ hb]at hf;have:=hc.snoc (⟨.tup [],[],[],[]⟩:Res);refine fin ⟨.tup [],[],[],[]⟩ (hv.snoc _ ho0 hd (.inr ⟨⟨j,b,hg,.inl ⟨b',by rw[hr];exact hb,he⟩⟩,rfl⟩) rfl (fun s hs=>by cases hs) ⟨KC _,I9 _⟩ (by rw[hp];exact hc.away ha)) this hd ?_;simp only[Hl,List.nil_append];have e:∀ s:St,(St.put o.dst (AV.tup []) s)=⟨(St.put o.dst (AV.tup []) s).tmps,s.objs⟩:=fun s=>by cases o.dst<;>rfl
     rw[← e];exact hf
   ·rename_i hb;obtain⟨hd,ha,hf⟩:=h;have:=hc.snoc (⟨.tup [],[],[],[]⟩:Res);refine fin ⟨.tup [],[],[],[]⟩ (hv.snoc _ ho0 hd (.inr ⟨⟨j,b,hg,.inr (by rw[hr];exact hb)⟩,rfl⟩) rfl (fun s hs=>by cases hs) ⟨KC _,I9 _⟩ (by rw[hp];exact hc.away ha)) this hd ?_;simp only[Hl,List.nil_append];have e:∀ s:St,(St.put o.dst (AV.tup []) s)=⟨(St.put o.dst (AV.tup []) s).tmps,s.objs⟩:=fun s=>by cases o.dst<;>rfl
    rw[← e];exact hf
   ·cases h
end
end Go.Abs
namespace Go.Abs
section
variable {X:Env} {A:A0} {N:Nat} {g:Gh} {st0:St} {a:Act} {w:World} {ops:Array Oper} {k:Nat} {tab:List (List Nat × List Nat)} {res:Nat→Res} {D:Nat→Bool}
theorem R.le'{st st':St}{C:Ctx}(h:R C A N g st a w)(h1:∀ t x,lk t st'.tmps=some x→lk t st.tmps=some x)(h2:∀ s cs,lk s st'.objs=some cs→lk s st.objs=some cs):R C A N g st' a w :=
 ⟨h.size,h.defs,fun t x hx=>h.tm t x (h1 t x hx),fun s cs hs=>h.ob s cs (h2 s cs hs),h.fr⟩
theorem KO{st:St}{t:Nat}{x:AV}:∀ {ts:List Nat},lk t (restr st ts)=some x→t∈ts∧lk t st.tmps=some x
 |[],h=>by cases h
 | u::ts,h=>by
  simp only[restr]at h;split at h
  ·rename_i y hy;simp only[lk]at h;split at h
   ·rename_i hut;subst hut;exact⟨by simp,by rw[hy];exact h⟩
   ·obtain⟨h1,h2⟩:=KO h;exact⟨by simp[h1],h2⟩
  ·obtain⟨h1,h2⟩:=KO h;exact⟨by simp[h1],h2⟩
theorem Um{d:Option Nat}{l:List Nat}:aW d l=true↔∃ t,d=some t∧t∈l:=by
 cases d<;>simp[aW]
theorem Q9(hr:IW ops k tab)(hc:Closed ops D){i:Nat}(hi:i<k)(hnd:D i=false)(hp:∀ p∈Dc tab i,D p=true){t:Nat}(ht:t∈Ht tab i)(j:Nat)(hj:j<k)(hd:DO ops j=some t)(hji:j≠i):D j=decide (j<i):=by
 have hk:=hr.le;rcases Nat.lt_or_gt_of_ne hji with hlt|hgt
 ·rcases hr.apart i j hi hlt with h|h
  ·simp[hp j h,hlt]
  ·simp only[clash,Bool.or_eq_false_iff]at h;have:=h.1.2;rw[Um.2 ⟨t,hd,ht⟩]at this;cases this
 ·have hni:¬ j<i:=by omega
  simp only[hni,decide_false];rcases hr.apart j i hj hgt with h|h
  ·cases hD:D j with
   | false=>rfl
   | true=>have:=hc.pred hr j (by omega) hD i h;rw[hnd]at this;cases this
  ·simp only[clash,Bool.or_eq_false_iff]at h;have:=h.2;rw[Um.2 ⟨t,hd,ht⟩]at this;cases this
theorem UZ(hr:IW ops k tab)(hc:Closed ops D){i:Nat}(hi:i<k)(hnd:D i=false)(hp:∀ p∈Dc tab i,D p=true){t:Nat}(ht:t∈Ht tab i)(hself:DO ops i≠some t∨True) :
 lk t (tmD (DO ops) res D st0.tmps k)=lk t (tmD (DO ops) res (fun _=>true) st0.tmps i):=by
 have h1:lk t (tmD (DO ops) res D st0.tmps k)=lk t (tmD (DO ops) res (fun j=>decide (j<i)) st0.tmps k):=Qj k fun j hj hd=>by
  by_cases hji:j=i
  ·subst hji;simp[hnd]
  ·exact Q9 hr hc hi hnd hp ht j hj hd hji
 rw[h1,Np (i:=i) k (by omega) (fun j h1 _=>by simp;omega)];rw[Js (res:=res) (res':=res) (D:=fun j=>decide (j<i)) (D':=fun _=>true) i fun j hj=>⟨rfl,by simp[hj]⟩]
theorem N8(hv:Valid X ops tab st0 res k){s:Nat}{cs:List AV}(hs:lk s st0.objs=some cs):∀ n,n≤k→lk s (obD res D st0.objs n)=some cs
 | 0,_=>hs
 | n+1,hn=>by
  have ih:=N8 hv hs n (by omega);simp only[obD];split
  ·rw[GD];have hf:=(hv.fix n (by omega)).2;obtain⟨hb,_⟩:=Iy n hf;have hno:s∉(res n).T:=fun h=>by
    have:=Mb hb s h;rw[this]at hs;cases hs
   have:lk s (res n).upd=none:=Pm fun h=>hno (hv.nam n (by omega) s h)
   rw[this];simpa using ih
  ·exact ih
theorem ZS(hr:IW ops k tab)(hv:Valid X ops tab st0 res k)(hc:Closed ops D){i:Nat}(hi:i<k)(hnd:D i=false)(hp:∀ p∈Dc tab i,D p=true)(hR:R X.C A N g (stD ops res st0 D k) a w) :
 R X.C A N g ⟨restr (canon ops res st0 i) (Ht tab i),st0.objs⟩ a w:=by
 refine hR.le' (fun t x hx=>?_) fun s cs hs=>N8 hv hs k (Nat.le_refl _)
 obtain⟨h1,h2⟩:=KO hx;simp only[stD];rw[UZ hr hc hi hnd hp h1 (.inr trivial)];exact h2
theorem aR(hr:IW ops k tab)(hv:Valid X ops tab st0 res k)(hdst:∀ j,j<k→(DO ops j).isSome=true)(hc:Closed ops D){i:Nat}(hi:i<k)(hnd:D i=false) :
 KB (res i).S (res i).T (stD ops res st0 D k).tmps∧FB (res i).S (res i).T (stD ops res st0 D k).objs:=by
 have hk:=hr.le;obtain⟨h1,h2⟩:=hv.fix i hi;obtain⟨b1,b2⟩:=KD i h1;obtain⟨c1,c2⟩:=Iy i h2;have key:∀ j,j<k→D j=true→(res j).x.kill (res i).S (res i).T=(res j).x∧FB (res i).S (res i).T (res j).upd:=fun j hj hD=>by
  rcases Nat.lt_trichotomy j i with h|h|h
  ·exact⟨b2 j h (hdst j hj),c2 j h⟩
  ·subst h;rw[hnd]at hD;cases hD
  ·rcases hv.away i j h hj with h'|h'
   ·have:=hc.pred hr j (by omega) hD i h';rw[hnd]at this;cases this
   ·exact h'
 exact⟨Uc k b1 fun j hj hD=>(key j hj hD).1,Ub k c1 fun j hj hD=>(key j hj hD).2⟩
theorem YT(hr:IW ops k tab)(hv:Valid X ops tab st0 res k)(hdst:∀ j,j<k→(DO ops j).isSome=true)(hc:Closed ops D){i:Nat}(hi:i<k)(hnd:D i=false){s:Nat}{c:List AV}(hs:lk s (res i).upd=some c) :
 ∀ j,j≠i→j<k→D j=true→lk s (res j).upd=none:=fun j hji hj hD=>by
 have hk:=hr.le;have hT:s∈(res i).T:=hv.nam i hi s (Q6 hs);have:FB (res i).S (res i).T (res j).upd:=by
  rcases Nat.lt_trichotomy j i with h|h|h
  ·exact(Iy i (hv.fix i hi).2).2 j h
  ·exact(hji h).elim
  ·rcases hv.away i j h hj with h'|h'
   ·have:=hc.pred hr j (by omega) hD i h';rw[hnd]at this;cases this
   ·exact h'.2
 exact Mb this s hT
theorem Vh(hr:IW ops k tab)(hv:Valid X ops tab st0 res k)(hdst:∀ j,j<k→(DO ops j).isSome=true)(hc:Closed ops D){i d:Nat}(hi:i<k)(hnd:D i=false)(hp:∀ p∈Dc tab i,D p=true)(hd:DO ops i=some d)
 (hR:R X.C A N g ⟨(d,(res i).x)::(stD ops res st0 D k).tmps,(res i).upd++(stD ops res st0 D k).objs⟩ a w):R X.C A N g (stD ops res st0 (Hk i D) k) a w:=by
 have hk:=hr.le;refine hR.le' (fun t x hx=>?_) fun s cs hs=>?_
 ·simp only[stD]at hx ⊢
  by_cases hdt:d=t
  ·subst hdt;rw[Kf hd k hi fun j h1 h2 h3 h4=>?_]at hx
   ·simpa [lk]using hx
   ·rcases hr.apart j i h2 h1 with h|h
    ·have:=hc.pred hr j (by omega) h3 i h;rw[hnd]at this;cases this
    ·simp[clash,hd,h4]at h
  ·simp only[lk,hdt,if_false];rw[← hx];exact Qj k fun j hj hdj=>by
    have:j≠i:=fun e=>by subst e;rw[hd]at hdj;injection hdj with e;exact hdt e
    simp[Hk,this]
 ·simp only[stD]at hs ⊢;rw[Qi hnd k hi fun c hcs=>YT hr hv hdst hc hi hnd hcs]at hs;rw[GD];exact hs
theorem JH(hc:Closed ops D){i:Nat}(hd:∀ e∈Bd ops i,D e=true):Closed ops (Hk i D):=fun j hj hD e he=>by
 simp only[Hk]at hD ⊢;split
 ·rfl
 ·by_cases hji:j=i
  ·subst hji;exact hd e he
  ·simp only[hji,if_false]at hD;exact hc j hj hD e he
end
end Go.Abs
namespace Go.Abs
section
variable {X:Env} {A:A0} {N:Nat} {g:Gh} {st0:St} {a:Act} {w:World} {ops:Array Oper} {k:Nat} {tab:List (List Nat × List Nat)} {res:Nat→Res} {D:Nat→Bool}
def dOf(listed:Array Bool)(i:Nat):Bool:=listed.getD i false
theorem Bg{listed:Array Bool}(hs:listed.size=ops.size){i:Nat}:i∈Region.ready .any ops listed↔i<ops.size∧dOf listed i=false∧∀ e∈Bd ops i,dOf listed e=true:=by
 rw[mem_ready];constructor
 ·rintro⟨h1,o,ho,h2⟩;have hi:i<ops.size:=by
   rcases Nat.lt_or_ge i ops.size with h|h
   ·exact h
   ·rw[Array.getElem?_eq_none h]at ho;cases ho
  refine⟨hi,?_,fun e he=>?_⟩
  ·simpa [dOf,Array.getD,hs,hi]using h1
  ·simp only[Bd,ho,List.mem_filterMap]at he;obtain⟨ed,hed,he⟩:=he;split at he
   ·rename_i hb;injection he with he
    subst he;exact h2 ed (by simpa using hed) hb
   ·cases he
 ·rintro⟨hi,h1,h2⟩;refine⟨?_,ops[i],Array.getElem?_eq_getElem hi,fun e he hb=>?_⟩
  ·simpa [dOf,Array.getD,hs,hi]using h1
  ·refine h2 e.on ?_;simp only[Bd,Array.getElem?_eq_getElem hi,List.mem_filterMap];exact⟨e,by simpa using he,by simp[hb]⟩
theorem D9{listed:Array Bool}{i:Nat}(hi:i<listed.size):dOf (listed.setIfInBounds i true)=Hk i (dOf listed):=by
 funext j;simp only[dOf,Hk,Array.getD_eq_getD_getElem?,Array.getElem?_setIfInBounds]
 by_cases hij:i=j
 ·subst hij;simp[hi]
 ·have:j≠i:=fun e=>hij e.symm
  simp[hij,this]
def unl(listed:Array Bool):Nat:=listed.toList.count false
theorem HB{listed:Array Bool}{i:Nat}(hi:i<listed.size)(hd:dOf listed i=false):unl (listed.setIfInBounds i true)+1=unl listed:=by
 have hl:i<listed.toList.length:=by simpa using hi
 have hv:listed.toList[i]=false:=by simpa [dOf,Array.getD,hi]using hd
 unfold unl;rw[Array.toList_setIfInBounds,List.count_set hl,hv];have:0<listed.toList.count false:=List.count_pos_iff.2 (by rw[← hv];exact List.getElem_mem hl);have h1:(true==false)=false:=rfl;rw[h1];simp only[beq_self_eq_true,if_true,Bool.false_eq_true,if_false];omega
theorem Hg{listed:Array Bool}(h:unl listed=0){i:Nat}(hi:i<listed.size):dOf listed i=true:=by
 cases hd:dOf listed i with
 | true=>rfl
 | false=>have:=HB hi hd;omega
theorem Ua(hr:IW ops k tab){Q:Exit→Act→World→Prop}:∀ (fuel i:Nat) (listed:Array Bool) (a:Act) (w:World),listed.size=ops.size→unl listed≤fuel→k≤i→i≤ops.size→(∀ j,j<ops.size→dOf listed j=decide (j<i)) →
 wpList X.C.P ops Q (ops.toList.drop i) a w→wpAny X.C.P .any ops Q fuel listed a w:=by
 intro fuel
 induction fuel with
 | zero =>
  intro i listed a w hs hu hk hi hd h;have hin:i=ops.size:=by
   rcases Nat.lt_or_ge i ops.size with hlt|hge
   ·have:=Hg (by omega) (by omega:i<listed.size);rw[hd i hlt]at this;simp at this
   ·omega
  subst hin;rw[List.drop_eq_nil_of_le (by simp)]at h;refine⟨?_,h⟩;cases hrd:Region.ready .any ops listed with
  | nil=>rfl
  | cons j l =>
   have hj:j∈Region.ready .any ops listed:=by rw[hrd];simp
   have:=(Bg hs).1 hj;rw[hd j this.1]at this;simp at this;omega
 | succ fuel ih =>
  intro i listed a w hs hu hk hi hd h;have honly:∀ j∈Region.ready .any ops listed,j=i:=fun j hj=>by
   obtain⟨h1,h2,h3⟩:=(Bg hs).1 hj;rw[hd j h1]at h2;have hge:i≤j:=by simpa using h2
   rcases Nat.lt_or_ge i j with hlt|hle
   ·have hp:=LO hr (D:=dOf listed) (fun q hq hD e he=>by
     rw[hd q hq]at hD;have:=hr.edge q hq e he;rw[hd e (by omega)];simp at hD ⊢;omega) h1 h3 i (hr.tail j h1 (by omega) i hlt)
    rw[hd i (by omega)]at hp;simp at hp
   ·omega
  constructor
  ·intro h0;rcases Nat.lt_or_ge i ops.size with hlt|hge
   ·have:i∈Region.ready .any ops listed:=(Bg hs).2 ⟨hlt,by rw[hd i hlt];simp,fun e he=>by
     have:=hr.edge i hlt e he;rw[hd e (by omega)];simp;omega⟩
    rw[h0]at this;cases this
   ·have hin:i=ops.size:=by omega
    subst hin;rw[List.drop_eq_nil_of_le (by simp)]at h;exact h
  ·intro j hj;have hji:=honly j hj;subst hji;obtain⟨hlt,hnd,_⟩:=(Bg hs).1 hj;have hget:ops[j]?=some ops[j]:=Array.getElem?_eq_getElem hlt;rw[List.drop_eq_getElem_cons (by simpa using hlt)]at h;have hw:wpOp X.C.P ops Q j (wpList X.C.P ops Q (ops.toList.drop (j+1))) a w:=by
    unfold wpOp;simp only[hget];simpa [wpList]using h
   refine wpOp_mono (fun a' w' h'=>ih (j+1) _ a' w' (by simp[hs]) (by have:=HB (by omega:j<listed.size) hnd;omega) (by omega) (by omega) (fun q hq=>?_) h') hw;rw[D9 (by omega)];simp only[Hk];split
   ·rename_i e;subst e;simp
   ·rename_i e;rw[hd q hq];congr 1;simp;omega
theorem NP(hA:A.ext=X.ext)(hX:∀ s∈X.ext,s%64=63)(hN:∀ o∈ops,∀ d,o.dst=some d→d<N)(hr:IW ops k tab)(hv:Valid X ops tab st0 res k)(hdst:∀ j,j<k→(DO ops j).isSome=true)(hc:Closed ops D){i:Nat}(hi:i<k)(hnd:D i=false)(hp:∀ p∈Dc tab i,D p=true)
 (hR:R X.C A N g (stD ops res st0 D k) a w) {K:Act→World→Prop} {Q:Exit→Act→World→Prop} (hK:∀ g' a' w',R X.C A N g' (stD ops res st0 (Hk i D) k) a' w'→K a' w'):wpOp X.C.P ops Q i K a w:=by
 obtain⟨o,ho,hsome,hop⟩:=hv.op i hi;obtain⟨d,hd⟩:=Option.isSome_iff_exists.1 hsome;have hdt:DO ops i=some d:=by simp[DO,ho,hd]
 have hRr:=ZS hr hv hc hi hnd hp hR;have hdN:∀ d',o.dst=some d'→d'<N:=hN o (Array.mem_of_getElem? ho);unfold wpOp;simp only[ho];rcases hop with ⟨hg,hG⟩|⟨⟨j,b,hg,hoff⟩,hres⟩
 ·have hw:Region.wanted o (yielded ops a.tmps)=true:=by
   rcases hg with hg|⟨j,b,hg,hb⟩
   ·simp[Region.wanted,hg]
   ·simp[Region.wanted,hg,JL hRr hb]
  simp only[hw,if_true];refine .inl (hG A N g a w hRr K Q fun u g' w' hgr hx hu=>?_);have hext:∀ s,s∈A.ext→s∉(res i).T:=fun s hs hT=>by
   have h7:=hX s (hA▸hs);have h8:=List.all_eq_true.1 (hv.ext i hi) s hT;simp[h7]at h8
  have h1:=(hR.app hgr hext hu).put hdN hx;obtain⟨f1,f2⟩:=aR hr hv hdst hc hi hnd;refine hK g' _ w' (Vh hr hv hdst hc hi hnd hp hdt ?_);have e:(St.put o.dst (res i).x (St.app (res i).S (res i).T (res i).T (res i).upd (stD ops res st0 D k)))=⟨(d,(res i).x)::(stD ops res st0 D k).tmps,(res i).upd++(stD ops res st0 D k).objs⟩:=by
   simp only[hd,St.put,St.app];rw[f1,f2]
  rw[← e];exact h1
 ·have hw:Region.wanted o (yielded ops a.tmps)=false:=by
   rcases hoff with ⟨b',hb,hne⟩|hb
   ·simp[Region.wanted,hg,JL hRr hb,hne]
   ·simp[Region.wanted,hg,NS hRr hb]
  simp only[hw,Bool.false_eq_true,if_false];refine hK g _ w (Vh hr hv hdst hc hi hnd hp hdt ?_);have h1:=hR.put (x:=.tup []) (u:=undef) hdN Pw;rw[hres];rw[hd]at h1 ⊢;exact h1
theorem explore(hA:A.ext=X.ext)(hX:∀ s∈X.ext,s%64=63)(hN:∀ o∈ops,∀ d,o.dst=some d→d<N)(hr:IW ops k tab)(hv:Valid X ops tab st0 res k)(hdst:∀ j,j<k→(DO ops j).isSome=true){Q:Exit→Act→World→Prop}
 (htail:∀ g a w,R X.C A N g (canon ops res st0 k) a w→wpList X.C.P ops Q (ops.toList.drop k) a w):∀ (fuel:Nat) (listed:Array Bool) (g:Gh) (a:Act) (w:World),listed.size=ops.size→unl listed≤fuel→Closed ops (dOf listed)→(∀ j,j<ops.size→dOf listed j=true→j<k) →
 R X.C A N g (stD ops res st0 (dOf listed) k) a w→wpAny X.C.P .any ops Q fuel listed a w:=by
 have hk:=hr.le;have full:∀ (fuel:Nat) (listed:Array Bool) (g:Gh) (a:Act) (w:World),listed.size=ops.size→unl listed≤fuel→(∀ j,j<ops.size→dOf listed j=true→j<k)→(∀ j,j<k→dOf listed j=true)→R X.C A N g (stD ops res st0 (dOf listed) k) a w→wpAny X.C.P .any ops Q fuel listed a w:=by
  intro fuel listed g a w hs hu hlt hall hR;have e:stD ops res st0 (dOf listed) k=canon ops res st0 k:=by
   simp only[stD,canon];rw[Js (res:=res) (res':=res) (D:=dOf listed) (D':=fun _=>true) k fun j hj=>⟨rfl,hall j hj⟩,Jf (res:=res) (res':=res) (D:=dOf listed) (D':=fun _=>true) k fun j hj=>⟨rfl,hall j hj⟩]
  rw[e]at hR;refine Ua hr fuel k listed a w hs hu (Nat.le_refl _) hk (fun j hj=>?_) (htail g a w hR);cases hd:dOf listed j with
  | true=>simp[hlt j hj hd]
  | false =>
   have:¬ j<k:=fun h=>by rw[hall j h]at hd;cases hd
   simp[this]
 intro fuel
 induction fuel with
 | zero =>
  intro listed g a w hs hu hc hlt hR;exact full 0 listed g a w hs hu hlt (fun j hj=>Hg (by omega) (by omega)) hR
 | succ fuel ih =>
  intro listed g a w hs hu hc hlt hR
  by_cases hall:∀ j,j<k→dOf listed j=true
  ·exact full _ listed g a w hs hu hlt hall hR
  ·have step:∀ i∈Region.ready .any ops listed,wpOp X.C.P ops Q i (wpAny X.C.P .any ops Q fuel (listed.setIfInBounds i true)) a w:=fun i hi=>by
    obtain⟨h1,h2,h3⟩:=(Bg hs).1 hi;have hp:=LO hr hc h1 h3;have hik:i<k:=by
     rcases Nat.lt_or_ge i k with h|h
     ·exact h
     ·exact(hall fun j hj=>hp j (hr.tail i h1 h j (by omega))).elim
    refine NP hA hX hN hr hv hdst hc hik h2 hp hR fun g' a' w' hR'=>?_
    rw[← D9 (by omega)]at hR';refine ih _ g' a' w' (by simp[hs]) (by have:=HB (by omega:i<listed.size) h2;omega) (by rw[D9 (by omega)];exact JH hc h3) (fun j hj hD=>?_) hR';rw[D9 (by omega)]at hD;simp only[Hk]at hD;split at hD
    ·rename_i e;omega
    ·exact hlt j hj hD
   refine⟨fun h0=>?_,step⟩;have hex:∃ j,j<k∧dOf listed j=false:=by
    apply Classical.byContradiction;intro hno;refine hall fun j hj=>?_
    cases hd:dOf listed j with
    | true=>rfl
    | false=>exact(hno ⟨j,hj,hd⟩).elim
   have least:∀ n j,j<k→dOf listed j=false→j≤n→∃ i,i<k∧i∈Region.ready .any ops listed:=by
    intro n
    induction n with
    | zero =>
     intro j hj hd hjn;have:j=0:=by omega
     subst this;exact⟨0,hj,(Bg hs).2 ⟨by omega,hd,fun e he=>by have:=hr.edge 0 (by omega) e he;omega⟩⟩
    | succ n ihn =>
     intro j hj hd hjn
     by_cases hed:∀ e∈Bd ops j,dOf listed e=true
     ·exact⟨j,hj,(Bg hs).2 ⟨by omega,hd,hed⟩⟩
     ·have:∃ e,e∈Bd ops j∧dOf listed e=false:=by
       apply Classical.byContradiction;intro hno;refine hed fun e he=>?_
       cases hde:dOf listed e with
       | true=>rfl
       | false=>exact(hno ⟨e,he,hde⟩).elim
      obtain⟨e,he,hde⟩:=this;have:=hr.edge j (by omega) e he;exact ihn e (by omega) hde (by omega)
   obtain⟨j,hj,hd⟩:=hex;obtain⟨i,_,hi⟩:=least k j hj hd (by omega);rw[h0]at hi;cases hi
end
theorem VT{X:Env}{ops:Array Oper}{K:St→Prop}{st:St}(k:Nat)(tab:List (List Nat × List Nat))(hm:X.C.P.follows .mixedOrders=true)(hok:Sc ops k tab=true)
 (h:E4 X ops st.objs (ops.toList.take k) tab 0 [] (AW X ops (ops.toList.drop k) K) st):Kx X ops K st:=by
 intro A N g a w hA hN hX hR id Q hQ;have hr:=Sc.spec hok;have hk:=hr.le;have hlen:(ops.toList.take k).length=k:=by simp;omega
 obtain⟨res,hv,hK⟩:=KG (X:=X) (st0:=st) (ops:=ops) (tab:=tab) (ops.toList.take k) tab 0 [] (fun _=>⟨.undef,[],[],[]⟩) (fun j o hj=>by
  rw[List.getElem?_take]at hj;split at hj
  ·simpa using hj
  ·cases hj) (fun j q hj=>by simpa using hj) ⟨fun i hi=>by omega,fun i hi=>by omega,fun i hi=>by omega,fun i hi=>by omega,fun i j _ hj=>by omega⟩ (fun i hi=>by omega) h
 rw[hlen,Nat.zero_add]at hv hK;have hdst:∀ j,j<k→(DO ops j).isSome=true:=fun j hj=>by
  obtain⟨o,ho,hd,_⟩:=hv.op j hj;simpa [DO,ho]using hd
 refine wp_region_any hm (explore hA hX hN hr hv hdst (fun g' a' w' hR'=>?_) ops.size (Array.replicate ops.size false) g a _ (by simp) (by simp[unl]) ?_ ?_ ?_)
 ·exact Mq hA hX (N:=N) (K:=K) (Q:=Q) hQ (ops.toList.drop k) g' _ a' w' (fun o ho=>by
   have hmem:o∈ops:=by simpa using List.mem_of_mem_drop ho
   unfold Iq;cases hd:o.dst with
   |none=>rfl
   |some d=>simp;exact hN o hmem d hd) hK hR'
 ·intro i hi hD;simp[dOf,Array.getD,hi]at hD
 ·intro j hj hD;simp[dOf,Array.getD,hj]at hD
 ·have e:stD ops res st (dOf (Array.replicate ops.size false)) k=st:=by
   have hf:∀ j,j<k→dOf (Array.replicate ops.size false) j=false:=fun j hj=>by
    have:j<ops.size:=by omega
    simp[dOf,Array.getD,this]
   have h1:tmD (DO ops) res (dOf (Array.replicate ops.size false)) st.tmps k=st.tmps:=by
    rw[Np (i:=0) k (by omega) fun j _ hj=>hf j hj];rfl
   have h2:∀ n,n≤k→obD res (dOf (Array.replicate ops.size false)) st.objs n=st.objs:=fun n=>by
    induction n with
    | zero=>intro _;rfl
    | succ n ih=>intro hn;simp only[obD,hf n (by omega),Bool.false_eq_true,if_false];exact ih (by omega)
   simp only[stD,h1,h2 k (Nat.le_refl _)]
  rw[e];exact hR.drew
end Go.Abs
namespace Go.Abs
theorem DW{X:Env}{ops:Array Oper}{K:St→Prop}{st st':St}(h:Imp X st st')(hd:Kx X ops K st'):Kx X ops K st:=fun A N g a w hA hN hX hR id Q hQ=>by
 obtain⟨g',hR'⟩:=h A N g a w hA hR;exact hd A N g' a w hA hN hX hR' id Q hQ
def Mx(P:Program)(t t2:TypeId)(x y:AV):Option AV:=match x,A2 P t with
 |.sl .full m es,some (_,n,_)=>match elems n y with
  |some fs=>if m=n∧Av P t2=true∧es.length+fs.length≤4294967296 then some (.sl .no n (es++fs)) else none
  |none=>none
 |_,_=>none
section
variable {C:Ctx} {A:A0} {N:Nat} {g g':Gh} {st:St} {a:Act} {w w':World} {P:Program}
theorem aT(g:Gh)(w:World)(o:Obj):Grow [] [] [] g w { g with own:=fun x=>if x=w.heap.size then .ro else g.own x } (w.drew.alloc o) where
 ro:=fun b hb h=>⟨by simp[Nat.ne_of_lt hb,h],alloc_old w.drew o b hb⟩
 row:=fun b q hb _ h=>⟨by simp[Nat.ne_of_lt hb,h],alloc_old w.drew o b hb⟩
 rows:=fun _ _=>rfl
 boxes:=fun _ _=>rfl
 inn:=fun b q i hb _ h=>⟨by simp[Nat.ne_of_lt hb,h],alloc_old w.drew o b hb⟩
 inns:=fun _ _ _=>rfl
 os:=rfl
 tape:=⟨rfl,by first|exact Nat.le_refl _|exact Nat.le_succ _⟩
 output:=rfl
 size:=by simp
 other:=fun b hb h=>⟨by simp[Nat.ne_of_lt hb,h],alloc_old w.drew o b hb⟩
 kept:=fun s _ _ h hb=>⟨by simp[Nat.ne_of_lt hb,h],alloc_old w.drew o _ hb⟩
theorem YC{o:Oper}{x y:Operand}{t t2:TypeId}{z:AV}(ho:o.op=.call { callee:=.builtin .append,args:=#[x,y],argTypes:=#[t,t2] })(h:Mx C.P t t2 (ev C st x) (ev C st y)=some z):OpG C o st z [] [] [] []:=by
 intro A N g a w hR K Q hk;unfold Mx at h;split at h
 ·rename_i m es e n b hx hr;split at h
  ·rename_i fs hfs;split at h
   ·rename_i hc;obtain⟨rfl,ht2,hbig⟩:=hc;simp only[Option.some.injEq]at h;subst h;obtain⟨hu,i,zv,hi,hz,hzs,hsz,hby,hn,hb⟩:=C5 hr;subst hsz;obtain⟨consts,he⟩:=Hx a ho;have hxv:=hR.ev x;rw[hx]at hxv;obtain⟨vs,sy,py,ly⟩:=Gw hn hfs (hR.ev y);obtain⟨us,sx,px,lx⟩:=Gw (n:=i.size) (es:=es) hn (by simp[elems]) hxv;have hp:=hxv;simp only[VR,PR]at hp;obtain⟨_,ad,cap,hu2,k2,k3,k4,k5,k6⟩:=hp;have hcap:=k4 trivial;subst hcap;have hdoes:∀ u w',(Builtin.append_ #[t,t2] o.type #[a.eval x,a.eval y]).run C.P w=.ok u w'→Does C.P o a w u w':=fun u w' hrun=>HC he (by simpa using hrun)
    by_cases hm:fs.length=0
    ·have hf:fs=[]:=List.eq_nil_of_length_eq_zero hm;subst hf;have hv0:vs=[]:=List.eq_nil_of_length_eq_zero (by simpa using sy.1);subst hv0;rw[hu2]at hdoes;refine(hdoes _ _ (Et hu ht2 hi sy k2)).wp (hk _ g w (Grow.refl g w) ?_ (fun s cs hs=>by cases hs));rw[List.append_nil,← hu2];exact BC.full _ _ _ hxv
    ·have hbytes:(es.length+fs.length)*i.bytes≤140737488355328:=by
      have:(es.length+fs.length)*i.bytes≤4294967296*32768:=Nat.mul_le_mul hbig (by omega);omega
     have hrun:=Fe (ty:=o.type) hu ht2 hi hz (base:=ad) (sLen:=es.length) (sCap:=es.length) (olds:=us) (hu2▸sx) sy (by omega) (Nat.le_refl _) hbytes (by omega);rw[hu2]at hdoes;have hgr:=aT g w (.cells (us.toArray++vs.toArray++Builtin.zeroCells zv.cells (grownCap w (es.length+fs.length) es.length e-(es.length+fs.length))) e);refine(hdoes _ _ hrun).wp (hk _ _ _ hgr ?_ (fun s cs hs=>by cases hs));simp only[VR,PR];refine⟨(fun _ _ h=>by cases h),some ⟨w.heap.size,0,none⟩,grownCap w (es.length+fs.length) es.length e,by simp,by simpa using grownCap_ge w (es.length+fs.length) es.length e,grownCap_le_maxLen w _ _ e (by simp only[maxLen];omega),(fun h=>by cases h),k5,.inr ⟨⟨w.heap.size,0,none⟩,rfl,by simp[Bl],?_⟩⟩;refine PRe.CP (es++fs) (us++vs) _ _ 0 (fun e' he'=>(List.mem_append.1 he').elim (lx e') (ly e')) ?_ ?_
     ·rw[List.flatten_append];exact PRl.append (PRl.mono hgr.ro' px) (PRl.mono hgr.ro' py)
     ·intro j v hj;simp only[Nat.zero_mul,Nat.zero_add,add_lit];have hh:(w.drew.alloc (.cells (us.toArray++vs.toArray++Builtin.zeroCells zv.cells (grownCap w (es.length+fs.length) es.length e-(es.length+fs.length))) e)).heap[w.heap.size]?=some (.cells (us.toArray++vs.toArray++Builtin.zeroCells zv.cells (grownCap w (es.length+fs.length) es.length e-(es.length+fs.length))) e):=heap_alloc_new w.drew _;rw[cell_of_row _ _ _ _ _ _ hh];have hj':j<(us++vs).length:=by
       rcases Nat.lt_or_ge j (us++vs).length with h|h
       ·exact h
       ·rw[List.getElem?_eq_none h]at hj;cases hj
      rw[Array.getElem?_append_left (by simpa using hj')];simpa using hj
   ·cases h
  ·cases h
 ·cases h
def S4(n len:Nat)(zs:List Value)(parts:List (Nat × AV)):Option AV :=
 match KA (fun i=>some (i*n,n)) (List.replicate len (vals zs)).flatten parts with
 |some L=>match K0 L with
  |some ps=>if BR L=true∧ps.length=len*n∧len*n≤16777216∧rowsOf L=[] then some (.sl .full n (chunk n len ps)) else none
  |none=>none
 |none=>none
def Zq(P:Program)(t:TypeId)(len:Nat)(parts:List (Nat × AV)):Option AV:=match A2 P t with
 |some (e,n,_)=>match zeroOf P e with
  |some zs=>S4 n len zs parts
  |none=>none
 |none=>none
theorem Q3(g:Gh):g.freeze []=g:=by
 cases g;simp only[Gh.freeze,List.not_mem_nil,if_false,Gh.mk.injEq,and_true];funext b;split<;>simp_all
theorem Zr{o:Oper}{t:TypeId}{len:Nat}{ps:Array (Nat × Operand)}{z:AV}(ho:o.op=.buildSlice t len ps)(h:Zq C.P t len (parts C st ps)=some z):OpG C o st z [] [] [] []:=by
 intro A N g a w hR K Q hk;unfold Zq at h;split at h
 ·rename_i e n b ht;split at h
  ·rename_i zs hzs;obtain⟨hu,i,zv,hi,hz,hzsz,hsz,hby,hn,hb⟩:=C5 ht;have hzz:=Hj hzs hi hz;have hzl:zs.length=n:=by rw[hzz];simpa using hzsz
   have hp2:=IX hR ps;have hp1:(parts C st ps).map (·.1)=(ps.toList.map fun p=>(p.1,a.eval p.2)).map (·.1):=by simp[parts]
   have hex:=Hm a ho;generalize parts C st ps=pa at h hp1 hp2;generalize (ps.toList.map fun p=>(p.1,a.eval p.2))=pv at hp1 hp2 hex;unfold S4 at h;split at h
   ·rename_i L hL;have hz0:VRs g w (List.replicate len (vals zs)).flatten (List.replicate len zs).flatten:=by
     have:∀ m:Nat,VRs g w (List.replicate m (vals zs)).flatten (List.replicate m zs).flatten:=by
      intro m
      induction m with
      | zero=>simp[VRs]
      | succ m ih=>rw[List.replicate_succ,List.replicate_succ,List.flatten_cons,List.flatten_cons];exact VRs.append (GU zs) ih
     exact this len
    have harr:((Array.range (len*n)).map (zv.cells[·%zv.cells.size]!)).toList=(List.replicate len zs).flatten:=by
     apply List.ext_getElem?;intro j;cases hj:(List.replicate len zs).flatten[j]? with
     |none =>
      have:len*n≤j:=by
       have:=List.getElem?_eq_none_iff.1 hj;simpa [List.length_flatten,hzl,Nat.mul_comm]using this
      simp;omega
     |some v =>
      obtain⟨h1,h2⟩:=Cw zs _ _ _ hj;rw[hzl]at h2;simp only[Array.getElem?_toList,Array.getElem?_map,Array.getElem?_range,if_pos h2,Option.map_some];rw[hzz]at h1;simp only[Array.length_toList,Array.getElem?_toList]at h1;rw[getElem!_def,h1]
    obtain⟨cur,hf,hcur⟩:=JJ (fun i=>some (i*n,n)) pa pv _ ((Array.range (len*n)).map (zv.cells[·%zv.cells.size]!)) L hp1 hp2 (by rw[harr];exact hz0) hL;split at h
    ·rename_i qs hps;split at h
     ·rename_i hc;obtain⟨hok,hpl,hbig,hrows⟩:=hc;simp only[Option.some.injEq]at h;subst h;obtain⟨c1,c2,c3⟩:=NA n len qs hpl;have hpr:=Nf (S:=[]) hcur hps (fun r hr=>by rw[hrows]at hr;exact hr) hok;rw[Q3]at hpr;have hf':Instr.fill (fun i=>some (i*n,n)) (if len*n=0 then #[] else (Array.range (len*n)).map (zv.cells[·%zv.cells.size]!)) pv=some cur:=by
       by_cases h0:len*n=0
       ·rw[h0]at hf ⊢;simpa [Array.range_zero']using hf
       ·simpa [h0]using hf
      have hrun:(Instr.buildSlice t len pv.toArray).run C.P w=.ok (.slice (some ⟨w.heap.size,0,none⟩) len len) (w.alloc (.cells cur e)):=by
       by_cases h0:len*n=0
       ·simp only[h0,if_true]at hf';simp[Instr.buildSlice,run_underlying hu,sizeOf,typeInfo,hi,hsz,h0,Array.range_zero',hf',newRow]
       ·simp only[h0,if_false]at hf';simp[Instr.buildSlice,run_underlying hu,sizeOf,typeInfo,hi,hsz,h0,zeroValue,hz,hf',newRow];exact hbig
      have hgr:Grow [] [] [] g w { g with own:=fun x=>if x=w.heap.size then .ro else g.own x } (w.alloc (.cells cur e)) :=
       { ro:=fun b hb h=>⟨by simp[Nat.ne_of_lt hb,h],alloc_old w _ b hb⟩
         row:=fun b q hb _ h=>⟨by simp[Nat.ne_of_lt hb,h],alloc_old w _ b hb⟩
         rows:=fun _ _=>rfl
         boxes:=fun _ _=>rfl
         inn:=fun b q i hb _ h=>⟨by simp[Nat.ne_of_lt hb,h],alloc_old w _ b hb⟩
         inns:=fun _ _ _=>rfl
         os:=rfl
         tape:=⟨rfl,by first|exact Nat.le_refl _|exact Nat.le_succ _⟩
         output:=rfl
         size:=by simp
         other:=fun b hb h=>⟨by simp[Nat.ne_of_lt hb,h],alloc_old w _ b hb⟩
         kept:=fun s _ _ h hb=>⟨by simp[Nat.ne_of_lt hb,h],alloc_old w _ _ hb⟩ }
      refine(HC hex hrun).wp (hk _ _ _ hgr ?_ (fun s cs hs=>by cases hs));simp only[VR,PR,c1];refine⟨(fun _ _ h=>by cases h),some ⟨w.heap.size,0,none⟩,len,rfl,Nat.le_refl _,by simp only[maxLen];have:=Nat.le_mul_of_pos_right len hn;omega,(fun _=>rfl),hn,.inr ⟨⟨w.heap.size,0,none⟩,rfl,by simp[Bl],?_⟩⟩;refine PRe.CP _ cur.toList _ _ 0 c2 (by rw[c3];exact PRl.mono hgr.ro' hpr) ?_;intro j v hj;simp only[Nat.zero_mul,Nat.zero_add,add_lit];have hh:(w.alloc (.cells cur e)).heap[w.heap.size]?=some (.cells cur e):=heap_alloc_new w _;rw[cell_of_row _ _ _ _ _ _ hh];simpa using hj
     ·cases h
    ·cases h
   ·cases h
  ·cases h
 ·cases h
end
end Go.Abs
namespace Go.Abs
def Eo(v:Option AV)(p:List Nat)(cr:List (Nat × List Nat × List Nat))(d:Option Nat)(K:St→Prop)(st:St):Prop:=match v with
 |some x=>away cr p ⟨x,[],[],[]⟩∧K (st.put d x)
 |none=>False
def AF(X:Env)(d:Option Nat)(fid:Nat)(xs:List AV)(objs:List (Nat × List AV))(p:List Nat)(i:Nat)(cr:List (Nat × List Nat × List Nat))(K:List (Nat × List Nat × List Nat)→St→Prop)(st:St):Prop :=
 ∃ v ob y ob',v.OK ob∧(rngs v.fm).all (fun s=>s%64 !=63)=true∧v.ρ.m=[]∧Ac X.C fid (EW v.ρ xs) ob y ob'∧Has v ⟨[],objs⟩ ob∧(v.ρ.bs=[]∨(Flat (y.ren v.back)∧Ir (D5 v.back ob'))) ∧
  KB (rngs v.back.l) (rngs v.fm) st.tmps∧FB (rngs v.back.l) (rngs v.fm) st.objs∧away cr p ⟨y.ren v.back,rngs v.back.l,rngs v.fm,D5 v.back ob'⟩ ∧
  K (Hl i ⟨y.ren v.back,rngs v.back.l,rngs v.fm,D5 v.back ob'⟩ cr) ⟨(St.put d (y.ren v.back) st).tmps,D5 v.back ob'++st.objs⟩
def MU(X:Env)(d:Option Nat)(f:AV)(xs:List AV)(objs:List (Nat × List AV))(p:List Nat)(i:Nat)(cr:List (Nat × List Nat × List Nat))(K:List (Nat × List Nat × List Nat)→St→Prop)(st:St):Prop :=
 match f with
 |.fn fid caps=>AF X d fid (xs++caps) objs p i cr K st
 |_=>False
def NM(k:Nat)(zs:List Value)(p:List Nat)(i:Nat)(cr:List (Nat × List Nat × List Nat))(K:List (Nat × List Nat × List Nat)→St→Prop)(st:St):Prop :=
 KB [] [nm k] st.tmps∧FB [] [nm k] st.objs∧away cr p ⟨.ptr (nm k) 0,[],[nm k],[(nm k,vals zs)]⟩ ∧
  K (Hl i ⟨.ptr (nm k) 0,[],[nm k],[(nm k,vals zs)]⟩ cr) ⟨(k,.ptr (nm k) 0)::st.tmps,(nm k,vals zs)::st.objs⟩
def Hn(X:Env)(o:Oper)(objs:List (Nat × List AV))(r:St)(p:List Nat)(i:Nat)(cr:List (Nat × List Nat × List Nat))(K:List (Nat × List Nat × List Nat)→St→Prop)(st:St):Prop :=
 match o.op with
 |.call ⟨.value f,args,_⟩=>MU X o.dst (ev X.C r f) (evs X.C r args.toList) objs p i cr K st
 |.alloc t=>match o.dst,zeroOf X.C.P t with
  |some k,some zs=>NM k zs p i cr K st
  |_,_=>False
 |.call ⟨.builtin .append,args,tys⟩=>match args.toList,tys.toList with
  |[x,y],[t,t2]=>Eo (Mx X.C.P t t2 (ev X.C r x) (ev X.C r y)) p cr o.dst (K cr) st
  |_,_=>False
 |.buildSlice t len ps=>Eo (Zq X.C.P t len (parts X.C r ps)) p cr o.dst (K cr) st
 |_=>Eo (W7 X.C o r) p cr o.dst (K cr) st
def AM(X:Env)(all:Array Oper)(objs:List (Nat × List AV)):List Oper→List (List Nat × List Nat)→Nat→(St→Prop)→List (Nat × List Nat × List Nat)→St→Prop
 |[],_,_,K,_,st=>K st
 |_::_,[],_,_,_,_=>False
 | o::os,(p,ts)::tab,i,K,cr,st =>
  o.dst.isSome=true∧match o.guard with
  |none=>Hn X o objs ⟨restr st ts,objs⟩ p i cr (AM X all objs os tab (i+1) K) st
  |some (j,b)=>match guardOf all j ⟨restr st ts,objs⟩ with
   |some (.v (.bool b'))=>Ff b' b (Hn X o objs ⟨restr (st.learn (gdst all j) b) ts,objs⟩ p i cr (AM X all objs os tab (i+1) K) (st.learn (gdst all j) b)) (away cr p ⟨.tup [],[],[],[]⟩∧AM X all objs os tab (i+1) K cr ((st.learn (gdst all j) (!b)).put o.dst (.tup [])))
   |some (.tup [])=>away cr p ⟨.tup [],[],[],[]⟩∧AM X all objs os tab (i+1) K cr (st.put o.dst (.tup []))
   |_=>False
section
variable {X:Env} {all:Array Oper} {objs:List (Nat × List AV)}
theorem Ml{ρ:Rn}:∀ {o:List (Nat × List AV)} {s:Nat},s∈names (D5 ρ o)→s∈rngs ρ.m
 |[],s,h=>by simp[D5,names]at h
 |(k,c)::o,s,h=>by
  simp only[D5,List.filterMap_cons]at h;cases hk:lk k ρ.m with
  |none=>rw[hk]at h;exact Ml (o:=o) h
  |some k' =>
   rw[hk]at h;simp only[Option.map_some,names,List.map_cons,List.mem_cons]at h;rcases h with h|h
   ·subst h;simp only[rngs,List.mem_map];exact⟨_,H4 hk,rfl⟩
   ·exact Ml (o:=o) h
theorem NN{o:Oper}{r st:St}{p:List Nat}{i:Nat}{cr:List (Nat × List Nat × List Nat)}{K:List (Nat × List Nat × List Nat)→St→Prop}(hr:r.objs=objs)(hd:o.dst.isSome=true)(h:Hn X o objs r p i cr K st) :
 JK X o r st p cr fun e=>o.dst.isSome=true∧K (Hl i e cr) ⟨(St.put o.dst e.x st).tmps,e.upd++st.objs⟩:=by
 subst hr;unfold Hn at h;split at h
 ·rename_i f args ts ho;unfold MU at h;split at h
  ·rename_i fid caps hf;obtain⟨v,ob,y,ob',h1,h2,hm,h3,h4,h5,h6,h7,h8,h9⟩:=h;rw[Lk]at h3;have hbm:rngs v.back.m=rngs v.fm:=by simp[Way.back,hm,inv]
   refine⟨⟨y.ren v.back,rngs v.back.l,rngs v.fm,D5 v.back ob'⟩,?_,h2,fun s hs=>?_,h6,h7,h8,hd,h9⟩
   ·have:=ey (st:=r) ho rfl hf h1 h3 (fun s' cs hs=>h4 s' cs hs) h5;rw[hbm]at this;exact this
   ·rw[← hbm];exact Ml hs
  ·cases h
 ·rename_i t ho;split at h
  ·rename_i k zs hdk hz;obtain⟨h6,h7,h8,h9⟩:=h;refine⟨⟨.ptr (nm k) 0,[],[nm k],[(nm k,vals zs)]⟩,cn ho hdk hz,?_,fun s hs=>by simpa [names]using hs,h6,h7,h8,hd,?_⟩
   ·simp[nm]
   ·simp only[hdk,St.put];exact h9
  ·cases h
 ·rename_i args tys ho;split at h
  ·rename_i x y t t2 hxy htt;unfold Eo at h;split at h
   ·rename_i z hz;obtain⟨h8,h9⟩:=h;rw[Nw hxy,Nw htt]at ho;refine⟨⟨z,[],[],[]⟩,YC ho hz,rfl,(fun s hs=>by simp[names]at hs),KC _,I9 _,h8,hd,?_⟩;have e:∀ s:St,(St.put o.dst z s)=⟨(St.put o.dst z s).tmps,s.objs⟩:=fun s=>by cases o.dst<;>rfl
    simp only[Hl,List.nil_append];rw[← e];exact h9
   ·cases h
  ·cases h
 ·rename_i t len ps ho;unfold Eo at h;split at h
  ·rename_i x hx;obtain⟨h8,h9⟩:=h;refine⟨⟨x,[],[],[]⟩,Zr ho hx,rfl,(fun s hs=>by simp[names]at hs),KC _,I9 _,h8,hd,?_⟩;have e:∀ s:St,(St.put o.dst x s)=⟨(St.put o.dst x s).tmps,s.objs⟩:=fun s=>by cases o.dst<;>rfl
   simp only[Hl,List.nil_append];rw[← e];exact h9
  ·cases h
 ·unfold Eo at h;split at h
  ·rename_i x hx;obtain⟨h8,h9⟩:=h;refine⟨⟨x,[],[],[]⟩,fC hx,rfl,(fun s hs=>by simp[names]at hs),KC _,I9 _,h8,hd,?_⟩;have e:∀ s:St,(St.put o.dst x s)=⟨(St.put o.dst x s).tmps,s.objs⟩:=fun s=>by cases o.dst<;>rfl
   simp only[Hl,List.nil_append];rw[← e];exact h9
  ·cases h
theorem JK.mono{o:Oper}{r st:St}{p:List Nat}{cr:List (Nat × List Nat × List Nat)}{K K':Res→Prop}(h:JK X o r st p cr K)(hk:∀ e,K e→K' e):JK X o r st p cr K':=by
 obtain⟨e,h1,h2,h3,h4,h5,h6,h7⟩:=h;exact⟨e,h1,h2,h3,h4,h5,h6,hk e h7⟩
theorem GZ{K:St→Prop}:∀ (os:List Oper) (tab:List (List Nat × List Nat)) (i:Nat) (cr:List (Nat × List Nat × List Nat)) (st:St),AM X all objs os tab i K cr st→E4 X all objs os tab i cr K st
 |[],tab,i,cr,st,h=>h
 |_::_,[],_,_,_,h=>h
 | o::os,(p,ts)::tab,i,cr,st,h=>by
  simp only[AM]at h;obtain⟨hd,h⟩:=h;simp only[E4];have run:=fun(st:St) (h:Hn X o objs ⟨restr st ts,objs⟩ p i cr (AM X all objs os tab (i+1) K) st)=>(NN rfl hd h).mono fun e he=>(⟨he.1,GZ os tab (i+1) _ _ he.2⟩:o.dst.isSome=true∧E4 X all objs os tab (i+1) (Hl i e cr) K ⟨(St.put o.dst e.x st).tmps,e.upd++st.objs⟩)
  split at h
  ·rename_i hg;(try rw[hg]);exact run st h
  ·rename_i j b hg
   (try rw[hg])
   try simp only
   split at h
   ·rename_i b' hb
    (try rw[hb])
    exact⟨fun he=>run _ (h.1 he),fun he=>⟨hd,(h.2 he).1,GZ os tab (i+1) _ _ (h.2 he).2⟩⟩
   ·rename_i hb
    (try rw[hb])
    exact⟨hd,h.1,GZ os tab (i+1) _ _ h.2⟩
   ·exact h.elim
theorem Ao{d:Option Nat}{fid:Nat}{xs xs':List AV}{p:List Nat}{i:Nat}{cr:List (Nat × List Nat × List Nat)}{K:List (Nat × List Nat × List Nat)→St→Prop}{st:St}{y:AV}{ob ob':List (Nat × List AV)}(v:Way)(hok:Ac X.C fid xs' ob y ob')(hx:Ah (EW v.ρ xs) xs')(hv:Hh v ob=true)(hm:v.ρ.m=[])(hh:Xh v ⟨[],objs⟩ ob)
 (hfl:v.ρ.bs=[]∨(Flat (y.ren v.back)∧Ir (D5 v.back ob')))
 (h:KB (rngs v.back.l) (rngs v.fm) st.tmps∧FB (rngs v.back.l) (rngs v.fm) st.objs∧away cr p ⟨y.ren v.back,rngs v.back.l,rngs v.fm,D5 v.back ob'⟩ ∧
  K (Hl i ⟨y.ren v.back,rngs v.back.l,rngs v.fm,D5 v.back ob'⟩ cr) ⟨(St.put d (y.ren v.back) st).tmps,D5 v.back ob'++st.objs⟩):AF X d fid xs objs p i cr K st:=by
 exact⟨v,ob,y,ob',(Hh.ok hv).1,(Hh.ok hv).2,hm,hok.weak hx.AE,hh.has,hfl,h⟩
end
@[go_sem] theorem cP(x:AV)(p:List Nat)(cr:List (Nat × List Nat × List Nat))(d:Option Nat)(K:St→Prop)(st:St):Eo (some x) p cr d K st=(away cr p ⟨x,[],[],[]⟩∧K (st.put d x)):=rfl
@[go_sem] theorem bZ(X:Env)(d:Option Nat)(fid:Nat)(caps xs:List AV)(objs:List (Nat × List AV))(p:List Nat)(i:Nat)(cr:List (Nat × List Nat × List Nat))(K:List (Nat × List Nat × List Nat)→St→Prop)(st:St):MU X d (.fn fid caps) xs objs p i cr K st=AF X d fid (xs++caps) objs p i cr K st:=rfl
@[go_sem] theorem et(p:List Nat)(r:Res):away [] p r=True:=rfl
@[go_sem] theorem dB(i:Nat)(S T:List Nat)(l:List (Nat × List Nat × List Nat))(p:List Nat)(r:Res):away ((i,S,T)::l) p r=((i∈p∨(r.x.kill S T=r.x∧FB S T r.upd))∧away l p r):=rfl
@[go_sem] theorem dX(st:St):restr st []=[]:=rfl
@[go_sem] theorem dg(st:St)(t:Nat)(ts:List Nat):restr st (t::ts)=(match lk t st.tmps with
 |some x=>(t,x)::restr st ts
 |none=>restr st ts):=rfl
@[go_sem] theorem eE(i:Nat)(x:AV)(u:List (Nat × List AV))(cr:List (Nat × List Nat × List Nat)):Hl i ⟨x,[],[],u⟩ cr=cr:=rfl
@[go_sem] theorem gF(i s:Nat)(S T:List Nat)(x:AV)(u:List (Nat × List AV))(cr:List (Nat × List Nat × List Nat)):Hl i ⟨x,s::S,T,u⟩ cr=(i,s::S,T)::cr:=rfl
@[go_sem] theorem gG(i s:Nat)(T:List Nat)(x:AV)(u:List (Nat × List AV))(cr:List (Nat × List Nat × List Nat)):Hl i ⟨x,[],s::T,u⟩ cr=(i,[],s::T)::cr:=rfl
attribute [go_sem] NM KB FB
section
variable (X:Env) (all:Array Oper) (objs:List (Nat × List AV)) (K:St→Prop) (os:List Oper) (p ts:List Nat) (tab:List (List Nat × List Nat)) (i:Nat) (cr:List (Nat × List Nat × List Nat)) (st:St) (d:Nat) (ty:TypeId) (pos:String) (aft:Array Edge)
@[go_sem] theorem dN(tab:List (List Nat × List Nat)):AM X all objs [] tab i K cr st=K st:=rfl
@[go_sem] theorem dL(op:Op)(j:Nat)(b:Bool):AM X all objs (⟨some d,op,ty,pos,aft,some (j,b)⟩::os) ((p,ts)::tab) i K cr st =
 (match guardOf all j ⟨restr st ts,objs⟩ with
  |some (.v (.bool b'))=>Ff b' b (AM X all objs (⟨some d,op,ty,pos,aft,none⟩::os) ((p,ts)::tab) i K cr (st.learn (gdst all j) b)) (away cr p ⟨.tup [],[],[],[]⟩∧AM X all objs os tab (i+1) K cr ((st.learn (gdst all j) (!b)).put (some d) (.tup [])))
  |some (.tup [])=>away cr p ⟨.tup [],[],[],[]⟩∧AM X all objs os tab (i+1) K cr (st.put (some d) (.tup []))
  |_=>False):=by
 have e:∀ r KK st,Hn X ⟨some d,op,ty,pos,aft,some (j,b)⟩ objs r p i cr KK st=Hn X ⟨some d,op,ty,pos,aft,none⟩ objs r p i cr KK st:=fun r KK st=>by cases op<;>rfl
 simp only[AM,Option.isSome_some,true_and,e]
@[go_sem] theorem eO(f:Operand)(args:Array Operand)(tys:Array TypeId):AM X all objs (⟨some d,.call ⟨.value f,args,tys⟩,ty,pos,aft,none⟩::os) ((p,ts)::tab) i K cr st=MU X (some d) (ev X.C ⟨restr st ts,objs⟩ f) (evs X.C ⟨restr st ts,objs⟩ args.toList) objs p i cr (AM X all objs os tab (i+1) K) st:=by
 simp only[AM,Option.isSome_some,true_and];rfl
@[go_sem] theorem dI(t:TypeId):AM X all objs (⟨some d,.alloc t,ty,pos,aft,none⟩::os) ((p,ts)::tab) i K cr st=(match zeroOf X.C.P t with
  |some zs=>NM d zs p i cr (AM X all objs os tab (i+1) K) st
  |none=>False):=by
 simp only[AM,Option.isSome_some,true_and,Hn];cases zeroOf X.C.P t<;>rfl
@[go_sem] theorem eQ(x:Operand):AM X all objs (⟨some d,.move x,ty,pos,aft,none⟩::os) ((p,ts)::tab) i K cr st=Eo (some (ev X.C ⟨restr st ts,objs⟩ x)) p cr (some d) (AM X all objs os tab (i+1) K cr) st:=by
 simp only[AM,Option.isSome_some,true_and];rfl
@[go_sem] theorem cO(x:Operand):AM X all objs (⟨some d,.assign x,ty,pos,aft,none⟩::os) ((p,ts)::tab) i K cr st=Eo (some (ev X.C ⟨restr st ts,objs⟩ x)) p cr (some d) (AM X all objs os tab (i+1) K cr) st:=by
 simp only[AM,Option.isSome_some,true_and];rfl
@[go_sem] theorem eR(c a b:Operand):AM X all objs (⟨some d,.pick c a b,ty,pos,aft,none⟩::os) ((p,ts)::tab) i K cr st=Eo (KY (ev X.C ⟨restr st ts,objs⟩ c) (ev X.C ⟨restr st ts,objs⟩ a) (ev X.C ⟨restr st ts,objs⟩ b)) p cr (some d) (AM X all objs os tab (i+1) K cr) st:=by
 simp only[AM,Option.isSome_some,true_and];rfl
@[go_sem] theorem eP(t:TypeId)(x:Operand):AM X all objs (⟨some d,.load t x,ty,pos,aft,none⟩::os) ((p,ts)::tab) i K cr st=Eo (RV X.C t (ev X.C ⟨restr st ts,objs⟩ x) objs) p cr (some d) (AM X all objs os tab (i+1) K cr) st:=by
 simp only[AM,Option.isSome_some,true_and];rfl
@[go_sem] theorem af(t:TypeId)(x:Operand)(n:Nat):AM X all objs (⟨some d,.fieldAddr t x n,ty,pos,aft,none⟩::os) ((p,ts)::tab) i K cr st=Eo ((match AS X.C.P t n with
  |some off=>L9 off (ev X.C ⟨restr st ts,objs⟩ x)
  |none=>none)) p cr (some d) (AM X all objs os tab (i+1) K cr) st:=by
 simp only[AM,Option.isSome_some,true_and];rfl
@[go_sem] theorem ag(t:TypeId)(x y:Operand):AM X all objs (⟨some d,.indexAddr t x y,ty,pos,aft,none⟩::os) ((p,ts)::tab) i K cr st=Eo (NY X.C t (ev X.C ⟨restr st ts,objs⟩ x) (ev X.C ⟨restr st ts,objs⟩ y)) p cr (some d) (AM X all objs os tab (i+1) K cr) st:=by
 simp only[AM,Option.isSome_some,true_and];rfl
@[go_sem] theorem aS(x:Operand):AM X all objs (⟨some d,.nilCheck x,ty,pos,aft,none⟩::os) ((p,ts)::tab) i K cr st=Eo (Q7 (ev X.C ⟨restr st ts,objs⟩ x)) p cr (some d) (AM X all objs os tab (i+1) K cr) st:=by
 simp only[AM,Option.isSome_some,true_and];rfl
@[go_sem] theorem dJ(op:BinOp)(t t2:TypeId)(x y:Operand):AM X all objs (⟨some d,.binOp op t x y t2,ty,pos,aft,none⟩::os) ((p,ts)::tab) i K cr st=Eo (Vz X.C.P op t (ev X.C ⟨restr st ts,objs⟩ x) (ev X.C ⟨restr st ts,objs⟩ y)) p cr (some d) (AM X all objs os tab (i+1) K cr) st:=by
 simp only[AM,Option.isSome_some,true_and];rfl
@[go_sem] theorem eS(op:UnOp)(t:TypeId)(x:Operand):AM X all objs (⟨some d,.unOp op t x,ty,pos,aft,none⟩::os) ((p,ts)::tab) i K cr st=Eo (unA op (ev X.C ⟨restr st ts,objs⟩ x)) p cr (some d) (AM X all objs os tab (i+1) K cr) st:=by
 simp only[AM,Option.isSome_some,true_and];rfl
@[go_sem] theorem bX(s t:TypeId)(x:Operand):AM X all objs (⟨some d,.convert s t x,ty,pos,aft,none⟩::os) ((p,ts)::tab) i K cr st=Eo (TV X.C.P s t (ev X.C ⟨restr st ts,objs⟩ x)) p cr (some d) (AM X all objs os tab (i+1) K cr) st:=by
 simp only[AM,Option.isSome_some,true_and];rfl
@[go_sem] theorem bY(x:Operand)(n:Nat):AM X all objs (⟨some d,.extract x n,ty,pos,aft,none⟩::os) ((p,ts)::tab) i K cr st=Eo (I5 n (ev X.C ⟨restr st ts,objs⟩ x)) p cr (some d) (AM X all objs os tab (i+1) K cr) st:=by
 simp only[AM,Option.isSome_some,true_and];rfl
@[go_sem] theorem dK(t:TypeId)(ps:Array (Nat × Operand)):AM X all objs (⟨some d,.build t ps,ty,pos,aft,none⟩::os) ((p,ts)::tab) i K cr st=Eo (Nz X.C t (Hp X.C ⟨restr st ts,objs⟩ ps.toList)) p cr (some d) (AM X all objs os tab (i+1) K cr) st:=by
 simp only[AM,Option.isSome_some,true_and];rfl
@[go_sem] theorem dM(t:TypeId)(x:Operand)(lo hi mx:Option Operand):AM X all objs (⟨some d,.slice t x lo hi mx,ty,pos,aft,none⟩::os) ((p,ts)::tab) i K cr st=Eo ((if S2 (ev X.C ⟨restr st ts,objs⟩ x)&&mx.isSome then (SN X.C ⟨restr st ts,objs⟩ t (ev X.C ⟨restr st ts,objs⟩ x) lo hi mx).map (·.1) else (GQ X.C ⟨restr st ts,objs⟩ t (ev X.C ⟨restr st ts,objs⟩ x) lo hi mx).map (·.1))) p cr (some d) (AM X all objs os tab (i+1) K cr) st:=by
 simp only[AM,Option.isSome_some,true_and];rfl
@[go_sem] theorem fZ(x:Operand)(t:TypeId):AM X all objs (⟨some d,.call ⟨.builtin .len,#[x],#[t]⟩,ty,pos,aft,none⟩::os) ((p,ts)::tab) i K cr st=Eo ((if KM X.C.P t (ev X.C ⟨restr st ts,objs⟩ x)=true then N2 (ev X.C ⟨restr st ts,objs⟩ x) else none)) p cr (some d) (AM X all objs os tab (i+1) K cr) st:=by
 simp only[AM,Option.isSome_some,true_and];rfl
@[go_sem] theorem cN(x y:Operand)(t t2:TypeId):AM X all objs (⟨some d,.call ⟨.builtin .append,#[x,y],#[t,t2]⟩,ty,pos,aft,none⟩::os) ((p,ts)::tab) i K cr st=Eo ((Mx X.C.P t t2 (ev X.C ⟨restr st ts,objs⟩ x) (ev X.C ⟨restr st ts,objs⟩ y))) p cr (some d) (AM X all objs os tab (i+1) K cr) st:=by
 simp only[AM,Option.isSome_some,true_and];rfl
@[go_sem] theorem Zd(t:TypeId)(len:Nat)(ps:Array (Nat × Operand)):AM X all objs (⟨some d,.buildSlice t len ps,ty,pos,aft,none⟩::os) ((p,ts)::tab) i K cr st=Eo (Zq X.C.P t len (Hp X.C ⟨restr st ts,objs⟩ ps.toList)) p cr (some d) (AM X all objs os tab (i+1) K cr) st:=by
 simp only[AM,Option.isSome_some,true_and,Hn,Jg]
end
attribute [go_sem] TV S2 Mx Zq S4
end Go.Abs
