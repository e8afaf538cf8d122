/- part 16 of the proof -/
import Derived.Test.YthachdiockkofaaGreatDoorL12
set_option linter.all false
open Go Go.Abs Go.Proofs
set_option maxRecDepth 100000
namespace Go.Rd
set_option maxHeartbeats 8000000
open List (filter_sublist mem_cons mem_cons_self pairwise_cons)
open Nat (le_refl)
def Ur{α:Type}{R:α→α→Prop}(irr:∀ a,¬ R a a)(asy:∀ a b,R a b→¬ R b a):∀ {l m:List α},l.Pairwise R→m.Pairwise R→(∀ x,x∈l↔x∈m)→l=m
 |[],[],_,_,_=>rfl
 |[],b::m,_,_,h=>by have:=(h b).2 (by simp);cases this
 | a::l,[],_,_,h=>by have:=(h a).1 (by simp);cases this
 | a::l,b::m,hl,hm,h=>by
  obtain⟨l1,l2⟩:=pairwise_cons.1 hl;obtain⟨m1,m2⟩:=pairwise_cons.1 hm;have hab:a=b:=by
   rcases mem_cons.1 ((h a).1 (by simp)) with e|e
   ·exact e
   ·rcases mem_cons.1 ((h b).2 (by simp)) with f|f
    ·exact f.symm
    ·exact absurd (m1 a e) (asy _ _ (l1 b f))
  subst hab;rw[Ur irr asy l2 m2 fun x=>?_];constructor
  ·intro hx;rcases mem_cons.1 ((h x).1 (by simp[hx])) with e|e
   ·subst e;exact absurd (l1 x hx) (irr x)
   ·exact e
  ·intro hx;rcases mem_cons.1 ((h x).2 (by simp[hx])) with e|e
   ·subst e;exact absurd (m1 x hx) (irr x)
   ·exact e
def US{l m:List AK}(hl:MB l)(hm:MB m)(h:∀ x,x∈l↔x∈m):l=m :=
 Ur (fun a h=>by have:=Cj a.proc;omega) (fun a b h k=>by have:=CN a.proc b.proc;omega) hl hm h
def Sh{p:Ab}{a:Amt}:∀ {d:List AK},MB d→(∀ h∈d,h.proc≠p)→MB (d.take (Cu d p)++⟨p,a⟩::d.drop (Cu d p))
 |[],_,_=>by simp[Cu,MB]
 | x::d,h,hn=>by
  obtain⟨h1,h2⟩:=pairwise_cons.1 h;have hx:x.proc≠p:=hn x (by simp);cases hk:after' p x
  ·have e:Cu (x::d) p=Cu d p+1:=by
    unfold Cu;rw[List.findIdx?_cons,hk];cases d.findIdx? (after' p)<;>simp
   rw[e];refine pairwise_cons.2 ⟨fun y hy=>?_,Sh h2 fun y hy=>hn y (by simp[hy])⟩;have hxp:Bc x.proc p<0:=by
    simp only[after',decide_eq_false_iff_not]at hk;have:Bc x.proc p≠0:=fun e=>hx (Gc e)
    omega
   rcases List.mem_append.1 hy with hy|hy
   ·exact h1 y (List.mem_of_mem_take hy)
   ·rcases mem_cons.1 hy with hy|hy
    ·subst hy;exact hxp
    ·exact h1 y (List.mem_of_mem_drop hy)
  ·have e:Cu (x::d) p=0:=by
    unfold Cu;rw[List.findIdx?_cons,hk];rfl
   rw[e];have hpx:Bc p x.proc<0:=by
    simp only[after',zD]at hk;have:=CN x.proc p;omega
   refine pairwise_cons.2 ⟨fun y hy=>?_,h⟩;rcases mem_cons.1 hy with hy|hy
   ·subst hy;exact hpx
   ·exact CU hpx (h1 y hy)
def cC{l:List AK}{p:Ab}{a:Amt}(h:MB l)(ha:a.zero=false):MB (B5 l p a):=by
 unfold B5;rw[ha];exact Sh (h.sublist filter_sublist) fun y hy=>(JL.1 hy).2
def OG{r:Res}{l:List AK}(h:Bf r l=true):MB l:=((C7 r l).1 h).2.2.2.1
def E9(q:Queue)(p:Ab):Bw q p = { q with holds:=AA q.holds p,Ao:=AZ q.Ao p,waits:=AZ q.waits p }:=by simp[Bw,Gq]
def QY{q:Queue}{w:AP}(hh:Bk q=some w):(∃ l,q.Ao=w::l∧CK q w = { q with holds:=B5 q.holds w.proc w.amt,Ao:=l })∨(∃ l,q.Ao=[]∧q.waits=w::l∧CK q w = { q with holds:=B5 q.holds w.proc w.amt,waits:=l }):=by
 cases hc:q.Ao with
 | cons w' l =>
  have hw':w'=w:=by simp[Bk,hc]at hh;exact hh
  subst hw';exact .inl ⟨l,rfl,by unfold CK;simp only[hc]⟩
 | nil =>
  cases hw:q.waits with
  | nil=>simp[Bk,hc,hw]at hh
  | cons w' l =>
   have hw':w'=w:=by simp[Bk,hc,hw]at hh;exact hh
   subst hw';exact .inr ⟨l,rfl,rfl,by unfold CK;simp only[hc,hw];rfl⟩
def cL{q:Queue}{w:AP}(h:Sound q)(hh:Bk q=some w)(hr:Et q.res q.holds w.proc w.amt=true)(x:Ab):(BT (Bw (CK q w) x)).1=(BT (Bw q x)).1:=by
 obtain⟨r1,r2,r3⟩:=L9 hr;have hz:=Gd r1;have ha:=OG r3
 by_cases e:w.proc=x
 ·have hd:AA (B5 q.holds w.proc w.amt) x=AA q.holds x:=by
   refine US (ha.sublist filter_sublist) ((OG h.holds).sublist filter_sublist) fun y=>?_
   simp only[JL,Rh hz];constructor
   ·rintro⟨(⟨h1,h2⟩|h1),h3⟩
    ·exact⟨h1,h3⟩
    ·subst h1;exact absurd e h3
   ·rintro⟨h1,h2⟩;exact⟨.inl ⟨h1,e▸h2⟩,h2⟩
  have hcc:∀ l,AZ (w::l) x=AZ l x:=fun l=>by simp[AZ,e]
  have:Bw (CK q w) x=Bw q x:=by
   rcases QY hh with ⟨l,h1,h2⟩|⟨l,h1,h3,h2⟩
   ·rw[h2,E9,E9,h1,hcc,hd]
   ·rw[h2,E9,E9,h3,hcc,hd]
  rw[this]
 ·have hd:AA (B5 q.holds w.proc w.amt) x=B5 (AA q.holds x) w.proc w.amt:=by
   have ha2:MB (AA (B5 q.holds w.proc w.amt) x):=ha.sublist filter_sublist;refine US ha2 (cC ((OG h.holds).sublist filter_sublist) hz) fun y=>?_
   simp only[JL,Rh hz];constructor
   ·rintro⟨(⟨h1,h2⟩|h1),h3⟩
    ·exact .inl ⟨⟨h1,h3⟩,h2⟩
    ·exact .inr h1
   ·rintro(⟨⟨h1,h3⟩,h2⟩|h1)
    ·exact⟨.inl ⟨h1,h2⟩,h3⟩
    ·subst h1;exact⟨.inr rfl,e⟩
  have hr2:Et (Bw q x).res (Bw q x).holds w.proc w.amt=true:=by
   rw[E9];simp only[Et,Bool.and_eq_true,← hd];exact⟨⟨⟨I2 filter_sublist h.holds,r2⟩,r1⟩,I2 filter_sublist r3⟩
  have hcc:∀ l,AZ (w::l) x=w::AZ l x:=fun l=>by simp[AZ,e]
  have key:Bk (Bw q x)=some w∧CK (Bw q x) w=Bw (CK q w) x:=by
   rcases QY hh with ⟨l,h1,h2⟩|⟨l,h1,h3,h2⟩
   ·rw[h2,E9,E9,h1,hcc,hd];exact⟨rfl,rfl⟩
   ·rw[h2,E9,E9,h1,h3,hcc,hd];exact⟨rfl,rfl⟩
  rw[Iq (Bw q x),key.1];simp only[hr2,if_true,key.2]
def K4{q:Queue}(h:Sound q)(x:Ab):(BT (Bw (BT q).1 x)).1=(BT (Bw q x)).1 :=
 (Ha (P:=fun y=>Sound y∧(BT (Bw y x)).1=(BT (Bw q x)).1) (fun _ _ hy hh hr=>⟨JZ hy.1 hh hr,(cL hy.1 hh hr x).trans hy.2⟩) _ q rfl ⟨h,rfl⟩).1.2
def ag(q:Queue)(p r:Ab):Bw (Bw q p) r=Bw (Bw q r) p:=by
 simp only[E9,AA,AZ,List.filter_filter,Bool.and_comm]
def FP{q:Queue}(hv:valid q=true)(p:Ab):B1 q p=(BT (Bw q p)).1:=by
 by_cases hp:B2 (Bp q) p=true
 ·have e:B1 q p = { ET (Bw q p) with gen:=q.gen }:=by simp[B1,hv,hp]
  rw[e];have h1:(BT (Bw q p)).1.gen=q.gen:=(P4 _).2;show ({ (BT (Bw q p)).1 with gen:=q.gen }:Queue)=_;rw[← h1]
 ·have e:B1 q p=q:=by simp[B1,hp]
  have hn:¬ inQ q p:=by rw[← Ea];simpa [B2]using hp
  have e2:Bw q p=q:=by
   have k1:AA q.holds p=q.holds:=List.filter_eq_self.2 fun y hy=>decide_eq_true fun e=>hn (.inl ⟨y,hy,e⟩)
   have k2:AZ q.Ao p=q.Ao:=List.filter_eq_self.2 fun y hy=>decide_eq_true fun e=>hn (.inr (.inl ⟨y,hy,e⟩))
   have k3:AZ q.waits p=q.waits:=List.filter_eq_self.2 fun y hy=>decide_eq_true fun e=>hn (.inr (.inr ⟨y,hy,e⟩))
   rw[E9,k1,k2,k3]
  rw[e,e2,Iq];have hs:=((BE q).1 hv).2;cases hh:Bk q with
  |none=>rfl
  |some w=>simp only[hs w hh];rfl
def Ry{q:Queue}(hv:valid q=true)(p r:Ab):B1 (B1 q p) r=B1 (B1 q r) p:=by
 have hs:=((BE q).1 hv).1;rw[FP (FU hv p),FP (FU hv r),FP hv,FP hv,K4 (Ii hs p),K4 (Ii hs r),ag]
def Rz{s:WS}(h:C3 s)(p r:Ab):Ci (Ci s p) r=Ci (Ci s r) p:=by
 simp only[Ci,List.map_map,O2,List.filter_filter,WS.mk.injEq];exact⟨List.map_congr_left fun q hq=>Ry (h q hq) p r,by simp only[Bool.and_comm]⟩
def IN{q:Queue}{p:Ab}:(Aq q p).isSome=true↔∃ w∈q.Ao++q.waits,w.proc=p:=by
 simp only[Aq,Option.isSome_map,List.find?_isSome,zD]
def WJ{q:Queue}(hv:valid q=true){p x:Ab}(h:(Aq (B1 q p) x).isSome=true):(Aq q x).isSome=true:=by
 rw[FP hv]at h;rw[IN]at *;obtain⟨w,hw,rfl⟩:=h;have:=(Ha (P:=fun y=>∀ v∈y.Ao++y.waits,v∈q.Ao++q.waits) (fun y w hy hh _ v hv=>hy v (by
  rcases QY hh with ⟨l,h1,h2⟩|⟨l,h1,h3,h2⟩
  ·rw[h2]at hv;rw[h1];exact List.mem_cons_of_mem _ hv
  ·rw[h2,h1]at hv;rw[h1,h3];exact List.mem_cons_of_mem _ hv)) _ (Bw q p) rfl (fun v hv=>by
  simp only[E9,AZ,List.mem_append,List.mem_filter]at hv ⊢;rcases hv with hv|hv
  ·exact .inl hv.1
  ·exact .inr hv.1)).1
 exact⟨w,this w hw,rfl⟩
def N5{x:Ab}{name:Bs}{f:Queue→Queue}(l:List Queue)(hf:∀ q∈l,(f q).res=q.res∧((Aq (f q) x).isSome=true→(Aq q x).isSome=true))(h:Ch (l.map f) x name=true):Ch l x name=true:=by
 unfold Ch at *;have gen:∀ (l:List Queue),(∀ q∈l,(f q).res=q.res∧((Aq (f q) x).isSome=true→(Aq q x).isSome=true))→∀ a b:Bool,(a=true→b=true)→(l.map f).foldl (fun w q=>if q.res.name==name then (Aq q x).isSome else w) a=true→l.foldl (fun w q=>if q.res.name==name then (Aq q x).isSome else w) b=true:=by
  intro l
  induction l with
  | nil=>intro _ a b hab h;exact hab h
  | cons q l ih =>
   intro hl a b hab h;obtain⟨h1,h2⟩:=hl q (by simp);simp only[List.map_cons,List.foldl_cons]at h ⊢;refine ih (fun q hq=>hl q (by simp[hq])) _ _ ?_ h;rw[h1];split
   ·exact h2
   ·exact hab
 exact gen l hf false false id h
mutual
def QM{f g:Atom→Bool}(h:∀ a,f a=true→g a=true):∀ e:Expr,Ez f e=true→Ez g e=true
 |.mk k a kids=>by
  unfold Ez;split
  ·exact h a
  ·intro hk;have:=Pq h kids;simp only[zD]at hk ⊢;omega
def Pq{f g:Atom→Bool}(h:∀ a,f a=true→g a=true):∀ l:List Expr,CP f l≤CP g l
 |[]=>by simp[CP]
 | e::l=>by
  have h1:=QM h e;have h2:=Pq h l;simp only[CP];cases he:Ez f e
  ·simp only[Bool.false_eq_true,if_false];split<;>omega
  ·rw[h1 he];simp only[if_true];omega
end
def Zf{l:List Atom}{s t:List Bool}(h:∀ k,s.getD k false=true→t.getD k false=true)(a:Atom)(ha:D0 l s a=true):D0 l t a=true:=by
 unfold D0 at *;split
 ·next i hi=>rw[hi]at ha;exact h i ha
 ·next hi=>rw[hi]at ha;exact ha
def Mk{α:Type}{f g:α→Bool}(l:List α)(h:∀ a∈l,f a=true→g a=true)(k:Nat)(hk:(l.map f).getD k false=true):(l.map g).getD k false=true:=by
 simp only[List.getD_eq_getElem?_getD,gm]at *;cases ha:l[k]? with
 |none=>rw[ha]at hk;simp at hk
 |some a=>rw[ha]at hk;simp only[Option.map_some,Option.getD_some]at hk ⊢;exact h a (mG ha) hk
def PA{e:Expr}{s t:List Bool}(h:∀ k,s.getD k false=true→t.getD k false=true)(hs:Fb e s=true):Fb e t=true:=by
 simp only[Fb,Bool.and_eq_true]at *;exact⟨hs.1,QM (Zf h) e hs.2⟩
def aR{s:WS}(h:C3 s){x p:Ab}(hne:x≠p)(hf:Dq s x=true):Dq (Ci s p) x=true:=by
 unfold Dq at *;have e:(Ci s p).AE.find? (fun n=>decide (n.proc=x))=s.AE.find? fun n=>decide (n.proc=x):=Gn (fun n hn=>by simp only[zD]at hn ⊢;rw[hn];exact hne) _
 rw[e];cases hn:s.AE.find? (fun n=>decide (n.proc=x)) with
 |none=>rfl
 |some n =>
  rw[hn]at hf;simp only at hf ⊢;refine PA (Mk _ fun a _=>?_) hf;intro h1;cases hw:Ch (Ci s p).Aa n.proc a.name
  ·rfl
  ·have:=N5 s.Aa (fun q hq=>⟨O3 q p,WJ (h q hq)⟩) hw;rw[this]at h1;cases h1
def DS{s:WS}{x:Ab}:x∈Cb s↔x∈Ap s∧Dq s x=true:=List.mem_filter
def Oy{s:WS}(h:C3 s){x p:Ab}(hne:x≠p)(hf:x∈Cb s):x∈Cb (Ci s p):=by
 rw[DS]at *;exact⟨(Ku h p x).2 ⟨hf.1,hne⟩,aR h hne hf.2⟩
def BP(s:WS):List Ab:=(Ky s).2
def Lb{s:WS}(h:C3 s)(hf:Cb s=[]):BP s=Ap s:=by
 unfold BP;rw[Rw h,hf]
def Oj{s:WS}(h:C3 s){p:Ab}{l:List Ab}(hf:Cb s=p::l):BP s=BP (Ci s p):=by
 unfold BP;rw[Rw h,hf]
def NQ{s:WS}(h:(Ap s).length≤0):Ap s=[]:=List.eq_nil_of_length_eq_zero (by omega)
def Nq:∀ (n:Nat) (s:WS),C3 s→(Ap s).length≤n→∀ x∈BP s,x∈Ap s:=by
 intro n
 induction n with
 | zero =>
  intro s h hn x hx;have:Cb s=[]:=by unfold Cb;rw[NQ hn];rfl
  rwa [Lb h this]at hx
 | succ n ih =>
  intro s h hn x hx;cases hf:Cb s with
  | nil=>rwa [Lb h hf]at hx
  | cons p l =>
   rw[Oj h hf]at hx;have hp:p∈Ap s:=(DS.1 (hf▸mem_cons_self)).1;have:=FM h hp;exact((Ku h p x).1 (ih _ (Dz h p) (by omega) x hx)).1
def Oi:∀ (n:Nat) (s:WS),C3 s→(Ap s).length≤n→∀ f∈Cb s,BP s=BP (Ci s f):=by
 intro n
 induction n with
 | zero =>
  intro s h hn f hf;have:=(DS.1 hf).1;rw[NQ hn]at this;cases this
 | succ n ih =>
  intro s h hn f hf;cases hs:Cb s with
  | nil=>rw[hs]at hf;cases hf
  | cons g l =>
   rw[Oj h hs]
   by_cases e:f=g
   ·rw[e]
   ·have hg:g∈Cb s:=hs▸mem_cons_self;have d1:=FM h (DS.1 hg).1;have d2:=FM h (DS.1 hf).1;rw[ih _ (Dz h g) (by omega) f (Oy h e hf),ih _ (Dz h f) (by omega) g (Oy h (Ne.symm e) hg),Rz h]
def Xc:∀ (n:Nat) (s:WS),C3 s→(Ap s).length≤n→∀ p,∀ x∈BP (Ci s p),x∈BP s:=by
 intro n
 induction n with
 | zero =>
  intro s h hn p x hx;have hx:=Nq _ _ (Dz h p) (le_refl _) x hx;have:=((Ku h p x).1 hx).1;rw[NQ hn]at this;cases this
 | succ n ih =>
  intro s h hn p x hx;cases hs:Cb s with
  | nil =>
   rw[Lb h hs];exact((Ku h p x).1 (Nq _ _ (Dz h p) (le_refl _) x hx)).1
  | cons g l =>
   rw[Oj h hs]
   by_cases e:g=p
   ·rw[e];exact hx
   ·have hg:g∈Cb s:=hs▸mem_cons_self;have d1:=FM h (DS.1 hg).1;refine ih _ (Dz h g) (by omega) p x ?_;rw[Rz h,← Oi _ _ (Dz h p) (le_refl _) g (Oy h e hg)];exact hx
def Sp(l:List Ab)(ms:List Ab):∀ s:WS,C3 s→C3 (ms.foldl (fun x p=>if B2 l p then x else Ci x p) s)∧∀ x∈BP (ms.foldl (fun x p=>if B2 l p then x else Ci x p) s),x∈BP s:=by
 induction ms with
 | nil=>exact fun _ h=>⟨h,fun _ h=>h⟩
 | cons m ms ih =>
  intro s h;simp only[List.foldl_cons];split
  ·exact ih s h
  ·have:=ih _ (Dz h m);exact⟨this.1,fun x hx=>Xc _ s h (le_refl _) m x (this.2 x hx)⟩
def OB{s:WS}(h:C3 s)(l:List Ab):C3 (Dn s l):=(Sp l _ s h).1
def Y0{s:WS}(h:C3 s)(l:List Ab):∀ x∈BP (Dn s l),x∈BP s:=(Sp l _ s h).2
end Go.Rd
