/- part 20 of the proof -/
import Derived.Test.YthachdiockkofaaGreatDoorW14
set_option linter.all false
open Go Go.Abs Go.Proofs
set_option maxRecDepth 100000
namespace Go.Rd
set_option maxHeartbeats 8000000
open List (filter_sublist mem_cons mem_cons_self pairwise_cons)
open Nat (le_refl)
theorem Z0{α:Type}{R:α→α→Prop}(irr:∀ a,¬ R a a)(asy:∀ a b,R a b→¬ R b a):∀ {l m:List α},l.Pairwise R→m.Pairwise R→(∀ x,x∈l↔x∈m)→l=m
 |[],[],_,_,_=>rfl
 |[],b::m,_,_,h=>by have:=(h b).2 (by simp);cases this
 | a::l,[],_,_,h=>by have:=(h a).1 (by simp);cases this
 | a::l,b::m,hl,hm,h=>by
  obtain⟨l1,l2⟩:=pairwise_cons.1 hl;obtain⟨m1,m2⟩:=pairwise_cons.1 hm;have hab:a=b:=by
   rcases mem_cons.1 ((h a).1 (by simp)) with e|e
   ·exact e
   ·rcases mem_cons.1 ((h b).2 (by simp)) with f|f
    ·exact f.symm
    ·exact absurd (m1 a e) (asy _ _ (l1 b f))
  subst hab;rw[Z0 irr asy l2 m2 fun x=>?_];constructor
  ·intro hx;rcases mem_cons.1 ((h x).1 (by simp[hx])) with e|e
   ·subst e;exact absurd (l1 x hx) (irr x)
   ·exact e
  ·intro hx;rcases mem_cons.1 ((h x).2 (by simp[hx])) with e|e
   ·subst e;exact absurd (m1 x hx) (irr x)
   ·exact e
theorem TP{l m:List AO}(hl:L6 l)(hm:L6 m)(h:∀ x,x∈l↔x∈m):l=m :=
 Z0 (fun a h=>by have:=DI a.proc;omega) (fun a b h k=>by have:=C3 a.proc b.proc;omega) hl hm h
theorem Rx{p:Ae}{a:Amt}:∀ {d:List AO},L6 d→(∀ h∈d,h.proc≠p)→L6 (d.take (Cl d p)++⟨p,a⟩::d.drop (Cl d p))
 |[],_,_=>by simp[Cl,L6]
 | x::d,h,hn=>by
  obtain⟨h1,h2⟩:=pairwise_cons.1 h;have hx:x.proc≠p:=hn x (by simp);cases hk:after' p x
  ·have e:Cl (x::d) p=Cl d p+1:=by
    unfold Cl;rw[List.findIdx?_cons,hk];cases d.findIdx? (after' p)<;>simp
   rw[e];refine pairwise_cons.2 ⟨fun y hy=>?_,Rx h2 fun y hy=>hn y (by simp[hy])⟩;have hxp:Bo x.proc p<0:=by
    simp only[after',decide_eq_false_iff_not]at hk;have:Bo x.proc p≠0:=fun e=>hx (FX e)
    omega
   rcases List.mem_append.1 hy with hy|hy
   ·exact h1 y (List.mem_of_mem_take hy)
   ·rcases mem_cons.1 hy with hy|hy
    ·subst hy;exact hxp
    ·exact h1 y (List.mem_of_mem_drop hy)
  ·have e:Cl (x::d) p=0:=by
    unfold Cl;rw[List.findIdx?_cons,hk];rfl
   rw[e];have hpx:Bo p x.proc<0:=by
    simp only[after',decide_eq_true_eq]at hk;have:=C3 x.proc p;omega
   refine pairwise_cons.2 ⟨fun y hy=>?_,h⟩;rcases mem_cons.1 hy with hy|hy
   ·subst hy;exact hpx
   ·exact Dt hpx (h1 y hy)
theorem WG{l:List AO}{p:Ae}{a:Amt}(h:L6 l)(ha:a.zero=false):L6 (BX l p a):=by
 unfold BX;rw[ha];exact Rx (h.sublist filter_sublist) fun y hy=>(HG.1 hy).2
theorem N7{r:Res}{l:List AO}(h:Ba r l=true):L6 l:=((CW r l).1 h).2.2.2.1
theorem G9(q:Queue)(p:Ae):B3 q p = { q with holds:=AK q.holds p,An:=Bu q.An p,waits:=Bu q.waits p }:=by simp[B3,FQ]
theorem Qn{q:Queue}{w:AS}(hh:Bj q=some w):(∃ l,q.An=w::l∧CI q w = { q with holds:=BX q.holds w.proc w.amt,An:=l })∨(∃ l,q.An=[]∧q.waits=w::l∧CI q w = { q with holds:=BX q.holds w.proc w.amt,waits:=l }):=by
 cases hc:q.An with
 | cons w' l =>
  have hw':w'=w:=by simp[Bj,hc]at hh;exact hh
  subst hw';exact .inl ⟨l,rfl,by unfold CI;simp only[hc]⟩
 | nil =>
  cases hw:q.waits with
  | nil=>simp[Bj,hc,hw]at hh
  | cons w' l =>
   have hw':w'=w:=by simp[Bj,hc,hw]at hh;exact hh
   subst hw';exact .inr ⟨l,rfl,rfl,by unfold CI;simp only[hc,hw];rfl⟩
theorem aO{q:Queue}{w:AS}(h:Sound q)(hh:Bj q=some w)(hr:DP q.res q.holds w.proc w.amt=true)(x:Ae):(B1 (B3 (CI q w) x)).1=(B1 (B3 q x)).1:=by
 obtain⟨r1,r2,r3⟩:=LD hr;have hz:=Hv r1;have ha:=N7 r3
 by_cases e:w.proc=x
 ·have hd:AK (BX q.holds w.proc w.amt) x=AK q.holds x:=by
   refine TP (ha.sublist filter_sublist) ((N7 h.holds).sublist filter_sublist) fun y=>?_
   simp only[HG,KQ hz];constructor
   ·rintro⟨(⟨h1,h2⟩|h1),h3⟩
    ·exact⟨h1,h3⟩
    ·subst h1;exact absurd e h3
   ·rintro⟨h1,h2⟩;exact⟨.inl ⟨h1,e▸h2⟩,h2⟩
  have hcc:∀ l,Bu (w::l) x=Bu l x:=fun l=>by simp[Bu,e]
  have:B3 (CI q w) x=B3 q x:=by
   rcases Qn hh with ⟨l,h1,h2⟩|⟨l,h1,h3,h2⟩
   ·rw[h2,G9,G9,h1,hcc,hd]
   ·rw[h2,G9,G9,h3,hcc,hd]
  rw[this]
 ·have hd:AK (BX q.holds w.proc w.amt) x=BX (AK q.holds x) w.proc w.amt:=by
   have ha2:L6 (AK (BX q.holds w.proc w.amt) x):=ha.sublist filter_sublist;refine TP ha2 (WG ((N7 h.holds).sublist filter_sublist) hz) fun y=>?_
   simp only[HG,KQ hz];constructor
   ·rintro⟨(⟨h1,h2⟩|h1),h3⟩
    ·exact .inl ⟨⟨h1,h3⟩,h2⟩
    ·exact .inr h1
   ·rintro(⟨⟨h1,h3⟩,h2⟩|h1)
    ·exact⟨.inl ⟨h1,h2⟩,h3⟩
    ·subst h1;exact⟨.inr rfl,e⟩
  have hr2:DP (B3 q x).res (B3 q x).holds w.proc w.amt=true:=by
   rw[G9];simp only[DP,Bool.and_eq_true,← hd];exact⟨⟨⟨Ip filter_sublist h.holds,r2⟩,r1⟩,Ip filter_sublist r3⟩
  have hcc:∀ l,Bu (w::l) x=w::Bu l x:=fun l=>by simp[Bu,e]
  have key:Bj (B3 q x)=some w∧CI (B3 q x) w=B3 (CI q w) x:=by
   rcases Qn hh with ⟨l,h1,h2⟩|⟨l,h1,h3,h2⟩
   ·rw[h2,G9,G9,h1,hcc,hd];exact⟨rfl,rfl⟩
   ·rw[h2,G9,G9,h1,h3,hcc,hd];exact⟨rfl,rfl⟩
  rw[Kf (B3 q x),key.1];simp only[hr2,if_true,key.2]
theorem OB{q:Queue}(h:Sound q)(x:Ae):(B1 (B3 (B1 q).1 x)).1=(B1 (B3 q x)).1 :=
 (Hp (P:=fun y=>Sound y∧(B1 (B3 y x)).1=(B1 (B3 q x)).1) (fun _ _ hy hh hr=>⟨LH hy.1 hh hr,(aO hy.1 hh hr x).trans hy.2⟩) _ q rfl ⟨h,rfl⟩).1.2
theorem YX(q:Queue)(p r:Ae):B3 (B3 q p) r=B3 (B3 q r) p:=by
 simp only[G9,AK,Bu,List.filter_filter,Bool.and_comm]
theorem Jg{q:Queue}(hv:valid q=true)(p:Ae):Cd q p=(B1 (B3 q p)).1:=by
 by_cases hp:Be (Br q) p=true
 ·have e:Cd q p = { Fh (B3 q p) with gen:=q.gen }:=by simp[Cd,hv,hp]
  rw[e];have h1:(B1 (B3 q p)).1.gen=q.gen:=(Pq _).2;show ({ (B1 (B3 q p)).1 with gen:=q.gen }:Queue)=_;rw[← h1]
 ·have e:Cd q p=q:=by simp[Cd,hp]
  have hn:¬ inQ q p:=by rw[← Db];simpa [Be]using hp
  have e2:B3 q p=q:=by
   have k1:AK q.holds p=q.holds:=List.filter_eq_self.2 fun y hy=>decide_eq_true fun e=>hn (.inl ⟨y,hy,e⟩)
   have k2:Bu q.An p=q.An:=List.filter_eq_self.2 fun y hy=>decide_eq_true fun e=>hn (.inr (.inl ⟨y,hy,e⟩))
   have k3:Bu q.waits p=q.waits:=List.filter_eq_self.2 fun y hy=>decide_eq_true fun e=>hn (.inr (.inr ⟨y,hy,e⟩))
   rw[G9,k1,k2,k3]
  rw[e,e2,Kf];have hs:=((C9 q).1 hv).2;cases hh:Bj q with
  |none=>rfl
  |some w=>simp only[hs w hh];rfl
theorem Wt{q:Queue}(hv:valid q=true)(p r:Ae):Cd (Cd q p) r=Cd (Cd q r) p:=by
 have hs:=((C9 q).1 hv).1;rw[Jg (Ow hv p),Jg (Ow hv r),Jg hv,Jg hv,OB (Jk hs p),OB (Jk hs r),YX]
theorem QS{s:WS}(h:Cm s)(p r:Ae):BP (BP s p) r=BP (BP s r) p:=by
 simp only[BP,List.map_map,Jf,List.filter_filter,WS.mk.injEq];exact⟨List.map_congr_left fun q hq=>Wt (h q hq) p r,by simp only[Bool.and_comm]⟩
theorem NI{q:Queue}{p:Ae}:(As q p).isSome=true↔∃ w∈q.An++q.waits,w.proc=p:=by
 simp only[As,Option.isSome_map,List.find?_isSome,decide_eq_true_eq]
theorem Vs{q:Queue}(hv:valid q=true){p x:Ae}(h:(As (Cd q p) x).isSome=true):(As q x).isSome=true:=by
 rw[Jg hv]at h;rw[NI]at *;obtain⟨w,hw,rfl⟩:=h;have:=(Hp (P:=fun y=>∀ v∈y.An++y.waits,v∈q.An++q.waits) (fun y w hy hh _ v hv=>hy v (by
  rcases Qn hh with ⟨l,h1,h2⟩|⟨l,h1,h3,h2⟩
  ·rw[h2]at hv;rw[h1];exact List.mem_cons_of_mem _ hv
  ·rw[h2,h1]at hv;rw[h1,h3];exact List.mem_cons_of_mem _ hv)) _ (B3 q p) rfl (fun v hv=>by
  simp only[G9,Bu,List.mem_append,List.mem_filter]at hv ⊢;rcases hv with hv|hv
  ·exact .inl hv.1
  ·exact .inr hv.1)).1
 exact⟨w,this w hw,rfl⟩
theorem Tx{x:Ae}{name:Bs}{f:Queue→Queue}(l:List Queue)(hf:∀ q∈l,(f q).res=q.res∧((As (f q) x).isSome=true→(As q x).isSome=true))(h:CR (l.map f) x name=true):CR l x name=true:=by
 unfold CR at *;have gen:∀ (l:List Queue),(∀ q∈l,(f q).res=q.res∧((As (f q) x).isSome=true→(As q x).isSome=true))→∀ a b:Bool,(a=true→b=true)→(l.map f).foldl (fun w q=>if q.res.name==name then (As q x).isSome else w) a=true→l.foldl (fun w q=>if q.res.name==name then (As q x).isSome else w) b=true:=by
  intro l
  induction l with
  | nil=>intro _ a b hab h;exact hab h
  | cons q l ih =>
   intro hl a b hab h;obtain⟨h1,h2⟩:=hl q (by simp);simp only[List.map_cons,List.foldl_cons]at h ⊢;refine ih (fun q hq=>hl q (by simp[hq])) _ _ ?_ h;rw[h1];split
   ·exact h2
   ·exact hab
 exact gen l hf false false id h
mutual
theorem Qa{f g:Atom→Bool}(h:∀ a,f a=true→g a=true):∀ e:Expr,DL f e=true→DL g e=true
 |.mk k a kids=>by
  unfold DL;split
  ·exact h a
  ·intro hk;have:=OO h kids;simp only[decide_eq_true_eq]at hk ⊢;omega
theorem OO{f g:Atom→Bool}(h:∀ a,f a=true→g a=true):∀ l:List Expr,Ck f l≤Ck g l
 |[]=>by simp[Ck]
 | e::l=>by
  have h1:=Qa h e;have h2:=OO h l;simp only[Ck];cases he:DL f e
  ·simp only[Bool.false_eq_true,if_false];split<;>omega
  ·rw[h1 he];simp only[if_true];omega
end
theorem XY{l:List Atom}{s t:List Bool}(h:∀ k,s.getD k false=true→t.getD k false=true)(a:Atom)(ha:DD l s a=true):DD l t a=true:=by
 unfold DD at *;split
 ·next i hi=>rw[hi]at ha;exact h i ha
 ·next hi=>rw[hi]at ha;exact ha
theorem Rk{α:Type}{f g:α→Bool}(l:List α)(h:∀ a∈l,f a=true→g a=true)(k:Nat)(hk:(l.map f).getD k false=true):(l.map g).getD k false=true:=by
 simp only[List.getD_eq_getElem?_getD,gm]at *;cases ha:l[k]? with
 |none=>rw[ha]at hk;simp at hk
 |some a=>rw[ha]at hk;simp only[Option.map_some,Option.getD_some]at hk ⊢;exact h a (mG ha) hk
theorem Uo{e:Expr}{s t:List Bool}(h:∀ k,s.getD k false=true→t.getD k false=true)(hs:DR e s=true):DR e t=true:=by
 simp only[DR,Bool.and_eq_true]at *;exact⟨hs.1,Qa (XY h) e hs.2⟩
theorem Zk{s:WS}(h:Cm s){x p:Ae}(hne:x≠p)(hf:BH s x=true):BH (BP s p) x=true:=by
 unfold BH at *;have e:(BP s p).Ao.find? (fun n=>decide (n.proc=x))=s.Ao.find? fun n=>decide (n.proc=x):=GR (fun n hn=>by simp only[decide_eq_true_eq]at hn ⊢;rw[hn];exact hne) _
 rw[e];cases hn:s.Ao.find? (fun n=>decide (n.proc=x)) with
 |none=>rfl
 |some n =>
  rw[hn]at hf;simp only at hf ⊢;refine Uo (Rk _ fun a _=>?_) hf;intro h1;cases hw:CR (BP s p).Aa n.proc a.name
  ·rfl
  ·have:=Tx s.Aa (fun q hq=>⟨Oo q p,Vs (h q hq)⟩) hw;rw[this]at h1;cases h1
theorem DK{s:WS}{x:Ae}:x∈BT s↔x∈Ah s∧BH s x=true:=List.mem_filter
theorem N1{s:WS}(h:Cm s){x p:Ae}(hne:x≠p)(hf:x∈BT s):x∈BT (BP s p):=by
 rw[DK]at *;exact⟨(JP h p x).2 ⟨hf.1,hne⟩,Zk h hne hf.2⟩
def BG(s:WS):List Ae:=(DW s).2
theorem Ku{s:WS}(h:Cm s)(hf:BT s=[]):BG s=Ah s:=by
 unfold BG;rw[Nr h,hf]
theorem NW{s:WS}(h:Cm s){p:Ae}{l:List Ae}(hf:BT s=p::l):BG s=BG (BP s p):=by
 unfold BG;rw[Nr h,hf]
theorem Nj{s:WS}(h:(Ah s).length≤0):Ah s=[]:=List.eq_nil_of_length_eq_zero (by omega)
theorem MT:∀ (n:Nat) (s:WS),Cm s→(Ah s).length≤n→∀ x∈BG s,x∈Ah s:=by
 intro n
 induction n with
 | zero =>
  intro s h hn x hx;have:BT s=[]:=by unfold BT;rw[Nj hn];rfl
  rwa [Ku h this]at hx
 | succ n ih =>
  intro s h hn x hx;cases hf:BT s with
  | nil=>rwa [Ku h hf]at hx
  | cons p l =>
   rw[NW h hf]at hx;have hp:p∈Ah s:=(DK.1 (hf▸mem_cons_self)).1;have:=EG h hp;exact((JP h p x).1 (ih _ (CE h p) (by omega) x hx)).1
theorem NV:∀ (n:Nat) (s:WS),Cm s→(Ah s).length≤n→∀ f∈BT s,BG s=BG (BP s f):=by
 intro n
 induction n with
 | zero =>
  intro s h hn f hf;have:=(DK.1 hf).1;rw[Nj hn]at this;cases this
 | succ n ih =>
  intro s h hn f hf;cases hs:BT s with
  | nil=>rw[hs]at hf;cases hf
  | cons g l =>
   rw[NW h hs]
   by_cases e:f=g
   ·rw[e]
   ·have hg:g∈BT s:=hs▸mem_cons_self;have d1:=EG h (DK.1 hg).1;have d2:=EG h (DK.1 hf).1;rw[ih _ (CE h g) (by omega) f (N1 h e hf),ih _ (CE h f) (by omega) g (N1 h (Ne.symm e) hg),QS h]
end Go.Rd
