/- part 19 of the proof -/
import Derived.Test.YthachdiockkofaaGreatDoorT14
set_option linter.all false
open Go Go.Abs Go.Proofs
set_option maxRecDepth 100000
namespace Go.Rd
set_option maxHeartbeats 8000000
open List (filter_sublist mem_cons mem_cons_self pairwise_cons)
open Nat (le_refl)
theorem XJ{α:Type}{R:α→α→Prop}(irr:∀ a,¬ R a a)(asy:∀ a b,R a b→¬ R b a):∀ {l m:List α},l.Pairwise R→m.Pairwise R→(∀ x,x∈l↔x∈m)→l=m
 |[],[],_,_,_=>rfl
 |[],b::m,_,_,h=>by have:=(h b).2 (by simp);cases this
 | a::l,[],_,_,h=>by have:=(h a).1 (by simp);cases this
 | a::l,b::m,hl,hm,h=>by
  obtain⟨l1,l2⟩:=pairwise_cons.1 hl
  obtain⟨m1,m2⟩:=pairwise_cons.1 hm
  have hab:a=b:=by
   rcases mem_cons.1 ((h a).1 (by simp)) with e|e
   ·exact e
   ·rcases mem_cons.1 ((h b).2 (by simp)) with f|f
    ·exact f.symm
    ·exact absurd (m1 a e) (asy _ _ (l1 b f))
  subst hab
  rw[XJ irr asy l2 m2 fun x=>?_]
  constructor
  ·intro hx
   rcases mem_cons.1 ((h x).1 (by simp[hx])) with e|e
   ·subst e;exact absurd (l1 x hx) (irr x)
   ·exact e
  ·intro hx
   rcases mem_cons.1 ((h x).2 (by simp[hx])) with e|e
   ·subst e;exact absurd (m1 x hx) (irr x)
   ·exact e
theorem Sf{l m:List Hold}(hl:K0 l)(hm:K0 m)(h:∀ x,x∈l↔x∈m):l=m :=
 XJ (fun a h=>by have:=C6 a.proc;omega) (fun a b h k=>by have:=Cx a.proc b.proc;omega) hl hm h
theorem P7{p:Proc}{a:Amt}:∀ {d:List Hold},K0 d→(∀ h∈d,h.proc≠p)→K0 (d.take (BW d p)++⟨p,a⟩::d.drop (BW d p))
 |[],_,_=>by simp[BW,K0]
 | x::d,h,hn=>by
  obtain⟨h1,h2⟩:=pairwise_cons.1 h
  have hx:x.proc≠p:=hn x (by simp)
  cases hk:after' p x
  ·have e:BW (x::d) p=BW d p+1:=by
    unfold BW
    rw[List.findIdx?_cons,hk]
    cases d.findIdx? (after' p)<;>simp
   rw[e]
   refine pairwise_cons.2 ⟨fun y hy=>?_,P7 h2 fun y hy=>hn y (by simp[hy])⟩
   have hxp:A2 x.proc p<0:=by
    simp only[after',decide_eq_false_iff_not]at hk
    have:A2 x.proc p≠0:=fun e=>hx (Fi e)
    omega
   rcases List.mem_append.1 hy with hy|hy
   ·exact h1 y (List.mem_of_mem_take hy)
   ·rcases mem_cons.1 hy with hy|hy
    ·subst hy;exact hxp
    ·exact h1 y (List.mem_of_mem_drop hy)
  ·have e:BW (x::d) p=0:=by
    unfold BW
    rw[List.findIdx?_cons,hk];rfl
   rw[e]
   have hpx:A2 p x.proc<0:=by
    simp only[after',decide_eq_true_eq]at hk
    have:=Cx x.proc p
    omega
   refine pairwise_cons.2 ⟨fun y hy=>?_,h⟩
   rcases mem_cons.1 hy with hy|hy
   ·subst hy;exact hpx
   ·exact CR hpx (h1 y hy)
theorem Yh{l:List Hold}{p:Proc}{a:Amt}(h:K0 l)(ha:a.zero=false):K0 (BQ l p a):=by
 unfold BQ
 rw[ha]
 exact P7 (h.sublist filter_sublist) fun y hy=>(Ik.1 hy).2
theorem MM{r:Res}{l:List Hold}(h:AZ r l=true):K0 l:=((DD r l).1 h).2.2.2.1
theorem Gs(q:Queue)(p:Proc):BF q p = { q with holds:=Az q.holds p,convs:=A8 q.convs p,waits:=A8 q.waits p }:=by simp[BF,Fe]
theorem OX{q:Queue}{w:Wait}(hh:A4 q=some w):(∃ l,q.convs=w::l∧Cm q w = { q with holds:=BQ q.holds w.proc w.amt,convs:=l })∨(∃ l,q.convs=[]∧q.waits=w::l∧Cm q w = { q with holds:=BQ q.holds w.proc w.amt,waits:=l }):=by
 cases hc:q.convs with
 | cons w' l =>
  have hw':w'=w:=by simp[A4,hc]at hh;exact hh
  subst hw'
  exact .inl ⟨l,rfl,by unfold Cm;simp only[hc]⟩
 | nil =>
  cases hw:q.waits with
  | nil=>simp[A4,hc,hw]at hh
  | cons w' l =>
   have hw':w'=w:=by simp[A4,hc,hw]at hh;exact hh
   subst hw'
   exact .inr ⟨l,rfl,rfl,by unfold Cm;simp only[hc,hw];rfl⟩
theorem Yl{q:Queue}{w:Wait}(h:Sound q)(hh:A4 q=some w)(hr:EC q.res q.holds w.proc w.amt=true)(x:Proc):(BD (BF (Cm q w) x)).1=(BD (BF q x)).1:=by
 obtain⟨r1,r2,r3⟩:=Ky hr
 have hz:=GL r1
 have ha:=MM r3
 by_cases e:w.proc=x
 ·have hd:Az (BQ q.holds w.proc w.amt) x=Az q.holds x:=by
   refine Sf (ha.sublist filter_sublist) ((MM h.holds).sublist filter_sublist) fun y=>?_
   simp only[Ik,Pf hz]
   constructor
   ·rintro⟨(⟨h1,h2⟩|h1),h3⟩
    ·exact⟨h1,h3⟩
    ·subst h1;exact absurd e h3
   ·rintro⟨h1,h2⟩;exact⟨.inl ⟨h1,e▸h2⟩,h2⟩
  have hcc:∀ l,A8 (w::l) x=A8 l x:=fun l=>by simp[A8,e]
  have:BF (Cm q w) x=BF q x:=by
   rcases OX hh with ⟨l,h1,h2⟩|⟨l,h1,h3,h2⟩
   ·rw[h2,Gs,Gs,h1,hcc,hd]
   ·rw[h2,Gs,Gs,h3,hcc,hd]
  rw[this]
 ·have hd:Az (BQ q.holds w.proc w.amt) x=BQ (Az q.holds x) w.proc w.amt:=by
   have ha2:K0 (Az (BQ q.holds w.proc w.amt) x):=ha.sublist filter_sublist
   refine Sf ha2 (Yh ((MM h.holds).sublist filter_sublist) hz) fun y=>?_
   simp only[Ik,Pf hz]
   constructor
   ·rintro⟨(⟨h1,h2⟩|h1),h3⟩
    ·exact .inl ⟨⟨h1,h3⟩,h2⟩
    ·exact .inr h1
   ·rintro(⟨⟨h1,h3⟩,h2⟩|h1)
    ·exact⟨.inl ⟨h1,h2⟩,h3⟩
    ·subst h1;exact⟨.inr rfl,e⟩
  have hr2:EC (BF q x).res (BF q x).holds w.proc w.amt=true:=by
   rw[Gs]
   simp only[EC,Bool.and_eq_true,← hd]
   exact⟨⟨⟨Hy filter_sublist h.holds,r2⟩,r1⟩,Hy filter_sublist r3⟩
  have hcc:∀ l,A8 (w::l) x=w::A8 l x:=fun l=>by simp[A8,e]
  have key:A4 (BF q x)=some w∧Cm (BF q x) w=BF (Cm q w) x:=by
   rcases OX hh with ⟨l,h1,h2⟩|⟨l,h1,h3,h2⟩
   ·rw[h2,Gs,Gs,h1,hcc,hd]
    exact⟨rfl,rfl⟩
   ·rw[h2,Gs,Gs,h1,h3,hcc,hd]
    exact⟨rfl,rfl⟩
  rw[Jq (BF q x),key.1]
  simp only[hr2,if_true,key.2]
theorem Nc{q:Queue}(h:Sound q)(x:Proc):(BD (BF (BD q).1 x)).1=(BD (BF q x)).1 :=
 (GF (P:=fun y=>Sound y∧(BD (BF y x)).1=(BD (BF q x)).1) (fun _ _ hy hh hr=>⟨KB hy.1 hh hr,(Yl hy.1 hh hr x).trans hy.2⟩) _ q rfl ⟨h,rfl⟩).1.2
theorem WM(q:Queue)(p r:Proc):BF (BF q p) r=BF (BF q r) p:=by
 simp only[Gs,Az,A8,List.filter_filter,Bool.and_comm]
theorem Ir{q:Queue}(hv:valid q=true)(p:Proc):BV q p=(BD (BF q p)).1:=by
 by_cases hp:AK (Bm q) p=true
 ·have e:BV q p = { EH (BF q p) with gen:=q.gen }:=by simp[BV,hv,hp]
  rw[e]
  have h1:(BD (BF q p)).1.gen=q.gen:=(NZ _).2
  show ({ (BD (BF q p)).1 with gen:=q.gen }:Queue)=_
  rw[← h1]
 ·have e:BV q p=q:=by simp[BV,hp]
  have hn:¬ inQ q p:=by rw[← Eu];simpa [AK]using hp
  have e2:BF q p=q:=by
   have k1:Az q.holds p=q.holds:=List.filter_eq_self.2 fun y hy=>decide_eq_true fun e=>hn (.inl ⟨y,hy,e⟩)
   have k2:A8 q.convs p=q.convs:=List.filter_eq_self.2 fun y hy=>decide_eq_true fun e=>hn (.inr (.inl ⟨y,hy,e⟩))
   have k3:A8 q.waits p=q.waits:=List.filter_eq_self.2 fun y hy=>decide_eq_true fun e=>hn (.inr (.inr ⟨y,hy,e⟩))
   rw[Gs,k1,k2,k3]
  rw[e,e2,Jq]
  have hs:=((CF q).1 hv).2
  cases hh:A4 q with
  |none=>rfl
  |some w=>simp only[hs w hh];rfl
theorem UB{q:Queue}(hv:valid q=true)(p r:Proc):BV (BV q p) r=BV (BV q r) p:=by
 have hs:=((CF q).1 hv).1
 rw[Ir (M7 hv p),Ir (M7 hv r),Ir hv,Ir hv,Nc (Iw hs p),Nc (Iw hs r),WM]
theorem Ps{s:WS}(h:BX s)(p r:Proc):A3 (A3 s p) r=A3 (A3 s r) p:=by
 simp only[A3,List.map_map,Iq,List.filter_filter,WS.mk.injEq]
 exact⟨List.map_congr_left fun q hq=>UB (h q hq) p r,by simp only[Bool.and_comm]⟩
theorem X2{q:Queue}{p:Proc}:(Ao q p).isSome=true↔∃ w∈q.convs++q.waits,w.proc=p:=by
 simp only[Ao,Option.isSome_map,List.find?_isSome,decide_eq_true_eq]
theorem X3{q:Queue}(hv:valid q=true){p x:Proc}(h:(Ao (BV q p) x).isSome=true):(Ao q x).isSome=true:=by
 rw[Ir hv]at h
 rw[X2]at *
 obtain⟨w,hw,rfl⟩:=h
 have:=(GF (P:=fun y=>∀ v∈y.convs++y.waits,v∈q.convs++q.waits) (fun y w hy hh _ v hv=>hy v (by
  rcases OX hh with ⟨l,h1,h2⟩|⟨l,h1,h3,h2⟩
  ·rw[h2]at hv;rw[h1];exact List.mem_cons_of_mem _ hv
  ·rw[h2,h1]at hv;rw[h1,h3];exact List.mem_cons_of_mem _ hv)) _ (BF q p) rfl (fun v hv=>by
  simp only[Gs,A8,List.mem_append,List.mem_filter]at hv ⊢
  rcases hv with hv|hv
  ·exact .inl hv.1
  ·exact .inr hv.1)).1
 exact⟨w,this w hw,rfl⟩
theorem RZ{x:Proc}{name:Bs}{f:Queue→Queue}(l:List Queue)(hf:∀ q∈l,(f q).res=q.res∧((Ao (f q) x).isSome=true→(Ao q x).isSome=true))(h:C1 (l.map f) x name=true):C1 l x name=true:=by
 unfold C1 at *
 have gen:∀ (l:List Queue),(∀ q∈l,(f q).res=q.res∧((Ao (f q) x).isSome=true→(Ao q x).isSome=true))→∀ a b:Bool,(a=true→b=true)→(l.map f).foldl (fun w q=>if q.res.name==name then (Ao q x).isSome else w) a=true→l.foldl (fun w q=>if q.res.name==name then (Ao q x).isSome else w) b=true:=by
  intro l
  induction l with
  | nil=>intro _ a b hab h;exact hab h
  | cons q l ih =>
   intro hl a b hab h
   obtain⟨h1,h2⟩:=hl q (by simp)
   simp only[List.map_cons,List.foldl_cons]at h ⊢
   refine ih (fun q hq=>hl q (by simp[hq])) _ _ ?_ h
   rw[h1]
   split
   ·exact h2
   ·exact hab
 exact gen l hf false false id h
mutual
theorem OJ{f g:Atom→Bool}(h:∀ a,f a=true→g a=true):∀ e:Expr,DO f e=true→DO g e=true
 |.mk k a kids=>by
  unfold DO
  split
  ·exact h a
  ·intro hk
   have:=Ns h kids
   simp only[decide_eq_true_eq]at hk ⊢
   omega
theorem Ns{f g:Atom→Bool}(h:∀ a,f a=true→g a=true):∀ l:List Expr,Cd f l≤Cd g l
 |[]=>by simp[Cd]
 | e::l=>by
  have h1:=OJ h e
  have h2:=Ns h l
  simp only[Cd]
  cases he:DO f e
  ·simp only[Bool.false_eq_true,if_false]
   split<;>omega
  ·rw[h1 he]
   simp only[if_true]
   omega
end
theorem VY{l:List Atom}{s t:List Bool}(h:∀ k,s.getD k false=true→t.getD k false=true)(a:Atom)(ha:Dc l s a=true):Dc l t a=true:=by
 unfold Dc at *
 split
 ·next i hi=>rw[hi]at ha;exact h i ha
 ·next hi=>rw[hi]at ha;exact ha
theorem PV{α:Type}{f g:α→Bool}(l:List α)(h:∀ a∈l,f a=true→g a=true)(k:Nat)(hk:(l.map f).getD k false=true):(l.map g).getD k false=true:=by
 simp only[List.getD_eq_getElem?_getD,gm]at *
 cases ha:l[k]? with
 |none=>rw[ha]at hk;simp at hk
 |some a=>rw[ha]at hk;simp only[Option.map_some,Option.getD_some]at hk ⊢;exact h a (mG ha) hk
theorem SP{e:Expr}{s t:List Bool}(h:∀ k,s.getD k false=true→t.getD k false=true)(hs:D2 e s=true):D2 e t=true:=by
 simp only[D2,Bool.and_eq_true]at *
 exact⟨hs.1,OJ (VY h) e hs.2⟩
theorem W8{s:WS}(h:BX s){x p:Proc}(hne:x≠p)(hf:Ce s x=true):Ce (A3 s p) x=true:=by
 unfold Ce at *
 have e:(A3 s p).needs.find? (fun n=>decide (n.proc=x))=s.needs.find? fun n=>decide (n.proc=x):=F8 (fun n hn=>by simp only[decide_eq_true_eq]at hn ⊢;rw[hn];exact hne) _
 rw[e]
 cases hn:s.needs.find? (fun n=>decide (n.proc=x)) with
 |none=>rfl
 |some n =>
  rw[hn]at hf
  simp only at hf ⊢
  refine SP (PV _ fun a _=>?_) hf
  intro h1
  cases hw:C1 (A3 s p).queues n.proc a.name
  ·rfl
  ·have:=RZ s.queues (fun q hq=>⟨QX q p,X3 (h q hq)⟩) hw
   rw[this]at h1
   cases h1
theorem DX{s:WS}{x:Proc}:x∈Bg s↔x∈Ah s∧Ce s x=true:=List.mem_filter
theorem MG{s:WS}(h:BX s){x p:Proc}(hne:x≠p)(hf:x∈Bg s):x∈Bg (A3 s p):=by
 rw[DX]at *
 exact⟨(HC h p x).2 ⟨hf.1,hne⟩,W8 h hne hf.2⟩
def Bn(s:WS):List Proc:=(Cv s).2
theorem LK{s:WS}(h:BX s)(hf:Bg s=[]):Bn s=Ah s:=by
 unfold Bn;rw[Mb h,hf]
theorem MB{s:WS}(h:BX s){p:Proc}{l:List Proc}(hf:Bg s=p::l):Bn s=Bn (A3 s p):=by
 unfold Bn;rw[Mb h,hf]
theorem L4{s:WS}(h:(Ah s).length≤0):Ah s=[]:=List.eq_nil_of_length_eq_zero (by omega)
theorem JA:∀ (n:Nat) (s:WS),BX s→(Ah s).length≤n→∀ x∈Bn s,x∈Ah s:=by
 intro n
 induction n with
 | zero =>
  intro s h hn x hx
  have:Bg s=[]:=by unfold Bg;rw[L4 hn];rfl
  rwa [LK h this]at hx
 | succ n ih =>
  intro s h hn x hx
  cases hf:Bg s with
  | nil=>rwa [LK h hf]at hx
  | cons p l =>
   rw[MB h hf]at hx
   have hp:p∈Ah s:=(DX.1 (hf▸mem_cons_self)).1
   have:=DZ h hp
   exact((HC h p x).1 (ih _ (Cg h p) (by omega) x hx)).1
theorem MA:∀ (n:Nat) (s:WS),BX s→(Ah s).length≤n→∀ f∈Bg s,Bn s=Bn (A3 s f):=by
 intro n
 induction n with
 | zero =>
  intro s h hn f hf
  have:=(DX.1 hf).1
  rw[L4 hn]at this
  cases this
 | succ n ih =>
  intro s h hn f hf
  cases hs:Bg s with
  | nil=>rw[hs]at hf;cases hf
  | cons g l =>
   rw[MB h hs]
   by_cases e:f=g
   ·rw[e]
   ·have hg:g∈Bg s:=hs▸mem_cons_self
    have d1:=DZ h (DX.1 hg).1
    have d2:=DZ h (DX.1 hf).1
    rw[ih _ (Cg h g) (by omega) f (MG h e hf),ih _ (Cg h f) (by omega) g (MG h (Ne.symm e) hg),Ps h]
theorem OD:∀ (n:Nat) (s:WS),BX s→(Ah s).length≤n→∀ p,∀ x∈Bn (A3 s p),x∈Bn s:=by
 intro n
 induction n with
 | zero =>
  intro s h hn p x hx
  have hx:=JA _ _ (Cg h p) (le_refl _) x hx
  have:=((HC h p x).1 hx).1
  rw[L4 hn]at this
  cases this
 | succ n ih =>
  intro s h hn p x hx
  cases hs:Bg s with
  | nil =>
   rw[LK h hs]
   exact((HC h p x).1 (JA _ _ (Cg h p) (le_refl _) x hx)).1
  | cons g l =>
   rw[MB h hs]
   by_cases e:g=p
   ·rw[e];exact hx
   ·have hg:g∈Bg s:=hs▸mem_cons_self
    have d1:=DZ h (DX.1 hg).1
    refine ih _ (Cg h g) (by omega) p x ?_
    rw[Ps h,← MA _ _ (Cg h p) (le_refl _) g (MG h e hg)]
    exact hx
theorem Qe(l:List Proc)(ms:List Proc):∀ s:WS,BX s→BX (ms.foldl (fun x p=>if AK l p then x else A3 x p) s)∧∀ x∈Bn (ms.foldl (fun x p=>if AK l p then x else A3 x p) s),x∈Bn s:=by
 induction ms with
 | nil=>exact fun _ h=>⟨h,fun _ h=>h⟩
 | cons m ms ih =>
  intro s h
  simp only[List.foldl_cons]
  split
  ·exact ih s h
  ·have:=ih _ (Cg h m)
   exact⟨this.1,fun x hx=>OD _ s h (le_refl _) m x (this.2 x hx)⟩
theorem Kr{s:WS}(h:BX s)(l:List Proc):BX (Ca s l):=(Qe l _ s h).1
theorem VJ{s:WS}(h:BX s)(l:List Proc):∀ x∈Bn (Ca s l),x∈Bn s:=(Qe l _ s h).2
end Go.Rd
