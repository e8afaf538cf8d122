/- part 19 of the proof -/
import Derived.Test.YthachdiockkofaaGreatDoorS14
set_option linter.all false
open Go Go.Abs Go.Proofs
set_option maxRecDepth 100000
namespace Go.Rd
set_option maxHeartbeats 8000000
open List (filter_sublist mem_cons mem_cons_self pairwise_cons)
open Nat (le_refl)
theorem Th{α:Type}{R:α→α→Prop}(irr:∀ a,¬ R a a)(asy:∀ a b,R a b→¬ R b a):∀ {l m:List α},l.Pairwise R→m.Pairwise R→(∀ x,x∈l↔x∈m)→l=m
 |[],[],_,_,_=>rfl
 |[],b::m,_,_,h=>by have:=(h b).2 (by simp);cases this
 | a::l,[],_,_,h=>by have:=(h a).1 (by simp);cases this
 | a::l,b::m,hl,hm,h=>by
  obtain⟨l1,l2⟩:=pairwise_cons.1 hl;obtain⟨m1,m2⟩:=pairwise_cons.1 hm;have hab:a=b:=by
   rcases mem_cons.1 ((h a).1 (by simp)) with e|e
   ·exact e
   ·rcases mem_cons.1 ((h b).2 (by simp)) with f|f
    ·exact f.symm
    ·exact absurd (m1 a e) (asy _ _ (l1 b f))
  subst hab;rw[Th irr asy l2 m2 fun x=>?_];constructor
  ·intro hx;rcases mem_cons.1 ((h x).1 (by simp[hx])) with e|e
   ·subst e;exact absurd (l1 x hx) (irr x)
   ·exact e
  ·intro hx;rcases mem_cons.1 ((h x).2 (by simp[hx])) with e|e
   ·subst e;exact absurd (m1 x hx) (irr x)
   ·exact e
theorem TJ{l m:List Hold}(hl:L2 l)(hm:L2 m)(h:∀ x,x∈l↔x∈m):l=m :=
 Th (fun a h=>by have:=BT a.proc;omega) (fun a b h k=>by have:=Cs a.proc b.proc;omega) hl hm h
theorem Rj{p:Proc}{a:Amt}:∀ {d:List Hold},L2 d→(∀ h∈d,h.proc≠p)→L2 (d.take (B8 d p)++⟨p,a⟩::d.drop (B8 d p))
 |[],_,_=>by simp[B8,L2]
 | x::d,h,hn=>by
  obtain⟨h1,h2⟩:=pairwise_cons.1 h;have hx:x.proc≠p:=hn x (by simp);cases hk:after' p x
  ·have e:B8 (x::d) p=B8 d p+1:=by
    unfold B8;rw[List.findIdx?_cons,hk];cases d.findIdx? (after' p)<;>simp
   rw[e];refine pairwise_cons.2 ⟨fun y hy=>?_,Rj h2 fun y hy=>hn y (by simp[hy])⟩;have hxp:AT x.proc p<0:=by
    simp only[after',decide_eq_false_iff_not]at hk;have:AT x.proc p≠0:=fun e=>hx (FM e)
    omega
   rcases List.mem_append.1 hy with hy|hy
   ·exact h1 y (List.mem_of_mem_take hy)
   ·rcases mem_cons.1 hy with hy|hy
    ·subst hy;exact hxp
    ·exact h1 y (List.mem_of_mem_drop hy)
  ·have e:B8 (x::d) p=0:=by
    unfold B8;rw[List.findIdx?_cons,hk];rfl
   rw[e];have hpx:AT p x.proc<0:=by
    simp only[after',decide_eq_true_eq]at hk;have:=Cs x.proc p;omega
   refine pairwise_cons.2 ⟨fun y hy=>?_,h⟩;rcases mem_cons.1 hy with hy|hy
   ·subst hy;exact hpx
   ·exact Cz hpx (h1 y hy)
theorem ao{l:List Hold}{p:Proc}{a:Amt}(h:L2 l)(ha:a.zero=false):L2 (BK l p a):=by
 unfold BK;rw[ha];exact Rj (h.sublist filter_sublist) fun y hy=>(Jd.1 hy).2
theorem NV{r:Res}{l:List Hold}(h:A4 r l=true):L2 l:=((CJ r l).1 h).2.2.2.1
theorem EH(q:Queue)(p:Proc):Ba q p = { q with holds:=As q.holds p,convs:=AI q.convs p,waits:=AI q.waits p }:=by simp[Ba,FZ]
theorem P7{q:Queue}{w:Wait}(hh:AY q=some w):(∃ l,q.convs=w::l∧Cp q w = { q with holds:=BK q.holds w.proc w.amt,convs:=l })∨(∃ l,q.convs=[]∧q.waits=w::l∧Cp q w = { q with holds:=BK q.holds w.proc w.amt,waits:=l }):=by
 cases hc:q.convs with
 | cons w' l =>
  have hw':w'=w:=by simp[AY,hc]at hh;exact hh
  subst hw';exact .inl ⟨l,rfl,by unfold Cp;simp only[hc]⟩
 | nil =>
  cases hw:q.waits with
  | nil=>simp[AY,hc,hw]at hh
  | cons w' l =>
   have hw':w'=w:=by simp[AY,hc,hw]at hh;exact hh
   subst hw';exact .inr ⟨l,rfl,rfl,by unfold Cp;simp only[hc,hw];rfl⟩
theorem aC{q:Queue}{w:Wait}(h:Sound q)(hh:AY q=some w)(hr:Es q.res q.holds w.proc w.amt=true)(x:Proc):(Bz (Ba (Cp q w) x)).1=(Bz (Ba q x)).1:=by
 obtain⟨r1,r2,r3⟩:=Lz hr;have hz:=FN r1;have ha:=NV r3
 by_cases e:w.proc=x
 ·have hd:As (BK q.holds w.proc w.amt) x=As q.holds x:=by
   refine TJ (ha.sublist filter_sublist) ((NV h.holds).sublist filter_sublist) fun y=>?_
   simp only[Jd,Qo hz];constructor
   ·rintro⟨(⟨h1,h2⟩|h1),h3⟩
    ·exact⟨h1,h3⟩
    ·subst h1;exact absurd e h3
   ·rintro⟨h1,h2⟩;exact⟨.inl ⟨h1,e▸h2⟩,h2⟩
  have hcc:∀ l,AI (w::l) x=AI l x:=fun l=>by simp[AI,e]
  have:Ba (Cp q w) x=Ba q x:=by
   rcases P7 hh with ⟨l,h1,h2⟩|⟨l,h1,h3,h2⟩
   ·rw[h2,EH,EH,h1,hcc,hd]
   ·rw[h2,EH,EH,h3,hcc,hd]
  rw[this]
 ·have hd:As (BK q.holds w.proc w.amt) x=BK (As q.holds x) w.proc w.amt:=by
   have ha2:L2 (As (BK q.holds w.proc w.amt) x):=ha.sublist filter_sublist;refine TJ ha2 (ao ((NV h.holds).sublist filter_sublist) hz) fun y=>?_
   simp only[Jd,Qo hz];constructor
   ·rintro⟨(⟨h1,h2⟩|h1),h3⟩
    ·exact .inl ⟨⟨h1,h3⟩,h2⟩
    ·exact .inr h1
   ·rintro(⟨⟨h1,h3⟩,h2⟩|h1)
    ·exact⟨.inl ⟨h1,h2⟩,h3⟩
    ·subst h1;exact⟨.inr rfl,e⟩
  have hr2:Es (Ba q x).res (Ba q x).holds w.proc w.amt=true:=by
   rw[EH];simp only[Es,Bool.and_eq_true,← hd];exact⟨⟨⟨Iz filter_sublist h.holds,r2⟩,r1⟩,Iz filter_sublist r3⟩
  have hcc:∀ l,AI (w::l) x=w::AI l x:=fun l=>by simp[AI,e]
  have key:AY (Ba q x)=some w∧Cp (Ba q x) w=Ba (Cp q w) x:=by
   rcases P7 hh with ⟨l,h1,h2⟩|⟨l,h1,h3,h2⟩
   ·rw[h2,EH,EH,h1,hcc,hd];exact⟨rfl,rfl⟩
   ·rw[h2,EH,EH,h1,h3,hcc,hd];exact⟨rfl,rfl⟩
  rw[HT (Ba q x),key.1];simp only[hr2,if_true,key.2]
theorem Ko{q:Queue}(h:Sound q)(x:Proc):(Bz (Ba (Bz q).1 x)).1=(Bz (Ba q x)).1 :=
 (GM (P:=fun y=>Sound y∧(Bz (Ba y x)).1=(Bz (Ba q x)).1) (fun _ _ hy hh hr=>⟨Jp hy.1 hh hr,(aC hy.1 hh hr x).trans hy.2⟩) _ q rfl ⟨h,rfl⟩).1.2
theorem YN(q:Queue)(p r:Proc):Ba (Ba q p) r=Ba (Ba q r) p:=by
 simp only[EH,As,AI,List.filter_filter,Bool.and_comm]
theorem Fp{q:Queue}(hv:valid q=true)(p:Proc):BG q p=(Bz (Ba q p)).1:=by
 by_cases hp:Br (A6 q) p=true
 ·have e:BG q p = { El (Ba q p) with gen:=q.gen }:=by simp[BG,hv,hp]
  rw[e];have h1:(Bz (Ba q p)).1.gen=q.gen:=(Pd _).2;show ({ (Bz (Ba q p)).1 with gen:=q.gen }:Queue)=_;rw[← h1]
 ·have e:BG q p=q:=by simp[BG,hp]
  have hn:¬ inQ q p:=by rw[← DJ];simpa [Br]using hp
  have e2:Ba q p=q:=by
   have k1:As q.holds p=q.holds:=List.filter_eq_self.2 fun y hy=>decide_eq_true fun e=>hn (.inl ⟨y,hy,e⟩)
   have k2:AI q.convs p=q.convs:=List.filter_eq_self.2 fun y hy=>decide_eq_true fun e=>hn (.inr (.inl ⟨y,hy,e⟩))
   have k3:AI q.waits p=q.waits:=List.filter_eq_self.2 fun y hy=>decide_eq_true fun e=>hn (.inr (.inr ⟨y,hy,e⟩))
   rw[EH,k1,k2,k3]
  rw[e,e2,HT];have hs:=((Bm q).1 hv).2;cases hh:AY q with
  |none=>rfl
  |some w=>simp only[hs w hh];rfl
theorem QD{q:Queue}(hv:valid q=true)(p r:Proc):BG (BG q p) r=BG (BG q r) p:=by
 have hs:=((Bm q).1 hv).1;rw[Fp (Ft hv p),Fp (Ft hv r),Fp hv,Fp hv,Ko (HM hs p),Ko (HM hs r),YN]
theorem QE{s:WS}(h:Ch s)(p r:Proc):BX (BX s p) r=BX (BX s r) p:=by
 simp only[BX,List.map_map,Od,List.filter_filter,WS.mk.injEq];exact⟨List.map_congr_left fun q hq=>QD (h q hq) p r,by simp only[Bool.and_comm]⟩
theorem Jv{q:Queue}{p:Proc}:(Aj q p).isSome=true↔∃ w∈q.convs++q.waits,w.proc=p:=by
 simp only[Aj,Option.isSome_map,List.find?_isSome,decide_eq_true_eq]
theorem Vq{q:Queue}(hv:valid q=true){p x:Proc}(h:(Aj (BG q p) x).isSome=true):(Aj q x).isSome=true:=by
 rw[Fp hv]at h;rw[Jv]at *;obtain⟨w,hw,rfl⟩:=h;have:=(GM (P:=fun y=>∀ v∈y.convs++y.waits,v∈q.convs++q.waits) (fun y w hy hh _ v hv=>hy v (by
  rcases P7 hh with ⟨l,h1,h2⟩|⟨l,h1,h3,h2⟩
  ·rw[h2]at hv;rw[h1];exact List.mem_cons_of_mem _ hv
  ·rw[h2,h1]at hv;rw[h1,h3];exact List.mem_cons_of_mem _ hv)) _ (Ba q p) rfl (fun v hv=>by
  simp only[EH,AI,List.mem_append,List.mem_filter]at hv ⊢;rcases hv with hv|hv
  ·exact .inl hv.1
  ·exact .inr hv.1)).1
 exact⟨w,this w hw,rfl⟩
theorem Nq{x:Proc}{name:Bs}{f:Queue→Queue}(l:List Queue)(hf:∀ q∈l,(f q).res=q.res∧((Aj (f q) x).isSome=true→(Aj q x).isSome=true))(h:BL (l.map f) x name=true):BL l x name=true:=by
 unfold BL at *;have gen:∀ (l:List Queue),(∀ q∈l,(f q).res=q.res∧((Aj (f q) x).isSome=true→(Aj q x).isSome=true))→∀ a b:Bool,(a=true→b=true)→(l.map f).foldl (fun w q=>if q.res.name==name then (Aj q x).isSome else w) a=true→l.foldl (fun w q=>if q.res.name==name then (Aj q x).isSome else w) b=true:=by
  intro l
  induction l with
  | nil=>intro _ a b hab h;exact hab h
  | cons q l ih =>
   intro hl a b hab h;obtain⟨h1,h2⟩:=hl q (by simp);simp only[List.map_cons,List.foldl_cons]at h ⊢;refine ih (fun q hq=>hl q (by simp[hq])) _ _ ?_ h;rw[h1];split
   ·exact h2
   ·exact hab
 exact gen l hf false false id h
mutual
theorem PV{f g:Atom→Bool}(h:∀ a,f a=true→g a=true):∀ e:Expr,En f e=true→En g e=true
 |.mk k a kids=>by
  unfold En;split
  ·exact h a
  ·intro hk;have:=OC h kids;simp only[decide_eq_true_eq]at hk ⊢;omega
theorem OC{f g:Atom→Bool}(h:∀ a,f a=true→g a=true):∀ l:List Expr,Cu f l≤Cu g l
 |[]=>by simp[Cu]
 | e::l=>by
  have h1:=PV h e;have h2:=OC h l;simp only[Cu];cases he:En f e
  ·simp only[Bool.false_eq_true,if_false];split<;>omega
  ·rw[h1 he];simp only[if_true];omega
end
theorem XS{l:List Atom}{s t:List Bool}(h:∀ k,s.getD k false=true→t.getD k false=true)(a:Atom)(ha:DF l s a=true):DF l t a=true:=by
 unfold DF at *;split
 ·next i hi=>rw[hi]at ha;exact h i ha
 ·next hi=>rw[hi]at ha;exact ha
theorem IP{α:Type}{f g:α→Bool}(l:List α)(h:∀ a∈l,f a=true→g a=true)(k:Nat)(hk:(l.map f).getD k false=true):(l.map g).getD k false=true:=by
 simp only[List.getD_eq_getElem?_getD,gm]at *;cases ha:l[k]? with
 |none=>rw[ha]at hk;simp at hk
 |some a=>rw[ha]at hk;simp only[Option.map_some,Option.getD_some]at hk ⊢;exact h a (mG ha) hk
theorem KJ{e:Expr}{s t:List Bool}(h:∀ k,s.getD k false=true→t.getD k false=true)(hs:EI e s=true):EI e t=true:=by
 simp only[EI,Bool.and_eq_true]at *;exact⟨hs.1,PV (XS h) e hs.2⟩
theorem Zf{s:WS}(h:Ch s){x p:Proc}(hne:x≠p)(hf:DB s x=true):DB (BX s p) x=true:=by
 unfold DB at *;have e:(BX s p).needs.find? (fun n=>decide (n.proc=x))=s.needs.find? fun n=>decide (n.proc=x):=FW (fun n hn=>by simp only[decide_eq_true_eq]at hn ⊢;rw[hn];exact hne) _
 rw[e];cases hn:s.needs.find? (fun n=>decide (n.proc=x)) with
 |none=>rfl
 |some n =>
  rw[hn]at hf;simp only at hf ⊢;refine KJ (IP _ fun a _=>?_) hf;intro h1;cases hw:BL (BX s p).queues n.proc a.name
  ·rfl
  ·have:=Nq s.queues (fun q hq=>⟨Oe q p,Vq (h q hq)⟩) hw;rw[this]at h1;cases h1
theorem Dv{s:WS}{x:Proc}:x∈B3 s↔x∈Am s∧DB s x=true:=List.mem_filter
theorem NO{s:WS}(h:Ch s){x p:Proc}(hne:x≠p)(hf:x∈B3 s):x∈B3 (BX s p):=by
 rw[Dv]at *;exact⟨(JV h p x).2 ⟨hf.1,hne⟩,Zf h hne hf.2⟩
def Bi(s:WS):List Proc:=(FC s).2
theorem I0{s:WS}(h:Ch s)(hf:B3 s=[]):Bi s=Am s:=by
 unfold Bi;rw[QB h,hf]
theorem NF{s:WS}(h:Ch s){p:Proc}{l:List Proc}(hf:B3 s=p::l):Bi s=Bi (BX s p):=by
 unfold Bi;rw[QB h,hf]
theorem M8{s:WS}(h:(Am s).length≤0):Am s=[]:=List.eq_nil_of_length_eq_zero (by omega)
theorem MJ:∀ (n:Nat) (s:WS),Ch s→(Am s).length≤n→∀ x∈Bi s,x∈Am s:=by
 intro n
 induction n with
 | zero =>
  intro s h hn x hx;have:B3 s=[]:=by unfold B3;rw[M8 hn];rfl
  rwa [I0 h this]at hx
 | succ n ih =>
  intro s h hn x hx;cases hf:B3 s with
  | nil=>rwa [I0 h hf]at hx
  | cons p l =>
   rw[NF h hf]at hx;have hp:p∈Am s:=(Dv.1 (hf▸mem_cons_self)).1;have:=Fm h hp;exact((JV h p x).1 (ih _ (CW h p) (by omega) x hx)).1
theorem ND:∀ (n:Nat) (s:WS),Ch s→(Am s).length≤n→∀ f∈B3 s,Bi s=Bi (BX s f):=by
 intro n
 induction n with
 | zero =>
  intro s h hn f hf;have:=(Dv.1 hf).1;rw[M8 hn]at this;cases this
 | succ n ih =>
  intro s h hn f hf;cases hs:B3 s with
  | nil=>rw[hs]at hf;cases hf
  | cons g l =>
   rw[NF h hs]
   by_cases e:f=g
   ·rw[e]
   ·have hg:g∈B3 s:=hs▸mem_cons_self;have d1:=Fm h (Dv.1 hg).1;have d2:=Fm h (Dv.1 hf).1;rw[ih _ (CW h g) (by omega) f (NO h e hf),ih _ (CW h f) (by omega) g (NO h (Ne.symm e) hg),QE h]
theorem VQ:∀ (n:Nat) (s:WS),Ch s→(Am s).length≤n→∀ p,∀ x∈Bi (BX s p),x∈Bi s:=by
 intro n
 induction n with
 | zero =>
  intro s h hn p x hx;have hx:=MJ _ _ (CW h p) (le_refl _) x hx;have:=((JV h p x).1 hx).1;rw[M8 hn]at this;cases this
 | succ n ih =>
  intro s h hn p x hx;cases hs:B3 s with
  | nil =>
   rw[I0 h hs];exact((JV h p x).1 (MJ _ _ (CW h p) (le_refl _) x hx)).1
  | cons g l =>
   rw[NF h hs]
   by_cases e:g=p
   ·rw[e];exact hx
   ·have hg:g∈B3 s:=hs▸mem_cons_self;have d1:=Fm h (Dv.1 hg).1;refine ih _ (CW h g) (by omega) p x ?_;rw[QE h,← ND _ _ (CW h p) (le_refl _) g (NO h e hg)];exact hx
theorem Rr(l:List Proc)(ms:List Proc):∀ s:WS,Ch s→Ch (ms.foldl (fun x p=>if Br l p then x else BX x p) s)∧∀ x∈Bi (ms.foldl (fun x p=>if Br l p then x else BX x p) s),x∈Bi s:=by
 induction ms with
 | nil=>exact fun _ h=>⟨h,fun _ h=>h⟩
 | cons m ms ih =>
  intro s h;simp only[List.foldl_cons];split
  ·exact ih s h
  ·have:=ih _ (CW h m);exact⟨this.1,fun x hx=>VQ _ s h (le_refl _) m x (this.2 x hx)⟩
theorem XR{s:WS}(h:Ch s)(l:List Proc):Ch (Fa s l):=(Rr l _ s h).1
theorem XF{s:WS}(h:Ch s)(l:List Proc):∀ x∈Bi (Fa s l),x∈Bi s:=(Rr l _ s h).2
end Go.Rd
