/- part 29 of the proof -/
import Derived.Test.YthachdiockkofaaGreatDoorS19
import Derived.Test.YthachdiockkofaaGreatDoorS28
set_option linter.all false
open Go Go.Abs Go.Proofs
set_option maxRecDepth 100000
namespace Go.Rd
set_option maxHeartbeats 8000000
open List (filter_append map_append map_cons map_nil mem_cons mem_filter mem_filterMap mem_map take_add_one take_length)
open Bool (and_eq_true false_eq_true not_eq_true')
open Option (map_some none_or)
open Tryz
def KX(t:List Queue)(x:Pcs):Prop:=∀ q∈t,Kq q x.proc (Ai x.led.entries q.res.name)
def KF(q:Queue)(p:Proc)(l:Amt):Prop:=Aj q p=none∧Ak q.holds p=l
theorem KF.k{q:Queue}{p:Proc}{l:Amt}(h:KF q p l):Kq q p l:=⟨fun hh=>by rw[h.1]at hh;simp at hh,.inl h.2⟩
structure Good(t:List Queue)(x:Pcs):Prop where
 ex:A5 x.req.expr=true
 fd:∀ a∈Ad x.req.expr,∃ k,By t a.name=some k
 k:KX t x
theorem Good.step{p:Proc}{t t':List Queue}{x:Pcs}(h:Good t x)(hs:EO p t t')(hp:x.proc≠p):Good t' x :=
 ⟨h.ex,fun a ha=>by rw[HE hs.res];exact h.fd a ha,hs.other x.proc hp (fun n=>Ai x.led.entries n) h.k⟩
structure JE(e:Option Nat)(w:Work):Prop where
 tab:Ck w.queues
 n:w.procs.length≤8
 uq:∀ (i j:Nat) (x y:Pcs),w.procs[i]?=some x→w.procs[j]?=some y→x.proc=y.proc→i=j
 good:∀ (j:Nat) (x:Pcs),w.procs[j]?=some x→some j≠e→x.waiting=true→Good w.queues x
theorem JE.but{w:Work}(h:JE none w)(i:Nat):JE (some i) w:=⟨h.tab,h.n,h.uq,fun j x hj _ hw=>h.good j x hj (by simp) hw⟩
theorem JE.step{i:Nat}{w w':Work}{z:Pcs}(h:JE (some i) w)(hz:w.procs[i]?=some z)(hp:w'.procs=w.procs)(hs:EO z.proc w.queues w'.queues):JE (some i) w' where
 tab:=hs.tab
 n:=by rw[hp];exact h.n
 uq:=by rw[hp];exact h.uq
 good:=fun j x hj hne hw=>by
  rw[hp]at hj;refine(h.good j x hj hne hw).step hs fun e=>hne ?_
  rw[h.uq j i x z hj hz e]
theorem JE.set{i:Nat}{w:Work}{z y:Pcs}(h:JE (some i) w)(hz:w.procs[i]?=some z)(hy:y.proc=z.proc)(hg:y.waiting=true→Good w.queues y):JE none (At w i y) where
 tab:=h.tab
 n:=by simp only[At,List.length_set];exact h.n
 uq:=fun a b u v ha hb e=>by
  have key:∀ (c:Nat) (u:Pcs),(w.procs.set i y)[c]?=some u→∃ u',w.procs[c]?=some u'∧u'.proc=u.proc:=fun c u hc=>by
   rw[List.getElem?_set]at hc;split at hc
   ·rename_i e;subst e;split at hc
    ·exact⟨z,hz,by rw[← hy,Option.some.inj hc]⟩
    ·cases hc
   ·exact⟨u,hc,rfl⟩
  obtain⟨u',h1,h2⟩:=key a u ha;obtain⟨v',h3,h4⟩:=key b v hb;exact h.uq a b u' v' h1 h3 (by rw[h2,h4,e])
 good:=fun j x hj _ hw=>by
  simp only[At]at hj;rw[List.getElem?_set]at hj;split at hj
  ·split at hj
   ·have:=Option.some.inj hj;subst this;exact hg hw
   ·cases hj
  ·rename_i hne;exact h.good j x hj (fun e=>hne (Option.some.inj e).symm) hw
theorem JE.set'{i:Nat}{w:Work}{z y:Pcs}(h:JE (some i) w)(hz:w.procs[i]?=some z)(hy:y.proc=z.proc):JE (some i) (At w i y):=by
 have h1:=JE.set (y:={ y with waiting:=false }) h hz hy (fun e=>by simp at e);refine⟨h.tab,by simp only[At,List.length_set];exact h.n,fun a b u v ha hb e=>?_,fun j x hj hne hw=>?_⟩
 ·have key:∀ (c:Nat) (u:Pcs),(w.procs.set i y)[c]?=some u→∃ u',w.procs[c]?=some u'∧u'.proc=u.proc:=fun c u hc=>by
   rw[List.getElem?_set]at hc;split at hc
   ·rename_i e;subst e;split at hc
    ·exact⟨z,hz,by rw[← hy,Option.some.inj hc]⟩
    ·cases hc
   ·exact⟨u,hc,rfl⟩
  obtain⟨u',h1,h2⟩:=key a u ha;obtain⟨v',h3,h4⟩:=key b v hb;exact h.uq a b u' v' h1 h3 (by rw[h2,h4,e])
 ·simp only[At]at hj;rw[List.getElem?_set]at hj;split at hj
  ·rename_i e;subst e;exact absurd rfl hne
  ·exact h.good j x hj hne hw
theorem HY{w:Work}{x:Pcs}{name:Bs}(h:Ck w.queues)(hk:KX w.queues x)(hf:∃ k,By w.queues name=some k) :
 Pu w x name∧EO x.proc w.queues (CV w x name).queues∧KX (CV w x name).queues x∧∀ q∈(CV w x name).queues,KF q x.proc (Ai x.led.entries q.res.name)∨(q∈w.queues∧q.res.name≠name):=by
 obtain⟨k,hf⟩:=hf;obtain⟨hlt,q,hq,hn⟩:=CH hf;have hg:w.queues.getD k q0=q:=by simp[List.getD,hq]
 have hqm:=mG hq;have hkq:=hk q hqm;have fin:∀ q1:Queue,q1.res=q.res→KF q1 x.proc (Ai x.led.entries name)→EO x.proc w.queues (w.queues.set k q1) →
  KX (w.queues.set k q1) x∧∀ q'∈w.queues.set k q1,KF q' x.proc (Ai x.led.entries q'.res.name)∨(q'∈w.queues∧q'.res.name≠name):=by
  intro q1 hr hkf hs;have e1:q1.res.name=name:=by rw[hr,hn]
  refine⟨fun q' hq'=>?_,fun q' hq'=>?_⟩
  ·rcases Ct (q:=q) hq' with rfl|⟨j,_,hj⟩
   ·rw[e1];exact hkf.k
   ·exact hk q' (mG hj)
  ·rcases Ct (q:=q) hq' with rfl|⟨j,_,hj⟩
   ·exact .inl (by rw[e1];exact hkf)
   ·rename_i hji;exact .inr ⟨mG hj,fun e=>hji (DZ h hj hq (e.trans hn.symm))⟩
 cases hw:(Aj q x.proc).isSome
 ·have eA:Dj w x name k=w:=by simp only[Dj,hg,hw];rfl
  have hsafe:Pu w x name:=⟨k,hf,Cm h,by rw[eA];exact hlt,by rw[eA];exact Cm h⟩;have hwn:=Ey hw;have eK:CV w x name=I1 w x name k:=by unfold CV;rw[hf];simp only[eA]
  rw[eK];unfold I1;rw[hg]
  by_cases hl:Ak q.holds x.proc=Ai x.led.entries name
  ·simp only[hl,decide_true,if_true];refine⟨hsafe,.refl h,hk,fun q' hq'=>?_⟩
   by_cases e:q'.res.name=name
   ·obtain⟨j,hj⟩:=List.getElem?_of_mem hq';have:=DZ h hj hq (e.trans hn.symm);subst this;rw[hq]at hj;have:=Option.some.inj hj;subst this;exact .inl ⟨hwn,by rw[hn];exact hl⟩
   ·exact .inr ⟨hq',e⟩
  ·simp only[hl,decide_false,false_eq_true,if_false];rw[hn]at hkq;obtain⟨hz,hc⟩:=hkq.2.resolve_left hl;obtain⟨q1,e1,hs,hr,h1,h2⟩:=G6 (a:=⟨name,Ai x.led.entries name⟩) h hf hq hwn hz hc;simp only[BS];rw[e1];exact⟨hsafe,hs,fin q1 hr ⟨h1,h2⟩ hs⟩
 ·obtain⟨q1,e1,hs,hr,h1,h2⟩:=SI h hf hq hw;have hl:=hkq.1 hw;rw[hn]at hl;have eA:Dj w x name k=BS w (w.queues.set k q1) (BZ w.queues x.proc name).2.1:=by simp only[Dj,hg,hw,if_true,e1]
  have hsafe:Pu w x name:=⟨k,hf,Cm h,by rw[eA];simpa [BS]using hlt,by rw[eA];exact Cm hs.tab⟩;have eK:CV w x name=Dj w x name k:=by
   unfold CV;rw[hf];simp only;unfold I1;rw[eA];have:(BS w (w.queues.set k q1) (BZ w.queues x.proc name).2.1).queues.getD k q0=q1:=by simp[BS,List.getD,hlt]
   rw[this,h2,hl];simp
  rw[eK,eA];exact⟨hsafe,hs,fin q1 hr ⟨h1,h2.trans hl⟩ hs⟩
theorem Ky{x:Pcs}:∀ (az:List Atom) (w:Work),Ck w.queues→KX w.queues x→(∀ a∈az,∃ k,By w.queues a.name=some k) →
 LZ w x az∧EO x.proc w.queues (C9 w x az).queues∧KX (C9 w x az).queues x∧∀ q∈(C9 w x az).queues,KF q x.proc (Ai x.led.entries q.res.name)∨(q∈w.queues∧∀ a∈az,q.res.name≠a.name)
 |[],w,h,hk,_=>⟨fun i b hb=>by simp at hb,.refl h,hk,fun q hq=>.inr ⟨hq,fun a ha=>by cases ha⟩⟩
 | a::az,w,h,hk,hf=>by
  obtain⟨h1,h2,h3,h4⟩:=HY h hk (hf a (by simp));obtain⟨g1,g2,g3,g4⟩:=Ky az (CV w x a.name) h2.tab h3 (fun b hb=>by rw[HE h2.res];exact hf b (by simp[hb]));refine⟨fun i b hb=>?_,h2.trans g2,g3,fun q hq=>?_⟩
  ·cases i with
   | zero =>
    simp at hb;subst hb;exact h1
   | succ i=>exact g1 i b (by simpa using hb)
  ·rcases g4 q hq with hkf|⟨hq,hn⟩
   ·exact .inl hkf
   ·rcases h4 q hq with hkf|⟨hq,hn1⟩
    ·exact .inl hkf
    ·exact .inr ⟨hq,fun b hb=>by
      rcases mem_cons.1 hb with rfl|hb
      ·exact hn1
      ·exact hn b hb⟩
theorem DK{w:Work}{i:Nat}{x:Pcs}(h:JE none w)(hx:w.procs[i]?=some x)(hw:x.waiting=true):LZ w x (Ad x.req.expr)∧JE none (Au w i x)∧∀ q∈(Au w i x).queues,KF q x.proc (Ai x.led.entries q.res.name)∨(q∈w.queues∧∀ a∈Ad x.req.expr,q.res.name≠a.name):=by
 have hg:=h.good i x hx (by simp) hw;obtain⟨h1,h2,h3,h4⟩:=Ky (Ad x.req.expr) w h.tab hg.k hg.fd;refine⟨h1,?_,h4⟩;have hp:=F5 w x (Ad x.req.expr);exact JE.set (z:=x) ((h.but i).step hx hp h2) (by rw[hp];exact hx) rfl (fun e=>by simp[A7]at e)
theorem OM{i:Nat}{x:Pcs}:∀ (kl:List (Bool × Atom)) (w:Work) (z:Pcs),JE (some i) w→w.procs[i]?=some z→z.proc=x.proc→KX w.queues x→(∀ p∈kl,∃ k,By w.queues p.2.name=some k) →
 SB w i x kl∧JE (some i) (CA w i x kl)
 |[],w,z,h,_,_,_,_=>⟨fun j p hp=>by simp at hp,h⟩
 |(kp,a)::kl,w,z,h,hz,hzp,hk,hf=>by
  have hfa:=hf (kp,a) (by simp);obtain⟨h1,h2,h3,_⟩:=HY h.tab hk hfa;have key:JE (some i) (E5 w i x kp a.name)∧(∃ z',(E5 w i x kp a.name).procs[i]?=some z'∧z'.proc=x.proc)∧KX (E5 w i x kp a.name).queues x∧(E5 w i x kp a.name).queues.map (·.res)=w.queues.map (·.res):=by
   unfold E5;cases kp
   ·simp only[Bool.not_false,if_true];have hp:=E0 w x a.name;exact⟨h.step hz hp (hzp▸h2),⟨z,by rw[hp];exact hz,hzp⟩,h3,h2.res⟩
   ·simp only[Bool.not_true,false_eq_true,if_false];have hg:w.procs.getD i x0=z:=by simp[List.getD,hz]
    obtain⟨k,hfk⟩:=hfa;rw[hfk,hg];simp only;split
    ·exact⟨h,⟨z,hz,hzp⟩,hk,rfl⟩
    ·refine⟨h.set' hz rfl,?_,hk,rfl⟩;simp only[At];rw[List.getElem?_set_self (Ae hz)];exact⟨_,rfl,hzp⟩
  obtain⟨k1,⟨z',k2,k3⟩,k4,k5⟩:=key;obtain⟨g1,g2⟩:=OM kl (E5 w i x kp a.name) z' k1 k2 k3 k4 (fun p hp=>by rw[HE k5];exact hf p (by simp[hp]));refine⟨fun j p hp=>?_,g2⟩;cases j with
  | zero =>
   simp at hp;subst hp;exact⟨fun _=>h1,fun _=>⟨Cm h.tab,hfa⟩⟩
  | succ j=>exact g1 j p (by simpa using hp)
theorem JE.note{e:Option Nat}{w:Work}(h:JE e w)(k:Int)(p:Proc):JE e (Bv w k p):=⟨h.tab,h.n,h.uq,h.good⟩
theorem Nl{w:Work}{i:Nat}{x:Pcs}(h:JE none w)(hx:w.procs[i]?=some x)(hw:x.waiting=true) :
 SB (Bv w 2 x.proc) i x ((B9 x.req.expr (AU w.queues x.proc x.req.expr)).zip (Ad x.req.expr))∧JE none (B2 w i x):=by
 have hg:=h.good i x hx (by simp) hw;obtain⟨h1,h2⟩:=OM ((B9 x.req.expr (AU w.queues x.proc x.req.expr)).zip (Ad x.req.expr)) (Bv w 2 x.proc) x ((h.but i).note 2 x.proc) hx rfl hg.k (fun p hp=>hg.fd p.2 (List.of_mem_zip hp).2);refine⟨h1,?_⟩;obtain⟨l',hl⟩:=N0 (w:=w) (i:=i) (x:=x) (z:=x) hx ((B9 x.req.expr (AU w.queues x.proc x.req.expr)).zip (Ad x.req.expr)) (Bv w 2 x.proc) ⟨x.led,(Jk hx).symm⟩;have hi:=Ae hx;have hz:(CA (Bv w 2 x.proc) i x ((B9 x.req.expr (AU w.queues x.proc x.req.expr)).zip (Ad x.req.expr))).procs[i]?=some { x with led:=l' }:=by rw[hl];simp[hi]
 simp only[B2];generalize CA (Bv w 2 x.proc) i x ((B9 x.req.expr (AU w.queues x.proc x.req.expr)).zip (Ad x.req.expr))=w1 at h2 hz ⊢;have e1:w1.procs.getD i x0 = { x with led:=l' }:=by simp[List.getD,hz]
 rw[e1];have h3:=JE.set (y:=A7 { x with led:=l' }) h2 hz rfl (fun e=>by simp[A7]at e);have hi2:=Ae hz;have hz2:(At w1 i (A7 { x with led:=l' })).procs[i]?=some (A7 { x with led:=l' }):=by simp[At,hi2]
 have e2:(At w1 i (A7 { x with led:=l' })).procs.getD i x0=A7 { x with led:=l' }:=by simp[List.getD,hz2]
 rw[e2];exact JE.set (h3.but i) hz2 rfl (fun e=>by simp[A7,Bf]at e)
theorem JE.reqs{w:Work}(h:JE none w):Sz w:=fun x hx hw=>by
 obtain⟨j,hj⟩:=List.getElem?_of_mem hx;exact(h.good j x hj (by simp) hw).ex
theorem JE.EM:HR (JE none) where
 few:=fun w h=>⟨Cm h.tab,h.n,h.reqs⟩
 safe:=fun w i x h hs hx=>by
  obtain⟨y,hy,hsat⟩:=EE hs;rw[hx]at hy;have:=Option.some.inj hy;subst this;exact(Nl h hx (by simp only[GG,and_eq_true]at hsat;exact hsat.1)).1
 next:=fun w i x h hs hx=>by
  obtain⟨y,hy,hsat⟩:=EE hs;rw[hx]at hy;have:=Option.some.inj hy;subst this;exact(Nl h hx (by simp only[GG,and_eq_true]at hsat;exact hsat.1)).2
theorem JE.next{w:Work}{i:Nat}{x:Pcs}(h:JE none w)(hx:w.procs[i]?=some x):JE none (At w i (Bf x)) :=
 JE.set (h.but i) hx rfl fun hw=>by
  have:=h.good i x hx (by simp) hw;exact⟨this.ex,this.fd,this.k⟩
theorem JE.bT:Yz (JE none) where
 toHR:=JE.EM
 ev:=fun w k p h=>h.note k p
 wd:=fun w i x h hx hw=>⟨(DK h hx hw).1,(DK h hx hw).2.1⟩
 nx:=fun w i x h hx=>h.next hx
structure Lost(w:Work):Prop where
 q:w.queues=[]
 n:w.procs.length≤8
 rq:Sz w
def QT(w:Work):Prop:=JE none w∨Lost w
theorem XT(l:List Atom)(set:List Bool)(h:∀ b∈set,b=false)(a:Atom):DF l set a=false:=by
 unfold DF;split
 ·rename_i i _;simp only[List.getD];cases hs:set[i]? with
  |none=>rfl
  |some b=>rw[h b (mG hs)];rfl
 ·rfl
theorem PM{has:Atom→Bool}:∀ (es:List Expr) (l:List Atom),(∀ e∈es,∀ l,(prop e l).1=true→En has e=false)→(BW es l).1=true→Cu has es=0
 |[],_,_,_=>by simp[Cu]
 | e::es,l,hk,h=>by
  simp only[BW]at h;split at h
  ·rename_i h1;have:=hk e (by simp) l h1;simp only[Cu,this,false_eq_true,if_false];rw[PM es _ (fun e' he=>hk e' (by simp[he])) h];rfl
  ·cases h
theorem Rx{has:Atom→Bool}(hh:∀ a,has a=false):∀ (N:Nat) (e:Expr),SizeOf.sizeOf e<N→∀ l:List Atom,(prop e l).1=true→En has e=false
 | 0,_,h,_,_=>by omega
 | N+1,e,h,l,hp=>by
  rw[I3];rw[DD]at hp
  by_cases h0:e.kids.length=0
  ·rw[if_pos h0];exact hh _
  ·rw[if_neg h0]at hp ⊢;split at hp
   ·cases hp
   ·rename_i hn;have hc:=PM (has:=has) e.kids l (fun k hk l' hp'=>Rx hh N k (by have:=DY hk;omega) l' hp') hp;rw[hc];simp only[not_or,Int.not_lt]at hn;have:=hn.1;simp only[decide_eq_false_iff_not];omega
theorem V0{p:Proc}{e:Expr}(h:A5 e=true):EI e (AU [] p e)=false:=by
 have hp:(prop e []).1=true:=by simp only[A5,and_eq_true]at h;exact h.2
 have hg:∀ b∈AU [] p e,b=false:=fun b hb=>by
  simp only[AU,mem_map]at hb;obtain⟨a,_,rfl⟩:=hb;rfl
 unfold EI;rw[Rx (fun a=>XT _ _ hg a) _ e (Nat.lt_succ_self _) [] hp];simp
theorem Lost.sat{w:Work}(h:Lost w):Fq w=none:=by
 unfold Fq;rw[List.findIdx?_eq_none_iff];intro x hx;unfold GG;cases hw:x.waiting
 ·rfl
 ·rw[h.q,V0 (h.rq x hx hw)];rfl
theorem Lm:CU []:=⟨by simp,by simp⟩
theorem QT.EM:HR QT where
 few:=fun w h=>h.elim (fun h=>JE.EM.few w h) fun h=>⟨by rw[h.q];exact Lm,h.n,h.rq⟩
 safe:=fun w i x h hs hx=>h.elim (fun h=>JE.EM.safe w i x h hs hx) fun h=>by rw[h.sat]at hs;cases hs
 next:=fun w i x h hs hx=>h.elim (fun h=>.inl (JE.EM.next w i x h hs hx)) fun h=>by rw[h.sat]at hs;cases hs
theorem VH(p:Proc)(a:Atom)(prio:Int):(Dp [] p a prio).1=[]:=by
 unfold Dp;split
 ·rfl
 ·rfl
theorem Oz(p:Proc)(prio:Int):∀ (az:List Atom) (w:Work),w.queues=[]→(Ce w p prio az).queues=[]∧Tv w p prio az
 |[],w,h=>⟨h,fun i hi=>by simp at hi⟩
 | a::az,w,h=>by
  have h1:(EG w p a prio).queues=[]:=by simp only[EG,BS];rw[h];exact VH p a prio
  obtain⟨g1,g2⟩:=Oz p prio az (EG w p a prio) h1;refine⟨g1,fun i hi=>?_⟩;cases i with
  | zero=>show CU w.queues;rw[h];exact Lm
  | succ i=>exact g2 i (by simpa using hi)
theorem MC{i:Nat}{y:Pcs}{prio:Int}:∀ (az:List Atom) (w:Work),(az.map (·.name)).Nodup→JE (some i) w→w.procs[i]?=some y→KX w.queues y→(∀ q∈w.queues,(∃ a∈az,a.name=q.res.name)→Ak q.holds y.proc=Ai y.led.entries q.res.name) →
 Tv w y.proc prio az∧((Ce w y.proc prio az).queues=[]∨(JE (some i) (Ce w y.proc prio az)∧KX (Ce w y.proc prio az).queues y∧(Ce w y.proc prio az).queues.map (·.res)=w.queues.map (·.res)))
 |[],w,_,h,_,hk,_=>⟨fun i hi=>by simp at hi,.inr ⟨h,hk,rfl⟩⟩
 | a::az,w,hu,h,hy,hk,hf=>by
  have hu':=List.nodup_cons.1 hu;have few0:=Cm h.tab;rcases TS (p:=y.proc) (a:=a) (prio:=prio) h.tab (fun n=>Ai y.led.entries n) (fun q hq hn=>hf q hq ⟨a,by simp,hn.symm⟩) with hl|⟨k,q,q1,hfk,hq,hn,e1,hs,hr,hkq⟩
  ·have h1:(EG w y.proc a prio).queues=[]:=hl;obtain⟨g1,g2⟩:=Oz y.proc prio az (EG w y.proc a prio) h1;refine⟨fun j hj=>?_,.inl g1⟩;cases j with
   | zero=>exact few0
   | succ j=>exact g2 j (by simpa using hj)
  ·have eq1:(EG w y.proc a prio).queues=w.queues.set k q1:=e1;have hp1:(EG w y.proc a prio).procs=w.procs:=rfl;have hk1:KX (EG w y.proc a prio).queues y:=fun q' hq'=>by
    rw[eq1]at hq';rcases Ct (q:=q) hq' with rfl|⟨j,_,hj⟩
    ·rw[hr];exact hkq
    ·exact hk q' (mG hj)
   have hs':EO y.proc w.queues (EG w y.proc a prio).queues:=by rw[eq1];exact hs
   obtain⟨g1,g2⟩:=MC az (EG w y.proc a prio) hu'.2 (h.step hy hp1 hs') (by rw[hp1];exact hy) hk1 (fun q' hq' hx=>by
    rw[eq1]at hq';rcases Ct (q:=q) hq' with rfl|⟨j,_,hj⟩
    ·exfalso;obtain⟨b,hb,e⟩:=hx;refine hu'.1 ?_;rw[mem_map];exact⟨b,hb,by rw[e,hr,hn]⟩
    ·obtain⟨b,hb,e⟩:=hx;exact hf q' (mG hj) ⟨b,by simp[hb],e⟩)
   refine⟨fun j hj=>?_,?_⟩
   ·cases j with
    | zero=>exact few0
    | succ j=>exact g1 j (by simpa using hj)
   ·rcases g2 with g2|⟨a1,a2,a3⟩
    ·exact .inl g2
    ·exact .inr ⟨a1,a2,a3.trans hs'.res⟩
def Im(l:List Atom):Prop:=(l.map (·.name)).Nodup
theorem Ya{l:List Atom}{a:Atom}(h:Im l):Im (ET l a).2:=by
 unfold ET;cases hf:l.find? (hit a) with
 |some b=>exact h
 |none =>
  simp only;split
  ·exact h
  ·unfold Im at h ⊢;rw[map_append,List.nodup_append];refine⟨h,by simp,fun x hx y hy=>?_⟩;simp at hy;subst hy;rw[List.find?_eq_none]at hf;obtain⟨b,hb,rfl⟩:=mem_map.1 hx;have:=hf b hb;simp only[hit]at this;intro e;rw[e]at this;simp at this
theorem Qx:∀ (es:List Expr) (l:List Atom),(∀ e∈es,∀ l,Im l→Im (prop e l).2)→Im l→Im (BW es l).2
 |[],l,_,h=>by simpa [BW]using h
 | e::es,l,hk,h=>by
  simp only[BW];have h1:=hk e (by simp) l h;split
  ·exact Qx es _ (fun e' he=>hk e' (by simp[he])) h1
  ·exact h1
theorem Sb:∀ (N:Nat) (e:Expr),SizeOf.sizeOf e<N→∀ l:List Atom,Im l→Im (prop e l).2
 | 0,_,h,_,_=>by omega
 | N+1,e,h,l,hu=>by
  rw[DD];split
  ·split
   ·exact Ya hu
   ·exact hu
  ·split
   ·exact hu
   ·exact Qx e.kids l (fun k hk l' hu'=>Sb N k (by have:=DY hk;omega) l' hu') hu
theorem EY(e:Expr):Im (Ad e):=by
 unfold Ad;split
 ·rename_i h;have hp:(prop e []).1=true:=by simp only[A5,and_eq_true]at h;exact h.2
  rw[Ig _ e (Nat.lt_succ_self _) [] hp];exact Sb _ e (Nat.lt_succ_self _) [] (by simp[Im])
 ·simp[Im]
def Idle(t:List Queue)(x:Pcs):Prop:=∀ q∈t,KF q x.proc (Ai x.led.entries q.res.name)
theorem TM{w:Work}{i:Nat}{x:Pcs}{r:Req}(h:JE none w)(hx:w.procs[i]?=some x)(hi:Idle w.queues x)(he:A5 r.expr=true)(hf:∀ a∈Ad r.expr,∃ k,By w.queues a.name=some k) :
 Tv (At w i (FR w.now x r)) x.proc r.prio (Ad r.expr)∧QT (JB w i x r):=by
 have hli:=Ae hx;have h1:JE (some i) (At w i (FR w.now x r)):=(h.but i).set' hx rfl;have hy:(At w i (FR w.now x r)).procs[i]?=some (FR w.now x r):=by simp[At,hli]
 obtain⟨g1,g2⟩:=MC (prio:=r.prio) (Ad r.expr) (At w i (FR w.now x r)) (EY r.expr) h1 hy (fun q hq=>(hi q hq).k) (fun q hq _=>(hi q hq).2);refine⟨g1,?_⟩;have hp:(JB w i x r).procs=w.procs.set i (FR w.now x r):=GN _ _ _ _;have hy2:(JB w i x r).procs[i]?=some (FR w.now x r):=by rw[hp];simp[hli]
 rcases g2 with g2|⟨a1,a2,a3⟩
 ·refine .inr ⟨g2,by rw[hp];simpa using h.n,fun z hz hw=>?_⟩;rw[hp]at hz;rcases List.mem_or_eq_of_mem_set hz with hz|rfl
  ·exact h.reqs z hz hw
  ·exact he
 ·refine .inl ?_;have:=JE.set (y:=FR w.now x r) a1 hy2 rfl (fun _=>⟨he,fun a ha=>by rw[HE a3];exact hf a ha,a2⟩);have e:At (JB w i x r) i (FR w.now x r)=JB w i x r:=by
   unfold At;rw[Jk hy2]
  unfold JB at e this ⊢;rw[← e];exact this
theorem Wa{t:List Queue}(p:Proc)(a:Atom)(h:Ck t):(AO t p a).1=[]∨EO p t (AO t p a).1:=by
 cases hf:By t a.name with
 |none=>left;simp[AO,hf];split<;>rfl
 |some k =>
  obtain⟨hlt,q,hq,hn⟩:=CH hf;have hg:t.getD k q0=q:=by simp[List.getD,hq]
  have hv:=h.val q (mG hq)
  by_cases h0:(AN q p a.amt).2.2=0
  ·right;have:(Ak q.holds p).zero=false∧Aj q p=none∧q.res.covers (Ak q.holds p) a.amt=true:=by
    revert h0;unfold AN;simp only[hv,Bool.not_true,false_eq_true,if_false];split
    ·intro h;simp at h
    split
    ·intro h;simp at h
    split
    ·intro h;simp at h
    rename_i h1 h2 h3;intro _;exact⟨by simpa using h1,Ey (by simpa using h2),by simpa using h3⟩
   obtain⟨q1,e1,hs,_⟩:=G6 h hf hq this.2.1 this.1 this.2.2;rw[e1];exact hs
  ·left;simp only[AO,hf,hg];split
   ·rfl
   ·rw[if_pos (by simpa using h0)]
theorem CF{a:Amt}(h:usable a=true):(AX a.mode=true∧a.units=0)∨(a.mode=0∧1≤a.units∧a.units≤8):=by
 unfold usable at h;rw[Bool.or_eq_true]at h;rcases h with h|h
 ·rcases(BE h).2 with ⟨_,b,c⟩|⟨a,_⟩
  ·exact .inl ⟨b,c⟩
  ·exact absurd rfl a
 ·rcases(BE h).2 with ⟨a,_⟩|⟨_,b,c,d,e⟩
  ·exact absurd a (by decide)
  ·exact .inr ⟨b,c,by omega⟩
theorem Hz{m:Int}(h:AX m=true):m≠0:=by rcases Ax h with rfl|rfl|rfl|rfl|rfl<;>decide
theorem Jt{a:Amt}(h:usable a=true):a≠⟨0,0⟩:=by
 rintro rfl;rcases CF h with ⟨h,_⟩|⟨_,h,_⟩
 ·exact Hz h rfl
 ·exact absurd h (by decide)
def Gr(a b:Amt):Prop:=a=⟨0,0⟩∨(usable a=true∧usable b=true∧((a.mode≠0∧AL b.mode a.mode=true)∨(a.mode=0∧b.mode=0∧a.units≤b.units)))
theorem Gr.self{a:Amt}(h:a=⟨0,0⟩∨usable a=true):Gr a a:=by
 rcases h with h|h
 ·exact .inl h
 ·refine .inr ⟨h,h,?_⟩;rcases CF h with ⟨h1,h2⟩|⟨h1,h2⟩
  ·exact .inl ⟨Hz h1,JI h1⟩
  ·exact .inr ⟨h1,h1,Int.le_refl _⟩
theorem Gr.trans{a b c:Amt}(h1:Gr a b)(h2:Gr b c):Gr a c:=by
 rcases h1 with h1|⟨ua,ub,h1⟩
 ·exact .inl h1
 ·rcases h2 with h2|⟨_,uc,h2⟩
  ·exact absurd h2 (Jt ub)
  ·refine .inr ⟨ua,uc,?_⟩;rcases h1 with ⟨a1,a2⟩|⟨a1,a2,a3⟩
   ·rcases h2 with ⟨b1,b2⟩|⟨b1,_⟩
    ·exact .inl ⟨a1,QY b2 a2⟩
    ·have:AX b.mode=true:=by simp only[AL,and_eq_true]at a2;exact a2.1.1
     exact absurd b1 (Hz this)
   ·rcases h2 with ⟨b1,_⟩|⟨b1,b2,b3⟩
    ·exact absurd a2 b1
    ·exact .inr ⟨a1,b2,by omega⟩
theorem KI{a b:Amt}(h:Da a b=true):usable b=true∧Gr a b:=by
 unfold Da at h;split at h
 ·cases h
 rename_i h1;simp only[Bool.or_eq_true,not_eq_true',decide_eq_true_eq,not_or,Bool.not_eq_false]at h1;refine⟨h1.1,?_⟩;split at h
 ·rename_i h2;obtain⟨m,u⟩:=a;simp at h2;exact .inl (by simp[h2])
 rename_i h2;split at h
 ·cases h
 rename_i h3;have ua:usable a=true:=by simpa using h3
 refine .inr ⟨ua,h1.1,?_⟩;split at h
 ·rename_i h4;exact .inl ⟨by simpa using h4,h⟩
 ·rename_i h4;have h4:a.mode=0:=by simpa using h4
  have h5:a.units<b.units:=by simpa using h
  rcases CF ua with ⟨m,_⟩|⟨_,m,_⟩
  ·exact absurd h4 (Hz m)
  ·rcases CF h1.1 with ⟨_,n⟩|⟨n,_⟩
   ·omega
   ·exact .inr ⟨h4,n,by omega⟩
theorem NR{r:Res}{h a:Amt}(hf:r.fits h=true)(hg:Gr a h):r.covers h a=true:=by
 rcases hg with rfl|⟨ua,uh,hg⟩
 ·exact GW hf
 ·obtain⟨hs,hc⟩:=BE hf;rcases hc with ⟨k,m,u⟩|⟨k,m,u1,u2,u3⟩
  ·rcases hg with ⟨a1,a2⟩|⟨_,a2,_⟩
   ·have ma:AX a.mode=true:=by simp only[AL,and_eq_true]at a2;exact a2.1.2
    have ha:a.units=0:=by
     rcases CF ua with ⟨_,h⟩|⟨h,_⟩
     ·exact h
     ·exact absurd h a1
    have fa:r.fits a=true:=by simp[Res.fits,hs,k,ma,ha]
    rw[C2 hf fa,if_pos k];exact a2
   ·exact absurd a2 (Hz m)
  ·rcases hg with ⟨a1,a2⟩|⟨a1,a2,a3⟩
   ·have:AX h.mode=true:=by simp only[AL,and_eq_true]at a2;exact a2.1.1
    exact absurd m (Hz this)
   ·have h1:1≤a.units:=by
     rcases CF ua with ⟨h,_⟩|⟨_,h,_⟩
     ·exact absurd a1 (Hz h)
     ·exact h
    have fa:r.fits a=true:=by
     have hb:between a.units 1 r.units=true:=by simp[between];omega
     simp[Res.fits,hs,k,a1,hb]
    rw[C2 hf fa,if_neg k];simpa using a3
theorem J7{l:Ledger}(h:AP l=true){i:Nat}{e:Entry}(he:l.entries[i]?=some e):e.before=Ai (l.entries.take i) e.name∧Da e.before e.after=true:=by
 simp only[AP,and_eq_true]at h;have:=Ri h.1.1.2 he;simp only[Em,and_eq_true,decide_eq_true_eq]at this;exact⟨this.1.2,this.2⟩
theorem SV{l:Ledger}(h:AP l=true)(n:Bs):∀ i,i≤l.entries.length→Ai (l.entries.take i) n=⟨0,0⟩∨usable (Ai (l.entries.take i) n)=true
 | 0,_=>.inl rfl
 | i+1,hi=>by
  obtain⟨e,he⟩:∃ e,l.entries[i]?=some e:=⟨_,gE (by omega)⟩;rw[DG he];split
  ·exact .inr (KI (J7 h he).2).1
  ·exact SV h n i (by omega)
theorem WU{l:Ledger}(h:AP l=true)(n:Bs)(i:Nat):∀ d,i+d≤l.entries.length→Gr (Ai (l.entries.take i) n) (Ai (l.entries.take (i+d)) n)
 | 0,hi=>Gr.self (SV h n i hi)
 | d+1,hi=>by
  obtain⟨e,he⟩:∃ e,l.entries[i+d]?=some e:=⟨_,gE (by omega)⟩;have ih:=WU h n i d (by omega);rw[show i+(d+1)=i+d+1 from rfl,DG he];split
  ·rename_i hn;have hn:e.name=n:=by simpa using hn
   obtain⟨h1,h2⟩:=J7 h he;rw[hn]at h1;rw[h1]at h2;exact ih.trans (KI h2).2
  ·exact ih
theorem NU{l:Ledger}(h:AP l=true)(n:Bs)(i:Nat):Gr (Ai (l.entries.take i) n) (Ai l.entries n):=by
 rcases Nat.lt_or_ge i l.entries.length with hi|hi
 ·have:=WU h n i (l.entries.length-i) (by omega);rw[show i+(l.entries.length-i)=l.entries.length by omega,take_length]at this;exact this
 ·rw[List.take_of_length_le hi];have:=SV h n l.entries.length (Nat.le_refl _);rw[take_length]at this;exact .self this
theorem Ls{l:Ledger}(h:AP l=true){n:Bs}:∀ i,i≤l.entries.length→(∃ e∈l.entries.take i,e.name=n)→usable (Ai (l.entries.take i) n)=true
 | 0,_,⟨e,he,_⟩=>by simp at he
 | i+1,hi,⟨e,he,hn⟩=>by
  obtain⟨b,hb⟩:∃ b,l.entries[i]?=some b:=⟨_,gE (by omega)⟩;rw[DG hb];split
  ·exact(KI (J7 h hb).2).1
  ·rename_i hne;refine Ls h i (by omega) ⟨e,?_,hn⟩;rw[take_add_one,hb]at he;simp only[Option.toList_some,List.mem_append,List.mem_singleton]at he;rcases he with he|rfl
   ·exact he
   ·rw[hn]at hne;simp at hne
theorem Zu(l:List Bs)(n x:Bs):x∈O6 l n↔x∈l∨x=n:=by
 unfold O6;split
 ·rename_i h;exact⟨.inl,fun hx=>hx.elim id fun e=>e▸h⟩
 ·exact Ta _ _ _ _
theorem R0:∀ (ns l:List Bs) (x:Bs),x∈ns.foldl O6 l↔x∈l∨x∈ns
 |[],l,x=>by simp
 | n::ns,l,x=>by
  rw[List.foldl_cons,R0 ns,Zu];simp[or_assoc]
theorem DI(l:List Entry)(x:Bs):x∈BH l↔∃ e∈l,e.name=x:=by
 unfold BH;rw[R0];simp
theorem R1{l:Ledger}(h:AP l=true){n:Bs}(hn:∃ e∈l.entries,e.name=n):(⟨n,Ai l.entries n⟩:Atom)∈Er l∧usable (Ai l.entries n)=true:=by
 have hu:=Ls h (n:=n) l.entries.length (Nat.le_refl _) (by rw[take_length];exact hn);rw[take_length]at hu;refine⟨?_,hu⟩;unfold Er;rw[mem_filterMap];refine⟨n,(DI _ _).2 hn,?_⟩;rw[if_neg ?_];intro hz;refine Jt hu ?_;generalize Ai l.entries n=a at hz;obtain⟨m,u⟩:=a;simp at hz;simp[hz]
theorem Lr{l:List Entry}{n:Bs}(h:¬ ∃ e∈l,e.name=n):Ai l n=⟨0,0⟩:=by
 have:∀ (l:List Entry) (a:Amt),(¬ ∃ e∈l,e.name=n)→l.foldl (fun a e=>if e.name==n then e.after else a) a=a:=by
  intro l
  induction l with
  | nil=>intro a _;rfl
  | cons e l ih =>
   intro a hn;rw[List.foldl_cons,if_neg (by simpa using fun e'=>hn ⟨e,by simp,e'⟩)];exact ih a fun⟨e',h1,h2⟩=>hn ⟨e',by simp[h1],h2⟩
 exact this l _ h
def HP(t:List Queue)(x:Pcs):Prop:=∀ n,(∃ e∈x.led.entries,e.name=n)→∃ k q,By t n=some k∧t[k]?=some q∧q.res.name=n∧q.res.fits (Ai x.led.entries n)=true
def bK(t:List Queue)(x:Pcs)(a:Nat):Prop:=∀ q∈t,Aj q x.proc=none∧(Ak q.holds x.proc=Ai x.led.entries q.res.name∨Ak q.holds x.proc=Ai (x.led.entries.take a) q.res.name)
theorem HP.res{t t':List Queue}{x:Pcs}(h:HP t x)(hr:t'.map (·.res)=t.map (·.res)):HP t' x:=fun n hn=>by
 obtain⟨k,q,h1,h2,h3,h4⟩:=h n hn;have:=congrArg (fun l=>l[k]?) hr;simp only[gm,h2,map_some]at this;cases h5:t'[k]? with
 |none=>rw[h5]at this;cases this
 |some q' =>
  rw[h5]at this;simp only[map_some,Option.some.injEq]at this;exact⟨k,q',(HE hr n).trans h1,h5,by rw[this];exact h3,by rw[this];exact h4⟩
theorem Lu{r:Res}{a:Amt}(ha:r.fits a=true)(hc:r.covers ⟨0,0⟩ a=false):CC r ⟨0,0⟩ a=a:=by
 have hs:=(BE ha).1;have p1:r.permits ⟨0,0⟩=true:=by simp[Res.permits,hs,Amt.zero]
 have p2:r.permits a=true:=by simp[Res.permits,hs,ha]
 unfold CC;simp only[p1,p2,hc,Bool.and_self,Bool.not_true,false_eq_true,if_false,GW ha,if_true]
theorem Tf{q:Queue}{x:Pcs}(hl:Ai x.led.entries q.res.name=⟨0,0⟩∨q.res.fits (Ai x.led.entries q.res.name)=true):∀ (az:List Atom),(∀ a∈az,a.name=q.res.name→q.res.fits a.amt=true)→Cc q x az=true→Kq q x.proc (Ai x.led.entries q.res.name)
 |[],_,h=>by
  simp only[Cc,and_eq_true,decide_eq_true_eq,not_eq_true']at h;exact KF.k ⟨Ey h.2,h.1⟩
 | a::az,hf,h=>by
  unfold Cc at h;split at h
  ·exact Tf hl az (fun b hb=>hf b (by simp[hb])) h
  rename_i hn;have hn:a.name=q.res.name:=by simpa using hn
  have hfa:=hf a (by simp) hn;split at h
  ·exact Tf hl az (fun b hb=>hf b (by simp[hb])) h
  rename_i hc;have hc:q.res.covers (Ai x.led.entries q.res.name) a.amt=false:=by simpa using hc
  split at h
  ·rename_i hw;have hw:=Ey (by simpa using hw);have hg:Ak q.holds x.proc=CC q.res (Ai x.led.entries q.res.name) a.amt:=by simpa using h
   refine⟨fun hh=>by rw[hw]at hh;simp at hh,.inr ?_⟩;rw[hg];rcases hl with hl|hl
   ·rw[hl]at hc ⊢;rw[Lu hfa hc];exact⟨FN hfa,GW hfa⟩
   ·obtain⟨j1,j2,_⟩:=JN hl hfa hc;exact⟨FN j1,j2⟩
  ·split at h
   ·cases h
   ·simp only[and_eq_true,decide_eq_true_eq]at h;exact⟨fun _=>h.1,.inl h.1⟩
theorem Qt{q:Queue}{x:Pcs}:∀ (az:List Atom),(∀ a∈az,q.res.name≠a.name)→Cc q x az=true→KF q x.proc (Ai x.led.entries q.res.name)
 |[],_,h=>by
  simp only[Cc,and_eq_true,decide_eq_true_eq,not_eq_true']at h;exact⟨Ey h.2,h.1⟩
 | a::az,hf,h=>by
  unfold Cc at h;rw[if_pos (by simpa using Ne.symm (hf a (by simp)))]at h;exact Qt az (fun b hb=>hf b (by simp[hb])) h
theorem LP{l:List Res}:∀ {az:List Atom},Ge l az=0→∀ a∈az,FK l a=0
 |[],_,a,ha=>by cases ha
 | b::az,h,a,ha=>by
  simp only[Ge]at h;split at h
  ·rename_i hb;rcases mem_cons.1 ha with rfl|ha
   ·exact hb
   ·exact LP h a ha
  ·rename_i hb;exact absurd h hb
theorem Cq{t:List Queue}(ht:Ck t){e:Expr}(h:BY (B6 t) e=0){a:Atom}(ha:a∈Ad e):∃ k q,By t a.name=some k∧t[k]?=some q∧q.res.name=a.name∧q.res.fits a.amt=true:=by
 unfold BY at h;split at h
 ·have:=LP h a ha;unfold FK at this;split at this
  ·simp at this
  ·cases hr:OH (B6 t) a.name with
   |none=>rw[hr]at this;simp at this
   |some r =>
    rw[hr]at this;simp only at this;split at this
    ·rename_i hf;unfold OH at hr;have hm:=List.mem_of_find?_eq_some hr;have hn:r.name=a.name:=by simpa using List.find?_some hr
     simp only[B6,mem_map]at hm;obtain⟨q,hq,rfl⟩:=hm;obtain⟨k,hk⟩:=List.getElem?_of_mem hq;exact⟨k,q,by rw[← hn];exact MO ht hk,hk,hn,hf⟩
    ·simp at this
 ·simp at h
structure Fit(w:Work):Prop where
 je:JE none w
 idle:∀ x∈w.procs,x.waiting=false→Idle w.queues x
 wait:∀ x∈w.procs,x.waiting=true→∀ q∈w.queues,(∀ a∈Ad x.req.expr,q.res.name≠a.name)→KF q x.proc (Ai x.led.entries q.res.name)
 fits:∀ x∈w.procs,HP w.queues x
 led:∀ x∈w.procs,AP x.led=true
 now:0≤w.now∧w.now≤1073741824
 ev:w.evs=[]
theorem Jh{l:List Pcs}(h:∀ i x,l[i]?=some x→(decide (i=0)||decide (AT (l.getD (i-1) x0).proc x.proc<0))=true):∀ d i x y,l[i]?=some x→l[i+d+1]?=some y→AT x.proc y.proc<0
 | 0,i,x,y,hx,hy=>by
  have:=h (i+1) y hy;have hd:l.getD (i+1-1) x0=x:=by simp[List.getD,hx]
  rw[hd]at this;simpa using this
 | d+1,i,x,y,hx,hy=>by
  have hlt:=Ae hy;obtain⟨z,hz⟩:∃ z,l[i+d+1]?=some z:=⟨_,gE (by omega)⟩;have h1:=Jh h d i x z hx hz;have h2:=h (i+(d+1)+1) y hy;have hd:l.getD (i+(d+1)+1-1) x0=z:=by simp[List.getD,show i+(d+1)+1-1=i+d+1 by omega,hz]
  rw[hd]at h2;exact Cz h1 (by simpa using h2)
theorem aQ{t:List Queue}{x:Pcs}(hv:AP x.led=true)(h:(Er x.led).all (FO t)=true):HP t x:=fun n hn=>by
 have h1:=(R1 hv hn).1;have h2:=List.all_eq_true.1 h _ h1;unfold FO at h2;simp only at h2;cases hf:By t n with
 |none=>rw[hf]at h2;cases h2
 |some k =>
  rw[hf]at h2;obtain⟨_,q,hq,hnm⟩:=CH hf;have hg:t.getD k q0=q:=by simp[List.getD,hq]
  simp only[hg]at h2;exact⟨k,q,rfl,hq,hnm,h2⟩
theorem Ln{t:List Queue}(ht:Ck t){x:Pcs}(h:HP t x){q:Queue}(hq:q∈t):Ai x.led.entries q.res.name=⟨0,0⟩∨q.res.fits (Ai x.led.entries q.res.name)=true:=by
 by_cases hn:∃ e∈x.led.entries,e.name=q.res.name
 ·obtain⟨k,q',h1,h2,_,h4⟩:=h _ hn;obtain⟨j,hj⟩:=List.getElem?_of_mem hq;have:=MO ht hj;rw[this]at h1;have:=Option.some.inj h1;subst this;rw[hj]at h2;have:=Option.some.inj h2;subst this;exact .inr h4
 ·exact .inl (Lr hn)
theorem aU{t:List Queue}{x:Pcs}(ht:Ck t)(hv:AP x.led=true)(h:GC t x=true):Idle t x:=fun q hq=>by
 simp only[GC,and_eq_true,decide_eq_true_eq]at h;obtain⟨⟨⟨_,_⟩,h3⟩,h4⟩:=h;have h4:DP t x.proc=[]:=by
  have:((DP t x.proc).length:Int)=0:=by simpa using h4
  exact List.eq_nil_of_length_eq_zero (by omega)
 have hw:Aj q x.proc=none:=by
  unfold DP at h4;rw[List.filterMap_eq_nil_iff]at h4;have:=h4 q hq;simpa using this
 refine⟨hw,?_⟩;cases hz:(Ak q.holds x.proc).zero
 ·have hm:(⟨q.res.name,Ak q.holds x.proc⟩:Atom)∈F8 t x.proc:=by
   unfold F8;rw[mem_filterMap];exact⟨q,hq,by simp[hz]⟩
  rw[← h3]at hm;unfold Er at hm;rw[mem_filterMap]at hm;obtain⟨n,_,hn⟩:=hm;split at hn
  ·cases hn
  ·simp only[Option.some.injEq,Atom.mk.injEq]at hn;rw[← hn.2,hn.1]
 ·rw[zero_eq hz]
  by_cases hn:∃ e∈x.led.entries,e.name=q.res.name
  ·exfalso;obtain⟨h5,h6⟩:=R1 hv hn;rw[h3]at h5;unfold F8 at h5;rw[mem_filterMap]at h5;obtain⟨q',hq',he⟩:=h5;split at he
   ·cases he
   ·rename_i hz';simp only[Option.some.injEq,Atom.mk.injEq]at he;obtain⟨i,hi⟩:=List.getElem?_of_mem hq;obtain⟨j,hj⟩:=List.getElem?_of_mem hq';have:=DZ ht hj hi he.1;subst this;rw[hi]at hj;have:=Option.some.inj hj;subst this;exact hz' hz
  ·exact(Lr hn).symm
theorem F3{c:Cen}(h:BD c=true):Fit ⟨c.now,c.queues,c.procs,[]⟩:=by
 simp only[BD,and_eq_true,decide_eq_true_eq,Cx]at h;obtain⟨⟨⟨⟨⟨h1,h2⟩,h3⟩,h4⟩,h5⟩,h6⟩:=h;have ht:=(Dx _).1 h3;have hpos:∀ x∈c.procs,Ea x=true∧(Er x.led).all (FO c.queues)=true∧(if x.waiting then FD c.now c.queues x else GC c.queues x)=true:=fun x hx=>by
  obtain⟨i,hi⟩:=List.getElem?_of_mem hx;have:=h6 i x hi;simp only[Dg,D3,and_eq_true]at this;exact⟨this.1.1.1,this.1.1.2,this.1.2⟩
 have hord:∀ i x,c.procs[i]?=some x→(decide (i=0)||decide (AT (c.procs.getD (i-1) x0).proc x.proc<0))=true:=fun i x hi=>by
  have:=h6 i x hi;simp only[Dg,and_eq_true]at this;exact this.2
 have hled:∀ x∈c.procs,AP x.led=true:=fun x hx=>by
  have:=(hpos x hx).1;simp only[Ea,and_eq_true]at this;exact this.1.1.2
 have hfit:∀ x∈c.procs,HP c.queues x:=fun x hx=>aQ (hled x hx) (hpos x hx).2.1
 have hwait:∀ x∈c.procs,x.waiting=true→A5 x.req.expr=true∧BY (B6 c.queues) x.req.expr=0∧∀ q∈c.queues,Cc q x (Ad x.req.expr)=true:=fun x hx hw=>by
  have:=(hpos x hx).2.2;rw[hw,if_pos rfl]at this;simp only[FD,and_eq_true,List.all_eq_true,Gd]at this;refine⟨this.1.1.1.1.1.1.1.1.1.1,?_,this.2⟩;have h7:=this.1.1.1.1.1.2;simpa using h7
 refine⟨⟨ht,h4,fun i j x y hx hy e=>?_,fun j x hj _ hw=>?_⟩,fun x hx hw=>?_,fun x hx hw q hq hn=>Qt _ hn ((hwait x hx hw).2.2 q hq),hfit,hled,⟨h1,h2⟩,rfl⟩
 ·rcases Nat.lt_trichotomy i j with hlt|rfl|hlt
  ·obtain⟨d,rfl⟩:∃ d,j=i+d+1:=⟨j-i-1,by omega⟩;have:=Jh hord d i x y hx hy;rw[e,BT]at this;omega
  ·rfl
  ·obtain⟨d,rfl⟩:∃ d,i=j+d+1:=⟨i-j-1,by omega⟩;have:=Jh hord d j y x hy hx;rw[e,BT]at this;omega
 ·have hx:=mG hj;obtain⟨g1,g2,g3⟩:=hwait x hx hw;refine⟨g1,fun a ha=>?_,fun q hq=>?_⟩
  ·obtain⟨k,_,hk,_⟩:=Cq ht g2 ha;exact⟨k,hk⟩
  ·refine Tf (Ln ht (hfit x hx) hq) _ (fun a ha hn=>?_) (g3 q hq);obtain⟨k,q',k1,k2,k3,k4⟩:=Cq ht g2 ha;obtain⟨i,hi⟩:=List.getElem?_of_mem hq;have:=DZ ht k2 hi (k3.trans hn);subst this;rw[k2]at hi;have:=Option.some.inj hi;subst this;exact k4
 ·have:=(hpos x hx).2.2;have hw':x.waiting=false:=hw;rw[hw']at this;exact aU ht (hled x hx) (by simpa using this)
def FT(y:Proc)(q q':Queue):Prop :=
 (Aj q' y=Aj q y∧Ak q'.holds y=Ak q.holds y∧∀ w∈q'.waits,w.proc=y→∃ v∈q.waits,v.proc=y∧v.prio=w.prio)∨∃ a,Aj q y=some a∧Aj q' y=none∧Ak q'.holds y=a
theorem FT.refl{y:Proc}(q:Queue):FT y q q:=.inl ⟨rfl,rfl,fun w h e=>⟨w,h,e,rfl⟩⟩
theorem FT.trans{y:Proc}{a b c:Queue}(h1:FT y a b)(h2:FT y b c):FT y a c:=by
 rcases h1 with ⟨p1,p2,p3⟩|⟨x,p1,p2,p3⟩
 ·rcases h2 with ⟨r1,r2,r3⟩|⟨x,r1,r2,r3⟩
  ·refine .inl ⟨r1.trans p1,r2.trans p2,fun w hw e=>?_⟩;obtain⟨v,v1,v2,v3⟩:=r3 w hw e;obtain⟨u,u1,u2,u3⟩:=p3 v v1 v2;exact⟨u,u1,u2,u3.trans v3⟩
  ·exact .inr ⟨x,p1▸r1,r2,r3⟩
 ·rcases h2 with ⟨r1,r2,r3⟩|⟨z,r1,r2,r3⟩
  ·exact .inr ⟨x,p1,r1.trans p2,r2.trans p3⟩
  ·rw[p2]at r1;cases r1
theorem ZX{q:Queue}{w:Wait}(y:Proc)(hs:Sound q)(h:AY q=some w):FT y q (Cp q w):=by
 by_cases hy:y=w.proc
 ·subst hy;refine .inr ⟨w.amt,NT h,LX hs h,?_⟩;rcases EB h with ⟨l,hc,e⟩|⟨hc,l,hw,e⟩<;>rw[e]<;>exact IN
 ·refine .inl ⟨Io h hy,?_,fun v hv e2=>⟨v,?_,e2,rfl⟩⟩
  ·rcases EB h with ⟨l,hc,e⟩|⟨hc,l,hw,e⟩<;>rw[e]<;>exact Ep hy
  ·rcases EB h with ⟨l,hc,e⟩|⟨hc,l,hw,e⟩
   ·rw[e]at hv;exact hv
   ·rw[e]at hv;rw[hw];exact List.mem_cons_of_mem _ hv
theorem ZU{q:Queue}(y:Proc)(hs:Sound q):FT y q (Bz q).1 :=
 (GM (P:=fun x=>Sound x∧FT y q x) (fun _ _ h hh hr=>⟨Jp h.1 hh hr,h.2.trans (ZX y h.1 hh)⟩) _ q rfl ⟨hs,.refl q⟩).1.2
theorem QH{q:Queue}(y:Proc)(hs:Sound q):FT y q (El q):=ZU y hs
theorem Yl{q:Queue}{p y:Proc}(h:y≠p):FT y q (DA q p):=.inl ⟨Sq h,rfl,fun w hw e=>⟨w,by simp only[DA,AI,mem_filter]at hw;exact hw.1,e,rfl⟩⟩
theorem ZW{q:Queue}{p y:Proc}{a:Amt}(h:y≠p):FT y q (H6 q p a):=.inl ⟨rfl,Ep h,fun w hw e=>⟨w,hw,e,rfl⟩⟩
theorem Yk{q:Queue}{p y:Proc}{a:Amt}(h:y≠p):FT y q (Fw q p a):=.inl ⟨Sp h,rfl,fun w hw e=>⟨w,hw,e,rfl⟩⟩
theorem Ym{q:Queue}{p y:Proc}{a:Amt}{prio:Int}(h:y≠p):FT y q (FJ q p a prio):=.inl ⟨Ss h,rfl,fun w hw e=>by
 rcases K3 hw with rfl|hw|⟨v,hv,_,rfl⟩
 ·exact absurd e.symm h
 ·exact⟨w,hw,e,rfl⟩
 ·exact⟨v,hv,e,rfl⟩⟩
theorem ZV{q:Queue}{p y:Proc}(h:y≠p):FT y q (Ba q p):=.inl ⟨Vp h,(Ep h:Ak (BK q.holds p ⟨0,0⟩) y=Ak q.holds y),fun w hw e=>⟨w,by simp only[Ba,AI,mem_filter]at hw;exact hw.1,e,rfl⟩⟩
def erW(w:Wait):Wait:={ w with passed:=0 }
def er(q:Queue):Queue:={ q with convs:=q.convs.map erW,waits:=q.waits.map erW,gen:=0 }
theorem aL(q:Queue):AY (er q)=(AY q).map erW:=by
 unfold AY er;simp only[← map_append];cases q.convs++q.waits<;>rfl
theorem cG(q:Queue)(w:Wait):Cp (er q) (erW w)=er (Cp q w):=by
 unfold Cp er;cases hq:q.convs
 ·simp only[map_nil,hq,List.map_drop];rfl
 ·simp only[map_cons];rfl
theorem L8:∀ (n:Nat) (q:Queue),Bq q≤n→(Bz (er q)).1=er (Bz q).1
 | n,q,hn=>by
  rw[HT (er q),HT q,aL];cases hh:AY q with
  |none=>rfl
  |some w =>
   have hlt:=GB hh;simp only[map_some];have e:Es (er q).res (er q).holds (erW w).proc (erW w).amt=Es q.res q.holds w.proc w.amt:=rfl;rw[e];cases n with
   | zero=>omega
   | succ n =>
    split
    ·simp only[cG];exact L8 n _ (by omega)
    ·rfl
theorem Y1(q:Queue)(p:Proc):er (Ba q p)=Ba (er q) p:=by
 simp only[EH,er,AI,List.filter_map];rfl
theorem cF{q:Queue}(h:Sound q)(p:Proc):er (Bz (Ba (El q) p)).1=er (Bz (Ba q p)).1:=by
 have e:er (Ba (El q) p)=er (Ba (Bz q).1 p):=rfl;rw[← L8 _ _ (Nat.le_refl _),e,L8 _ _ (Nat.le_refl _),Ko h]
theorem PT(l:List Hold)(p:Proc):As (As l p) p=As l p:=by simp[As,List.filter_filter]
theorem PU(l:List Wait)(p:Proc):AI (AI l p) p=AI l p:=by simp[AI,List.filter_filter]
theorem XG(l:List Hold)(p:Proc)(a:Amt):As (BK l p a) p=As l p:=by
 unfold BK;split
 ·exact PT l p
 ·have h1:∀ m:List Hold,(∀ x∈m,x∈As l p)→As m p=m:=fun m hm=>List.filter_eq_self.2 fun x hx=>by
   have:=hm x hx;simp only[As,mem_filter]at this;exact this.2
  have h2:∀ A B:List Hold,As (A++⟨p,a⟩::B) p=As A p++As B p:=fun A B=>by simp[As,filter_append]
  rw[h2,h1 _ (fun x hx=>List.mem_of_mem_take hx),h1 _ (fun x hx=>List.mem_of_mem_drop hx),List.take_append_drop]
theorem YX(l:List Wait)(w:Wait):(AI (Kk l w) w.proc).map erW=(AI l w.proc).map erW:=by
 unfold Kk;generalize Ew l w l.length=k;have h:∀ m:List Wait,(AI (m.map fun x=>{ x with passed:=x.passed+1 }) w.proc).map erW=(AI m w.proc).map erW:=fun m=>by
  induction m with
  | nil=>rfl
  | cons x m ih =>
   simp only[AI,map_cons,List.filter_cons]at ih ⊢;split
   ·simp only[map_cons,ih];rfl
   ·exact ih
 have h2:∀ A B:List Wait,AI (A++w::B) w.proc=AI A w.proc++AI B w.proc:=fun A B=>by simp[AI,filter_append]
 rw[h2,map_append,h,← map_append];have h3:∀ A B:List Wait,AI A w.proc++AI B w.proc=AI (A++B) w.proc:=fun A B=>by simp[AI,filter_append]
 rw[h3,List.take_append_drop]
theorem YP(q:Queue)(p:Proc):Ba (DA q p) p=Ba q p:=by simp only[EH,DA,PU]
theorem aB(q:Queue)(p:Proc)(a:Amt):Ba (H6 q p a) p=Ba q p:=by simp only[EH,H6,XG]
theorem YO(q:Queue)(p:Proc)(a:Amt):Ba (Fw q p a) p=Ba q p:=by simp[EH,Fw,AI,filter_append]
theorem aA(q:Queue)(p:Proc):Ba (Ba q p) p=Ba q p:=by simp only[EH,PT,PU]
theorem YQ(q:Queue)(p:Proc)(a:Amt)(prio:Int):er (Ba (FJ q p a prio) p)=er (Ba q p):=by
 simp only[EH,FJ,er];rw[YX q.waits ⟨p,a,prio,0⟩]
structure Hq(p:Proc)(q q':Queue):Prop where
 val:valid q'=true
 res:q'.res=q.res
 inp:∀ x,inQ q' x→inQ q x∨x=p
 same:∀ y,y≠p→FT y q q'
 cut:er (BG q' p)=er (BG q p)
theorem Hq.refl{p:Proc}{q:Queue}(hv:valid q=true):Hq p q q:=⟨hv,rfl,fun _ h=>.inl h,fun _ _=>.refl q,rfl⟩
theorem Hq.trans{p:Proc}{a b c:Queue}(h:Hq p a b)(h':Hq p b c):Hq p a c :=
 ⟨h'.val,h'.res.trans h.res,fun x hx=>(h'.inp x hx).elim (h.inp x) .inr,fun y hy=>(h.same y hy).trans (h'.same y hy),h'.cut.trans h.cut⟩
theorem Jr{p:Proc}{q q1:Queue}(hv:valid q=true)(h:Sound q1)(hr:q1.res=q.res)(hi:∀ x,inQ q1 x→inQ q x∨x=p)(hs:∀ y,y≠p→FT y q q1)(hc:er (Ba q1 p)=er (Ba q p)):Hq p q (El q1) where
 val:=NJ h
 res:=(WN q1).trans hr
 inp:=fun x hx=>hi x ((NI q1 x).1 hx)
 same:=fun y hy=>(hs y hy).trans (QH y h)
 cut:=by
  rw[Fp (NJ h),Fp hv,cF h,← L8 _ _ (Nat.le_refl _),hc,L8 _ _ (Nat.le_refl _)]
theorem au{q:Queue}{p:Proc}(hv:valid q=true)(hw:(Aj q p).isSome=true):Hq p q (A3 q p).1:=by
 have hs:=((Bm q).1 hv).1;have e:(A3 q p).1=El (DA q p):=by simp[A3,hv,hw]
 rw[e];exact Jr hv (Lc hs p) rfl (fun x hx=>.inl (Qa hx)) (fun y hy=>Yl hy) (by rw[YP])
theorem Wb{q:Queue}{p:Proc}{a:Amt}(hv:valid q=true)(hz:(Ak q.holds p).zero=false)(hw:Aj q p=none)(hc:q.res.covers (Ak q.holds p) a=true):Hq p q (AN q p a).1:=by
 have hs:=((Bm q).1 hv).1
 by_cases he:Ak q.holds p=a
 ·have e:(AN q p a).1=q:=by
   unfold AN;rw[if_neg (by simp[hv]),if_neg (by simp[hz]),if_neg (by simp[hw]),if_neg (by simp[hc]),if_pos (by simp[he])]
  rw[e];exact .refl hv
 ·have e:(AN q p a).1=El (H6 q p a):=by
   unfold AN;rw[if_neg (by simp[hv]),if_neg (by simp[hz]),if_neg (by simp[hw]),if_neg (by simp[hc]),if_neg (by simp[he])]
  rw[e];exact Jr hv (Og hs hz hw hc) rfl (fun x hx=>SX hx) (fun y hy=>ZW hy) (by rw[aB])
theorem fE{q:Queue}(p:Proc)(hv:valid q=true):Hq p q (BJ p q).1:=by
 unfold BJ;cases hq:LF q p
 ·exact .refl hv
 simp only[if_true];have hs:=((Bm q).1 hv).1;unfold E9;simp only[hv,if_true];have hm:Br (A6 q) p=true:=by
  have:p∈A6 q:=by
   rw[DJ];unfold LF at hq;rcases(by simpa using hq:(Aj q p).isSome=true∨(Ak q.holds p).zero=false) with h|h
   ·obtain⟨w,h1,h2⟩:=Jv.1 h;rcases List.mem_append.1 h1 with h1|h1
    ·exact .inr (.inl ⟨w,h1,h2⟩)
    ·exact .inr (.inr ⟨w,h1,h2⟩)
   ·exact .inl (HG h)
  simpa [Br]using this
 rw[hm];simp only[if_true];exact Jr hv (HM hs p) rfl (fun x hx=>.inl ((P9 q p x).1 hx).1) (fun y hy=>ZV hy) (by rw[aA])
theorem QQ{q:Queue}{p:Proc}{a:Amt}(hw:Aj q p=none):Aj (Fw q p a) p=some (CC q.res (Ak q.holds p) a):=by
 have hn:=EF.1 hw;have h1:q.convs.find? (fun w=>decide (w.proc=p))=none:=by
  rw[List.find?_eq_none];intro x hx;simpa using hn x (by simp[hx])
 unfold Aj Fw;simp only[List.find?_append,h1,List.find?_cons,decide_true,none_or,Option.some_or,map_some]
theorem QS{q:Queue}{p:Proc}{a:Amt}{prio:Int}(hw:Aj q p=none):Aj (FJ q p a prio) p=some a∧∀ w∈(FJ q p a prio).waits,w.proc=p→w.prio=prio:=by
 have hn:=EF.1 hw;have h1:q.convs.find? (fun w=>decide (w.proc=p))=none:=by
  rw[List.find?_eq_none];intro x hx;simpa using hn x (by simp[hx])
 have h2:∀ k,(q.waits.take k).find? (fun w=>decide (w.proc=p))=none:=fun k=>by
  rw[List.find?_eq_none];intro x hx;simpa using hn x (by simp[List.mem_of_mem_take hx])
 refine⟨?_,fun w hw e=>?_⟩
 ·unfold Aj FJ Kk;simp only[List.find?_append,h1,h2,List.find?_cons,decide_true,none_or,Option.some_or,map_some]
 ·rcases K3 hw with rfl|hw|⟨v,hv,_,rfl⟩
  ·rfl
  ·exact absurd e (hn w (by simp[hw]))
  ·exact absurd e (hn v (by simp[hv]))
theorem cA{q:Queue}{p:Proc}{a:Amt}{prio:Int}(hv:valid q=true)(hp:p.ok=true)(h1:0≤prio∧prio≤7)(hf:q.res.fits a=true)(hw:Aj q p=none)(h8:(Ak q.holds p).zero=true→q.holds.length+q.waits.length<8) :
 (AJ q p a prio).2.2=0∧Hq p q (AJ q p a prio).1∧(q.res.covers (Ak q.holds p) a=true→(AJ q p a prio).1=q) ∧
 (q.res.covers (Ak q.holds p) a=false→(Aj (AJ q p a prio).1 p=none∧Ak (AJ q p a prio).1.holds p=CC q.res (Ak q.holds p) a)∨(Aj (AJ q p a prio).1 p=some (CC q.res (Ak q.holds p) a)∧Ak (AJ q p a prio).1.holds p=Ak q.holds p∧∀ w∈(AJ q p a prio).1.waits,w.proc=p→w.prio=prio)):=by
 have hs:=((Bm q).1 hv).1;unfold AJ;rw[if_neg (by simp[hv]),if_neg (by simp[hp]),if_neg (by simp;omega),if_neg (by simp;omega),if_neg (by simp[hf]),if_neg (by simp[hw])];cases hc:q.res.covers (Ak q.holds p) a
 ·rw[if_neg (by simp)];cases hz:(Ak q.holds p).zero
  ·rw[if_pos (by simp)];have hsq:Sound (Fw q p a):=Ms hs hf hw hz hc;refine⟨rfl,Jr hv hsq rfl (fun x hx=>Uh hx) (fun y hy=>Yk hy) (by rw[YO]),fun h=>(by cases h),fun _=>?_⟩;have hw1:=QQ (a:=a) hw;rcases QH p hsq with ⟨g1,g2,g3⟩|⟨b,g1,g2,g3⟩
   ·refine .inr ⟨g1.trans hw1,g2,fun w hw' e=>?_⟩;obtain⟨v,v1,v2,_⟩:=g3 w hw' e;exact absurd v2 (EF.1 hw v (by simp[show v∈q.waits from v1]))
   ·rw[hw1]at g1;exact .inl ⟨g2,g3.trans (Option.some.inj g1).symm⟩
  ·have h8':=h8 hz;rw[if_neg (by simp),if_neg (by simp;omega)];have hsq:Sound (FJ q p a prio):=Oh hs hp h1 hf hw hz h8';refine⟨rfl,Jr hv hsq rfl (fun x hx=>Ui hx) (fun y hy=>Ym hy) (YQ q p a prio),fun h=>(by cases h),fun _=>?_⟩;obtain⟨hw1,hw2⟩:=QS (a:=a) (prio:=prio) hw;have hj:CC q.res (Ak q.holds p) a=a:=by
    rw[zero_eq hz]at hc ⊢;exact Lu hf hc
   rw[hj];rcases QH p hsq with ⟨g1,g2,g3⟩|⟨b,g1,g2,g3⟩
   ·refine .inr ⟨g1.trans hw1,g2,fun w hw' e=>?_⟩;obtain⟨v,v1,v2,v3⟩:=g3 w hw' e;rw[← v3];exact hw2 v v1 v2
   ·rw[hw1]at g1;exact .inl ⟨g2,g3.trans (Option.some.inj g1).symm⟩
 ·rw[if_pos rfl];exact⟨rfl,.refl hv,fun _=>rfl,fun h=>by cases h⟩
def N7{α β:Type}(f g:α→β)(l:List α)(k:Nat):List β:=(l.take k).map f++(l.drop k).map g
section
variable {α β:Type}
@[go_sem] theorem Zx(f g:α→β)(l:List α)(k:Nat):(N7 f g l k).length=l.length:=by simp[N7];omega
theorem Zw{f g:α→β}{l:List α}{k:Nat}{b:α}(hb:l[k]?=some b):(N7 f g l k)[k]?=some (g b):=by
 have:=Ae hb;unfold N7;rw[List.getElem?_append_right (by simp;omega)];simp[Nat.min_eq_left (Nat.le_of_lt this),hb]
theorem Zy{f g:α→β}{l:List α}{k:Nat}{b:α}(hb:l[k]?=some b):(N7 f g l k).set k (f b)=N7 f g l (k+1):=by
 have hk:=Ae hb;have hd:l.drop k=b::l.drop (k+1):=by rw[List.drop_eq_getElem_cons hk,get_eq hb]
 unfold N7;rw[take_add_one,hb,hd,List.set_append_right _ _ (by simp;omega)];simp[Nat.min_eq_left (Nat.le_of_lt hk)]
theorem Zv(f g:α→β)(l:List α):N7 f g l l.length=l.map f:=by simp[N7]
theorem X7(f g:α→β)(l:List α):N7 f g l 0=l.map g:=by simp[N7]
end
def Kw(l:List Entry)(name:Bs)(pos:Int):Nat→Int
 | 0=>0
 | i+1=>Kw l name pos i+(if ((l.getD i ⟨[],⟨0,0⟩,⟨0,0⟩⟩).name==name)=true∧(i:Int)<pos then 1 else 0)
theorem WJ(l:List Entry)(name:Bs)(pos:Int):∀ i,0≤Kw l name pos i∧Kw l name pos i≤i
 | 0=>by simp[Kw]
 | i+1=>by
  have:=WJ l name pos i;simp only[Kw];split<;>omega
def De(l:List Entry)(name:Bs)(i:Nat)(s:Save):Save:=⟨s.label,s.pos-Kw l name s.pos i⟩
def BP(name:Bs)(e:Entry):Bool:=!(e.name==name)
def Fx(l:Ledger)(name:Bs):Ledger × Bool:=if !AP l then (Cv,false) else if (l.entries.filter (BP name)).length=l.entries.length then (Cv,false) else (⟨l.entries.filter (BP name),l.saves.map (De l.entries name l.entries.length)⟩,true)
theorem f193_ok(l:Ledger)(name:Bs):Ac C0 193 [.agg l.c,.v (.string (str name))] [] (.tup [.agg (Fx l name).1.c,B (Fx l name).2]) []:=by
 refine Ac.go f193 ?_;unfold f193;refine gO ?_;refine Ab (f169_ok l) ?_;cases hv:AP l
 ·have e:Fx l name=(Cv,false):=by simp[Fx,hv]
  simp(disch:=omega)only[go_sem,Bool.not_false,e,Cv,map_nil];exact Fb _
  all_goals(try(simp(disch:=omega)only[go_sem]))
 have hel:l.entries.length≤72∧l.saves.length≤4:=by simp only[AP,and_eq_true,decide_eq_true_eq]at hv;omega
 simp(disch:=omega)only[go_sem,Bool.not_true];refine Aa (α:=Nat) (fun i=>⟨[(7,I i),(2,.ptr 128 0),(6,.ptr 384 0),(4,.ptr 256 0),(1,.v (.string (str name)))],[(128,l.c),(384,[.sl (.own 2624 0) 5 (((l.entries.take i).filter (BP name)).map Entry.c),.sl (.own 1024 0) 2 ((l.saves.map (De l.entries name i)).map Save.c)]),(256,Cv.c)]⟩) (fun i=>i≤(l.entries).length∧True) (fun i=>(l.entries).length-i) 0 ⟨by omega,trivial⟩ ?_ ?_
 ·refine Imp.weak ?_ ?_
  all_goals(try simp(disch:=omega)only[go_sem,Cv])
  all_goals(try(repeat'(with_reducible apply And.intro)))
  all_goals(first|exact .AA (by omega)|exact .Az (by omega)|exact .sl (by simp[De,Kw,Cv,Save.c])|exact .int (by simp[De,Kw,Cv,Save.c])|exact .eq (by simp[De,Kw,Cv,Save.c]))
 rintro i ⟨hi,hP⟩ J hJ;refine gO ?_;refine ⟨fun hlt=>?_,fun hge=>?_⟩;rotate_left;have hil:i=(l.entries).length:=by simp at hge;omega
 rotate_left;obtain⟨b,hb⟩:∃ b,(l.entries)[i]?=some b:=⟨_,gE (by simp at hlt;omega)⟩;have hbm:=mG hb;have hlt2:i<(l.entries).length:=by simp at hlt;omega
 ·have hfl:((l.entries.take i).filter (BP name)).length≤72:=Nat.le_trans (List.length_filter_le _ _) (by simp;omega);have hbd:((l.entries.take i).filter (BP name)).length+1≤4294967296:=by omega
  have hfn:(l.entries.take (i+1)).filter (BP name)=(l.entries.take i).filter (BP name)++(if BP name b then [b] else []):=by
   rw[take_add_one,hb,filter_append];cases h:BP name b<;>simp[h]
  have hgd:l.entries.getD i ⟨[],⟨0,0⟩,⟨0,0⟩⟩=b:=by simp[List.getD,hb]
  cases hn:(b.name==name)
  ·have hne:(b.name !=name)=true:=by simp[bne,hn]
   have hg:∀ s:Save,De l.entries name (i+1) s=De l.entries name i s:=fun s=>by
    have h0:¬ ((b.name==name)=true∧(i:Int)<s.pos):=by rw[hn];simp
    simp only[De,Kw,hgd,if_neg h0,Int.add_zero]
   simp(disch:=omega)only[go_sem,gm,hb,hne,hn,Bool.not_false,Bool.not_true];refine Aq 8 [([],[6]),([],[33]),([],[2]),([],[35]),([],[7]),([],[36,37]),([],[38]),([],[39])] fol ?_;simp(disch:=omega)only[go_sem,gm,hb];refine hJ _ (i+1) ⟨by omega,trivial⟩ (by omega) (Imp.weak ?_ ?_)
   ·exact gI
   ·simp(disch:=omega)only[go_sem,Cv];exact⟨.sl (by rw[hfn];simp[BP,hn,Entry.c]),.sl (by rw[show De l.entries name (i+1)=De l.entries name i from funext hg])⟩
  ·have hne:(b.name !=name)=false:=by simp[bne,hn]
   simp(disch:=omega)only[go_sem,gm,hb,hne,hn,Bool.not_false,Bool.not_true];obtain⟨o,rfl⟩:∃ o,o=i:=⟨i,rfl⟩;have hJo:=hJ;have hbo:=hb;clear hJ hb;refine Aa (α:=Nat) (fun k=>⟨[(8,I k),(7,I o),(2,.ptr 128 0),(6,.ptr 384 0),(4,.ptr 256 0),(1,.v (.string (str name)))],[(128,l.c),(384,[.sl (.own 2624 0) 5 (((l.entries.take o).filter (BP name)).map Entry.c),.sl (.own 1024 0) 2 ((N7 (De l.entries name (o+1)) (De l.entries name o) l.saves k).map Save.c)]),(256,Cv.c)]⟩) (fun k=>k≤l.saves.length) (fun k=>l.saves.length-k) 0 (by omega) ?_ ?_
   ·refine Imp.weak ?_ ?_
    ·exact gI
    ·simp(disch:=omega)only[go_sem,Cv];exact .sl (by rw[X7];simp)
   rintro k hk J2 hJ2;refine gO ?_;refine ⟨fun hlt=>?_,fun hge=>?_⟩
   ·obtain⟨s,hs⟩:∃ s,l.saves[k]?=some s:=⟨_,gE (by simp at hlt;omega)⟩;have hmg:=Zw (f:=De l.entries name (o+1)) (g:=De l.entries name o) hs;have hms:=Zy (f:=De l.entries name (o+1)) (g:=De l.entries name o) hs;have hml:=Zx (De l.entries name (o+1)) (De l.entries name o) l.saves k;have hpos:=Ld hv hs;have hcn:=WJ l.entries name s.pos o;generalize N7 (De l.entries name (o+1)) (De l.entries name o) l.saves k=M at hmg hms hml ⊢;simp(disch:=omega)only[go_sem,gm,hs]
    by_cases hc:(o:Int)<s.pos
    ·have h0:(b.name==name)=true∧(o:Int)<s.pos:=⟨hn,hc⟩;have hsg:De l.entries name (o+1) s=⟨s.label,s.pos-Kw l.entries name s.pos o-1⟩:=by
      simp only[De,Kw,hgd,if_pos h0,Save.mk.injEq,true_and];omega
     simp(disch:=omega)only[go_sem,eq_true hc,decide_true,gm,hmg,De];refine hJ2 _ (k+1) (by simp at hlt;omega) (by simp at hlt;omega) (Imp.weak ?_ ?_)
     ·exact gI
     ·simp(disch:=omega)only[go_sem,Cv];exact .sl (by rw[← hms,List.map_set,hsg];rfl)
    ·have h0:¬ ((b.name==name)=true∧(o:Int)<s.pos):=fun h=>hc h.2
     have hsg:De l.entries name (o+1) s=De l.entries name o s:=by
      simp only[De,Kw,hgd,if_neg h0,Int.add_zero]
     have hMs:M.set k (De l.entries name o s)=M:=by
      apply List.ext_getElem?;intro j;rw[List.getElem?_set];split
      ·rename_i hij;subst hij;rw[if_pos (by rw[hml];exact Ae hs),hmg]
      ·rfl
     rw[hsg,hMs]at hms;simp(disch:=omega)only[go_sem,eq_false hc,decide_false];refine hJ2 _ (k+1) (by simp at hlt;omega) (by simp at hlt;omega) (Imp.weak ?_ ?_)
     ·exact gI
     ·simp(disch:=omega)only[go_sem,Cv];exact .sl (by rw[← hms])
   ·have hke:k=l.saves.length:=by simp at hge;omega
    subst hke;rw[Zv];refine hJo _ (o+1) ⟨by omega,trivial⟩ (by omega) (Imp.weak ?_ ?_)
    ·exact gI
    ·simp(disch:=omega)only[go_sem,Cv];exact .sl (by rw[hfn];simp[BP,hn])
 ·subst hil;rw[take_length];have hle:(l.entries.filter (BP name)).length≤l.entries.length:=List.length_filter_le _ _
  by_cases hs:(l.entries.filter (BP name)).length=l.entries.length
  ·have e:Fx l name=(Cv,false):=by simp only[Fx,hv,if_pos hs];rfl
   have e1:(((l.entries.filter (BP name)).length:Int)==l.entries.length)=true:=by simp[hs]
   simp(disch:=omega)only[go_sem,e1,e,Cv,map_nil];exact Fb _
  ·have e:Fx l name=(⟨l.entries.filter (BP name),l.saves.map (De l.entries name l.entries.length)⟩,true):=by simp only[Fx,hv,if_neg hs];rfl
   have e1:(((l.entries.filter (BP name)).length:Int)==l.entries.length)=false:=by simp;omega
   rw[e];simp(disch:=omega)only[go_sem,e1];refine CT ⟨[],[],[2624,1024]⟩ _ ?_;simp(disch:=omega)only[go_sem]
   try exact .eq (by simp[Ledger.c])
end Go.Rd
