/- part 14 of the proof -/
import Derived.Test.YthachdiockkofaaGreatDoorS13
set_option linter.all false
open Go Go.Abs Go.Proofs
set_option maxRecDepth 100000
namespace Go.Rd
set_option maxHeartbeats 8000000
open List (filter_sublist length_cons length_filter_le length_map map_nil map_set mem_append mem_cons mem_filter mem_map pairwise_cons take_add_one take_length)
open Bool (and_eq_true)
open Option (isSome_some toList_some)
open Nat (le_trans)
open Tryz
theorem U8{s s':List Bool}{m:Int}(h:∀ k,s'.getD k false=true→s.getD k false=true)(hs:D4 s m=true):D4 s' m=true:=by
 unfold D4 at *;rw[List.all_eq_true]at *;intro k hk;have:=hs k hk;cases h1:s'.getD k false
 ·rfl
 ·rw[h k h1]at this;simpa using this
theorem F7(s:List Bool)(i k:Nat):(s.set i true).getD k false=(if i=k∧i<s.length then true else s.getD k false):=by
 simp only[List.getD_eq_getElem?_getD,List.getElem?_set]
 by_cases h:i=k
 ·subst h
  by_cases h2:i<s.length
  ·simp[h2]
  ·simp[h2]
 ·simp[h]
theorem SM{r:Res}{l' l:List Amt}(hsub:l'.Sublist l):∀ {s s':Int} {seen seen':List Bool},s'≤s→seen'.length=seen.length→(∀ k,seen'.getD k false=true→seen.getD k false=true)→Bh r l s seen=true→Bh r l' s' seen'=true:=by
 induction hsub with
 | slnil=>intros;rfl
 | cons a hsub ih =>
  intro s s' seen seen' hs hlen hk h;simp only[Bh,and_eq_true]at h;obtain⟨⟨h1,h2⟩,h3⟩:=h;have hu:=ID h1;split at h3
  ·exact ih (by omega) hlen hk h3
  ·rw[and_eq_true]at h3;refine ih (by omega) (by simpa using hlen) (fun k hk'=>?_) h3.2;rw[F7];split
   ·rfl
   ·exact hk k hk'
 | cons_cons a hsub ih =>
  intro s s' seen seen' hs hlen hk h;simp only[Bh,and_eq_true,Bool.not_eq_true',decide_eq_false_iff_not]at h ⊢;obtain⟨⟨h1,h2⟩,h3⟩:=h;refine⟨⟨h1,by omega⟩,?_⟩;split at h3
  ·rename_i hm;rw[if_pos hm];exact ih (by omega) hlen hk h3
  ·rename_i hm;rw[if_neg hm];rw[and_eq_true]at h3 ⊢;refine⟨U8 hk h3.1,ih (by omega) (by simpa using hlen) (fun k hk'=>?_) h3.2⟩;rw[F7]at hk' ⊢;split at hk'
   ·rename_i hc;rw[if_pos ⟨hc.1,by omega⟩]
   ·split
    ·rfl
    ·exact hk k hk'
theorem VJ{r:Res}{l' l:List Amt}(hsub:l'.Sublist l)(h:r.compat l=true):r.compat l'=true:=by
 simp only[Res.compat,and_eq_true]at *;exact⟨h.1,SM hsub (Int.le_refl _) rfl (fun _ h=>h) h.2⟩
theorem Iz{r:Res}{l' l:List Hold}(hsub:l'.Sublist l)(h:A4 r l=true):A4 r l'=true:=by
 rw[CJ]at *;obtain⟨h1,h2,h3,h4,h5⟩:=h;exact⟨h1,le_trans hsub.length_le h2,fun x hx=>h3 x (hsub.subset hx),h4.sublist hsub,VJ (hsub.map _) h5⟩
theorem FZ(l:List Hold)(p:Proc):BK l p ⟨0,0⟩=As l p:=by simp[BK,Amt.zero]
theorem HM{q:Queue}(h:Sound q)(p:Proc):Sound (Ba q p):=by
 have hd:(As q.holds p).length≤q.holds.length:=length_filter_le _ _;have hw:=Bo q.waits p;have hc:=Bo q.convs p;refine⟨h.res,?_,?_,?_,h.gen⟩
 ·simp only[Ba,FZ];exact Iz filter_sublist h.holds
 ·have:=(Bk q).1 h.convs;rw[Bk];simp only[Ba,FZ];refine⟨by omega,this.2.1.sublist filter_sublist,fun w hw=>?_⟩;simp only[AI,mem_filter,decide_eq_true_eq]at hw;rw[NQ hw.2];exact this.2.2 w hw.1
 ·have:=(A8 q).1 h.waits;rw[A8];obtain⟨a,b,c⟩:=this;rw[B7]at a;simp only[Ba,FZ,B7];refine⟨⟨by omega,a.2.1.sublist filter_sublist,fun w hw=>?_⟩,by omega,fun w hw=>?_⟩
  ·simp only[AI,mem_filter]at hw;exact a.2.2 w hw.1
  ·simp only[AI,mem_filter,decide_eq_true_eq]at hw;rw[NQ hw.2];exact c w hw.1
theorem Lz{q:Queue}{w:Wait}(h:Es q.res q.holds w.proc w.amt=true):q.res.fits w.amt=true∧w.proc.ok=true∧A4 q.res (BK q.holds w.proc w.amt)=true:=by
 simp only[Es,and_eq_true]at h;exact⟨h.1.2,h.1.1.2,h.2⟩
theorem Jp{q:Queue}{w:Wait}(h:Sound q)(hh:AY q=some w)(hr:Es q.res q.holds w.proc w.amt=true):Sound (Cp q w):=by
 obtain⟨r1,r2,r3⟩:=Lz hr;have hcv:=(Bk q).1 h.convs;have hwt:=(A8 q).1 h.waits;obtain⟨a,b,c⟩:=hwt;rw[B7]at a;cases hc:q.convs with
 | cons w' l =>
  have hw':w'=w:=by simp[AY,hc]at hh;exact hh
  subst hw';have hp:Cp q w' = { q with holds:=BK q.holds w'.proc w'.amt,convs:=l }:=by unfold Cp;simp only[hc]
  rw[hp];have hu:=hcv.2.1;rw[hc]at hu;have hu':=pairwise_cons.1 hu;have hheld:=(hcv.2.2 w' (by rw[hc];simp)).1;refine⟨h.res,r3,?_,?_,h.gen⟩
  ·rw[Bk];have:=hcv.1;rw[hc]at this;simp only[length_cons]at this;refine⟨by simp;omega,hu'.2,fun x hx=>?_⟩;have hne:x.proc≠w'.proc:=fun e=>hu'.1 x hx e.symm
   simp only[Ep hne];exact hcv.2.2 x (by rw[hc];simp[hx])
  ·rw[A8];simp only[B7];refine⟨a,?_,fun x hx=>?_⟩
   ·have h1:=NG hheld;have h2:=Ps (l:=q.holds) (p:=w'.proc) (a:=w'.amt);omega
   ·have hx':=c x hx;have hne:x.proc≠w'.proc:=fun e=>by rw[e,hheld]at hx';exact absurd hx'.2 (by simp)
    rw[Ep hne];exact hx'
 | nil =>
  cases hw:q.waits with
  | nil=>simp[AY,hc,hw]at hh
  | cons w' l =>
   have hw':w'=w:=by simp[AY,hc,hw]at hh;exact hh
   subst hw';have hp:Cp q w' = { q with holds:=BK q.holds w'.proc w'.amt,waits:=l }:=by unfold Cp;simp only[hc,hw];rfl
   rw[hp];rw[hw]at a b;have hu':=pairwise_cons.1 a.2.1;simp only[length_cons]at a b;refine⟨h.res,r3,?_,?_,h.gen⟩
   ·rw[Bk];simp[hc,QP]
   ·rw[A8];simp only[B7];refine⟨⟨by omega,hu'.2,fun x hx=>a.2.2 x (by simp[hx])⟩,?_,fun x hx=>?_⟩
    ·have h2:=Ps (l:=q.holds) (p:=w'.proc) (a:=w'.amt);have h3:(As q.holds w'.proc).length≤q.holds.length:=length_filter_le _ _;omega
    ·have hne:x.proc≠w'.proc:=fun e=>hu'.1 x hx e.symm
     rw[Ep hne];exact c x (by rw[hw];simp[hx])
def Jn(q:Queue):Prop:=∀ w,AY q=some w→Es q.res q.holds w.proc w.amt=false
theorem Bm(q:Queue):valid q=true↔Sound q∧Jn q:=by
 unfold valid Jn;rw[and_eq_true,HN];cases h:AY q<;>simp
theorem Nb(q:Queue)(w:Wait):(Cp q w).res=q.res∧(Cp q w).gen=q.gen:=by unfold Cp;split<;>exact⟨rfl,rfl⟩
theorem GM{P:Queue→Prop}(hP:∀ q w,P q→AY q=some w→Es q.res q.holds w.proc w.amt=true→P (Cp q w)):∀ (n:Nat) (q:Queue),Bq q=n→P q→P (Bz q).1∧Jn (Bz q).1
 | n,q,hn,hq=>by
  rw[HT];cases hh:AY q with
  |none=>exact⟨hq,fun w hw=>by simp[hh]at hw⟩
  |some w =>
   simp only;cases hr:Es q.res q.holds w.proc w.amt
   ·exact⟨hq,fun w' hw'=>by simp[hh]at hw';subst hw';exact hr⟩
   ·have hs:=GB hh;exact GM hP (Bq (Cp q w)) (Cp q w) rfl (hP q w hq hh hr)
termination_by n q hn=>Bq q
decreasing_by simp_wf;have:=GB hh;omega
theorem Si{q:Queue}(h:Sound q):Sound (Bz q).1∧Jn (Bz q).1:=GM (fun _ _ h hh hr=>Jp h hh hr) _ q rfl h
theorem Pd(q:Queue):(Bz q).1.res=q.res∧(Bz q).1.gen=q.gen:=(GM (P:=fun x=>x.res=q.res∧x.gen=q.gen) (fun x w h _ _=>by rw[(Nb x w).1,(Nb x w).2];exact h) _ q rfl ⟨rfl,rfl⟩).1
theorem ak(q:Queue):BA (Bz q).1≤BA q:=(GM (P:=fun x=>BA x≤BA q) (fun x w h hh _=>le_trans (TF hh) h) _ q rfl (Nat.le_refl _)).1
theorem Sn{q:Queue}(h:Sound q∧Jn q){g:Int}(hg:0≤g∧g≤1073741824):Sound { q with gen:=g }∧Jn { q with gen:=g }:=by
 refine⟨⟨h.1.res,h.1.holds,?_,?_,hg⟩,fun w hw=>h.2 w hw⟩
 ·rw[Bk];exact(Bk q).1 h.1.convs
 ·rw[A8];exact(A8 q).1 h.1.waits
theorem Ft{q:Queue}(h:valid q=true)(p:Proc):valid (BG q p)=true:=by
 unfold BG;split
 ·rw[Bm]at h ⊢;have h1:=Si (HM h.1 p);exact Sn h1 h.1.gen
 ·exact h
theorem Oe(q:Queue)(p:Proc):(BG q p).res=q.res:=by
 unfold BG;split
 ·exact(Pd (Ba q p)).1
 ·rfl
theorem WK(q:Queue)(p:Proc):BA (Ba q p)≤BA q:=by
 have hd:(As q.holds p).length≤q.holds.length:=length_filter_le _ _;have hw:=Bo q.waits p;have hc:=Bo q.convs p;unfold BA Bq;simp only[Ba,FZ];omega
theorem Yf(q:Queue)(p:Proc):BA (BG q p)≤BA q:=by
 unfold BG;split
 ·exact le_trans (ak (Ba q p)) (WK q p)
 ·exact Nat.le_refl _
def inQ(q:Queue)(x:Proc):Prop:=(∃ h∈q.holds,h.proc=x)∨(∃ w∈q.convs,w.proc=x)∨(∃ w∈q.waits,w.proc=x)
theorem DJ(q:Queue)(x:Proc):x∈A6 q↔inQ q x:=by
 unfold A6 inQ;rw[HI];simp[CL,BI,or_and_right,exists_or]
theorem HG{l:List Hold}{p:Proc}(h:(Ak l p).zero=false):∃ x∈l,x.proc=p:=by
 unfold Ak at h;cases hf:l.find? (fun h=>decide (h.proc=p)) with
 |none=>rw[hf]at h;simp[Amt.zero]at h
 |some x=>exact⟨x,List.mem_of_find?_eq_some hf,by simpa using List.find?_some hf⟩
theorem cS{q:Queue}{w:Wait}(hh:AY q=some w)(hr:Es q.res q.holds w.proc w.amt=true)(x:Proc):inQ (Cp q w) x↔inQ q x:=by
 have hz:=FN (Lz hr).1;have hset:(∃ h∈BK q.holds w.proc w.amt,h.proc=x)↔((∃ h∈q.holds,h.proc=x)∨x=w.proc):=by
  simp only[Qo hz];constructor
  ·rintro⟨h,(⟨h1,h2⟩|h1),h3⟩
   ·exact .inl ⟨h,h1,h3⟩
   ·subst h1;exact .inr h3.symm
  ·rintro(⟨h,h1,h2⟩|h1)
   ·by_cases e:h.proc=w.proc
    ·exact⟨⟨w.proc,w.amt⟩,.inr rfl,by rw[← e,h2]⟩
    ·exact⟨h,.inl ⟨h1,e⟩,h2⟩
   ·exact⟨⟨w.proc,w.amt⟩,.inr rfl,h1.symm⟩
 unfold inQ;cases hc:q.convs with
 | cons w' l =>
  have hw':w'=w:=by simp[AY,hc]at hh;exact hh
  subst hw';have hp:Cp q w' = { q with holds:=BK q.holds w'.proc w'.amt,convs:=l }:=by unfold Cp;simp only[hc]
  rw[hp];simp only[hset,mem_cons,exists_eq_or_imp,or_and_right,exists_or];constructor
  ·rintro((h|h)|h|h)
   ·exact .inl h
   ·exact .inr (.inl (.inl ⟨w',rfl,h.symm⟩))
   ·exact .inr (.inl (.inr h))
   ·exact .inr (.inr h)
  ·rintro(h|(h|h)|h)
   ·exact .inl (.inl h)
   ·obtain⟨_,rfl,h⟩:=h;exact .inl (.inr h.symm)
   ·exact .inr (.inl h)
   ·exact .inr (.inr h)
 | nil =>
  cases hw:q.waits with
  | nil=>simp[AY,hc,hw]at hh
  | cons w' l =>
   have hw':w'=w:=by simp[AY,hc,hw]at hh;exact hh
   subst hw';have hp:Cp q w' = { q with holds:=BK q.holds w'.proc w'.amt,waits:=l }:=by unfold Cp;simp only[hc,hw];rfl
   rw[hp];simp only[hset,hc,mem_cons,exists_eq_or_imp,or_and_right,exists_or,List.not_mem_nil,false_and,exists_false,false_or];constructor
   ·rintro((h|h)|h)
    ·exact .inl h
    ·exact .inr (.inl ⟨w',rfl,h.symm⟩)
    ·exact .inr (.inr h)
   ·rintro(h|h|h)
    ·exact .inl (.inl h)
    ·obtain⟨_,rfl,h⟩:=h;exact .inl (.inr h.symm)
    ·exact .inr h
theorem Zk(q:Queue)(x:Proc):inQ (Bz q).1 x↔inQ q x :=
 (GM (P:=fun y=>inQ y x↔inQ q x) (fun y w h hh hr=>(cS hh hr x).trans h) _ q rfl Iff.rfl).1
theorem P9(q:Queue)(p x:Proc):inQ (Ba q p) x↔inQ q x∧x≠p:=by
 unfold inQ;simp only[Ba,FZ,Jd,AI,mem_filter,decide_eq_true_eq];constructor
 ·rintro(⟨h,⟨h1,h2⟩,h3⟩|⟨h,⟨h1,h2⟩,h3⟩|⟨h,⟨h1,h2⟩,h3⟩)
  ·exact⟨.inl ⟨h,h1,h3⟩,by rw[← h3];exact h2⟩
  ·exact⟨.inr (.inl ⟨h,h1,h3⟩),by rw[← h3];exact h2⟩
  ·exact⟨.inr (.inr ⟨h,h1,h3⟩),by rw[← h3];exact h2⟩
 ·rintro⟨⟨h,h1,h3⟩|⟨h,h1,h3⟩|⟨h,h1,h3⟩,hne⟩
  ·exact .inl ⟨h,⟨h1,by rw[h3];exact hne⟩,h3⟩
  ·exact .inr (.inl ⟨h,⟨h1,by rw[h3];exact hne⟩,h3⟩)
  ·exact .inr (.inr ⟨h,⟨h1,by rw[h3];exact hne⟩,h3⟩)
theorem Zl{q:Queue}(hv:valid q=true)(p x:Proc):x∈A6 (BG q p)↔x∈A6 q∧x≠p:=by
 by_cases hp:Br (A6 q) p=true
 ·have e:BG q p = { El (Ba q p) with gen:=q.gen }:=by simp[BG,hv,hp]
  rw[DJ,DJ,e,← P9];exact Zk (Ba q p) x
 ·have e:BG q p=q:=by simp[BG,hp]
  rw[e];have:p∉A6 q:=by simpa [Br]using hp
  exact⟨fun h=>⟨h,fun e=>this (e▸h)⟩,And.left⟩
def Ch(s:WS):Prop:=∀ q∈s.queues,valid q=true
theorem E7(s:WS)(x:Proc):x∈Am s↔(∃ q∈s.queues,x∈A6 q)∨∃ n∈s.needs,n.proc=x:=by
 unfold Am Ar EK;rw[HI,mem_append,HI,List.mem_flatMap,mem_map]
theorem JV{s:WS}(h:Ch s)(p x:Proc):x∈Am (BX s p)↔x∈Am s∧x≠p:=by
 rw[E7,E7];simp only[BX,Od,mem_map,mem_filter,decide_eq_true_eq];constructor
 ·rintro(⟨q',⟨q,hq,rfl⟩,hx⟩|⟨n,⟨hn,hne⟩,rfl⟩)
  ·rw[Zl (h q hq)]at hx;exact⟨.inl ⟨q,hq,hx.1⟩,hx.2⟩
  ·exact⟨.inr ⟨n,hn,rfl⟩,hne⟩
 ·rintro⟨⟨q,hq,hx⟩|⟨n,hn,rfl⟩,hne⟩
  ·exact .inl ⟨_,⟨q,hq,rfl⟩,(Zl (h q hq) p x).2 ⟨hx,hne⟩⟩
  ·exact .inr ⟨n,⟨hn,hne⟩,rfl⟩
theorem CW{s:WS}(h:Ch s)(p:Proc):Ch (BX s p):=by
 intro q' hq';simp only[BX,mem_map]at hq';obtain⟨q,hq,rfl⟩:=hq';exact Ft (h q hq) p
theorem MM{s:WS}(h:Few s)(p:Proc):Few (BX s p):=by
 refine⟨by simpa [BX]using h.nq,le_trans (length_filter_le _ _) h.nn,fun q' hq'=>?_⟩;simp only[BX,mem_map]at hq';obtain⟨q,hq,rfl⟩:=hq';exact le_trans (Yf q p) (h.aq q hq)
theorem Lx{s:WS}(h:Ch s)(p:Proc):Am (BX s p)=(Am s).filter fun x=>decide (x≠p):=by
 refine JA (DT _) ?_ fun x=>?_
 ·exact List.Pairwise.sublist filter_sublist (DT _)
 ·rw[JV h];simp
theorem Fm{s:WS}(h:Ch s){p:Proc}(hp:p∈Am s):(Am (BX s p)).length<(Am s).length:=by
 rw[Lx h,List.length_filter_lt_length_iff_exists];exact⟨p,hp,by simp⟩
theorem Ac.empty{C:Ctx}{f n:Nat}{xs:List AV}{o o':List (Nat × List AV)}{y:AV}(h:∀ a cap,Ac C f (.v (.slice a 0 cap)::xs) o y o'):Ac C f (.sl .no n []::xs) o y o':=by
 refine⟨(h none 0).1,fun g w us hg hv ho=>?_⟩
 match us,hv with
 | u::us,hv =>
  simp only[VRs,VR,PR]at hv;obtain⟨⟨_,a,cap,hu,_⟩,hv2⟩:=hv;refine(h a cap).2 g w (u::us) hg ?_ ho;simp only[VRs,VR];exact⟨by simpa using hu,hv2⟩
 |[],hv=>simp[VRs]at hv
theorem f60_ok(l:List Proc)(hl:l.length≤1000000):Ac C0 60 [AD l] [] (AD l) []:=by
 cases l with
 | nil =>
  refine Ac.empty fun a cap=>?_
  refine Ac.go f60 ?_;unfold f60;simp(disch:=omega)only[go_sem]
  repeat'(with_reducible refine And.intro (fun h=>?_) (fun h=>?_))
  ·exact AH _
  ·refine CT ⟨[],[],[448]⟩ _ ?_;simp(disch:=omega)only[go_sem,AD]
 | cons x l =>
  refine Ac.go f60 ?_;unfold f60;have hb:l.length+1≤4294967296:=by simp at hl;omega
  simp(disch:=omega)only[go_sem,AD];refine CT ⟨[],[],[448]⟩ _ ?_;simp(disch:=omega)only[go_sem,AD]
def Gk(l:List Proc)(p:Proc):List Proc:=l.filter fun x=>decide (x≠p)
theorem f63_ok(l:List Proc)(p:Proc)(hl:l.length≤1000000):Ac C0 63 [AD l,.agg p.c] [] (AD (Gk l p)) []:=by
 refine Ac.go f63 ?_;unfold f63;refine gO ?_;refine Aa (α:=Nat) (fun i=>⟨[(10,I i),(9,I l.length),(8,AD l),(3,.ptr 192 0),(5,.sl (.own 1344 0) 3 ((Gk (l.take i) p).map Proc.c))],[(192,p.c)]⟩) (fun i=>i≤(l).length∧True) (fun i=>(l).length-i) 0 ⟨by omega,trivial⟩ ?_ ?_
 ·exact Ca
 rintro i ⟨hi,hP⟩ J hJ;refine gO ?_;refine ⟨fun hlt=>?_,fun hge=>?_⟩;rotate_left;have hil:i=(l).length:=by simp at hge;omega
 rotate_left;obtain⟨b,hb⟩:∃ b,(l)[i]?=some b:=⟨_,gE (by simp at hlt;omega)⟩;have hbm:=mG hb;simp(disch:=omega)only[go_sem,gm,hb]
 ·have hlt':i<l.length:=by simp at hlt;omega
  have hbd:(Gk (l.take i) p).length+1≤4294967296:=by
   have:(Gk (l.take i) p).length≤(l.take i).length:=length_filter_le _ _;rw[List.length_take]at this;omega
  refine Ab (f61_ok b p) ?_;refine gO ?_;refine⟨fun h=>?_,fun h=>?_⟩
  ·have hne:¬ b=p:=by simpa using h
   refine hJ _ (i+1) ⟨by omega,trivial⟩ (by omega) (Imp.weak ?_ gI);refine gO ?_;exact .sl (by simp[Gk,take_add_one,hb,hne,Proc.c])
  ·have hne:b=p:=by simpa using h
   refine hJ _ (i+1) ⟨by omega,trivial⟩ (by omega) (Imp.weak ?_ gI);refine gO ?_;exact .sl (by simp[Gk,take_add_one,hb,hne])
 ·subst hil;refine CT ⟨[],[],[1344]⟩ _ ?_;simp(disch:=omega)only[go_sem,take_length]
def DB(s:WS)(p:Proc):Bool:=match s.needs.find? (fun n=>decide (n.proc=p)) with
 |some n=>EI n.expr (G1 s n)
 |none=>true
theorem f135_ok(s:WS)(p:Proc)(h:Few s):Ac C0 135 [.agg s.c,.agg p.c] [] (B (DB s p)) []:=by
 have hn:=h.nn;refine Ac.go f135 ?_;unfold f135;refine gO ?_;refine Aa (α:=Nat) (fun i=>⟨[(10,I i),(9,I s.needs.length),(8,Ho s.needs),(2,.ptr 128 0),(3,.ptr 192 0)],[(128,s.c),(192,p.c)]⟩) (fun i=>i≤(s.needs).length∧(s.needs.take i).find? (fun n=>decide (n.proc=p))=none) (fun i=>(s.needs).length-i) 0 ⟨by omega,rfl⟩ ?_ ?_
 ·exact Ca
 rintro i ⟨hi,hP⟩ J hJ;refine gO ?_;refine ⟨fun hlt=>?_,fun hge=>?_⟩;rotate_left;have hil:i=(s.needs).length:=by simp at hge;omega
 rotate_left;obtain⟨b,hb⟩:∃ b,(s.needs)[i]?=some b:=⟨_,gE (by simp at hlt;omega)⟩;have hbm:=mG hb;simp(disch:=omega)only[go_sem,gm,hb]
 ·refine Ab (f61_ok b.proc p) ?_;refine gO ?_;refine And.intro (fun hh=>?_) (fun hh=>?_)
  ·have e:DB s p=EI b.expr (G1 s b):=by unfold DB;rw[Ix hP hb (by simpa using hh)]
   refine Aq 5 [([],[6]),([],[19]),([],[2]),([],[6]),([],[21,22])] fol ?_;refine gO ?_;refine Al (f210_ok s b h) ?_;refine gO ?_;refine Af (f209_ok b.expr (G1 s b)) (by simp(disch:=omega)only[go_sem,Expr.FF]) rfl ?_;simp(disch:=omega)only[go_sem,e];exact AH _
  ·refine hJ _ (i+1) ⟨by simp at hlt;omega,(by rw[BU hP hb];simp at hh;simp[hh])⟩ (by simp at hlt;omega) AK
 ·subst hil;rw[take_length]at hP;have e:DB s p=true:=by unfold DB;rw[hP]
  simp(disch:=omega)only[go_sem,e];exact AH _
def B3(s:WS):List Proc:=(Am s).filter fun p=>DB s p
theorem Ie{s:WS}(h:Few s):(Am s).length≤20000:=by
 have h1:=NB (Ar s.queues++EK s.needs);have h2:=OV h.aq;have h3:=h.nq;have h4:=h.nn;unfold Am;simp only[List.length_append,EK,length_map]at h1;unfold EK;omega
theorem f77_ok(s:WS)(h:Few s):Ac C0 77 [.agg s.c] [] (AD (B3 s)) []:=by
 have hl:=Ie h;refine Ac.go f77 ?_;unfold f77;refine gO ?_;refine Ab (f73_ok s h) ?_;refine gO ?_;refine Aa (α:=Nat) (fun i=>⟨[(9,I i),(8,I (Am s).length),(7,AD (Am s)),(1,.ptr 64 0),(3,.sl (.own 1216 0) 3 ((((Am s).take i).filter fun p=>DB s p).map Proc.c))],[(64,s.c)]⟩) (fun i=>i≤((Am s)).length∧True) (fun i=>((Am s)).length-i) 0 ⟨by omega,trivial⟩ ?_ ?_
 ·exact Ca
 rintro i ⟨hi,hP⟩ J hJ;refine gO ?_;refine ⟨fun hlt=>?_,fun hge=>?_⟩;rotate_left;have hil:i=((Am s)).length:=by simp at hge;omega
 rotate_left;obtain⟨b,hb⟩:∃ b,((Am s))[i]?=some b:=⟨_,gE (by simp at hlt;omega)⟩;have hbm:=mG hb;simp(disch:=omega)only[go_sem,gm,hb]
 ·have hbd:(((Am s).take i).filter fun p=>DB s p).length+1≤4294967296:=by
   have:(((Am s).take i).filter fun p=>DB s p).length≤((Am s).take i).length:=length_filter_le _ _;rw[List.length_take]at this;omega
  refine Ab (f135_ok s b h) ?_;refine gO ?_;refine And.intro (fun hh=>?_) (fun hh=>?_)
  ·refine hJ _ (i+1) ⟨by simp at hlt;omega,trivial⟩ (by simp at hlt;omega) (Imp.weak ?_ gI);refine gO ?_;exact .sl (by simp[take_add_one,hb,hh,Proc.c])
  ·refine hJ _ (i+1) ⟨by simp at hlt;omega,trivial⟩ (by simp at hlt;omega) (Imp.weak ?_ gI);refine gO ?_;exact .sl (by simp[take_add_one,hb,hh])
 ·subst hil;simp(disch:=omega)only[go_sem,take_length];refine CT ⟨[],[],[1216]⟩ _ ?_;simp(disch:=omega)only[go_sem,B3]
def Fa(s:WS)(l:List Proc):WS:=(Am s).foldl (fun x p=>if Br l p then x else BX x p) s
theorem f62_ok(s:WS)(l:List Proc)(h:Few s)(hl:l.length≤1000000):Ac C0 62 [.agg s.c,AD l] [] (.agg (Fa s l).c) []:=by
 have hpl:=Ie h;refine Ac.go f62 ?_;unfold f62;refine gO ?_;refine Ab (f73_ok s h) ?_;refine gO ?_;refine Aa (α:=Nat) (fun i=>⟨[(10,I i),(9,I (Am s).length),(8,AD (Am s)),(2,.ptr 128 0),(1,AD l),(4,.ptr 256 0)],[(128,(((Am s).take i).foldl (fun x p=>if Br l p then x else BX x p) s).c),(256,wsz)]⟩) (fun i=>i≤((Am s)).length∧Few (((Am s).take i).foldl (fun x p=>if Br l p then x else BX x p) s)) (fun i=>((Am s)).length-i) 0 ⟨by omega,h⟩ ?_ ?_
 ·exact Ca
 rintro i ⟨hi,hP⟩ J hJ;refine gO ?_;refine ⟨fun hlt=>?_,fun hge=>?_⟩;rotate_left;have hil:i=((Am s)).length:=by simp at hge;omega
 rotate_left;obtain⟨b,hb⟩:∃ b,((Am s))[i]?=some b:=⟨_,gE (by simp at hlt;omega)⟩;have hbm:=mG hb;simp(disch:=omega)only[go_sem,gm,hb]
 ·have e:((Am s).take (i+1)).foldl (fun x p=>if Br l p then x else BX x p) s=if Br l b then ((Am s).take i).foldl (fun x p=>if Br l p then x else BX x p) s else BX (((Am s).take i).foldl (fun x p=>if Br l p then x else BX x p) s) b:=by
   rw[take_add_one,hb,toList_some,List.foldl_append];rfl
  generalize ((Am s).take i).foldl (fun x p=>if Br l p then x else BX x p) s=t at hP e;refine Ab (f59_ok l b hl) ?_;cases hh:Br l b
  ·rw[if_neg (by simp[hh])]at e;simp(disch:=omega)only[go_sem,Bool.not_false];refine Ab (f74_ok t b hP) ?_;refine gO ?_;refine hJ _ (i+1) ⟨by simp at hlt;omega,by rw[e];exact MM hP b⟩ (by simp at hlt;omega) (Imp.weak gI ?_);rw[e];simp(disch:=omega)only[go_sem]
  ·rw[if_pos hh]at e;simp(disch:=omega)only[go_sem,Bool.not_true];refine hJ _ (i+1) ⟨by simp at hlt;omega,by rw[e];exact hP⟩ (by simp at hlt;omega) (Imp.weak gI ?_);rw[e];simp(disch:=omega)only[go_sem]
 ·subst hil;rw[take_length]at hP ⊢;refine B0 _ ?_;simp(disch:=omega)only[go_sem,Fa]
theorem JM{s:WS}{p:Proc}(h:p∈B3 s):p∈Am s:=(mem_filter.1 h).1
def Nh:Nat→WS→List Proc × List Proc
 | 0,s=>([],Am s)
 | n+1,s=>match B3 s with
  |[]=>([],Am s)
  | p::_=>(p::(Nh n (BX s p)).1,(Nh n (BX s p)).2)
def FC(s:WS):List Proc × List Proc:=Nh (Am s).length s
theorem W8:∀ (n m:Nat) (s:WS),Ch s→(Am s).length≤n→(Am s).length≤m→Nh n s=Nh m s
 | 0,0,_,_,_,_=>rfl
 | 0,m+1,s,_,h,_=>by
  have e:B3 s=[]:=by unfold B3;rw[List.eq_nil_of_length_eq_zero (by omega:(Am s).length=0)];rfl
  simp[Nh,e]
 | n+1,0,s,_,_,h=>by
  have e:B3 s=[]:=by unfold B3;rw[List.eq_nil_of_length_eq_zero (by omega:(Am s).length=0)];rfl
  simp[Nh,e]
 | n+1,m+1,s,hg,h1,h2=>by
  simp only[Nh];cases hf:B3 s with
  | nil=>rfl
  | cons p l =>
   have hd:=Fm hg (JM (p:=p) (by rw[hf];simp));simp only;rw[W8 n m (BX s p) (CW hg p) (by omega) (by omega)]
theorem QB{s:WS}(hg:Ch s):FC s=match B3 s with
 |[]=>([],Am s)
 | p::_=>(p::(FC (BX s p)).1,(FC (BX s p)).2):=by
 unfold FC;cases hf:B3 s with
 | nil =>
  cases (Am s).length<;>simp[Nh,hf]
 | cons p l =>
  have hd:=Fm hg (JM (p:=p) (by rw[hf];simp));rw[W8 _ ((Am (BX s p)).length+1) s hg (Nat.le_refl _) (by
   have:=Lx hg p;have hm:=JM (p:=p) (s:=s) (by rw[hf];simp);have hnd:=Lf (DT (Ar s.queues++EK s.needs));rw[this];have:(Am s).filter (fun x=>decide (x≠p))=(Am s).erase p:=by
    have hnd':(Am s).Nodup:=hnd;rw[List.Nodup.erase_eq_filter hnd'];refine List.filter_congr fun x _=>?_
    by_cases hx:x=p<;>simp[hx]
   rw[this,List.length_erase_of_mem hm];omega)]
  simp only[Nh,hf]
theorem f55_ok(s:WS)(h:Few s)(hg:Ch s):Ac C0 55 [.agg s.c] [] (.tup [AD (FC s).1,AD (FC s).2]) []:=by
 refine Ac.go f55 ?_;unfold f55;refine gO ?_;refine Ab (f77_ok s h) ?_;refine gO ?_;refine Aa (α:=WS × List Proc) (fun x=>⟨[(5,AD (B3 x.1)),(4,.sl (.own 1472 0) 3 (x.2.map Proc.c)),(1,.ptr 64 0)],[(64,x.1.c)]⟩) (fun x=>Few x.1∧Ch x.1∧x.2.length+(Am x.1).length≤1000000∧x.2++(FC x.1).1=(FC s).1∧(FC x.1).2=(FC s).2) (fun x=>(Am x.1).length) (s,[]) ⟨h,hg,by have:=Ie h;simp;omega,rfl,rfl⟩ ?_ ?_
 ·exact Imp.weak gI gI
 rintro⟨t,gs⟩ ⟨i1,i2,i3,i4,i5⟩ J hJ
 replace i1:Few t:=i1
 replace i2:Ch t:=i2
 replace i3:gs.length+(Am t).length≤1000000:=i3
 replace i4:gs++(FC t).1=(FC s).1:=i4
 replace i5:(FC t).2=(FC s).2:=i5
 rw[QB i2]at i4 i5;cases hf:B3 t with
 | nil =>
  rw[hf]at i4 i5;have e0:(0<((0:Nat):Int))=False:=by simp
  simp(disch:=omega)only[go_sem,hf,map_nil,List.length_nil,e0,decide_false];refine Ab (f73_ok t i1) ?_;refine gO ?_;refine CT ⟨[],[],[1472]⟩ _ ?_;refine gO ?_;simp only[List.append_nil]at i4 i5;exact .eq (by rw[← i4,← i5])
 | cons p l =>
  simp only[hf]at i4 i5;have hm:p∈Am t:=JM (by rw[hf];simp);have hd:=Fm i2 hm;have e0:(0<(l.length:Int)+1)=True:=eq_true (by omega);have hbd:gs.length+1≤4294967296:=by omega
  simp(disch:=omega)only[go_sem,hf,AD,e0];refine Aq 4 [([],[1]),([],[5]),([],[14]),([],[15])] fol ?_;simp(disch:=omega)only[go_sem]
  first|(refine Ab (f74_ok t p i1) ?_)|(refine Al (f74_ok t p i1) ?_)
  refine gO ?_;have hfew:=MM i1 p;refine Ab (f77_ok (BX t p) hfew) ?_;refine gO ?_;refine hJ _ (BX t p,gs++[p]) ⟨hfew,CW i2 p,by simp;omega,by rw[← i4];simp,i5⟩ hd (Imp.weak ?_ ?_)
  ·simp(disch:=omega)only[go_sem];exact .sl (by simp[Proc.c])
  ·exact gI
theorem UD{lv:Int}:∀ (l:List Expr) (n d:Int),(∀ e∈l,∀ n,n+1≤(meas e (lv+1) n).2)→n≤(ES l lv n d).2
 |[],n,d,_=>by simp[ES]
 | e::l,n,d,h=>by
  have h1:=h e (by simp) n;simp only[ES];split
  ·simp only;omega
  ·have:=UD l (meas e (lv+1) n).2 (max d (meas e (lv+1) n).1) fun e' he=>h e' (by simp[he])
   omega
theorem S8:∀ (N:Nat) (e:Expr),SizeOf.sizeOf e<N→∀ lv n:Int,n+1≤(meas e lv n).2
 | 0,_,h,_,_=>by omega
 | N+1,e,h,lv,n=>by
  rw[KP];split
  ·simp
  ·exact UD _ _ _ fun e' he n'=>S8 N e' (by have:=DY he;omega) _ _
theorem UE{lv:Int}:∀ (l:List Expr) (n d:Int),(ES l lv n d).1≠0→0≤n→n≤24→(∀ e∈l,∀ n,0≤n→n≤24→(meas e (lv+1) n).1≠0→n+1≤(meas e (lv+1) n).2∧(meas e (lv+1) n).2≤24) →
 n+l.length≤24∧∀ e∈l,∃ n,0≤n∧n≤24∧(meas e (lv+1) n).1≠0
 |[],n,d,_,h0,h1,_=>by simp;omega
 | e::l,n,d,h,h0,h1,hk=>by
  simp only[ES]at h;split at h
  ·simp at h
  ·rename_i hne;have he:=hk e (by simp) n h0 h1 hne;have:=UE l _ _ h (by omega) he.2 fun e' he'=>hk e' (by simp[he'])
   refine⟨by simp only[length_cons];omega,fun e' he'=>?_⟩;rcases mem_cons.1 he' with rfl|he'
   ·exact⟨n,h0,h1,hne⟩
   ·exact this.2 e' he'
def BF(a b:Bs):Bool:=Op.bytesLess a b
def n0:Need:=⟨p0,.mk 0 a0 [],0⟩
def BN(l:List Queue)(i:Nat)(q:Queue):Bool:=valid q&&(decide (i=0)||BF (l.getD (i-1) q0).res.name q.res.name)
def Ed(l:List Need)(i:Nat)(n:Need):Bool:=n.proc.ok&&decide (0≤n.gen)&&decide (n.gen≤1073741824)&&A5 n.expr&&(decide (i=0)||decide (AT (l.getD (i-1) n0).proc n.proc<0))
def Cd(l:List Queue):Bool:=decide (l.length≤8)&&BO (BN l) l
def IB(l:List Need):Bool:=decide (l.length≤8)&&BO (Ed l) l
def CB(s:WS):Bool:=Cd s.queues&&IB s.needs&&decide ((Am s).length≤8)
theorem Bw{q:Queue}(h:BA q≤100):q.holds.length≤1000000∧q.convs.length≤1000000∧q.waits.length≤1000000:=by
 unfold BA Bq at h;omega
theorem f54_ok(s:WS)(h:Few s):Ac C0 54 [.agg s.c] [] (B (CB s)) []:=by
 refine Ac.go f54 ?_;unfold f54
 by_cases hq:8<s.queues.length
 ·have e1:(8<(s.queues.length:Int))=True:=eq_true (by omega);have e:CB s=false:=by simp[CB,Cd];omega
  simp(disch:=omega)only[go_sem,e1];refine Ap _ ?_;exact wb (by simp[e])
 have e1:(8<(s.queues.length:Int))=False:=eq_false (by omega)
 by_cases hn:8<s.needs.length
 ·have e2:(8<(s.needs.length:Int))=True:=eq_true (by omega);have e:CB s=false:=by simp[CB,IB];omega
  simp(disch:=omega)only[go_sem,e1,e2,decide_false,decide_true];refine Ap _ ?_;exact wb (by simp[e])
 have e2:(8<(s.needs.length:Int))=False:=eq_false (by omega);simp(disch:=omega)only[go_sem,e1,e2,decide_false];refine Aa (α:=Nat) (fun i=>⟨[(20,I i),(19,I s.queues.length),(18,Ay s.queues),(1,.ptr 64 0)],[(64,s.c)]⟩) (fun i=>i≤(s.queues).length∧BO (BN s.queues) (s.queues.take i)=true) (fun i=>(s.queues).length-i) 0 ⟨by omega,rfl⟩ ?_ ?_
 ·exact Ca
 rintro i ⟨hi,hP⟩ J hJ;refine gO ?_;refine ⟨fun hlt=>?_,fun hge=>?_⟩;rotate_left;have hil:i=(s.queues).length:=by simp at hge;omega
 rotate_left;obtain⟨b,hb⟩:∃ b,(s.queues)[i]?=some b:=⟨_,gE (by simp at hlt;omega)⟩;have hbm:=mG hb;simp(disch:=omega)only[go_sem,gm,hb]
 ·have ha:=Bw (h.aq b hbm);have bad:BN s.queues i b=false→CB s=false:=fun h=>by simp only[CB,Cd,Bj hb h,Bool.and_false,Bool.false_and]
  have good:BN s.queues i b=true→BO (BN s.queues) (s.queues.take (i+1))=true:=fun h=>by rw[B4 hb,hP,h];rfl
  refine Aq 18 [([],[4]),([],[25]),([1],[26]),([1],[27]),([1],[3,28]),([1],[29,28]),([1],[30,28]),([1],[1,31]),([1],[32,31]),([1],[3,31]),([1],[34,31]),([1],[33,35,31]),([1],[36,31]),([1],[37,31]),([1],[38,31]),([1],[4,31]),([1],[40,31]),([1],[41,31])] fol ?_;simp(disch:=omega)only[go_sem]
  first|(refine Ab (f101_ok b ha.1 ha.2.2) ?_)|(refine Al (f101_ok b ha.1 ha.2.2) ?_)
  cases hv:valid b
  ·simp(disch:=omega)only[go_sem];refine Ap _ ?_;exact wb (by rw[bad (by simp[BN,hv])])
  by_cases hi0:i=0
  ·subst hi0;refine gO ?_;refine hJ _ 1 ⟨by simp at hlt;omega,good (by simp[BN,hv])⟩ (by simp at hlt;omega) AK
  ·have hi1:(0<(i:Int))=True:=eq_true (by omega);have hi2:((i:Int)-1)=((i-1:Nat):Int):=by omega
   obtain⟨a,ha'⟩:∃ a,s.queues[i-1]?=some a:=⟨_,gE (by simp at hlt;omega)⟩;have had:s.queues.getD (i-1) q0=a:=by simp[List.getD,ha']
   simp(disch:=omega)only[go_sem,hi1,hi2,gm,ha'];refine And.intro (fun hh=>?_) (fun hh=>?_)
   ·refine Ap _ ?_;exact wb (by rw[bad (by simp only[BN,had,hv];simp[hi0];simpa [BF]using hh)])
   ·refine hJ _ (i+1) ⟨by simp at hlt;omega,good (by simp only[BN,had,hv];simp[hi0];simpa [BF]using hh)⟩ (by simp at hlt;omega) AK
 subst hil;rw[take_length]at hP;have hqs:Cd s.queues=true:=by simp[Cd,hP];omega
 clear hJ;refine Aa (α:=Nat) (fun i=>⟨[(50,I i),(49,I s.needs.length),(48,Ho s.needs),(1,.ptr 64 0)],[(64,s.c)]⟩) (fun i=>i≤(s.needs).length∧BO (Ed s.needs) (s.needs.take i)=true) (fun i=>(s.needs).length-i) 0 ⟨by omega,rfl⟩ ?_ ?_
 ·exact Ca
 rintro i ⟨hi,hP⟩ J hJ;refine gO ?_;refine ⟨fun hlt=>?_,fun hge=>?_⟩;rotate_left;have hil:i=(s.needs).length:=by simp at hge;omega
 rotate_left;obtain⟨b,hb⟩:∃ b,(s.needs)[i]?=some b:=⟨_,gE (by simp at hlt;omega)⟩;have hbm:=mG hb;simp(disch:=omega)only[go_sem,gm,hb]
 ·have bad:Ed s.needs i b=false→CB s=false:=fun h=>by simp only[CB,IB,Bj hb h,Bool.and_false,Bool.false_and]
  have good:Ed s.needs i b=true→BO (Ed s.needs) (s.needs.take (i+1))=true:=fun h=>by rw[B4 hb,hP,h];rfl
  refine Ab (f102_ok b.proc) ?_;cases hp:b.proc.ok
  ·simp(disch:=omega)only[go_sem];refine Ap _ ?_;exact wb (by rw[bad (by simp[Ed,hp])])
  by_cases hg1:b.gen<0
  ·have k1:(b.gen<0)=True:=eq_true hg1;simp(disch:=omega)only[go_sem,k1];refine Ap _ ?_;exact wb (by rw[bad (by simp[Ed];omega)])
  have k1:(b.gen<0)=False:=eq_false hg1
  by_cases hg2:1073741824<b.gen
  ·have k2:(1073741824<b.gen)=True:=eq_true hg2;simp(disch:=omega)only[go_sem,k1,k2,decide_false];refine Ap _ ?_;exact wb (by rw[bad (by simp[Ed];omega)])
  have k2:(1073741824<b.gen)=False:=eq_false hg2;have g1:decide (0≤b.gen)=true:=by simp;omega
  have g2:decide (b.gen≤1073741824)=true:=by simp;omega
  simp(disch:=omega)only[go_sem,k1,k2,decide_false];refine Af (f103_ok b.expr) (by simp(disch:=omega)only[go_sem,Expr.FF]) rfl ?_;cases he:A5 b.expr
  ·simp(disch:=omega)only[go_sem];refine Ap _ ?_;exact wb (by rw[bad (by simp[Ed,he])])
  refine gO ?_;refine Aq 12 [([],[5]),([],[75]),([],[76]),([],[1,77]),([],[78,77]),([],[5,77]),([],[80,77]),([],[79,81,77]),([],[82,77]),([],[83,77]),([],[6,77]),([],[85,77])] fol ?_
  by_cases hi0:i=0
  ·subst hi0;refine gO ?_;refine hJ _ 1 ⟨by simp at hlt;omega,good (by simp only[Ed,hp,g1,g2,he];rfl)⟩ (by simp at hlt;omega) AK
  ·have hi1:(0<(i:Int))=True:=eq_true (by omega);have hi2:((i:Int)-1)=((i-1:Nat):Int):=by omega
   obtain⟨a,ha'⟩:∃ a,s.needs[i-1]?=some a:=⟨_,gE (by simp at hlt;omega)⟩;have had:s.needs.getD (i-1) n0=a:=by simp[List.getD,ha']
   simp(disch:=omega)only[go_sem,hi1,hi2,gm,ha']
   first|(refine Ab (f61_ok a.proc b.proc) ?_)|(refine Al (f61_ok a.proc b.proc) ?_)
   refine gO ?_
   by_cases hc:0≤AT a.proc b.proc
   ·simp(disch:=omega)only[go_sem,hc];refine Ap _ ?_;exact wb (by rw[bad (by simp only[Ed,had];simp[hi0];omega)])
   ·simp(disch:=omega)only[go_sem,hc,decide_false];refine hJ _ (i+1) ⟨by simp at hlt;omega,good (by simp only[Ed,had,hp,g1,g2,he];simp;omega)⟩ (by simp at hlt;omega) AK
 ·subst hil;rw[take_length]at hP;have hns:IB s.needs=true:=by simp[IB,hP];omega
  refine Ab (f73_ok s h) ?_;refine gO ?_;refine Ap _ ?_;exact wb (by simp only[CB,hqs,hns];simp;omega)
theorem CM{s:WS}(h:CB s=true):Ch s:=by
 simp only[CB,Cd,and_eq_true,Cx]at h;intro q hq;obtain⟨i,hi,he⟩:=List.getElem_of_mem hq;have:=h.1.1.2 i q (by rw[gE hi,he]);simp only[BN,and_eq_true]at this;exact this.1
theorem W9{P:WS→Prop}(hP:∀ s p,P s→P (BX s p)){s:WS}(l:List Proc)(h:P s):P (Fa s l):=by
 unfold Fa;have:∀ (ps:List Proc) (x:WS),P x→P (ps.foldl (fun x p=>if Br l p then x else BX x p) x):=by
  intro ps
  induction ps with
  | nil=>intro x hx;exact hx
  | cons p ps ih =>
   intro x hx;simp only[List.foldl_cons];split
   ·exact ih x hx
   ·exact ih _ (hP x p hx)
 exact this _ _ h
theorem aP{s:WS}(h:Few s)(l:List Proc):Few (Fa s l):=W9 (P:=Few) (fun _ p h=>MM h p) l h
theorem Zh{s:WS}(h:Ch s)(l:List Proc):Ch (Fa s l):=W9 (P:=Ch) (fun _ p h=>CW h p) l h
def Tw(s:WS):List Proc:=if CB s then B3 s else []
theorem f36_ok(s:WS)(h:Few s):Ac C0 36 [.agg s.c] [] (AD (Tw s)) []:=by
 refine Ac.go f36 ?_;unfold f36;refine gO ?_;refine Ab (f54_ok s h) ?_;cases hv:CB s
 ·simp(disch:=omega)only[go_sem];refine B0 _ ?_;simp(disch:=omega)only[go_sem,Tw];simp only[Tw,hv];exact .Az (by omega)
 ·simp(disch:=omega)only[go_sem];refine Ab (f77_ok s h) ?_;refine gO ?_;refine B0 _ ?_;simp(disch:=omega)only[go_sem,Tw,hv]
def CN(s:WS):List Proc × List Proc:=if CB s then FC s else ([],[])
theorem f19_ok(s:WS)(h:Few s):Ac C0 19 [.agg s.c] [] (.tup [AD (CN s).1,AD (CN s).2]) []:=by
 refine Ac.go f19 ?_;unfold f19;refine gO ?_;refine Ab (f54_ok s h) ?_;cases hv:CB s
 ·have e:CN s=([],[]):=by simp[CN,hv]
  simp(disch:=omega)only[go_sem,e];exact Fb _
 ·have e:CN s=FC s:=by simp[CN,hv]
  simp(disch:=omega)only[go_sem,e];refine Ab (f55_ok s h (CM hv)) ?_;refine gO ?_;exact AH _
theorem Ti{s:WS}(h:Few s)(hg:Ch s):(FC s).2.length≤20000:=by
 have key:∀ (n:Nat) (s:WS),Few s→(Nh n s).2.length≤20000:=by
  intro n
  induction n with
  | zero=>intro s h;exact Ie h
  | succ n ih =>
   intro s h;simp only[Nh];split
   ·exact Ie h
   ·exact ih _ (MM h _)
 exact key _ s h
theorem Jy{s:WS}(h:Few s):(CN s).2.length≤20000:=by
 unfold CN;split
 ·rename_i hv;exact Ti h (CM hv)
 ·simp
def bL(s:WS)(p:Proc):Bool:=Br (CN s).2 p
theorem f35_ok(s:WS)(p:Proc)(h:Few s):Ac C0 35 [.agg s.c,.agg p.c] [] (B (bL s p)) []:=by
 have hl:=Jy h;refine Ac.go f35 ?_;unfold f35;refine gO ?_;refine Ab (f19_ok s h) ?_;refine gO ?_;refine Ab (f59_ok (CN s).2 p (by omega)) ?_;refine gO ?_;refine Ap _ ?_;exact wb rfl
def DV(s:WS)(p:Proc)(set:List Proc)(q:Proc):List Proc:=if q=p∨Br set q=false then set else if Br (FC (Fa s (Gk set q))).2 p then (FC (Fa s (Gk set q))).2 else set
def Mv(s:WS)(p:Proc):List Proc × Int:=if CB s then (if Br (FC s).2 p then ((FC s).2.foldl (DV s p) (FC s).2,0) else ([],14)) else ([],2)
theorem f21_ok(s:WS)(p:Proc)(h:Few s):Ac C0 21 [.agg s.c,.agg p.c] [] (.tup [AD (Mv s p).1,I (Mv s p).2]) []:=by
 refine Ac.go f21 ?_;unfold f21;refine gO ?_;refine Ab (f54_ok s h) ?_;cases hv:CB s
 ·have e:Mv s p=([],2):=by simp[Mv,hv]
  simp(disch:=omega)only[go_sem,e];exact Fb _
 have hg:=CM hv;have hrl:=Ti h hg;refine gO ?_;refine Ab (f55_ok s h hg) ?_;refine gO ?_;refine Ab (f59_ok (FC s).2 p (by omega)) ?_;cases hp:Br (FC s).2 p
 ·have e:Mv s p=([],14):=by simp[Mv,hv,hp]
  simp(disch:=omega)only[go_sem,e];exact Fb _
 have e:Mv s p=((FC s).2.foldl (DV s p) (FC s).2,0):=by simp[Mv,hv,hp]
 simp(disch:=omega)only[go_sem,e];refine Ab (f60_ok (FC s).2 (by omega)) ?_;generalize (FC s).2=all at hrl ⊢;refine gO ?_;refine Aa (α:=Nat) (fun i=>⟨[(29,I i),(28,I all.length),(7,AD all),(8,AD ((all.take i).foldl (DV s p) all)),(2,.ptr 128 0),(3,.ptr 192 0)],[(128,s.c),(192,p.c)]⟩) (fun i=>i≤(all).length∧((all.take i).foldl (DV s p) all).length≤20000) (fun i=>(all).length-i) 0 ⟨by omega,hrl⟩ ?_ ?_
 ·exact Ca
 rintro i ⟨hi,hP⟩ J hJ;refine gO ?_;refine ⟨fun hlt=>?_,fun hge=>?_⟩;rotate_left;have hil:i=(all).length:=by simp at hge;omega
 rotate_left;obtain⟨b,hb⟩:∃ b,(all)[i]?=some b:=⟨_,gE (by simp at hlt;omega)⟩;have hbm:=mG hb;simp(disch:=omega)only[go_sem,gm,hb]
 ·have e1:(all.take (i+1)).foldl (DV s p) all=DV s p ((all.take i).foldl (DV s p) all) b:=by
   rw[take_add_one,hb,toList_some,List.foldl_append];rfl
  generalize (all.take i).foldl (DV s p) all=set at hP e1;have step:∀ set',DV s p set b=set'→set'.length≤20000→∀ st',Imp ⟨C0,[],[]⟩ st' ⟨[(29,I (i+1:Nat)),(28,I all.length),(7,AD all),(8,AD set'),(2,.ptr 128 0),(3,.ptr 192 0)],[(128,s.c),(192,p.c)]⟩→J st':=fun set' h1 h2 st' h3=>by
   refine hJ st' (i+1) ⟨by simp at hlt;omega,by rw[e1,h1];exact h2⟩ (by simp at hlt;omega) ?_;rw[e1,h1];exact h3
  clear hJ;refine Ab (f61_ok b p) ?_;refine gO ?_;refine And.intro (fun hh=>?_) (fun hh=>?_);rotate_left
  ·have hbp:b=p:=by simpa using hh
   exact step set (by simp[DV,hbp]) hP _ AK
  have hbp:¬ b=p:=by simpa using hh
  refine Ab (f59_ok set b (by omega)) ?_;cases hs:Br set b
  ·simp(disch:=omega)only[go_sem];exact step set (by simp[DV,hs]) hP _ AK
  refine gO ?_;refine Aq 10 [([],[2]),([],[8]),([],[10]),([],[48,49]),([3],[47,50]),([3,4],[51]),([3,4,5],[52]),([3,4,5],[46]),([3,4,5],[46]),([3,4,5],[53])] fol ?_;refine gO ?_;have hdl:(Gk set b).length≤set.length:=length_filter_le _ _;have hf:=aP h (Gk set b);have hg2:=Zh hg (Gk set b);have hrl2:=Ti hf hg2
  first|(refine Ab (f63_ok set b (by omega)) ?_)|(refine Al (f63_ok set b (by omega)) ?_)
  simp(disch:=omega)only[go_sem]
  first|(refine Ab (f62_ok s (Gk set b) h (by omega)) ?_)|(refine Al (f62_ok s (Gk set b) h (by omega)) ?_)
  simp(disch:=omega)only[go_sem]
  first|(refine Ab (f55_ok (Fa s (Gk set b)) hf hg2) ?_)|(refine Al (f55_ok (Fa s (Gk set b)) hf hg2) ?_)
  refine gO ?_;refine Ab (f59_ok (FC (Fa s (Gk set b))).2 p (by omega)) ?_;cases hq:Br (FC (Fa s (Gk set b))).2 p
  ·simp(disch:=omega)only[go_sem];exact step set (by simp[DV,hs,hbp,hq]) hP _ AK
  ·simp(disch:=omega)only[go_sem];exact step (FC (Fa s (Gk set b))).2 (by simp[DV,hs,hbp,hq]) hrl2 _ AK
 ·subst hil;simp(disch:=omega)only[go_sem,take_length];exact AH _
def Gb(l:List Proc)(k:Nat)(p:Proc):List Proc:=l.take k++p::l.drop k
theorem M6(l:List Proc)(k:Nat)(p:Proc)(h:k≤l.length):(Gb l k p).length=l.length+1:=by simp[Gb];omega
theorem UF(l:List Proc)(k:Nat)(p:Proc)(h:k≤l.length):(Gb l k p)[k]?=some p:=by
 unfold Gb;rw[List.getElem?_append_right (by simp;omega)];simp[Nat.min_eq_left h]
theorem R2(l:List Proc)(k:Nat)(p:Proc)(h:k+1≤l.length):(Gb l (k+1) p)[k]?=l[k]?:=by
 unfold Gb;rw[List.getElem?_append_left (by simp;omega),List.getElem?_take,if_pos (by omega)]
theorem R3{l:List Proc}{k:Nat}{p x:Proc}(hx:l[k]?=some x):((Gb l (k+1) p).set k p).set (k+1) x=Gb l k p:=by
 have hk:=Ae hx;have hd:l.drop k=x::l.drop (k+1):=by rw[List.drop_eq_getElem_cons hk,get_eq hx]
 have ht:l.take (k+1)=l.take k++[x]:=Hd hx;unfold Gb;rw[ht,hd];have hl:(l.take k).length=k:=by simp;omega
 rw[List.append_assoc,List.set_append_right _ _ (by omega),hl,Nat.sub_self];rw[List.set_append_right _ _ (by omega),hl];simp
theorem UG(l:List Proc)(k:Nat)(p x:Proc):x∈Gb l k p↔x∈l∨x=p:=by
 unfold Gb
 conv=>rhs;rw[← List.take_append_drop k l]
 simp only[mem_append,mem_cons];constructor
 ·rintro(h|h|h)
  ·exact .inl (.inl h)
  ·exact .inr h
  ·exact .inl (.inr h)
 ·rintro((h|h)|h)
  ·exact .inl h
  ·exact .inr (.inr h)
  ·exact .inr (.inl h)
theorem f76_ok(l:List Proc)(hl:l.length≤1000000):Ac C0 76 [AD l] [] (AD (Ki l)) []:=by
 refine Ac.go f76 ?_;unfold f76;refine gO ?_;refine Aa (α:=Nat × List Proc) (fun x=>⟨[(4,I x.1),(3,.sl (.own 1728 0) 3 (x.2.map Proc.c)),(0,AD l)],[]⟩) (fun x=>x.1≤l.length∧x.2.length≤x.1∧Hv x.2∧∀ p,p∈x.2↔p∈l.take x.1) (fun x=>l.length-x.1) (0,[]) ⟨by simp,by simp,by simp[Hv],by simp⟩ ?_ ?_
 ·refine Imp.weak ?_ ?_
  ·simp(disch:=omega)only[go_sem,map_nil]
  ·exact gI
 rintro⟨i,out⟩ ⟨hi,hol,hasc,hmem⟩ J hJ
 replace hi:i≤l.length:=hi
 replace hol:out.length≤i:=hol
 replace hasc:Hv out:=hasc
 replace hmem:∀ p,p∈out↔p∈l.take i:=hmem
 refine gO ?_;refine ⟨fun hlt=>?_,fun hge=>?_⟩
 ·have hlt':i<l.length:=by simp at hlt;omega
  obtain⟨p,hp⟩:∃ p,l[i]?=some p:=⟨_,gE hlt'⟩;have ht:=Hd hp;simp(disch:=omega)only[go_sem,gm,hp];refine Dq [1728] (f29_ok out p (by omega)) gI rfl trivial ?_;cases hh:Br out p;rotate_left
  ·have hin:p∈out:=by simpa [Br]using hh
   refine gO ?_;refine hJ _ (i+1,out) ⟨by simp;omega,by simp;omega,hasc,fun x=>?_⟩ (by simp;omega) AK;rw[ht,mem_append,← hmem x];simp only[List.mem_singleton];exact⟨.inl,fun h=>h.elim id fun e=>by rw[e];exact hin⟩
  have hnin:p∉out:=by simpa [Br]using hh
  have hbd:out.length+1≤4294967296:=by omega
  simp(disch:=omega)only[go_sem,gm,hp];refine Aa (α:=Nat) (fun k=>⟨[(5,I k),(4,I i),(3,.sl (.own 1728 0) 3 ((Gb out k p).map Proc.c)),(0,AD l)],[]⟩) (fun k=>k≤out.length∧∀ x∈out.drop k,AT p x<0) (fun k=>k) out.length ⟨by omega,by simp⟩ ?_ ?_
  ·refine Imp.weak ?_ ?_
   ·simp(disch:=omega)only[go_sem];exact .sl (by simp[Gb,Proc.c])
   ·exact gI
  rintro k ⟨hk,hgt⟩ J2 hJ2;have stop:(∀ x∈out.take k,AT x p<0)→∀ st',Imp ⟨C0,[],[]⟩ st' ⟨[(4,I (i+1:Nat)),(3,.sl (.own 1728 0) 3 ((Gb out k p).map Proc.c)),(0,AD l)],[]⟩→J st':=fun hlt2 st' him=>by
   refine hJ st' (i+1,Gb out k p) ⟨by simp;omega,by simp[M6 out k p hk];omega,?_,fun x=>?_⟩ (by simp;omega) him
   ·have h0:=hasc;unfold Hv at h0 ⊢;rw[← List.take_append_drop k out]at h0;rw[List.pairwise_append]at h0;show (Gb out k p).Pairwise _;unfold Gb;rw[List.pairwise_append];refine⟨h0.1,pairwise_cons.2 ⟨hgt,h0.2.1⟩,fun a ha b hb=>?_⟩;rcases mem_cons.1 hb with e|e
    ·rw[e];exact hlt2 a ha
    ·exact h0.2.2 a ha b e
   ·show x∈Gb out k p↔x∈l.take (i+1);rw[UG,ht,mem_append,← hmem x];simp
  refine Aq 12 [([],[5]),([],[28]),([],[29]),([],[3,30]),([],[5,30]),([],[32,30]),([],[31,33,30]),([],[34,30]),([],[3,30]),([],[5,30]),([],[36,37,30]),([],[38,30])] fol ?_;cases k with
  | zero =>
   have e0:(0<((0:Nat):Int))=False:=by simp
   simp(disch:=omega)only[go_sem,e0,decide_false];exact stop (by simp) _ AK
  | succ k =>
   have e0:(0<(((k+1:Nat)):Int))=True:=eq_true (by omega);have e1:(0<(k:Int)+1)=True:=eq_true (by omega);have e2:((k:Int)+1-1)=(k:Int):=by omega
   obtain⟨x,hx⟩:∃ x,out[k]?=some x:=⟨_,gE (by omega)⟩;have g1:=UF out (k+1) p hk;have g2:=R2 out k p hk;rw[hx]at g2;have hml:=M6 out (k+1) p hk;have z1:k<(Gb out (k+1) p).length:=by omega
   have z2:k+1<(Gb out (k+1) p).length:=by omega
   simp(disch:=omega)only[go_sem,e0,e1,e2,gm,g1,g2,length_map,hml];refine Ab (f107_ok x p) ?_;refine gO ?_
   by_cases hc:0<AT x p
   ·have e3:(0<AT x p)=True:=eq_true hc;have e4:(k=k+1)=False:=eq_false (by omega);simp(disch:=omega)only[go_sem,e2,e3,gm,g1,g2,length_map,hml,List.length_set,List.getElem?_set,e4];refine hJ2 _ k ⟨by omega,fun y hy=>?_⟩ (by omega) (Imp.weak ?_ gI)
    ·rw[List.drop_eq_getElem_cons (by omega),get_eq hx]at hy;rcases mem_cons.1 hy with e|e
     ·subst e;have:=Cs y p;omega
     ·exact hgt y e
    ·simp(disch:=omega)only[go_sem];refine .sl ?_;rw[← R3 hx,map_set,map_set];rfl
   ·have e3:(0<AT x p)=False:=eq_false hc;simp(disch:=omega)only[go_sem,e3,decide_false];refine stop (fun y hy=>?_) _ AK;have hxm:x∈out:=mG hx;have hxp:AT x p<0:=by
     have:AT x p≠0:=fun e=>hnin (by rw[← FM e];exact hxm)
     omega
    rw[Hd hx]at hy;rcases mem_append.1 hy with e|e
    ·have h0:=hasc;unfold Hv at h0;rw[← List.take_append_drop k out,List.pairwise_append]at h0;have hd:out.drop k=x::out.drop (k+1):=by rw[List.drop_eq_getElem_cons (by omega),get_eq hx]
     exact Cz (h0.2.2 y e x (by rw[hd];simp)) hxp
    ·rw[List.mem_singleton.1 e];exact hxp
 ·have hil:i=l.length:=by simp at hge;omega
  subst hil;rw[take_length]at hmem;have e:out=Ki l:=JA hasc (DT l) fun x=>by rw[hmem,HI]
  refine CT ⟨[],[],[1728]⟩ _ ?_;simp(disch:=omega)only[go_sem,e]
theorem f207_ok(l:List Hold)(hl:l.length≤1000000):Ac C0 207 [AB l] [] (KZ 0 (CL l)) []:=by
 refine Ac.go f207 ?_;unfold f207;refine gO ?_;refine Aa (α:=Nat) (fun i=>⟨[(4,I i),(0,AB l),(3,.sl (.own 1152 0) 3 ((CL (l.take i)).map Proc.c))],[]⟩) (fun i=>i≤(l).length∧True) (fun i=>(l).length-i) 0 ⟨by omega,trivial⟩ ?_ ?_
 ·exact Ca
 rintro i ⟨hi,hP⟩ J hJ;refine gO ?_;refine ⟨fun hlt=>?_,fun hge=>?_⟩;rotate_left;have hil:i=(l).length:=by simp at hge;omega
 rotate_left;obtain⟨b,hb⟩:∃ b,(l)[i]?=some b:=⟨_,gE (by simp at hlt;omega)⟩;have hbm:=mG hb;have hlt2:i<(l).length:=by simp at hlt;omega
 simp(disch:=omega)only[go_sem,gm,hb]
 ·have hbd:(CL (l.take i)).length+1≤4294967296:=by simp[CL];omega
  simp(disch:=omega)only[go_sem,CL];refine hJ _ (i+1) ⟨by simp at hlt;omega,trivial⟩ (by simp at hlt;omega) (Imp.weak ?_ ?_)
  all_goals(try simp(disch:=omega)only[go_sem])
  all_goals(try(repeat'(with_reducible apply And.intro)))
  all_goals(first|exact .AA (by omega)|exact .Az (by omega)|exact .sl (by simp[CL,take_add_one,hb,Proc.c])|exact .int (by simp[CL,take_add_one,hb,Proc.c])|exact .eq (by simp[CL,take_add_one,hb,Proc.c]))
 ·subst hil;refine A1 ⟨[(1152,0)],[],[]⟩ _ rfl ⟨rfl,rfl⟩ (by simp[lk]) ?_ trivial;simp(disch:=omega)only[go_sem,take_length]
theorem f208_ok(q:Queue)(h:q.convs.length+q.waits.length≤1000000):Ac C0 208 [.agg q.c] [] (AD (BI (q.convs++q.waits))) []:=by
 refine Ac.go f208 ?_;unfold f208;refine gO ?_;refine Aa (α:=Nat) (fun i=>⟨[(4,I i),(1,.ptr 64 0),(3,.sl (.own 1344 0) 3 ((BI (q.convs.take i)).map Proc.c))],[(64,q.c)]⟩) (fun i=>i≤(q.convs).length∧True) (fun i=>(q.convs).length-i) 0 ⟨by omega,trivial⟩ ?_ ?_
 ·exact Ca
 rintro i ⟨hi,hP⟩ J hJ;refine gO ?_;refine ⟨fun hlt=>?_,fun hge=>?_⟩;rotate_left;have hil:i=(q.convs).length:=by simp at hge;omega
 rotate_left;obtain⟨b,hb⟩:∃ b,(q.convs)[i]?=some b:=⟨_,gE (by simp at hlt;omega)⟩;have hbm:=mG hb;have hlt2:i<(q.convs).length:=by simp at hlt;omega
 simp(disch:=omega)only[go_sem,gm,hb]
 ·have hbd:(BI (q.convs.take i)).length+1≤4294967296:=by simp[BI];omega
  simp(disch:=omega)only[go_sem,BI];refine hJ _ (i+1) ⟨by simp at hlt;omega,trivial⟩ (by simp at hlt;omega) (Imp.weak ?_ ?_)
  all_goals(try simp(disch:=omega)only[go_sem])
  all_goals(try(repeat'(with_reducible apply And.intro)))
  all_goals(first|exact .AA (by omega)|exact .Az (by omega)|exact .sl (by simp[BI,take_add_one,hb,Proc.c])|exact .int (by simp[BI,take_add_one,hb,Proc.c])|exact .eq (by simp[BI,take_add_one,hb,Proc.c]))
 subst hil;rw[take_length];clear hJ;refine Aa (α:=Nat) (fun i=>⟨[(5,I i),(1,.ptr 64 0),(3,.sl (.own 2368 0) 3 ((BI (q.convs++q.waits.take i)).map Proc.c))],[(64,q.c)]⟩) (fun i=>i≤(q.waits).length∧True) (fun i=>(q.waits).length-i) 0 ⟨by omega,trivial⟩ ?_ ?_
 ·refine Imp.ren ⟨[(1344,2368)],[(64,64)],[]⟩ ⟨rfl,rfl⟩ (by simp[lk]) ?_ ?_
  all_goals(try simp(disch:=omega)only[go_sem])
  all_goals(try(repeat'(with_reducible apply And.intro)))
  all_goals(first|exact .AA (by omega)|exact .Az (by omega)|exact .sl (by simp[])|exact .int (by simp[])|exact .eq (by simp[]))
 rintro i ⟨hi,hP⟩ J hJ;refine gO ?_;refine ⟨fun hlt=>?_,fun hge=>?_⟩;rotate_left;have hil:i=(q.waits).length:=by simp at hge;omega
 rotate_left;obtain⟨b,hb⟩:∃ b,(q.waits)[i]?=some b:=⟨_,gE (by simp at hlt;omega)⟩;have hbm:=mG hb;have hlt2:i<(q.waits).length:=by simp at hlt;omega
 simp(disch:=omega)only[go_sem,gm,hb]
 ·have hbd:(BI (q.convs++q.waits.take i)).length+1≤4294967296:=by simp[BI];omega
  simp(disch:=omega)only[go_sem,BI];refine hJ _ (i+1) ⟨by simp at hlt;omega,trivial⟩ (by simp at hlt;omega) (Imp.weak ?_ ?_)
  all_goals(try simp(disch:=omega)only[go_sem])
  all_goals(try(repeat'(with_reducible apply And.intro)))
  all_goals(first|exact .AA (by omega)|exact .Az (by omega)|exact .sl (by simp[BI,take_add_one,hb,Proc.c])|exact .int (by simp[BI,take_add_one,hb,Proc.c])|exact .eq (by simp[BI,take_add_one,hb,Proc.c]))
 ·subst hil;refine CT ⟨[],[],[2368]⟩ _ ?_;simp(disch:=omega)only[go_sem,take_length]
theorem f134_ok(q:Queue)(h:BA q≤1000000):Ac C0 134 [.agg q.c] [] (AD (A6 q)) []:=by
 have h1:q.holds.length≤1000000:=by unfold BA at h;omega
 have h2:q.convs.length+q.waits.length≤1000000:=by unfold BA Bq at h;omega
 have h3:(CL q.holds).length+(BI (q.convs++q.waits)).length≤1000000:=by simp[CL,BI];unfold BA Bq at h;omega
 have h4:(CL q.holds).length+(BI (q.convs++q.waits)).length≤4294967296:=by omega
 refine Ac.go f134 ?_;unfold f134;refine gO ?_;refine Aq 4 [([],[1]),([],[3]),([],[4]),([],[1])] fol ?_;refine gO ?_;refine Ao ⟨⟨[],[],[]⟩,[(0,320)],[]⟩ (f207_ok q.holds h1) gI rfl rfl trivial (.inl rfl) ?_;simp(disch:=omega)only[go_sem]
 first|(refine Ab (f208_ok q h2) ?_)|(refine Al (f208_ok q h2) ?_)
 refine gO ?_;refine HV [512] (f76_ok (CL q.holds++BI (q.convs++q.waits)) (by simpa using h3)) (by simp(disch:=omega)only[go_sem];exact .sl (by simp)) rfl ?_;refine gO ?_;refine B0 _ ?_;simp(disch:=omega)only[go_sem,A6]
theorem f163_ok(q:Queue)(p:Proc)(h:q.holds.length≤1000000):Ac C0 163 [.agg q.c,.agg p.c] [] (.agg (Ak q.holds p).c) []:=by
 refine Ac.go f163 ?_;unfold f163;refine gO ?_;refine Ab (f244_ok q.holds p h) ?_;refine gO ?_;exact AH _
theorem MP{l:List Wait}{p:Proc}:(E2 l p<0∧l.find? (fun w=>decide (w.proc=p))=none)∨∃ (i:Nat) (w:Wait),E2 l p=i∧l[i]?=some w∧l.find? (fun w=>decide (w.proc=p))=some w:=by
 unfold E2;cases h:l.findIdx? (fun w=>decide (w.proc=p)) with
 |none =>
  left;refine⟨by simp,?_⟩;rw[List.findIdx?_eq_none_iff]at h;rw[List.find?_eq_none];intro x hx;simpa using h x hx
 |some i =>
  right;obtain⟨h1,h2,h3⟩:=(List.findIdx?_eq_some_iff_getElem.1 h);refine⟨i,l[i],rfl,gE h1,?_⟩;rw[List.find?_eq_some_iff_getElem];exact⟨h2,i,h1,rfl,fun j hj=>by simpa using h3 j hj⟩
theorem f98_ok(q:Queue)(p:Proc)(h1:q.convs.length≤1000000)(h2:q.waits.length≤1000000):Ac C0 98 [.agg q.c,.agg p.c] [] (.tup [.agg ((Aj q p).getD ⟨0,0⟩).c,B (Aj q p).isSome]) []:=by
 refine Ac.go f98 ?_;unfold f98;refine gO ?_;refine Ab (f153_ok q.convs p h1) ?_;rcases MP (l:=q.convs) (p:=p) with ⟨a,b⟩|⟨i,w,a,b,c⟩
 ·have e1:(0≤E2 q.convs p)=False:=eq_false (by omega);simp(disch:=omega)only[go_sem,e1,decide_false];refine Ab (f153_ok q.waits p h2) ?_;rcases MP (l:=q.waits) (p:=p) with ⟨a',b'⟩|⟨i,w,a',b',c'⟩
  ·have e2:(0≤E2 q.waits p)=False:=eq_false (by omega);have e:Aj q p=none:=by simp[Aj,List.find?_append,b,b']
   simp(disch:=omega)only[go_sem,e2,e,Option.isSome_none,decide_false];exact AH _
  ·have e:Aj q p=some w.amt:=by simp[Aj,List.find?_append,b,c']
   simp(disch:=omega)only[go_sem,a',e,isSome_some,gm,b'];exact AH _
 ·have e:Aj q p=some w.amt:=by simp[Aj,List.find?_append,c]
  simp(disch:=omega)only[go_sem,a,e,isSome_some,gm,b];exact AH _
def LF(q:Queue)(p:Proc):Bool:=(Aj q p).isSome||!(Ak q.holds p).zero
theorem f109_ok(q:Queue)(p:Proc)(h:BA q≤1000000):Ac C0 109 [.agg q.c,.agg p.c] [] (B (LF q p)) []:=by
 have h1:q.holds.length≤1000000:=by unfold BA at h;omega
 have h2:q.convs.length≤1000000:=by unfold BA Bq at h;omega
 have h3:q.waits.length≤1000000:=by unfold BA Bq at h;omega
 refine Ac.go f109 ?_;unfold f109;refine gO ?_;refine Ab (f98_ok q p h2 h3) ?_;cases hw:(Aj q p).isSome
 ·simp(disch:=omega)only[go_sem,hw];refine Ab (f163_ok q p h1) ?_;refine gO ?_;refine Ab (f162_ok (Ak q.holds p)) ?_;refine gO ?_;refine Ap _ ?_;exact wb (by simp[LF,hw])
 ·simp(disch:=omega)only[go_sem,hw];refine Ap _ ?_;exact wb (by simp[LF,hw])
theorem f164_ok(q:Queue)(h1:q.holds.length≤1000000)(h2:q.convs.length≤1000000)(h3:q.waits.length≤1000000):Ac C0 164 [.agg q.c] [] (.agg q.c) []:=by
 refine Ac.go f164 ?_;unfold f164;refine gO ?_;refine CT ⟨[],[],[384,704,1024]⟩ _ ?_;simp(disch:=omega)only[go_sem,AB]
end Go.Rd
