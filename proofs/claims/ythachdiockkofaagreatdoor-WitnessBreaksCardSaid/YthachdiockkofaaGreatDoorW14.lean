/- part 14 of the proof -/
import Derived.Test.YthachdiockkofaaGreatDoorW13
set_option linter.all false
open Go Go.Abs Go.Proofs
set_option maxRecDepth 100000
namespace Go.Rd
set_option maxHeartbeats 8000000
open List (filter_sublist length_cons length_filter_le length_map length_take map_nil map_set mem_append mem_cons mem_filter mem_map pairwise_cons take_add_one take_length)
open Bool (and_eq_true)
open Option (isSome_some)
open Nat (le_trans)
open Tryz
theorem Vf{s s':List Bool}{m:Int}(h:∀ k,s'.getD k false=true→s.getD k false=true)(hs:CJ s m=true):CJ s' m=true:=by
 unfold CJ at *;rw[List.all_eq_true]at *;intro k hk;have:=hs k hk;cases h1:s'.getD k false
 ·rfl
 ·rw[h k h1]at this;simpa using this
theorem F0(s:List Bool)(i k:Nat):(s.set i true).getD k false=(if i=k∧i<s.length then true else s.getD k false):=by
 simp only[List.getD_eq_getElem?_getD,List.getElem?_set]
 by_cases h:i=k
 ·subst h
  by_cases h2:i<s.length
  ·simp[h2]
  ·simp[h2]
 ·simp[h]
theorem SY{r:Res}{l' l:List Amt}(hsub:l'.Sublist l):∀ {s s':Int} {seen seen':List Bool},s'≤s→seen'.length=seen.length→(∀ k,seen'.getD k false=true→seen.getD k false=true)→Bl r l s seen=true→Bl r l' s' seen'=true:=by
 induction hsub with
 | slnil=>intros;rfl
 | cons a hsub ih =>
  intro s s' seen seen' hs hlen hk h;simp only[Bl,and_eq_true]at h;obtain⟨⟨h1,h2⟩,h3⟩:=h;have hu:=It h1;split at h3
  ·exact ih (by omega) hlen hk h3
  ·rw[and_eq_true]at h3;refine ih (by omega) (by simpa using hlen) (fun k hk'=>?_) h3.2;rw[F0];split
   ·rfl
   ·exact hk k hk'
 | cons_cons a hsub ih =>
  intro s s' seen seen' hs hlen hk h;simp only[Bl,and_eq_true,Bool.not_eq_true',decide_eq_false_iff_not]at h ⊢;obtain⟨⟨h1,h2⟩,h3⟩:=h;refine⟨⟨h1,by omega⟩,?_⟩;split at h3
  ·rename_i hm;rw[if_pos hm];exact ih (by omega) hlen hk h3
  ·rename_i hm;rw[if_neg hm];rw[and_eq_true]at h3 ⊢;refine⟨Vf hk h3.1,ih (by omega) (by simpa using hlen) (fun k hk'=>?_) h3.2⟩;rw[F0]at hk' ⊢;split at hk'
   ·rename_i hc;rw[if_pos ⟨hc.1,by omega⟩]
   ·split
    ·rfl
    ·exact hk k hk'
theorem VM{r:Res}{l' l:List Amt}(hsub:l'.Sublist l)(h:r.compat l=true):r.compat l'=true:=by
 simp only[Res.compat,and_eq_true]at *;exact⟨h.1,SY hsub (Int.le_refl _) rfl (fun _ h=>h) h.2⟩
theorem Ip{r:Res}{l' l:List AO}(hsub:l'.Sublist l)(h:Ba r l=true):Ba r l'=true:=by
 rw[CW]at *;obtain⟨h1,h2,h3,h4,h5⟩:=h;exact⟨h1,le_trans hsub.length_le h2,fun x hx=>h3 x (hsub.subset hx),h4.sublist hsub,VM (hsub.map _) h5⟩
theorem FQ(l:List AO)(p:Ae):BX l p ⟨0,0⟩=AK l p:=by simp[BX,Amt.zero]
theorem Jk{q:Queue}(h:Sound q)(p:Ae):Sound (B3 q p):=by
 have hd:(AK q.holds p).length≤q.holds.length:=length_filter_le _ _;have hw:=BN q.waits p;have hc:=BN q.An p;refine⟨h.res,?_,?_,?_,h.gen⟩
 ·simp only[B3,FQ];exact Ip filter_sublist h.holds
 ·have:=(BK q).1 h.An;rw[BK];simp only[B3,FQ];refine⟨by omega,this.2.1.sublist filter_sublist,fun w hw=>?_⟩;simp only[Bu,mem_filter,decide_eq_true_eq]at hw;rw[N3 hw.2];exact this.2.2 w hw.1
 ·have:=(Bz q).1 h.waits;rw[Bz];obtain⟨a,b,c⟩:=this;rw[Cv]at a;simp only[B3,FQ,Cv];refine⟨⟨by omega,a.2.1.sublist filter_sublist,fun w hw=>?_⟩,by omega,fun w hw=>?_⟩
  ·simp only[Bu,mem_filter]at hw;exact a.2.2 w hw.1
  ·simp only[Bu,mem_filter,decide_eq_true_eq]at hw;rw[N3 hw.2];exact c w hw.1
theorem LD{q:Queue}{w:AS}(h:DP q.res q.holds w.proc w.amt=true):q.res.fits w.amt=true∧w.proc.ok=true∧Ba q.res (BX q.holds w.proc w.amt)=true:=by
 simp only[DP,and_eq_true]at h;exact⟨h.1.2,h.1.1.2,h.2⟩
theorem LH{q:Queue}{w:AS}(h:Sound q)(hh:Bj q=some w)(hr:DP q.res q.holds w.proc w.amt=true):Sound (CI q w):=by
 obtain⟨r1,r2,r3⟩:=LD hr;have hcv:=(BK q).1 h.An;have hwt:=(Bz q).1 h.waits;obtain⟨a,b,c⟩:=hwt;rw[Cv]at a;cases hc:q.An with
 | cons w' l =>
  have hw':w'=w:=by simp[Bj,hc]at hh;exact hh
  subst hw';have hp:CI q w' = { q with holds:=BX q.holds w'.proc w'.amt,An:=l }:=by unfold CI;simp only[hc]
  rw[hp];have hu:=hcv.2.1;rw[hc]at hu;have hu':=pairwise_cons.1 hu;have hheld:=(hcv.2.2 w' (by rw[hc];simp)).1;refine⟨h.res,r3,?_,?_,h.gen⟩
  ·rw[BK];have:=hcv.1;rw[hc]at this;simp only[length_cons]at this;refine⟨by simp;omega,hu'.2,fun x hx=>?_⟩;have hne:x.proc≠w'.proc:=fun e=>hu'.1 x hx e.symm
   simp only[F1 hne];exact hcv.2.2 x (by rw[hc];simp[hx])
  ·rw[Bz];simp only[Cv];refine⟨a,?_,fun x hx=>?_⟩
   ·have h1:=Lh hheld;have h2:=Ny (l:=q.holds) (p:=w'.proc) (a:=w'.amt);omega
   ·have hx':=c x hx;have hne:x.proc≠w'.proc:=fun e=>by rw[e,hheld]at hx';exact absurd hx'.2 (by simp)
    rw[F1 hne];exact hx'
 | nil =>
  cases hw:q.waits with
  | nil=>simp[Bj,hc,hw]at hh
  | cons w' l =>
   have hw':w'=w:=by simp[Bj,hc,hw]at hh;exact hh
   subst hw';have hp:CI q w' = { q with holds:=BX q.holds w'.proc w'.amt,waits:=l }:=by unfold CI;simp only[hc,hw];rfl
   rw[hp];rw[hw]at a b;have hu':=pairwise_cons.1 a.2.1;simp only[length_cons]at a b;refine⟨h.res,r3,?_,?_,h.gen⟩
   ·rw[BK];simp[hc,Q2]
   ·rw[Bz];simp only[Cv];refine⟨⟨by omega,hu'.2,fun x hx=>a.2.2 x (by simp[hx])⟩,?_,fun x hx=>?_⟩
    ·have h2:=Ny (l:=q.holds) (p:=w'.proc) (a:=w'.amt);have h3:(AK q.holds w'.proc).length≤q.holds.length:=length_filter_le _ _;omega
    ·have hne:x.proc≠w'.proc:=fun e=>hu'.1 x hx e.symm
     rw[F1 hne];exact c x (by rw[hw];simp[hx])
def Ji(q:Queue):Prop:=∀ w,Bj q=some w→DP q.res q.holds w.proc w.amt=false
theorem C9(q:Queue):valid q=true↔Sound q∧Ji q:=by
 unfold valid Ji;rw[and_eq_true,GD];cases h:Bj q<;>simp
theorem Nn(q:Queue)(w:AS):(CI q w).res=q.res∧(CI q w).gen=q.gen:=by unfold CI;split<;>exact⟨rfl,rfl⟩
theorem Hp{P:Queue→Prop}(hP:∀ q w,P q→Bj q=some w→DP q.res q.holds w.proc w.amt=true→P (CI q w)):∀ (n:Nat) (q:Queue),BQ q=n→P q→P (B1 q).1∧Ji (B1 q).1
 | n,q,hn,hq=>by
  rw[Kf];cases hh:Bj q with
  |none=>exact⟨hq,fun w hw=>by simp[hh]at hw⟩
  |some w =>
   simp only;cases hr:DP q.res q.holds w.proc w.amt
   ·exact⟨hq,fun w' hw'=>by simp[hh]at hw';subst hw';exact hr⟩
   ·have hs:=HE hh;exact Hp hP (BQ (CI q w)) (CI q w) rfl (hP q w hq hh hr)
termination_by n q hn=>BQ q
decreasing_by simp_wf;have:=HE hh;omega
theorem Sv{q:Queue}(h:Sound q):Sound (B1 q).1∧Ji (B1 q).1:=Hp (fun _ _ h hh hr=>LH h hh hr) _ q rfl h
theorem Pq(q:Queue):(B1 q).1.res=q.res∧(B1 q).1.gen=q.gen:=(Hp (P:=fun x=>x.res=q.res∧x.gen=q.gen) (fun x w h _ _=>by rw[(Nn x w).1,(Nn x w).2];exact h) _ q rfl ⟨rfl,rfl⟩).1
theorem aJ(q:Queue):BC (B1 q).1≤BC q:=(Hp (P:=fun x=>BC x≤BC q) (fun x w h hh _=>le_trans (TL hh) h) _ q rfl (Nat.le_refl _)).1
theorem SB{q:Queue}(h:Sound q∧Ji q){g:Int}(hg:0≤g∧g≤1073741824):Sound { q with gen:=g }∧Ji { q with gen:=g }:=by
 refine⟨⟨h.1.res,h.1.holds,?_,?_,hg⟩,fun w hw=>h.2 w hw⟩
 ·rw[BK];exact(BK q).1 h.1.An
 ·rw[Bz];exact(Bz q).1 h.1.waits
theorem Ow{q:Queue}(h:valid q=true)(p:Ae):valid (Cd q p)=true:=by
 unfold Cd;split
 ·rw[C9]at h ⊢;have h1:=Sv (Jk h.1 p);exact SB h1 h.1.gen
 ·exact h
theorem Oo(q:Queue)(p:Ae):(Cd q p).res=q.res:=by
 unfold Cd;split
 ·exact(Pq (B3 q p)).1
 ·rfl
theorem WL(q:Queue)(p:Ae):BC (B3 q p)≤BC q:=by
 have hd:(AK q.holds p).length≤q.holds.length:=length_filter_le _ _;have hw:=BN q.waits p;have hc:=BN q.An p;unfold BC BQ;simp only[B3,FQ];omega
theorem Yj(q:Queue)(p:Ae):BC (Cd q p)≤BC q:=by
 unfold Cd;split
 ·exact le_trans (aJ (B3 q p)) (WL q p)
 ·exact Nat.le_refl _
def inQ(q:Queue)(x:Ae):Prop:=(∃ h∈q.holds,h.proc=x)∨(∃ w∈q.An,w.proc=x)∨(∃ w∈q.waits,w.proc=x)
theorem Db(q:Queue)(x:Ae):x∈Br q↔inQ q x:=by
 unfold Br inQ;rw[HH];simp[CY,Bt,or_and_right,exists_or]
theorem Ls{l:List AO}{p:Ae}(h:(AB l p).zero=false):∃ x∈l,x.proc=p:=by
 unfold AB at h;cases hf:l.find? (fun h=>decide (h.proc=p)) with
 |none=>rw[hf]at h;simp[Amt.zero]at h
 |some x=>exact⟨x,List.mem_of_find?_eq_some hf,by simpa using List.find?_some hf⟩
theorem cQ{q:Queue}{w:AS}(hh:Bj q=some w)(hr:DP q.res q.holds w.proc w.amt=true)(x:Ae):inQ (CI q w) x↔inQ q x:=by
 have hz:=Hv (LD hr).1;have hset:(∃ h∈BX q.holds w.proc w.amt,h.proc=x)↔((∃ h∈q.holds,h.proc=x)∨x=w.proc):=by
  simp only[KQ hz];constructor
  ·rintro⟨h,(⟨h1,h2⟩|h1),h3⟩
   ·exact .inl ⟨h,h1,h3⟩
   ·subst h1;exact .inr h3.symm
  ·rintro(⟨h,h1,h2⟩|h1)
   ·by_cases e:h.proc=w.proc
    ·exact⟨⟨w.proc,w.amt⟩,.inr rfl,by rw[← e,h2]⟩
    ·exact⟨h,.inl ⟨h1,e⟩,h2⟩
   ·exact⟨⟨w.proc,w.amt⟩,.inr rfl,h1.symm⟩
 unfold inQ;cases hc:q.An with
 | cons w' l =>
  have hw':w'=w:=by simp[Bj,hc]at hh;exact hh
  subst hw';have hp:CI q w' = { q with holds:=BX q.holds w'.proc w'.amt,An:=l }:=by unfold CI;simp only[hc]
  rw[hp];simp only[hset,mem_cons,exists_eq_or_imp,or_and_right,exists_or];constructor
  ·rintro((h|h)|h|h)
   ·exact .inl h
   ·exact .inr (.inl (.inl ⟨w',rfl,h.symm⟩))
   ·exact .inr (.inl (.inr h))
   ·exact .inr (.inr h)
  ·rintro(h|(h|h)|h)
   ·exact .inl (.inl h)
   ·obtain⟨_,rfl,h⟩:=h;exact .inl (.inr h.symm)
   ·exact .inr (.inl h)
   ·exact .inr (.inr h)
 | nil =>
  cases hw:q.waits with
  | nil=>simp[Bj,hc,hw]at hh
  | cons w' l =>
   have hw':w'=w:=by simp[Bj,hc,hw]at hh;exact hh
   subst hw';have hp:CI q w' = { q with holds:=BX q.holds w'.proc w'.amt,waits:=l }:=by unfold CI;simp only[hc,hw];rfl
   rw[hp];simp only[hset,hc,mem_cons,exists_eq_or_imp,or_and_right,exists_or,List.not_mem_nil,false_and,exists_false,false_or];constructor
   ·rintro((h|h)|h)
    ·exact .inl h
    ·exact .inr (.inl ⟨w',rfl,h.symm⟩)
    ·exact .inr (.inr h)
   ·rintro(h|h|h)
    ·exact .inl (.inl h)
    ·obtain⟨_,rfl,h⟩:=h;exact .inl (.inr h.symm)
    ·exact .inr h
theorem Zp(q:Queue)(x:Ae):inQ (B1 q).1 x↔inQ q x :=
 (Hp (P:=fun y=>inQ y x↔inQ q x) (fun y w h hh hr=>(cQ hh hr x).trans h) _ q rfl Iff.rfl).1
theorem V1(q:Queue)(p x:Ae):inQ (B3 q p) x↔inQ q x∧x≠p:=by
 unfold inQ;simp only[B3,FQ,HG,Bu,mem_filter,decide_eq_true_eq];constructor
 ·rintro(⟨h,⟨h1,h2⟩,h3⟩|⟨h,⟨h1,h2⟩,h3⟩|⟨h,⟨h1,h2⟩,h3⟩)
  ·exact⟨.inl ⟨h,h1,h3⟩,by rw[← h3];exact h2⟩
  ·exact⟨.inr (.inl ⟨h,h1,h3⟩),by rw[← h3];exact h2⟩
  ·exact⟨.inr (.inr ⟨h,h1,h3⟩),by rw[← h3];exact h2⟩
 ·rintro⟨⟨h,h1,h3⟩|⟨h,h1,h3⟩|⟨h,h1,h3⟩,hne⟩
  ·exact .inl ⟨h,⟨h1,by rw[h3];exact hne⟩,h3⟩
  ·exact .inr (.inl ⟨h,⟨h1,by rw[h3];exact hne⟩,h3⟩)
  ·exact .inr (.inr ⟨h,⟨h1,by rw[h3];exact hne⟩,h3⟩)
theorem Zs{q:Queue}(hv:valid q=true)(p x:Ae):x∈Br (Cd q p)↔x∈Br q∧x≠p:=by
 by_cases hp:Be (Br q) p=true
 ·have e:Cd q p = { Fh (B3 q p) with gen:=q.gen }:=by simp[Cd,hv,hp]
  rw[Db,Db,e,← V1];exact Zp (B3 q p) x
 ·have e:Cd q p=q:=by simp[Cd,hp]
  rw[e];have:p∉Br q:=by simpa [Be]using hp
  exact⟨fun h=>⟨h,fun e=>this (e▸h)⟩,And.left⟩
def Cm(s:WS):Prop:=∀ q∈s.Aa,valid q=true
theorem Dc(s:WS)(x:Ae):x∈Ah s↔(∃ q∈s.Aa,x∈Br q)∨∃ n∈s.Ao,n.proc=x:=by
 unfold Ah AN Cp;rw[HH,mem_append,HH,List.mem_flatMap,mem_map]
theorem JP{s:WS}(h:Cm s)(p x:Ae):x∈Ah (BP s p)↔x∈Ah s∧x≠p:=by
 rw[Dc,Dc];simp only[BP,Jf,mem_map,mem_filter,decide_eq_true_eq];constructor
 ·rintro(⟨q',⟨q,hq,rfl⟩,hx⟩|⟨n,⟨hn,hne⟩,rfl⟩)
  ·rw[Zs (h q hq)]at hx;exact⟨.inl ⟨q,hq,hx.1⟩,hx.2⟩
  ·exact⟨.inr ⟨n,hn,rfl⟩,hne⟩
 ·rintro⟨⟨q,hq,hx⟩|⟨n,hn,rfl⟩,hne⟩
  ·exact .inl ⟨_,⟨q,hq,rfl⟩,(Zs (h q hq) p x).2 ⟨hx,hne⟩⟩
  ·exact .inr ⟨n,⟨hn,hne⟩,rfl⟩
theorem CE{s:WS}(h:Cm s)(p:Ae):Cm (BP s p):=by
 intro q' hq';simp only[BP,mem_map]at hq';obtain⟨q,hq,rfl⟩:=hq';exact Ow (h q hq) p
theorem JC{s:WS}(h:Few s)(p:Ae):Few (BP s p):=by
 refine⟨by simpa [BP]using h.nq,le_trans (length_filter_le _ _) h.nn,fun q' hq'=>?_⟩;simp only[BP,mem_map]at hq';obtain⟨q,hq,rfl⟩:=hq';exact le_trans (Yj q p) (h.aq q hq)
theorem LC{s:WS}(h:Cm s)(p:Ae):Ah (BP s p)=(Ah s).filter fun x=>decide (x≠p):=by
 refine MF (EC _) ?_ fun x=>?_
 ·exact List.Pairwise.sublist filter_sublist (EC _)
 ·rw[JP h];simp
theorem EG{s:WS}(h:Cm s){p:Ae}(hp:p∈Ah s):(Ah (BP s p)).length<(Ah s).length:=by
 rw[LC h,List.length_filter_lt_length_iff_exists];exact⟨p,hp,by simp⟩
theorem Ad.empty{C:Ctx}{f n:Nat}{xs:List AV}{o o':List (Nat × List AV)}{y:AV}(h:∀ a cap,Ad C f (.v (.slice a 0 cap)::xs) o y o'):Ad C f (.sl .no n []::xs) o y o':=by
 refine⟨(h none 0).1,fun g w us hg hv ho=>?_⟩
 match us,hv with
 | u::us,hv =>
  simp only[VRs,VR,PR]at hv;obtain⟨⟨_,a,cap,hu,_⟩,hv2⟩:=hv;refine(h a cap).2 g w (u::us) hg ?_ ho;simp only[VRs,VR];exact⟨by simpa using hu,hv2⟩
 |[],hv=>simp[VRs]at hv
theorem f127_ok(l:List AO)(hl:l.length≤1000000):Ad C0 127 [AH l] [] (AH l) []:=by
 cases l with
 | nil =>
  refine Ad.empty fun a cap=>?_
  refine Ad.go f127 ?_;unfold f127;simp(disch:=omega)only[go_sem]
  repeat'(with_reducible refine And.intro (fun h=>?_) (fun h=>?_))
  ·exact AE _
  ·refine Cf ⟨[],[],[448]⟩ _ ?_;simp(disch:=omega)only[go_sem,AH]
 | cons x l =>
  refine Ad.go f127 ?_;unfold f127;have hb:l.length+1≤4294967296:=by simp at hl;omega
  simp(disch:=omega)only[go_sem,AH];refine Cf ⟨[],[],[448]⟩ _ ?_;simp(disch:=omega)only[go_sem,AH]
theorem f128_ok(l:List AS)(hl:l.length≤1000000):Ad C0 128 [A7 l] [] (A7 l) []:=by
 cases l with
 | nil =>
  refine Ad.empty fun a cap=>?_
  refine Ad.go f128 ?_;unfold f128;simp(disch:=omega)only[go_sem]
  repeat'(with_reducible refine And.intro (fun h=>?_) (fun h=>?_))
  ·exact AE _
  ·refine Cf ⟨[],[],[448]⟩ _ ?_;simp(disch:=omega)only[go_sem,A7]
 | cons x l =>
  refine Ad.go f128 ?_;unfold f128;have hb:l.length+1≤4294967296:=by simp at hl;omega
  simp(disch:=omega)only[go_sem,A7];refine Cf ⟨[],[],[448]⟩ _ ?_;simp(disch:=omega)only[go_sem,A7]
def Eg(l:List Ae)(p:Ae):List Ae:=l.filter fun x=>decide (x≠p)
def BH(s:WS)(p:Ae):Bool:=match s.Ao.find? (fun n=>decide (n.proc=p)) with
 |some n=>DR n.expr (CU s n)
 |none=>true
theorem f135_ok(s:WS)(p:Ae)(h:Few s):Ad C0 135 [.agg s.c,.agg p.c] [] (B (BH s p)) []:=by
 have hn:=h.nn;refine Ad.go f135 ?_;unfold f135;refine gO ?_;refine Ab (α:=Nat) (fun i=>⟨[(10,I i),(9,I s.Ao.length),(8,DU s.Ao),(2,.ptr 128 0),(3,.ptr 192 0)],[(128,s.c),(192,p.c)]⟩) (fun i=>i≤(s.Ao).length∧(s.Ao.take i).find? (fun n=>decide (n.proc=p))=none) (fun i=>(s.Ao).length-i) 0 ⟨by omega,rfl⟩ ?_ ?_
 ·exact BB
 rintro i ⟨hi,hP⟩ J hJ;refine gO ?_;refine ⟨fun hlt=>?_,fun hge=>?_⟩;rotate_left;have hil:i=(s.Ao).length:=by simp at hge;omega
 rotate_left;obtain⟨b,hb⟩:∃ b,(s.Ao)[i]?=some b:=⟨_,gE (by simp at hlt;omega)⟩;have hbm:=mG hb;simp(disch:=omega)only[go_sem,gm,hb]
 ·refine Ac (f61_ok b.proc p) ?_;refine gO ?_;refine And.intro (fun hh=>?_) (fun hh=>?_)
  ·have e:BH s p=DR b.expr (CU s b):=by unfold BH;rw[GI hP hb (by simpa using hh)]
   refine Aq 5 [([],[6]),([],[19]),([],[2]),([],[6]),([],[21,22])] fol ?_;refine gO ?_;refine Ar (f210_ok s b h) ?_;refine gO ?_;refine Ai (f209_ok b.expr (CU s b)) (by simp(disch:=omega)only[go_sem,Expr.By]) rfl ?_;simp(disch:=omega)only[go_sem,e];exact AE _
  ·refine hJ _ (i+1) ⟨by simp at hlt;omega,(by rw[BS hP hb];simp at hh;simp[hh])⟩ (by simp at hlt;omega) AR
 ·subst hil;rw[take_length]at hP;have e:BH s p=true:=by unfold BH;rw[hP]
  simp(disch:=omega)only[go_sem,e];exact AE _
def BT(s:WS):List Ae:=(Ah s).filter fun p=>BH s p
theorem Dy{s:WS}(h:Few s):(Ah s).length≤20000:=by
 have h1:=NR (AN s.Aa++Cp s.Ao);have h2:=KZ h.aq;have h3:=h.nq;have h4:=h.nn;unfold Ah;simp only[List.length_append,Cp,length_map]at h1;unfold Cp;omega
theorem f77_ok(s:WS)(h:Few s):Ad C0 77 [.agg s.c] [] (Ax (BT s)) []:=by
 have hl:=Dy h;refine Ad.go f77 ?_;unfold f77;refine gO ?_;refine Ac (f73_ok s h) ?_;refine gO ?_;refine Ab (α:=Nat) (fun i=>⟨[(9,I i),(8,I (Ah s).length),(7,Ax (Ah s)),(1,.ptr 64 0),(3,.sl (.own 1216 0) 3 ((((Ah s).take i).filter fun p=>BH s p).map Ae.c))],[(64,s.c)]⟩) (fun i=>i≤((Ah s)).length∧True) (fun i=>((Ah s)).length-i) 0 ⟨by omega,trivial⟩ ?_ ?_
 ·exact BB
 rintro i ⟨hi,hP⟩ J hJ;refine gO ?_;refine ⟨fun hlt=>?_,fun hge=>?_⟩;rotate_left;have hil:i=((Ah s)).length:=by simp at hge;omega
 rotate_left;obtain⟨b,hb⟩:∃ b,((Ah s))[i]?=some b:=⟨_,gE (by simp at hlt;omega)⟩;have hbm:=mG hb;simp(disch:=omega)only[go_sem,gm,hb]
 ·have hbd:(((Ah s).take i).filter fun p=>BH s p).length+1≤4294967296:=by
   have:(((Ah s).take i).filter fun p=>BH s p).length≤((Ah s).take i).length:=length_filter_le _ _;rw[length_take]at this;omega
  refine Ac (f135_ok s b h) ?_;refine gO ?_;refine And.intro (fun hh=>?_) (fun hh=>?_)
  ·refine hJ _ (i+1) ⟨by simp at hlt;omega,trivial⟩ (by simp at hlt;omega) (Imp.Am ?_ gI);refine gO ?_;exact .sl (by simp[take_add_one,hb,hh,Ae.c])
  ·refine hJ _ (i+1) ⟨by simp at hlt;omega,trivial⟩ (by simp at hlt;omega) (Imp.Am ?_ gI);refine gO ?_;exact .sl (by simp[take_add_one,hb,hh])
 ·subst hil;simp(disch:=omega)only[go_sem,take_length];refine Cf ⟨[],[],[1216]⟩ _ ?_;simp(disch:=omega)only[go_sem,BT]
def BY(s:WS)(l:List Ae):WS:=(Ah s).foldl (fun x p=>if Be l p then x else BP x p) s
theorem f62_ok(s:WS)(l:List Ae)(h:Few s)(hl:l.length≤1000000):Ad C0 62 [.agg s.c,Ax l] [] (.agg (BY s l).c) []:=by
 have hpl:=Dy h;refine Ad.go f62 ?_;unfold f62;refine gO ?_;refine Ac (f73_ok s h) ?_;refine gO ?_;refine Ab (α:=Nat) (fun i=>⟨[(10,I i),(9,I (Ah s).length),(8,Ax (Ah s)),(2,.ptr 128 0),(1,Ax l),(4,.ptr 256 0)],[(128,(((Ah s).take i).foldl (fun x p=>if Be l p then x else BP x p) s).c),(256,wsz)]⟩) (fun i=>i≤((Ah s)).length∧Few (((Ah s).take i).foldl (fun x p=>if Be l p then x else BP x p) s)) (fun i=>((Ah s)).length-i) 0 ⟨by omega,h⟩ ?_ ?_
 ·exact BB
 rintro i ⟨hi,hP⟩ J hJ;refine gO ?_;refine ⟨fun hlt=>?_,fun hge=>?_⟩;rotate_left;have hil:i=((Ah s)).length:=by simp at hge;omega
 rotate_left;obtain⟨b,hb⟩:∃ b,((Ah s))[i]?=some b:=⟨_,gE (by simp at hlt;omega)⟩;have hbm:=mG hb;simp(disch:=omega)only[go_sem,gm,hb]
 ·have e:((Ah s).take (i+1)).foldl (fun x p=>if Be l p then x else BP x p) s=if Be l b then ((Ah s).take i).foldl (fun x p=>if Be l p then x else BP x p) s else BP (((Ah s).take i).foldl (fun x p=>if Be l p then x else BP x p) s) b:=by
   rw[take_add_one,hb,Option.toList_some,List.foldl_append];rfl
  generalize ((Ah s).take i).foldl (fun x p=>if Be l p then x else BP x p) s=t at hP e;refine Ac (f59_ok l b hl) ?_;cases hh:Be l b
  ·rw[if_neg (by simp[hh])]at e;simp(disch:=omega)only[go_sem,Bool.not_false];refine Ac (f74_ok t b hP) ?_;refine gO ?_;refine hJ _ (i+1) ⟨by simp at hlt;omega,by rw[e];exact JC hP b⟩ (by simp at hlt;omega) (Imp.Am gI ?_);rw[e];simp(disch:=omega)only[go_sem]
  ·rw[if_pos hh]at e;simp(disch:=omega)only[go_sem,Bool.not_true];refine hJ _ (i+1) ⟨by simp at hlt;omega,by rw[e];exact hP⟩ (by simp at hlt;omega) (Imp.Am gI ?_);rw[e];simp(disch:=omega)only[go_sem]
 ·subst hil;rw[take_length]at hP ⊢;refine B8 _ ?_;simp(disch:=omega)only[go_sem,BY]
theorem HW{s:WS}{p:Ae}(h:p∈BT s):p∈Ah s:=(mem_filter.1 h).1
def Pk:Nat→WS→List Ae × List Ae
 | 0,s=>([],Ah s)
 | n+1,s=>match BT s with
  |[]=>([],Ah s)
  | p::_=>(p::(Pk n (BP s p)).1,(Pk n (BP s p)).2)
def DW(s:WS):List Ae × List Ae:=Pk (Ah s).length s
theorem Xa:∀ (n m:Nat) (s:WS),Cm s→(Ah s).length≤n→(Ah s).length≤m→Pk n s=Pk m s
 | 0,0,_,_,_,_=>rfl
 | 0,m+1,s,_,h,_=>by
  have e:BT s=[]:=by unfold BT;rw[List.eq_nil_of_length_eq_zero (by omega:(Ah s).length=0)];rfl
  simp[Pk,e]
 | n+1,0,s,_,_,h=>by
  have e:BT s=[]:=by unfold BT;rw[List.eq_nil_of_length_eq_zero (by omega:(Ah s).length=0)];rfl
  simp[Pk,e]
 | n+1,m+1,s,hg,h1,h2=>by
  simp only[Pk];cases hf:BT s with
  | nil=>rfl
  | cons p l =>
   have hd:=EG hg (HW (p:=p) (by rw[hf];simp));simp only;rw[Xa n m (BP s p) (CE hg p) (by omega) (by omega)]
theorem Nr{s:WS}(hg:Cm s):DW s=match BT s with
 |[]=>([],Ah s)
 | p::_=>(p::(DW (BP s p)).1,(DW (BP s p)).2):=by
 unfold DW;cases hf:BT s with
 | nil =>
  cases (Ah s).length<;>simp[Pk,hf]
 | cons p l =>
  have hd:=EG hg (HW (p:=p) (by rw[hf];simp));rw[Xa _ ((Ah (BP s p)).length+1) s hg (Nat.le_refl _) (by
   have:=LC hg p;have hm:=HW (p:=p) (s:=s) (by rw[hf];simp);have hnd:=HA (EC (AN s.Aa++Cp s.Ao));rw[this];have:(Ah s).filter (fun x=>decide (x≠p))=(Ah s).erase p:=by
    have hnd':(Ah s).Nodup:=hnd;rw[List.Nodup.erase_eq_filter hnd'];refine List.filter_congr fun x _=>?_
    by_cases hx:x=p<;>simp[hx]
   rw[this,List.length_erase_of_mem hm];omega)]
  simp only[Pk,hf]
theorem f55_ok(s:WS)(h:Few s)(hg:Cm s):Ad C0 55 [.agg s.c] [] (.tup [Ax (DW s).1,Ax (DW s).2]) []:=by
 refine Ad.go f55 ?_;unfold f55;refine gO ?_;refine Ac (f77_ok s h) ?_;refine gO ?_;refine Ab (α:=WS × List Ae) (fun x=>⟨[(5,Ax (BT x.1)),(4,.sl (.own 1472 0) 3 (x.2.map Ae.c)),(1,.ptr 64 0)],[(64,x.1.c)]⟩) (fun x=>Few x.1∧Cm x.1∧x.2.length+(Ah x.1).length≤1000000∧x.2++(DW x.1).1=(DW s).1∧(DW x.1).2=(DW s).2) (fun x=>(Ah x.1).length) (s,[]) ⟨h,hg,by have:=Dy h;simp;omega,rfl,rfl⟩ ?_ ?_
 ·exact Imp.Am gI gI
 rintro⟨t,gs⟩ ⟨i1,i2,i3,i4,i5⟩ J hJ
 replace i1:Few t:=i1
 replace i2:Cm t:=i2
 replace i3:gs.length+(Ah t).length≤1000000:=i3
 replace i4:gs++(DW t).1=(DW s).1:=i4
 replace i5:(DW t).2=(DW s).2:=i5
 rw[Nr i2]at i4 i5;cases hf:BT t with
 | nil =>
  rw[hf]at i4 i5;have e0:(0<((0:Nat):Int))=False:=by simp
  simp(disch:=omega)only[go_sem,hf,map_nil,List.length_nil,e0,decide_false];refine Ac (f73_ok t i1) ?_;refine gO ?_;refine Cf ⟨[],[],[1472]⟩ _ ?_;refine gO ?_;simp only[List.append_nil]at i4 i5;exact .eq (by rw[← i4,← i5])
 | cons p l =>
  simp only[hf]at i4 i5;have hm:p∈Ah t:=HW (by rw[hf];simp);have hd:=EG i2 hm;have e0:(0<(l.length:Int)+1)=True:=eq_true (by omega);have hbd:gs.length+1≤4294967296:=by omega
  simp(disch:=omega)only[go_sem,hf,Ax,e0];refine Aq 4 [([],[1]),([],[5]),([],[14]),([],[15])] fol ?_;simp(disch:=omega)only[go_sem]
  first|(refine Ac (f74_ok t p i1) ?_)|(refine Ar (f74_ok t p i1) ?_)
  refine gO ?_;have hfew:=JC i1 p;refine Ac (f77_ok (BP t p) hfew) ?_;refine gO ?_;refine hJ _ (BP t p,gs++[p]) ⟨hfew,CE i2 p,by simp;omega,by rw[← i4];simp,i5⟩ hd (Imp.Am ?_ ?_)
  ·simp(disch:=omega)only[go_sem];exact .sl (by simp[Ae.c])
  ·exact gI
def Ux:Nat→Expr→Prop
 | 0,_=>True
 | N+1,e=>e.kids.length≤24∧∀ k∈e.kids,Ux N k
theorem UJ{lv:Int}:∀ (l:List Expr) (n d:Int),(∀ e∈l,∀ n,n+1≤(meas e (lv+1) n).2)→n≤(EU l lv n d).2
 |[],n,d,_=>by simp[EU]
 | e::l,n,d,h=>by
  have h1:=h e (by simp) n;simp only[EU];split
  ·simp only;omega
  ·have:=UJ l (meas e (lv+1) n).2 (max d (meas e (lv+1) n).1) fun e' he=>h e' (by simp[he])
   omega
theorem Py:∀ (N:Nat) (e:Expr),SizeOf.sizeOf e<N→∀ lv n:Int,n+1≤(meas e lv n).2
 | 0,_,h,_,_=>by omega
 | N+1,e,h,lv,n=>by
  rw[I9];split
  ·simp
  ·exact UJ _ _ _ fun e' he n'=>Py N e' (by have:=CX he;omega) _ _
theorem QA{lv:Int}:∀ (l:List Expr) (n d:Int),(EU l lv n d).1≠0→0≤n→n≤24→(∀ e∈l,∀ n,0≤n→n≤24→(meas e (lv+1) n).1≠0→n+1≤(meas e (lv+1) n).2∧(meas e (lv+1) n).2≤24) →
 n+l.length≤24∧∀ e∈l,∃ n,0≤n∧n≤24∧(meas e (lv+1) n).1≠0
 |[],n,d,_,h0,h1,_=>by simp;omega
 | e::l,n,d,h,h0,h1,hk=>by
  simp only[EU]at h;split at h
  ·simp at h
  ·rename_i hne;have he:=hk e (by simp) n h0 h1 hne;have:=QA l _ _ h (by omega) he.2 fun e' he'=>hk e' (by simp[he'])
   refine⟨by simp only[length_cons];omega,fun e' he'=>?_⟩;rcases mem_cons.1 he' with rfl|he'
   ·exact⟨n,h0,h1,hne⟩
   ·exact this.2 e' he'
theorem Sa:∀ (N:Nat) (e:Expr) (lv n:Int),1≤lv→lv≤5→0≤n→n≤24→(meas e lv n).1≠0→Ux N e
 | 0,_,_,_,_,_,_,_,_=>trivial
 | N+1,e,lv,n,h1,h2,h3,h4,h=>by
  rw[I9]at h;split at h
  ·simp at h
  ·rename_i hc;have:=QA e.kids (n+1) 0 h (by omega) (by omega) fun e' _ n' k1 k2 k3=>⟨Py _ e' (Nat.lt_succ_self _) _ _,(Ly _ e' (Nat.lt_succ_self _) (lv+1) n' (by omega) (by omega) k1 k2).2.2.2.2 k3⟩
   refine⟨by omega,fun k hk=>?_⟩;obtain⟨n',k1,k2,k3⟩:=this.2 k hk;exact Sa N k (lv+1) n' (by omega) (by omega) k1 k2 k3
theorem OR{e:Expr}(h:A4 e=true)(N:Nat):Ux N e:=by
 simp only[A4,and_eq_true,Bool.not_eq_true',beq_eq_false_iff_ne]at h;exact Sa N e 1 0 (by omega) (by omega) (by omega) (by omega) h.1
theorem f129_ok:∀ (N:Nat) (e:Expr),SizeOf.sizeOf e<N→Ux N e→Ad C0 129 [.agg e.c] [] (.agg e.c) []
 | 0,_,h,_=>by omega
 | N+1,e,h,hk=>by
  have hk1:=hk.1;refine Ad.lens f129 fun hlen=>?_
  simp only[D9,lens,Expr.By,length_map,and_true,true_and]at hlen;refine Ad.go f129 ?_;unfold f129;refine gO ?_;refine Ab (α:=Nat) (fun i=>⟨[(9,I i),(8,I e.kids.length),(7,EJ e.kids),(1,.ptr 64 0),(2,.ptr 128 0),(3,.sl (.own 1088 0) 5 ((e.kids.take i).map Expr.c))],[(64,e.c),(128,(Expr.mk 0 a0 []).c)]⟩) (fun i=>i≤(e.kids).length∧True) (fun i=>(e.kids).length-i) 0 ⟨by omega,trivial⟩ ?_ ?_
  ·refine Imp.Am ?_ ?_
   all_goals(try simp(disch:=omega)only[go_sem])
   all_goals(try(repeat'(with_reducible apply And.intro)))
   all_goals(first|exact .AG (by omega)|exact .Az (by omega)|exact .sl (by simp[a0,Expr.By,Expr.k,Expr.atom,Expr.kids])|exact .int (by simp[a0,Expr.By,Expr.k,Expr.atom,Expr.kids])|exact .eq (by simp[a0,Expr.By,Expr.k,Expr.atom,Expr.kids]))
  rintro i ⟨hi,hP⟩ J hJ;refine gO ?_;refine ⟨fun hlt=>?_,fun hge=>?_⟩;rotate_left;have hil:i=(e.kids).length:=by simp at hge;omega
  rotate_left;obtain⟨b,hb⟩:∃ b,(e.kids)[i]?=some b:=⟨_,gE (by simp at hlt;omega)⟩;have hbm:=mG hb;simp(disch:=omega)only[go_sem,gm,hb]
  ·have hsz:=CX hbm;have hlt':i<e.kids.length:=by simp at hlt;omega
   have hbd:min i e.kids.length+1≤4294967296:=by omega
   refine Ac (f129_ok N b (by omega) (hk.2 b hbm)) ?_;simp(disch:=omega)only[go_sem,length_map,length_take];refine hJ _ (i+1) ⟨by omega,trivial⟩ (by omega) (Imp.Am ?_ ?_)
   ·simp(disch:=omega)only[go_sem];exact .sl (by simp[take_add_one,hb,Expr.By])
   ·simp(disch:=omega)only[go_sem,Expr.By]
  ·subst hil;simp(disch:=omega)only[go_sem,take_length];refine Cf ⟨[],[],[1088]⟩ _ ?_;simp(disch:=omega)only[go_sem,Expr.By]
def DM(a b:Bs):Bool:=Op.bytesLess a b
def n0:Need:=⟨p0,.mk 0 a0 [],0⟩
def B6(l:List Queue)(i:Nat)(q:Queue):Bool:=valid q&&(decide (i=0)||DM (l.getD (i-1) q0).res.name q.res.name)
def BZ(l:List Need)(i:Nat)(n:Need):Bool:=n.proc.ok&&decide (0≤n.gen)&&decide (n.gen≤1073741824)&&A4 n.expr&&(decide (i=0)||decide (Bo (l.getD (i-1) n0).proc n.proc<0))
def Ch(l:List Queue):Bool:=decide (l.length≤8)&&B2 (B6 l) l
def Fi(l:List Need):Bool:=decide (l.length≤8)&&B2 (BZ l) l
def AD(s:WS):Bool:=Ch s.Aa&&Fi s.Ao&&decide ((Ah s).length≤8)
theorem Bb{q:Queue}(h:BC q≤100):q.holds.length≤1000000∧q.An.length≤1000000∧q.waits.length≤1000000:=by
 unfold BC BQ at h;omega
theorem f54_ok(s:WS)(h:Few s):Ad C0 54 [.agg s.c] [] (B (AD s)) []:=by
 refine Ad.go f54 ?_;unfold f54
 by_cases hq:8<s.Aa.length
 ·have e1:(8<(s.Aa.length:Int))=True:=eq_true (by omega);have e:AD s=false:=by simp[AD,Ch];omega
  simp(disch:=omega)only[go_sem,e1];refine Ap _ ?_;exact wb (by simp[e])
 have e1:(8<(s.Aa.length:Int))=False:=eq_false (by omega)
 by_cases hn:8<s.Ao.length
 ·have e2:(8<(s.Ao.length:Int))=True:=eq_true (by omega);have e:AD s=false:=by simp[AD,Fi];omega
  simp(disch:=omega)only[go_sem,e1,e2,decide_false,decide_true];refine Ap _ ?_;exact wb (by simp[e])
 have e2:(8<(s.Ao.length:Int))=False:=eq_false (by omega);simp(disch:=omega)only[go_sem,e1,e2,decide_false];refine Ab (α:=Nat) (fun i=>⟨[(20,I i),(19,I s.Aa.length),(18,Ay s.Aa),(1,.ptr 64 0)],[(64,s.c)]⟩) (fun i=>i≤(s.Aa).length∧B2 (B6 s.Aa) (s.Aa.take i)=true) (fun i=>(s.Aa).length-i) 0 ⟨by omega,rfl⟩ ?_ ?_
 ·exact BB
 rintro i ⟨hi,hP⟩ J hJ;refine gO ?_;refine ⟨fun hlt=>?_,fun hge=>?_⟩;rotate_left;have hil:i=(s.Aa).length:=by simp at hge;omega
 rotate_left;obtain⟨b,hb⟩:∃ b,(s.Aa)[i]?=some b:=⟨_,gE (by simp at hlt;omega)⟩;have hbm:=mG hb;simp(disch:=omega)only[go_sem,gm,hb]
 ·have ha:=Bb (h.aq b hbm);have bad:B6 s.Aa i b=false→AD s=false:=fun h=>by simp only[AD,Ch,Bx hb h,Bool.and_false,Bool.false_and]
  have good:B6 s.Aa i b=true→B2 (B6 s.Aa) (s.Aa.take (i+1))=true:=fun h=>by rw[B7 hb,hP,h];rfl
  refine Aq 18 [([],[4]),([],[25]),([1],[26]),([1],[27]),([1],[3,28]),([1],[29,28]),([1],[30,28]),([1],[1,31]),([1],[32,31]),([1],[3,31]),([1],[34,31]),([1],[33,35,31]),([1],[36,31]),([1],[37,31]),([1],[38,31]),([1],[4,31]),([1],[40,31]),([1],[41,31])] fol ?_;simp(disch:=omega)only[go_sem]
  first|(refine Ac (f101_ok b ha.1 ha.2.2) ?_)|(refine Ar (f101_ok b ha.1 ha.2.2) ?_)
  cases hv:valid b
  ·simp(disch:=omega)only[go_sem];refine Ap _ ?_;exact wb (by rw[bad (by simp[B6,hv])])
  by_cases hi0:i=0
  ·subst hi0;refine gO ?_;refine hJ _ 1 ⟨by simp at hlt;omega,good (by simp[B6,hv])⟩ (by simp at hlt;omega) AR
  ·have hi1:(0<(i:Int))=True:=eq_true (by omega);have hi2:((i:Int)-1)=((i-1:Nat):Int):=by omega
   obtain⟨a,ha'⟩:∃ a,s.Aa[i-1]?=some a:=⟨_,gE (by simp at hlt;omega)⟩;have had:s.Aa.getD (i-1) q0=a:=by simp[List.getD,ha']
   simp(disch:=omega)only[go_sem,hi1,hi2,gm,ha'];refine And.intro (fun hh=>?_) (fun hh=>?_)
   ·refine Ap _ ?_;exact wb (by rw[bad (by simp only[B6,had,hv];simp[hi0];simpa [DM]using hh)])
   ·refine hJ _ (i+1) ⟨by simp at hlt;omega,good (by simp only[B6,had,hv];simp[hi0];simpa [DM]using hh)⟩ (by simp at hlt;omega) AR
 subst hil;rw[take_length]at hP;have hqs:Ch s.Aa=true:=by simp[Ch,hP];omega
 clear hJ;refine Ab (α:=Nat) (fun i=>⟨[(50,I i),(49,I s.Ao.length),(48,DU s.Ao),(1,.ptr 64 0)],[(64,s.c)]⟩) (fun i=>i≤(s.Ao).length∧B2 (BZ s.Ao) (s.Ao.take i)=true) (fun i=>(s.Ao).length-i) 0 ⟨by omega,rfl⟩ ?_ ?_
 ·exact BB
 rintro i ⟨hi,hP⟩ J hJ;refine gO ?_;refine ⟨fun hlt=>?_,fun hge=>?_⟩;rotate_left;have hil:i=(s.Ao).length:=by simp at hge;omega
 rotate_left;obtain⟨b,hb⟩:∃ b,(s.Ao)[i]?=some b:=⟨_,gE (by simp at hlt;omega)⟩;have hbm:=mG hb;simp(disch:=omega)only[go_sem,gm,hb]
 ·have bad:BZ s.Ao i b=false→AD s=false:=fun h=>by simp only[AD,Fi,Bx hb h,Bool.and_false,Bool.false_and]
  have good:BZ s.Ao i b=true→B2 (BZ s.Ao) (s.Ao.take (i+1))=true:=fun h=>by rw[B7 hb,hP,h];rfl
  refine Ac (f102_ok b.proc) ?_;cases hp:b.proc.ok
  ·simp(disch:=omega)only[go_sem];refine Ap _ ?_;exact wb (by rw[bad (by simp[BZ,hp])])
  by_cases hg1:b.gen<0
  ·have k1:(b.gen<0)=True:=eq_true hg1;simp(disch:=omega)only[go_sem,k1];refine Ap _ ?_;exact wb (by rw[bad (by simp[BZ];omega)])
  have k1:(b.gen<0)=False:=eq_false hg1
  by_cases hg2:1073741824<b.gen
  ·have k2:(1073741824<b.gen)=True:=eq_true hg2;simp(disch:=omega)only[go_sem,k1,k2,decide_false];refine Ap _ ?_;exact wb (by rw[bad (by simp[BZ];omega)])
  have k2:(1073741824<b.gen)=False:=eq_false hg2;have g1:decide (0≤b.gen)=true:=by simp;omega
  have g2:decide (b.gen≤1073741824)=true:=by simp;omega
  simp(disch:=omega)only[go_sem,k1,k2,decide_false];refine Ai (f103_ok b.expr) (by simp(disch:=omega)only[go_sem,Expr.By]) rfl ?_;cases he:A4 b.expr
  ·simp(disch:=omega)only[go_sem];refine Ap _ ?_;exact wb (by rw[bad (by simp[BZ,he])])
  refine gO ?_;refine Aq 12 [([],[5]),([],[75]),([],[76]),([],[1,77]),([],[78,77]),([],[5,77]),([],[80,77]),([],[79,81,77]),([],[82,77]),([],[83,77]),([],[6,77]),([],[85,77])] fol ?_
  by_cases hi0:i=0
  ·subst hi0;refine gO ?_;refine hJ _ 1 ⟨by simp at hlt;omega,good (by simp only[BZ,hp,g1,g2,he];rfl)⟩ (by simp at hlt;omega) AR
  ·have hi1:(0<(i:Int))=True:=eq_true (by omega);have hi2:((i:Int)-1)=((i-1:Nat):Int):=by omega
   obtain⟨a,ha'⟩:∃ a,s.Ao[i-1]?=some a:=⟨_,gE (by simp at hlt;omega)⟩;have had:s.Ao.getD (i-1) n0=a:=by simp[List.getD,ha']
   simp(disch:=omega)only[go_sem,hi1,hi2,gm,ha']
   first|(refine Ac (f61_ok a.proc b.proc) ?_)|(refine Ar (f61_ok a.proc b.proc) ?_)
   refine gO ?_
   by_cases hc:0≤Bo a.proc b.proc
   ·simp(disch:=omega)only[go_sem,hc];refine Ap _ ?_;exact wb (by rw[bad (by simp only[BZ,had];simp[hi0];omega)])
   ·simp(disch:=omega)only[go_sem,hc,decide_false];refine hJ _ (i+1) ⟨by simp at hlt;omega,good (by simp only[BZ,had,hp,g1,g2,he];simp;omega)⟩ (by simp at hlt;omega) AR
 ·subst hil;rw[take_length]at hP;have hns:Fi s.Ao=true:=by simp[Fi,hP];omega
  refine Ac (f73_ok s h) ?_;refine gO ?_;refine Ap _ ?_;exact wb (by simp only[AD,hqs,hns];simp;omega)
theorem Bh{s:WS}(h:AD s=true):Cm s:=by
 simp only[AD,Ch,and_eq_true,EB]at h;intro q hq;obtain⟨i,hi,he⟩:=List.getElem_of_mem hq;have:=h.1.1.2 i q (by rw[gE hi,he]);simp only[B6,and_eq_true]at this;exact this.1
def Jq(s:WS):Prop:=∀ n∈s.Ao,A4 n.expr=true
theorem JZ{s:WS}(h:AD s=true):Jq s:=by
 simp only[AD,Fi,and_eq_true,EB]at h;intro q hq;obtain⟨i,hi,he⟩:=List.getElem_of_mem hq;have:=h.1.2.2 i q (by rw[gE hi,he]);simp only[BZ,and_eq_true]at this;exact this.1.2
theorem XO{s:WS}(h:Jq s)(p:Ae):Jq (BP s p):=fun n hn=>h n (mem_filter.1 hn).1
theorem PB{P:WS→Prop}(hP:∀ s p,P s→P (BP s p)){s:WS}(l:List Ae)(h:P s):P (BY s l):=by
 unfold BY;have:∀ (ps:List Ae) (x:WS),P x→P (ps.foldl (fun x p=>if Be l p then x else BP x p) x):=by
  intro ps
  induction ps with
  | nil=>intro x hx;exact hx
  | cons p ps ih =>
   intro x hx;simp only[List.foldl_cons];split
   ·exact ih x hx
   ·exact ih _ (hP x p hx)
 exact this _ _ h
theorem Lp{s:WS}(h:Few s)(l:List Ae):Few (BY s l):=PB (P:=Few) (fun _ p h=>JC h p) l h
theorem Zm{s:WS}(h:Cm s)(l:List Ae):Cm (BY s l):=PB (P:=Cm) (fun _ p h=>CE h p) l h
theorem XP{s:WS}(h:Jq s)(l:List Ae):Jq (BY s l):=PB (P:=Jq) (fun _ p h=>XO h p) l h
theorem f72_ok(s:WS)(h:Few s)(he:Jq s):Ad C0 72 [.agg s.c] [] (.agg s.c) []:=by
 have hn1:=h.nq;have hn2:=h.nn;refine Ad.go f72 ?_;unfold f72;refine gO ?_;refine Ab (α:=Nat) (fun i=>⟨[(11,I i),(10,I s.Aa.length),(9,Ay s.Aa),(1,.ptr 64 0),(2,.ptr 128 0),(3,.ptr 192 0)],[(64,s.c),(128,wsz),(192,[.sl (.own 1984 0) 8 ((s.Aa.take i).map Queue.c),.v (.slice none 0 0)])]⟩) (fun i=>i≤(s.Aa).length∧True) (fun i=>(s.Aa).length-i) 0 ⟨by omega,trivial⟩ ?_ ?_
 ·exact BB
 rintro i ⟨hi,hP⟩ J hJ;refine gO ?_;refine ⟨fun hlt=>?_,fun hge=>?_⟩;rotate_left;have hil:i=(s.Aa).length:=by simp at hge;omega
 rotate_left;obtain⟨b,hb⟩:∃ b,(s.Aa)[i]?=some b:=⟨_,gE (by simp at hlt;omega)⟩;have hbm:=mG hb;simp(disch:=omega)only[go_sem,gm,hb]
 ·have ha:=Bb (h.aq b hbm);have hbd:min i s.Aa.length+1≤4294967296:=by omega
  refine Aq 10 [([],[5]),([],[15]),([],[16]),([],[5]),([],[18]),([2],[19]),([],[5]),([],[21]),([2,5],[22]),([2],[5])] fol ?_;simp(disch:=omega)only[go_sem]
  first|(refine Ac (f127_ok b.holds ha.1) ?_)|(refine Ar (f127_ok b.holds ha.1) ?_)
  simp(disch:=omega)only[go_sem]
  first|(refine Ac (f128_ok b.An ha.2.1) ?_)|(refine Ar (f128_ok b.An ha.2.1) ?_)
  simp(disch:=omega)only[go_sem]
  first|(refine Ac (f128_ok b.waits ha.2.2) ?_)|(refine Ar (f128_ok b.waits ha.2.2) ?_)
  simp(disch:=omega)only[go_sem,length_map,length_take];refine hJ _ (i+1) ⟨by simp at hlt;omega,trivial⟩ (by simp at hlt;omega) (Imp.Am gI ?_);refine gO ?_;exact .sl (by simp[take_add_one,hb,Queue.c])
 subst hil;rw[take_length];clear hJ;refine Ab (α:=Nat) (fun i=>⟨[(37,I i),(36,I s.Ao.length),(35,DU s.Ao),(1,.ptr 64 0),(2,.ptr 128 0),(3,.ptr 192 0)],[(64,s.c),(128,wsz),(192,[.sl (.own 1984 0) 8 (s.Aa.map Queue.c),.sl (.own 3136 0) 9 ((s.Ao.take i).map Need.c)])]⟩) (fun i=>i≤(s.Ao).length∧True) (fun i=>(s.Ao).length-i) 0 ⟨by omega,trivial⟩ ?_ ?_
 ·exact BB
 rintro i ⟨hi,hP⟩ J hJ;refine gO ?_;refine ⟨fun hlt=>?_,fun hge=>?_⟩;rotate_left;have hil:i=(s.Ao).length:=by simp at hge;omega
 rotate_left;obtain⟨b,hb⟩:∃ b,(s.Ao)[i]?=some b:=⟨_,gE (by simp at hlt;omega)⟩;have hbm:=mG hb;simp(disch:=omega)only[go_sem,gm,hb]
 ·have hbd:min i s.Ao.length+1≤4294967296:=by omega
  refine Ai (f129_ok _ b.expr (Nat.lt_succ_self _) (OR (he b hbm) _)) (by simp(disch:=omega)only[go_sem,Expr.By]) rfl ?_;simp(disch:=omega)only[go_sem,Expr.By,length_map,length_take];refine hJ _ (i+1) ⟨by simp at hlt;omega,trivial⟩ (by simp at hlt;omega) (Imp.Am gI ?_);refine gO ?_;exact .sl (by simp[take_add_one,hb,Need.c])
 ·subst hil;simp(disch:=omega)only[go_sem,take_length];refine Cf ⟨[],[],[1984,3136]⟩ _ ?_;simp(disch:=omega)only[go_sem]
def wsE:WS:=⟨[],[]⟩
def D5(s:WS):List Ae:=if AD s then BT s else []
theorem f36_ok(s:WS)(h:Few s):Ad C0 36 [.agg s.c] [] (Ax (D5 s)) []:=by
 refine Ad.go f36 ?_;unfold f36;refine gO ?_;refine Ac (f54_ok s h) ?_;cases hv:AD s
 ·simp(disch:=omega)only[go_sem];refine B8 _ ?_;simp(disch:=omega)only[go_sem,D5];simp only[D5,hv];exact .Az (by omega)
 ·simp(disch:=omega)only[go_sem];refine Ac (f77_ok s h) ?_;refine gO ?_;refine B8 _ ?_;simp(disch:=omega)only[go_sem,D5,hv]
def Bp(s:WS):List Ae × List Ae:=if AD s then DW s else ([],[])
theorem f19_ok(s:WS)(h:Few s):Ad C0 19 [.agg s.c] [] (.tup [Ax (Bp s).1,Ax (Bp s).2]) []:=by
 refine Ad.go f19 ?_;unfold f19;refine gO ?_;refine Ac (f54_ok s h) ?_;cases hv:AD s
 ·have e:Bp s=([],[]):=by simp[Bp,hv]
  simp(disch:=omega)only[go_sem,e];exact EL _
 ·have e:Bp s=DW s:=by simp[Bp,hv]
  simp(disch:=omega)only[go_sem,e];refine Ac (f55_ok s h (Bh hv)) ?_;refine gO ?_;exact AE _
theorem Ns{s:WS}(h:Few s)(hg:Cm s):(DW s).2.length≤20000:=by
 have key:∀ (n:Nat) (s:WS),Few s→(Pk n s).2.length≤20000:=by
  intro n
  induction n with
  | zero=>intro s h;exact Dy h
  | succ n ih =>
   intro s h;simp only[Pk];split
   ·exact Dy h
   ·exact ih _ (JC h _)
 exact key _ s h
theorem L2{s:WS}(h:Few s):(Bp s).2.length≤20000:=by
 unfold Bp;split
 ·rename_i hv;exact Ns h (Bh hv)
 ·simp
def AP(s:WS)(l:List Ae):WS × Int:=if AD s then (BY s l,0) else (wsE,2)
theorem f32_ok(s:WS)(l:List Ae)(h:Few s)(hl:l.length≤1000000):Ad C0 32 [.agg s.c,Ax l] [] (.tup [.agg (AP s l).1.c,I (AP s l).2]) []:=by
 refine Ad.go f32 ?_;unfold f32;refine gO ?_;refine Ac (f54_ok s h) ?_;cases hv:AD s
 ·have e:AP s l=(wsE,2):=by simp[AP,hv]
  simp(disch:=omega)only[go_sem,e,wsE];refine Ap _ ?_;refine .tup (Aj.AM ?_);simp(disch:=omega)only[go_sem]
  repeat'(with_reducible apply And.intro)
  all_goals(first|exact .Az (by omega)|exact .agg (Aj.AM gI))
 ·have e:AP s l=(BY s l,0):=by simp[AP,hv]
  simp(disch:=omega)only[go_sem,e];refine Ac (f62_ok s l h hl) ?_;refine gO ?_;refine Ac (f72_ok (BY s l) (Lp h l) (XP (JZ hv) l)) ?_;refine gO ?_;exact AE _
def BU(s:WS)(p:Ae)(set:List Ae)(q:Ae):List Ae:=if q=p∨Be set q=false then set else if Be (DW (BY s (Eg set q))).2 p then (DW (BY s (Eg set q))).2 else set
def Hh(s:WS)(p:Ae):List Ae × Int:=if AD s then (if Be (DW s).2 p then ((DW s).2.foldl (BU s p) (DW s).2,0) else ([],14)) else ([],2)
def F4(l:List Ae)(k:Nat)(p:Ae):List Ae:=l.take k++p::l.drop k
theorem Ng(l:List Ae)(k:Nat)(p:Ae)(h:k≤l.length):(F4 l k p).length=l.length+1:=by simp[F4];omega
theorem UL(l:List Ae)(k:Nat)(p:Ae)(h:k≤l.length):(F4 l k p)[k]?=some p:=by
 unfold F4;rw[List.getElem?_append_right (by simp;omega)];simp[Nat.min_eq_left h]
theorem Se(l:List Ae)(k:Nat)(p:Ae)(h:k+1≤l.length):(F4 l (k+1) p)[k]?=l[k]?:=by
 unfold F4;rw[List.getElem?_append_left (by simp;omega),List.getElem?_take,if_pos (by omega)]
theorem Sf{l:List Ae}{k:Nat}{p x:Ae}(hx:l[k]?=some x):((F4 l (k+1) p).set k p).set (k+1) x=F4 l k p:=by
 have hk:=At hx;have hd:l.drop k=x::l.drop (k+1):=by rw[List.drop_eq_getElem_cons hk,get_eq hx]
 have ht:l.take (k+1)=l.take k++[x]:=G3 hx;unfold F4;rw[ht,hd];have hl:(l.take k).length=k:=by simp;omega
 rw[List.append_assoc,List.set_append_right _ _ (by omega),hl,Nat.sub_self];rw[List.set_append_right _ _ (by omega),hl];simp
theorem UM(l:List Ae)(k:Nat)(p x:Ae):x∈F4 l k p↔x∈l∨x=p:=by
 unfold F4
 conv=>rhs;rw[← List.take_append_drop k l]
 simp only[mem_append,mem_cons];constructor
 ·rintro(h|h|h)
  ·exact .inl (.inl h)
  ·exact .inr h
  ·exact .inl (.inr h)
 ·rintro((h|h)|h)
  ·exact .inl h
  ·exact .inr (.inr h)
  ·exact .inr (.inl h)
theorem f76_ok(l:List Ae)(hl:l.length≤1000000):Ad C0 76 [Ax l] [] (Ax (J8 l)) []:=by
 refine Ad.go f76 ?_;unfold f76;refine gO ?_;refine Ab (α:=Nat × List Ae) (fun x=>⟨[(4,I x.1),(3,.sl (.own 1728 0) 3 (x.2.map Ae.c)),(0,Ax l)],[]⟩) (fun x=>x.1≤l.length∧x.2.length≤x.1∧H9 x.2∧∀ p,p∈x.2↔p∈l.take x.1) (fun x=>l.length-x.1) (0,[]) ⟨by simp,by simp,by simp[H9],by simp⟩ ?_ ?_
 ·refine Imp.Am ?_ ?_
  ·simp(disch:=omega)only[go_sem,map_nil]
  ·exact gI
 rintro⟨i,out⟩ ⟨hi,hol,hasc,hmem⟩ J hJ
 replace hi:i≤l.length:=hi
 replace hol:out.length≤i:=hol
 replace hasc:H9 out:=hasc
 replace hmem:∀ p,p∈out↔p∈l.take i:=hmem
 refine gO ?_;refine ⟨fun hlt=>?_,fun hge=>?_⟩
 ·have hlt':i<l.length:=by simp at hlt;omega
  obtain⟨p,hp⟩:∃ p,l[i]?=some p:=⟨_,gE hlt'⟩;have ht:=G3 hp;simp(disch:=omega)only[go_sem,gm,hp];refine C2 [1728] (f29_ok out p (by omega)) gI rfl trivial ?_;cases hh:Be out p;rotate_left
  ·have hin:p∈out:=by simpa [Be]using hh
   refine gO ?_;refine hJ _ (i+1,out) ⟨by simp;omega,by simp;omega,hasc,fun x=>?_⟩ (by simp;omega) AR;rw[ht,mem_append,← hmem x];simp only[List.mem_singleton];exact⟨.inl,fun h=>h.elim id fun e=>by rw[e];exact hin⟩
  have hnin:p∉out:=by simpa [Be]using hh
  have hbd:out.length+1≤4294967296:=by omega
  simp(disch:=omega)only[go_sem,gm,hp];refine Ab (α:=Nat) (fun k=>⟨[(5,I k),(4,I i),(3,.sl (.own 1728 0) 3 ((F4 out k p).map Ae.c)),(0,Ax l)],[]⟩) (fun k=>k≤out.length∧∀ x∈out.drop k,Bo p x<0) (fun k=>k) out.length ⟨by omega,by simp⟩ ?_ ?_
  ·refine Imp.Am ?_ ?_
   ·simp(disch:=omega)only[go_sem];exact .sl (by simp[F4,Ae.c])
   ·exact gI
  rintro k ⟨hk,hgt⟩ J2 hJ2;have stop:(∀ x∈out.take k,Bo x p<0)→∀ st',Imp ⟨C0,[],[]⟩ st' ⟨[(4,I (i+1:Nat)),(3,.sl (.own 1728 0) 3 ((F4 out k p).map Ae.c)),(0,Ax l)],[]⟩→J st':=fun hlt2 st' him=>by
   refine hJ st' (i+1,F4 out k p) ⟨by simp;omega,by simp[Ng out k p hk];omega,?_,fun x=>?_⟩ (by simp;omega) him
   ·have h0:=hasc;unfold H9 at h0 ⊢;rw[← List.take_append_drop k out]at h0;rw[List.pairwise_append]at h0;show (F4 out k p).Pairwise _;unfold F4;rw[List.pairwise_append];refine⟨h0.1,pairwise_cons.2 ⟨hgt,h0.2.1⟩,fun a ha b hb=>?_⟩;rcases mem_cons.1 hb with e|e
    ·rw[e];exact hlt2 a ha
    ·exact h0.2.2 a ha b e
   ·show x∈F4 out k p↔x∈l.take (i+1);rw[UM,ht,mem_append,← hmem x];simp
  refine Aq 12 [([],[5]),([],[28]),([],[29]),([],[3,30]),([],[5,30]),([],[32,30]),([],[31,33,30]),([],[34,30]),([],[3,30]),([],[5,30]),([],[36,37,30]),([],[38,30])] fol ?_;cases k with
  | zero =>
   have e0:(0<((0:Nat):Int))=False:=by simp
   simp(disch:=omega)only[go_sem,e0,decide_false];exact stop (by simp) _ AR
  | succ k =>
   have e0:(0<(((k+1:Nat)):Int))=True:=eq_true (by omega);have e1:(0<(k:Int)+1)=True:=eq_true (by omega);have e2:((k:Int)+1-1)=(k:Int):=by omega
   obtain⟨x,hx⟩:∃ x,out[k]?=some x:=⟨_,gE (by omega)⟩;have g1:=UL out (k+1) p hk;have g2:=Se out k p hk;rw[hx]at g2;have hml:=Ng out (k+1) p hk;have z1:k<(F4 out (k+1) p).length:=by omega
   have z2:k+1<(F4 out (k+1) p).length:=by omega
   simp(disch:=omega)only[go_sem,e0,e1,e2,gm,g1,g2,length_map,hml];refine Ac (f107_ok x p) ?_;refine gO ?_
   by_cases hc:0<Bo x p
   ·have e3:(0<Bo x p)=True:=eq_true hc;have e4:(k=k+1)=False:=eq_false (by omega);simp(disch:=omega)only[go_sem,e2,e3,gm,g1,g2,length_map,hml,List.length_set,List.getElem?_set,e4];refine hJ2 _ k ⟨by omega,fun y hy=>?_⟩ (by omega) (Imp.Am ?_ gI)
    ·rw[List.drop_eq_getElem_cons (by omega),get_eq hx]at hy;rcases mem_cons.1 hy with e|e
     ·subst e;have:=C3 y p;omega
     ·exact hgt y e
    ·simp(disch:=omega)only[go_sem];refine .sl ?_;rw[← Sf hx,map_set,map_set];rfl
   ·have e3:(0<Bo x p)=False:=eq_false hc;simp(disch:=omega)only[go_sem,e3,decide_false];refine stop (fun y hy=>?_) _ AR;have hxm:x∈out:=mG hx;have hxp:Bo x p<0:=by
     have:Bo x p≠0:=fun e=>hnin (by rw[← FX e];exact hxm)
     omega
    rw[G3 hx]at hy;rcases mem_append.1 hy with e|e
    ·have h0:=hasc;unfold H9 at h0;rw[← List.take_append_drop k out,List.pairwise_append]at h0;have hd:out.drop k=x::out.drop (k+1):=by rw[List.drop_eq_getElem_cons (by omega),get_eq hx]
     exact Dt (h0.2.2 y e x (by rw[hd];simp)) hxp
    ·rw[List.mem_singleton.1 e];exact hxp
 ·have hil:i=l.length:=by simp at hge;omega
  subst hil;rw[take_length]at hmem;have e:out=J8 l:=MF hasc (EC l) fun x=>by rw[hmem,HH]
  refine Cf ⟨[],[],[1728]⟩ _ ?_;simp(disch:=omega)only[go_sem,e]
theorem f207_ok(l:List AO)(hl:l.length≤1000000):Ad C0 207 [AH l] [] (KY 0 (CY l)) []:=by
 refine Ad.go f207 ?_;unfold f207;refine gO ?_;refine Ab (α:=Nat) (fun i=>⟨[(4,I i),(0,AH l),(3,.sl (.own 1152 0) 3 ((CY (l.take i)).map Ae.c))],[]⟩) (fun i=>i≤(l).length∧True) (fun i=>(l).length-i) 0 ⟨by omega,trivial⟩ ?_ ?_
 ·exact BB
 rintro i ⟨hi,hP⟩ J hJ;refine gO ?_;refine ⟨fun hlt=>?_,fun hge=>?_⟩;rotate_left;have hil:i=(l).length:=by simp at hge;omega
 rotate_left;obtain⟨b,hb⟩:∃ b,(l)[i]?=some b:=⟨_,gE (by simp at hlt;omega)⟩;have hbm:=mG hb;have hlt2:i<(l).length:=by simp at hlt;omega
 simp(disch:=omega)only[go_sem,gm,hb]
 ·have hbd:(CY (l.take i)).length+1≤4294967296:=by simp[CY];omega
  simp(disch:=omega)only[go_sem,CY];refine hJ _ (i+1) ⟨by simp at hlt;omega,trivial⟩ (by simp at hlt;omega) (Imp.Am ?_ ?_)
  all_goals(try simp(disch:=omega)only[go_sem])
  all_goals(try(repeat'(with_reducible apply And.intro)))
  all_goals(first|exact .AG (by omega)|exact .Az (by omega)|exact .sl (by simp[CY,take_add_one,hb,Ae.c])|exact .int (by simp[CY,take_add_one,hb,Ae.c])|exact .eq (by simp[CY,take_add_one,hb,Ae.c]))
 ·subst hil;refine Bc ⟨[(1152,0)],[],[]⟩ _ rfl ⟨rfl,rfl⟩ (by simp[lk]) ?_ trivial;simp(disch:=omega)only[go_sem,take_length]
theorem f208_ok(q:Queue)(h:q.An.length+q.waits.length≤1000000):Ad C0 208 [.agg q.c] [] (Ax (Bt (q.An++q.waits))) []:=by
 refine Ad.go f208 ?_;unfold f208;refine gO ?_;refine Ab (α:=Nat) (fun i=>⟨[(4,I i),(1,.ptr 64 0),(3,.sl (.own 1344 0) 3 ((Bt (q.An.take i)).map Ae.c))],[(64,q.c)]⟩) (fun i=>i≤(q.An).length∧True) (fun i=>(q.An).length-i) 0 ⟨by omega,trivial⟩ ?_ ?_
 ·exact BB
 rintro i ⟨hi,hP⟩ J hJ;refine gO ?_;refine ⟨fun hlt=>?_,fun hge=>?_⟩;rotate_left;have hil:i=(q.An).length:=by simp at hge;omega
 rotate_left;obtain⟨b,hb⟩:∃ b,(q.An)[i]?=some b:=⟨_,gE (by simp at hlt;omega)⟩;have hbm:=mG hb;have hlt2:i<(q.An).length:=by simp at hlt;omega
 simp(disch:=omega)only[go_sem,gm,hb]
 ·have hbd:(Bt (q.An.take i)).length+1≤4294967296:=by simp[Bt];omega
  simp(disch:=omega)only[go_sem,Bt];refine hJ _ (i+1) ⟨by simp at hlt;omega,trivial⟩ (by simp at hlt;omega) (Imp.Am ?_ ?_)
  all_goals(try simp(disch:=omega)only[go_sem])
  all_goals(try(repeat'(with_reducible apply And.intro)))
  all_goals(first|exact .AG (by omega)|exact .Az (by omega)|exact .sl (by simp[Bt,take_add_one,hb,Ae.c])|exact .int (by simp[Bt,take_add_one,hb,Ae.c])|exact .eq (by simp[Bt,take_add_one,hb,Ae.c]))
 subst hil;rw[take_length];clear hJ;refine Ab (α:=Nat) (fun i=>⟨[(5,I i),(1,.ptr 64 0),(3,.sl (.own 2368 0) 3 ((Bt (q.An++q.waits.take i)).map Ae.c))],[(64,q.c)]⟩) (fun i=>i≤(q.waits).length∧True) (fun i=>(q.waits).length-i) 0 ⟨by omega,trivial⟩ ?_ ?_
 ·refine Imp.ren ⟨[(1344,2368)],[(64,64)],[]⟩ ⟨rfl,rfl⟩ (by simp[lk]) ?_ ?_
  all_goals(try simp(disch:=omega)only[go_sem])
  all_goals(try(repeat'(with_reducible apply And.intro)))
  all_goals(first|exact .AG (by omega)|exact .Az (by omega)|exact .sl (by simp[])|exact .int (by simp[])|exact .eq (by simp[]))
 rintro i ⟨hi,hP⟩ J hJ;refine gO ?_;refine ⟨fun hlt=>?_,fun hge=>?_⟩;rotate_left;have hil:i=(q.waits).length:=by simp at hge;omega
 rotate_left;obtain⟨b,hb⟩:∃ b,(q.waits)[i]?=some b:=⟨_,gE (by simp at hlt;omega)⟩;have hbm:=mG hb;have hlt2:i<(q.waits).length:=by simp at hlt;omega
 simp(disch:=omega)only[go_sem,gm,hb]
 ·have hbd:(Bt (q.An++q.waits.take i)).length+1≤4294967296:=by simp[Bt];omega
  simp(disch:=omega)only[go_sem,Bt];refine hJ _ (i+1) ⟨by simp at hlt;omega,trivial⟩ (by simp at hlt;omega) (Imp.Am ?_ ?_)
  all_goals(try simp(disch:=omega)only[go_sem])
  all_goals(try(repeat'(with_reducible apply And.intro)))
  all_goals(first|exact .AG (by omega)|exact .Az (by omega)|exact .sl (by simp[Bt,take_add_one,hb,Ae.c])|exact .int (by simp[Bt,take_add_one,hb,Ae.c])|exact .eq (by simp[Bt,take_add_one,hb,Ae.c]))
 ·subst hil;refine Cf ⟨[],[],[2368]⟩ _ ?_;simp(disch:=omega)only[go_sem,take_length]
theorem f134_ok(q:Queue)(h:BC q≤1000000):Ad C0 134 [.agg q.c] [] (Ax (Br q)) []:=by
 have h1:q.holds.length≤1000000:=by unfold BC at h;omega
 have h2:q.An.length+q.waits.length≤1000000:=by unfold BC BQ at h;omega
 have h3:(CY q.holds).length+(Bt (q.An++q.waits)).length≤1000000:=by simp[CY,Bt];unfold BC BQ at h;omega
 have h4:(CY q.holds).length+(Bt (q.An++q.waits)).length≤4294967296:=by omega
 refine Ad.go f134 ?_;unfold f134;refine gO ?_;refine Aq 4 [([],[1]),([],[3]),([],[4]),([],[1])] fol ?_;refine gO ?_;refine Aw ⟨⟨[],[],[]⟩,[(0,320)],[]⟩ (f207_ok q.holds h1) gI rfl rfl trivial (.inl rfl) ?_;simp(disch:=omega)only[go_sem]
 first|(refine Ac (f208_ok q h2) ?_)|(refine Ar (f208_ok q h2) ?_)
 refine gO ?_;refine FW [512] (f76_ok (CY q.holds++Bt (q.An++q.waits)) (by simpa using h3)) (by simp(disch:=omega)only[go_sem];exact .sl (by simp)) rfl ?_;refine gO ?_;refine B8 _ ?_;simp(disch:=omega)only[go_sem,Br]
theorem f163_ok(q:Queue)(p:Ae)(h:q.holds.length≤1000000):Ad C0 163 [.agg q.c,.agg p.c] [] (.agg (AB q.holds p).c) []:=by
 refine Ad.go f163 ?_;unfold f163;refine gO ?_;refine Ac (f244_ok q.holds p h) ?_;refine gO ?_;exact AE _
theorem MZ{l:List AS}{p:Ae}:(E3 l p<0∧l.find? (fun w=>decide (w.proc=p))=none)∨∃ (i:Nat) (w:AS),E3 l p=i∧l[i]?=some w∧l.find? (fun w=>decide (w.proc=p))=some w:=by
 unfold E3;cases h:l.findIdx? (fun w=>decide (w.proc=p)) with
 |none =>
  left;refine⟨by simp,?_⟩;rw[List.findIdx?_eq_none_iff]at h;rw[List.find?_eq_none];intro x hx;simpa using h x hx
 |some i =>
  right;obtain⟨h1,h2,h3⟩:=(List.findIdx?_eq_some_iff_getElem.1 h);refine⟨i,l[i],rfl,gE h1,?_⟩;rw[List.find?_eq_some_iff_getElem];exact⟨h2,i,h1,rfl,fun j hj=>by simpa using h3 j hj⟩
theorem f98_ok(q:Queue)(p:Ae)(h1:q.An.length≤1000000)(h2:q.waits.length≤1000000):Ad C0 98 [.agg q.c,.agg p.c] [] (.tup [.agg ((As q p).getD ⟨0,0⟩).c,B (As q p).isSome]) []:=by
 refine Ad.go f98 ?_;unfold f98;refine gO ?_;refine Ac (f153_ok q.An p h1) ?_;rcases MZ (l:=q.An) (p:=p) with ⟨a,b⟩|⟨i,w,a,b,c⟩
 ·have e1:(0≤E3 q.An p)=False:=eq_false (by omega);simp(disch:=omega)only[go_sem,e1,decide_false];refine Ac (f153_ok q.waits p h2) ?_;rcases MZ (l:=q.waits) (p:=p) with ⟨a',b'⟩|⟨i,w,a',b',c'⟩
  ·have e2:(0≤E3 q.waits p)=False:=eq_false (by omega);have e:As q p=none:=by simp[As,List.find?_append,b,b']
   simp(disch:=omega)only[go_sem,e2,e,Option.isSome_none,decide_false];exact AE _
  ·have e:As q p=some w.amt:=by simp[As,List.find?_append,b,c']
   simp(disch:=omega)only[go_sem,a',e,isSome_some,gm,b'];exact AE _
 ·have e:As q p=some w.amt:=by simp[As,List.find?_append,c]
  simp(disch:=omega)only[go_sem,a,e,isSome_some,gm,b];exact AE _
def Qm(q:Queue)(p:Ae):Bool:=(As q p).isSome||!(AB q.holds p).zero
theorem f109_ok(q:Queue)(p:Ae)(h:BC q≤1000000):Ad C0 109 [.agg q.c,.agg p.c] [] (B (Qm q p)) []:=by
 have h1:q.holds.length≤1000000:=by unfold BC at h;omega
 have h2:q.An.length≤1000000:=by unfold BC BQ at h;omega
 have h3:q.waits.length≤1000000:=by unfold BC BQ at h;omega
 refine Ad.go f109 ?_;unfold f109;refine gO ?_;refine Ac (f98_ok q p h2 h3) ?_;cases hw:(As q p).isSome
 ·simp(disch:=omega)only[go_sem,hw];refine Ac (f163_ok q p h1) ?_;refine gO ?_;refine Ac (f162_ok (AB q.holds p)) ?_;refine gO ?_;refine Ap _ ?_;exact wb (by simp[Qm,hw])
 ·simp(disch:=omega)only[go_sem,hw];refine Ap _ ?_;exact wb (by simp[Qm,hw])
theorem f164_ok(q:Queue)(h1:q.holds.length≤1000000)(h2:q.An.length≤1000000)(h3:q.waits.length≤1000000):Ad C0 164 [.agg q.c] [] (.agg q.c) []:=by
 refine Ad.go f164 ?_;unfold f164;refine gO ?_;refine Cf ⟨[],[],[384,704,1024]⟩ _ ?_;simp(disch:=omega)only[go_sem,AH]
end Go.Rd
