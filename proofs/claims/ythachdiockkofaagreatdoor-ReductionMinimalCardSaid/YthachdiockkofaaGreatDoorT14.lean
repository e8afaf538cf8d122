/- part 14 of the proof -/
import Derived.Test.YthachdiockkofaaGreatDoorT13
set_option linter.all false
open Go Go.Abs Go.Proofs
set_option maxRecDepth 100000
namespace Go.Rd
set_option maxHeartbeats 8000000
open List (filter_sublist length_cons length_filter_le length_map length_take mem_cons mem_filter mem_map take_add_one take_length)
open Bool (and_eq_true)
open Option (toList_some)
open Nat (le_trans)
open Tryz
theorem TA{s s':List Bool}{m:Int}(h:∀ k,s'.getD k false=true→s.getD k false=true)(hs:Dy s m=true):Dy s' m=true:=by
 unfold Dy at *
 rw[List.all_eq_true]at *
 intro k hk
 have:=hs k hk
 cases h1:s'.getD k false
 ·rfl
 ·rw[h k h1]at this
  simpa using this
theorem Fl(s:List Bool)(i k:Nat):(s.set i true).getD k false=(if i=k∧i<s.length then true else s.getD k false):=by
 simp only[List.getD_eq_getElem?_getD,List.getElem?_set]
 by_cases h:i=k
 ·subst h
  by_cases h2:i<s.length
  ·simp[h2]
  ·simp[h2]
 ·simp[h]
theorem Rs{r:Res}{l' l:List Amt}(hsub:l'.Sublist l):∀ {s s':Int} {seen seen':List Bool},s'≤s→seen'.length=seen.length→(∀ k,seen'.getD k false=true→seen.getD k false=true)→Bj r l s seen=true→Bj r l' s' seen'=true:=by
 induction hsub with
 | slnil=>intros;rfl
 | cons a hsub ih =>
  intro s s' seen seen' hs hlen hk h
  simp only[Bj,and_eq_true]at h
  obtain⟨⟨h1,h2⟩,h3⟩:=h
  have hu:=HF h1
  split at h3
  ·exact ih (by omega) hlen hk h3
  ·rw[and_eq_true]at h3
   refine ih (by omega) (by simpa using hlen) (fun k hk'=>?_) h3.2
   rw[Fl]
   split
   ·rfl
   ·exact hk k hk'
 | cons_cons a hsub ih =>
  intro s s' seen seen' hs hlen hk h
  simp only[Bj,and_eq_true,Bool.not_eq_true',decide_eq_false_iff_not]at h ⊢
  obtain⟨⟨h1,h2⟩,h3⟩:=h
  refine⟨⟨h1,by omega⟩,?_⟩
  split at h3
  ·rename_i hm
   rw[if_pos hm]
   exact ih (by omega) hlen hk h3
  ·rename_i hm
   rw[if_neg hm]
   rw[and_eq_true]at h3 ⊢
   refine⟨TA hk h3.1,ih (by omega) (by simpa using hlen) (fun k hk'=>?_) h3.2⟩
   rw[Fl]at hk' ⊢
   split at hk'
   ·rename_i hc
    rw[if_pos ⟨hc.1,by omega⟩]
   ·split
    ·rfl
    ·exact hk k hk'
theorem TZ{r:Res}{l' l:List Amt}(hsub:l'.Sublist l)(h:r.compat l=true):r.compat l'=true:=by
 simp only[Res.compat,and_eq_true]at *
 exact⟨h.1,Rs hsub (Int.le_refl _) rfl (fun _ h=>h) h.2⟩
theorem Hy{r:Res}{l' l:List Hold}(hsub:l'.Sublist l)(h:AZ r l=true):AZ r l'=true:=by
 rw[DD]at *
 obtain⟨h1,h2,h3,h4,h5⟩:=h
 exact⟨h1,le_trans hsub.length_le h2,fun x hx=>h3 x (hsub.subset hx),h4.sublist hsub,TZ (hsub.map _) h5⟩
theorem Fe(l:List Hold)(p:Proc):BQ l p ⟨0,0⟩=Az l p:=by simp[BQ,Amt.zero]
theorem Iw{q:Queue}(h:Sound q)(p:Proc):Sound (BF q p):=by
 have hd:(Az q.holds p).length≤q.holds.length:=length_filter_le _ _
 have hw:=Bk q.waits p
 have hc:=Bk q.convs p
 refine⟨h.res,?_,?_,?_,h.gen⟩
 ·simp only[BF,Fe]
  exact Hy filter_sublist h.holds
 ·have:=(Bq q).1 h.convs
  rw[Bq]
  simp only[BF,Fe]
  refine⟨by omega,this.2.1.sublist filter_sublist,fun w hw=>?_⟩
  simp only[A8,mem_filter,decide_eq_true_eq]at hw
  rw[MI hw.2]
  exact this.2.2 w hw.1
 ·have:=(Bi q).1 h.waits
  rw[Bi]
  obtain⟨a,b,c⟩:=this
  rw[Cl]at a
  simp only[BF,Fe,Cl]
  refine⟨⟨by omega,a.2.1.sublist filter_sublist,fun w hw=>?_⟩,by omega,fun w hw=>?_⟩
  ·simp only[A8,mem_filter]at hw
   exact a.2.2 w hw.1
  ·simp only[A8,mem_filter,decide_eq_true_eq]at hw
   rw[MI hw.2]
   exact c w hw.1
theorem Ky{q:Queue}{w:Wait}(h:EC q.res q.holds w.proc w.amt=true):q.res.fits w.amt=true∧w.proc.ok=true∧AZ q.res (BQ q.holds w.proc w.amt)=true:=by
 simp only[EC,and_eq_true]at h
 exact⟨h.1.2,h.1.1.2,h.2⟩
theorem KB{q:Queue}{w:Wait}(h:Sound q)(hh:A4 q=some w)(hr:EC q.res q.holds w.proc w.amt=true):Sound (Cm q w):=by
 obtain⟨r1,r2,r3⟩:=Ky hr
 have hcv:=(Bq q).1 h.convs
 have hwt:=(Bi q).1 h.waits
 obtain⟨a,b,c⟩:=hwt
 rw[Cl]at a
 cases hc:q.convs with
 | cons w' l =>
  have hw':w'=w:=by simp[A4,hc]at hh;exact hh
  subst hw'
  have hp:Cm q w' = { q with holds:=BQ q.holds w'.proc w'.amt,convs:=l }:=by unfold Cm;simp only[hc]
  rw[hp]
  have hu:=hcv.2.1
  rw[hc]at hu
  have hu':=List.pairwise_cons.1 hu
  have hheld:=(hcv.2.2 w' (by rw[hc];simp)).1
  refine⟨h.res,r3,?_,?_,h.gen⟩
  ·rw[Bq]
   have:=hcv.1
   rw[hc]at this
   simp only[length_cons]at this
   refine⟨by simp;omega,hu'.2,fun x hx=>?_⟩
   have hne:x.proc≠w'.proc:=fun e=>hu'.1 x hx e.symm
   simp only[Fm hne]
   exact hcv.2.2 x (by rw[hc];simp[hx])
  ·rw[Bi]
   simp only[Cl]
   refine⟨a,?_,fun x hx=>?_⟩
   ·have h1:=MC hheld
    have h2:=Oc (l:=q.holds) (p:=w'.proc) (a:=w'.amt)
    omega
   ·have hx':=c x hx
    have hne:x.proc≠w'.proc:=fun e=>by rw[e,hheld]at hx';exact absurd hx'.2 (by simp)
    rw[Fm hne]
    exact hx'
 | nil =>
  cases hw:q.waits with
  | nil=>simp[A4,hc,hw]at hh
  | cons w' l =>
   have hw':w'=w:=by simp[A4,hc,hw]at hh;exact hh
   subst hw'
   have hp:Cm q w' = { q with holds:=BQ q.holds w'.proc w'.amt,waits:=l }:=by unfold Cm;simp only[hc,hw];rfl
   rw[hp]
   rw[hw]at a b
   have hu':=List.pairwise_cons.1 a.2.1
   simp only[length_cons]at a b
   refine⟨h.res,r3,?_,?_,h.gen⟩
   ·rw[Bq]
    simp[hc,PB]
   ·rw[Bi]
    simp only[Cl]
    refine⟨⟨by omega,hu'.2,fun x hx=>a.2.2 x (by simp[hx])⟩,?_,fun x hx=>?_⟩
    ·have h2:=Oc (l:=q.holds) (p:=w'.proc) (a:=w'.amt)
     have h3:(Az q.holds w'.proc).length≤q.holds.length:=length_filter_le _ _
     omega
    ·have hne:x.proc≠w'.proc:=fun e=>hu'.1 x hx e.symm
     rw[Fm hne]
     exact c x (by rw[hw];simp[hx])
def Iu(q:Queue):Prop:=∀ w,A4 q=some w→EC q.res q.holds w.proc w.amt=false
theorem CF(q:Queue):valid q=true↔Sound q∧Iu q:=by
 unfold valid Iu
 rw[and_eq_true,GX]
 cases h:A4 q<;>simp
theorem L7(q:Queue)(w:Wait):(Cm q w).res=q.res∧(Cm q w).gen=q.gen:=by unfold Cm;split<;>exact⟨rfl,rfl⟩
theorem GF{P:Queue→Prop}(hP:∀ q w,P q→A4 q=some w→EC q.res q.holds w.proc w.amt=true→P (Cm q w)):∀ (n:Nat) (q:Queue),Bo q=n→P q→P (BD q).1∧Iu (BD q).1
 | n,q,hn,hq=>by
  rw[Jq]
  cases hh:A4 q with
  |none=>exact⟨hq,fun w hw=>by simp[hh]at hw⟩
  |some w =>
   simp only
   cases hr:EC q.res q.holds w.proc w.amt
   ·exact⟨hq,fun w' hw'=>by simp[hh]at hw';subst hw';exact hr⟩
   ·have hs:=GS hh
    exact GF hP (Bo (Cm q w)) (Cm q w) rfl (hP q w hq hh hr)
termination_by n q hn=>Bo q
decreasing_by simp_wf;have:=GS hh;omega
theorem Q3{q:Queue}(h:Sound q):Sound (BD q).1∧Iu (BD q).1:=GF (fun _ _ h hh hr=>KB h hh hr) _ q rfl h
theorem NZ(q:Queue):(BD q).1.res=q.res∧(BD q).1.gen=q.gen:=(GF (P:=fun x=>x.res=q.res∧x.gen=q.gen) (fun x w h _ _=>by rw[(L7 x w).1,(L7 x w).2];exact h) _ q rfl ⟨rfl,rfl⟩).1
theorem Yd(q:Queue):Br (BD q).1≤Br q:=(GF (P:=fun x=>Br x≤Br q) (fun x w h hh _=>le_trans (Sc hh) h) _ q rfl (Nat.le_refl _)).1
theorem Q9{q:Queue}(h:Sound q∧Iu q){g:Int}(hg:0≤g∧g≤1073741824):Sound { q with gen:=g }∧Iu { q with gen:=g }:=by
 refine⟨⟨h.1.res,h.1.holds,?_,?_,hg⟩,fun w hw=>h.2 w hw⟩
 ·rw[Bq];exact(Bq q).1 h.1.convs
 ·rw[Bi];exact(Bi q).1 h.1.waits
theorem M7{q:Queue}(h:valid q=true)(p:Proc):valid (BV q p)=true:=by
 unfold BV
 split
 ·rw[CF]at h ⊢
  have h1:=Q3 (Iw h.1 p)
  exact Q9 h1 h.1.gen
 ·exact h
theorem QX(q:Queue)(p:Proc):(BV q p).res=q.res:=by
 unfold BV
 split
 ·exact(NZ (BF q p)).1
 ·rfl
theorem UR(q:Queue)(p:Proc):Br (BF q p)≤Br q:=by
 have hd:(Az q.holds p).length≤q.holds.length:=length_filter_le _ _
 have hw:=Bk q.waits p
 have hc:=Bk q.convs p
 unfold Br Bo
 simp only[BF,Fe]
 omega
theorem Wh(q:Queue)(p:Proc):Br (BV q p)≤Br q:=by
 unfold BV
 split
 ·exact le_trans (Yd (BF q p)) (UR q p)
 ·exact Nat.le_refl _
def inQ(q:Queue)(x:Proc):Prop:=(∃ h∈q.holds,h.proc=x)∨(∃ w∈q.convs,w.proc=x)∨(∃ w∈q.waits,w.proc=x)
theorem Eu(q:Queue)(x:Proc):x∈Bm q↔inQ q x:=by
 unfold Bm inQ
 rw[GV]
 simp[Ct,BJ,or_and_right,exists_or]
theorem Kp{l:List Hold}{p:Proc}(h:(Ap l p).zero=false):∃ x∈l,x.proc=p:=by
 unfold Ap at h
 cases hf:l.find? (fun h=>decide (h.proc=p)) with
 |none=>rw[hf]at h;simp[Amt.zero]at h
 |some x=>exact⟨x,List.mem_of_find?_eq_some hf,by simpa using List.find?_some hf⟩
theorem ZJ{q:Queue}{w:Wait}(hh:A4 q=some w)(hr:EC q.res q.holds w.proc w.amt=true)(x:Proc):inQ (Cm q w) x↔inQ q x:=by
 have hz:=GL (Ky hr).1
 have hset:(∃ h∈BQ q.holds w.proc w.amt,h.proc=x)↔((∃ h∈q.holds,h.proc=x)∨x=w.proc):=by
  simp only[Pf hz]
  constructor
  ·rintro⟨h,(⟨h1,h2⟩|h1),h3⟩
   ·exact .inl ⟨h,h1,h3⟩
   ·subst h1;exact .inr h3.symm
  ·rintro(⟨h,h1,h2⟩|h1)
   ·by_cases e:h.proc=w.proc
    ·exact⟨⟨w.proc,w.amt⟩,.inr rfl,by rw[← e,h2]⟩
    ·exact⟨h,.inl ⟨h1,e⟩,h2⟩
   ·exact⟨⟨w.proc,w.amt⟩,.inr rfl,h1.symm⟩
 unfold inQ
 cases hc:q.convs with
 | cons w' l =>
  have hw':w'=w:=by simp[A4,hc]at hh;exact hh
  subst hw'
  have hp:Cm q w' = { q with holds:=BQ q.holds w'.proc w'.amt,convs:=l }:=by unfold Cm;simp only[hc]
  rw[hp]
  simp only[hset,mem_cons,exists_eq_or_imp,or_and_right,exists_or]
  constructor
  ·rintro((h|h)|h|h)
   ·exact .inl h
   ·exact .inr (.inl (.inl ⟨w',rfl,h.symm⟩))
   ·exact .inr (.inl (.inr h))
   ·exact .inr (.inr h)
  ·rintro(h|(h|h)|h)
   ·exact .inl (.inl h)
   ·obtain⟨_,rfl,h⟩:=h;exact .inl (.inr h.symm)
   ·exact .inr (.inl h)
   ·exact .inr (.inr h)
 | nil =>
  cases hw:q.waits with
  | nil=>simp[A4,hc,hw]at hh
  | cons w' l =>
   have hw':w'=w:=by simp[A4,hc,hw]at hh;exact hh
   subst hw'
   have hp:Cm q w' = { q with holds:=BQ q.holds w'.proc w'.amt,waits:=l }:=by unfold Cm;simp only[hc,hw];rfl
   rw[hp]
   simp only[hset,hc,mem_cons,exists_eq_or_imp,or_and_right,exists_or,List.not_mem_nil,false_and,exists_false,false_or]
   constructor
   ·rintro((h|h)|h)
    ·exact .inl h
    ·exact .inr (.inl ⟨w',rfl,h.symm⟩)
    ·exact .inr (.inr h)
   ·rintro(h|h|h)
    ·exact .inl (.inl h)
    ·obtain⟨_,rfl,h⟩:=h;exact .inl (.inr h.symm)
    ·exact .inr h
theorem Xa(q:Queue)(x:Proc):inQ (BD q).1 x↔inQ q x :=
 (GF (P:=fun y=>inQ y x↔inQ q x) (fun y w h hh hr=>(ZJ hh hr x).trans h) _ q rfl Iff.rfl).1
theorem Ud(q:Queue)(p x:Proc):inQ (BF q p) x↔inQ q x∧x≠p:=by
 unfold inQ
 simp only[BF,Fe,Ik,A8,mem_filter,decide_eq_true_eq]
 constructor
 ·rintro(⟨h,⟨h1,h2⟩,h3⟩|⟨h,⟨h1,h2⟩,h3⟩|⟨h,⟨h1,h2⟩,h3⟩)
  ·exact⟨.inl ⟨h,h1,h3⟩,by rw[← h3];exact h2⟩
  ·exact⟨.inr (.inl ⟨h,h1,h3⟩),by rw[← h3];exact h2⟩
  ·exact⟨.inr (.inr ⟨h,h1,h3⟩),by rw[← h3];exact h2⟩
 ·rintro⟨⟨h,h1,h3⟩|⟨h,h1,h3⟩|⟨h,h1,h3⟩,hne⟩
  ·exact .inl ⟨h,⟨h1,by rw[h3];exact hne⟩,h3⟩
  ·exact .inr (.inl ⟨h,⟨h1,by rw[h3];exact hne⟩,h3⟩)
  ·exact .inr (.inr ⟨h,⟨h1,by rw[h3];exact hne⟩,h3⟩)
theorem Xd{q:Queue}(hv:valid q=true)(p x:Proc):x∈Bm (BV q p)↔x∈Bm q∧x≠p:=by
 by_cases hp:AK (Bm q) p=true
 ·have e:BV q p = { EH (BF q p) with gen:=q.gen }:=by simp[BV,hv,hp]
  rw[Eu,Eu,e,← Ud]
  exact Xa (BF q p) x
 ·have e:BV q p=q:=by simp[BV,hp]
  rw[e]
  have:p∉Bm q:=by simpa [AK]using hp
  exact⟨fun h=>⟨h,fun e=>this (e▸h)⟩,And.left⟩
def BX(s:WS):Prop:=∀ q∈s.queues,valid q=true
theorem FU(s:WS)(x:Proc):x∈Ah s↔(∃ q∈s.queues,x∈Bm q)∨∃ n∈s.needs,n.proc=x:=by
 unfold Ah Aw B2
 rw[GV,List.mem_append,GV,List.mem_flatMap,mem_map]
theorem HC{s:WS}(h:BX s)(p x:Proc):x∈Ah (A3 s p)↔x∈Ah s∧x≠p:=by
 rw[FU,FU]
 simp only[A3,Iq,mem_map,mem_filter,decide_eq_true_eq]
 constructor
 ·rintro(⟨q',⟨q,hq,rfl⟩,hx⟩|⟨n,⟨hn,hne⟩,rfl⟩)
  ·rw[Xd (h q hq)]at hx
   exact⟨.inl ⟨q,hq,hx.1⟩,hx.2⟩
  ·exact⟨.inr ⟨n,hn,rfl⟩,hne⟩
 ·rintro⟨⟨q,hq,hx⟩|⟨n,hn,rfl⟩,hne⟩
  ·exact .inl ⟨_,⟨q,hq,rfl⟩,(Xd (h q hq) p x).2 ⟨hx,hne⟩⟩
  ·exact .inr ⟨n,⟨hn,hne⟩,rfl⟩
theorem Cg{s:WS}(h:BX s)(p:Proc):BX (A3 s p):=by
 intro q' hq'
 simp only[A3,mem_map]at hq'
 obtain⟨q,hq,rfl⟩:=hq'
 exact M7 (h q hq) p
theorem GJ{s:WS}(h:Few s)(p:Proc):Few (A3 s p):=by
 refine⟨by simpa [A3]using h.nq,le_trans (length_filter_le _ _) h.nn,fun q' hq'=>?_⟩
 simp only[A3,mem_map]at hq'
 obtain⟨q,hq,rfl⟩:=hq'
 exact le_trans (Wh q p) (h.aq q hq)
theorem Kx{s:WS}(h:BX s)(p:Proc):Ah (A3 s p)=(Ah s).filter fun x=>decide (x≠p):=by
 refine Ly (Dp _) ?_ fun x=>?_
 ·exact List.Pairwise.sublist filter_sublist (Dp _)
 ·rw[HC h];simp
theorem DZ{s:WS}(h:BX s){p:Proc}(hp:p∈Ah s):(Ah (A3 s p)).length<(Ah s).length:=by
 rw[Kx h,List.length_filter_lt_length_iff_exists]
 exact⟨p,hp,by simp⟩
theorem Ac.empty{C:Ctx}{f n:Nat}{xs:List AV}{o o':List (Nat × List AV)}{y:AV}(h:∀ a cap,Ac C f (.v (.slice a 0 cap)::xs) o y o'):Ac C f (.sl .no n []::xs) o y o':=by
 refine⟨(h none 0).1,fun g w us hg hv ho=>?_⟩
 match us,hv with
 | u::us,hv =>
  simp only[VRs,VR,PR]at hv
  obtain⟨⟨_,a,cap,hu,_⟩,hv2⟩:=hv
  refine(h a cap).2 g w (u::us) hg ?_ ho
  simp only[VRs,VR]
  exact⟨by simpa using hu,hv2⟩
 |[],hv=>simp[VRs]at hv
theorem f60_ok(l:List Proc)(hl:l.length≤1000000):Ac C0 60 [Aq l] [] (Aq l) []:=by
 cases l with
 | nil =>
  refine Ac.empty fun a cap=>?_
  refine Ac.go f60 ?_
  unfold f60
  simp(disch:=omega)only[go_sem]
  repeat'(with_reducible refine And.intro (fun h=>?_) (fun h=>?_))
  ·exact Av _
  ·refine B3 ⟨[],[],[448]⟩ _ ?_
   simp(disch:=omega)only[go_sem,Aq]
 | cons x l =>
  refine Ac.go f60 ?_
  unfold f60
  have hb:l.length+1≤4294967296:=by simp at hl;omega
  simp(disch:=omega)only[go_sem,Aq]
  refine B3 ⟨[],[],[448]⟩ _ ?_
  simp(disch:=omega)only[go_sem,Aq]
theorem f127_ok(l:List Hold)(hl:l.length≤1000000):Ac C0 127 [Ax l] [] (Ax l) []:=by
 cases l with
 | nil =>
  refine Ac.empty fun a cap=>?_
  refine Ac.go f127 ?_
  unfold f127
  simp(disch:=omega)only[go_sem]
  repeat'(with_reducible refine And.intro (fun h=>?_) (fun h=>?_))
  ·exact Av _
  ·refine B3 ⟨[],[],[448]⟩ _ ?_
   simp(disch:=omega)only[go_sem,Ax]
 | cons x l =>
  refine Ac.go f127 ?_
  unfold f127
  have hb:l.length+1≤4294967296:=by simp at hl;omega
  simp(disch:=omega)only[go_sem,Ax]
  refine B3 ⟨[],[],[448]⟩ _ ?_
  simp(disch:=omega)only[go_sem,Ax]
theorem f128_ok(l:List Wait)(hl:l.length≤1000000):Ac C0 128 [AY l] [] (AY l) []:=by
 cases l with
 | nil =>
  refine Ac.empty fun a cap=>?_
  refine Ac.go f128 ?_
  unfold f128
  simp(disch:=omega)only[go_sem]
  repeat'(with_reducible refine And.intro (fun h=>?_) (fun h=>?_))
  ·exact Av _
  ·refine B3 ⟨[],[],[448]⟩ _ ?_
   simp(disch:=omega)only[go_sem,AY]
 | cons x l =>
  refine Ac.go f128 ?_
  unfold f128
  have hb:l.length+1≤4294967296:=by simp at hl;omega
  simp(disch:=omega)only[go_sem,AY]
  refine B3 ⟨[],[],[448]⟩ _ ?_
  simp(disch:=omega)only[go_sem,AY]
def BK(l:List Proc)(p:Proc):List Proc:=l.filter fun x=>decide (x≠p)
theorem f63_ok(l:List Proc)(p:Proc)(hl:l.length≤1000000):Ac C0 63 [Aq l,.agg p.c] [] (Aq (BK l p)) []:=by
 refine Ac.go f63 ?_
 unfold f63
 refine gO ?_
 refine Ab (α:=Nat) (fun i=>⟨[(10,I i),(9,I l.length),(8,Aq l),(3,.ptr 192 0),(5,.sl (.own 1344 0) 3 ((BK (l.take i) p).map Proc.c))],[(192,p.c)]⟩) (fun i=>i≤(l).length∧True) (fun i=>(l).length-i) 0 ⟨by omega,trivial⟩ ?_ ?_
 ·exact Bu
 rintro i ⟨hi,hP⟩ J hJ
 refine gO ?_
 refine ⟨fun hlt=>?_,fun hge=>?_⟩
 rotate_left
 have hil:i=(l).length:=by simp at hge;omega
 rotate_left
 obtain⟨b,hb⟩:∃ b,(l)[i]?=some b:=⟨_,gE (by simp at hlt;omega)⟩
 have hbm:=mG hb
 simp(disch:=omega)only[go_sem,gm,hb]
 ·have hlt':i<l.length:=by simp at hlt;omega
  have hbd:(BK (l.take i) p).length+1≤4294967296:=by
   have:(BK (l.take i) p).length≤(l.take i).length:=length_filter_le _ _
   rw[length_take]at this;omega
  refine Aa (f61_ok b p) ?_
  refine gO ?_
  refine⟨fun h=>?_,fun h=>?_⟩
  ·have hne:¬ b=p:=by simpa using h
   refine hJ _ (i+1) ⟨by omega,trivial⟩ (by omega) (Imp.weak ?_ (by simp(disch:=omega)only[go_sem]))
   refine gO ?_
   exact .sl (by simp[BK,take_add_one,hb,hne,Proc.c])
  ·have hne:b=p:=by simpa using h
   refine hJ _ (i+1) ⟨by omega,trivial⟩ (by omega) (Imp.weak ?_ (by simp(disch:=omega)only[go_sem]))
   refine gO ?_
   exact .sl (by simp[BK,take_add_one,hb,hne])
 ·subst hil
  refine B3 ⟨[],[],[1344]⟩ _ ?_
  simp(disch:=omega)only[go_sem,take_length]
def Ce(s:WS)(p:Proc):Bool:=match s.needs.find? (fun n=>decide (n.proc=p)) with
 |some n=>D2 n.expr (Er s n)
 |none=>true
theorem f135_ok(s:WS)(p:Proc)(h:Few s):Ac C0 135 [.agg s.c,.agg p.c] [] (B (Ce s p)) []:=by
 have hn:=h.nn
 refine Ac.go f135 ?_
 unfold f135
 refine gO ?_
 refine Ab (α:=Nat) (fun i=>⟨[(10,I i),(9,I s.needs.length),(8,FV s.needs),(2,.ptr 128 0),(3,.ptr 192 0)],[(128,s.c),(192,p.c)]⟩) (fun i=>i≤(s.needs).length∧(s.needs.take i).find? (fun n=>decide (n.proc=p))=none) (fun i=>(s.needs).length-i) 0 ⟨by omega,rfl⟩ ?_ ?_
 ·exact Bu
 rintro i ⟨hi,hP⟩ J hJ
 refine gO ?_
 refine ⟨fun hlt=>?_,fun hge=>?_⟩
 rotate_left
 have hil:i=(s.needs).length:=by simp at hge;omega
 rotate_left
 obtain⟨b,hb⟩:∃ b,(s.needs)[i]?=some b:=⟨_,gE (by simp at hlt;omega)⟩
 have hbm:=mG hb
 simp(disch:=omega)only[go_sem,gm,hb]
 ·refine Aa (f61_ok b.proc p) ?_
  refine gO ?_
  refine And.intro (fun hh=>?_) (fun hh=>?_)
  ·have e:Ce s p=D2 b.expr (Er s b):=by unfold Ce;rw[GK hP hb (by simpa using hh)]
   refine Aj 5 [([],[6]),([],[19]),([],[2]),([],[6]),([],[21,22])] fol ?_
   refine gO ?_
   refine Ai (f210_ok s b h) ?_
   refine gO ?_
   refine Ae (f209_ok b.expr (Er s b)) (by simp(disch:=omega)only[go_sem,Expr.Cb]) rfl ?_
   simp(disch:=omega)only[go_sem,e]
   exact Av _
  ·refine hJ _ (i+1) ⟨by simp at hlt;omega,(by rw[BA hP hb];simp at hh;simp[hh])⟩ (by simp at hlt;omega) AE
 ·subst hil
  rw[take_length]at hP
  have e:Ce s p=true:=by unfold Ce;rw[hP]
  simp(disch:=omega)only[go_sem,e]
  exact Av _
def Bg(s:WS):List Proc:=(Ah s).filter fun p=>Ce s p
theorem CW{s:WS}(h:Few s):(Ah s).length≤20000:=by
 have h1:=Mw (Aw s.queues++B2 s.needs)
 have h2:=J1 h.aq
 have h3:=h.nq
 have h4:=h.nn
 unfold Ah
 simp only[List.length_append,B2,length_map]at h1
 unfold B2
 omega
theorem f77_ok(s:WS)(h:Few s):Ac C0 77 [.agg s.c] [] (Aq (Bg s)) []:=by
 have hl:=CW h
 refine Ac.go f77 ?_
 unfold f77
 refine gO ?_
 refine Aa (f73_ok s h) ?_
 refine gO ?_
 refine Ab (α:=Nat) (fun i=>⟨[(9,I i),(8,I (Ah s).length),(7,Aq (Ah s)),(1,.ptr 64 0),(3,.sl (.own 1216 0) 3 ((((Ah s).take i).filter fun p=>Ce s p).map Proc.c))],[(64,s.c)]⟩) (fun i=>i≤((Ah s)).length∧True) (fun i=>((Ah s)).length-i) 0 ⟨by omega,trivial⟩ ?_ ?_
 ·exact Bu
 rintro i ⟨hi,hP⟩ J hJ
 refine gO ?_
 refine ⟨fun hlt=>?_,fun hge=>?_⟩
 rotate_left
 have hil:i=((Ah s)).length:=by simp at hge;omega
 rotate_left
 obtain⟨b,hb⟩:∃ b,((Ah s))[i]?=some b:=⟨_,gE (by simp at hlt;omega)⟩
 have hbm:=mG hb
 simp(disch:=omega)only[go_sem,gm,hb]
 ·have hbd:(((Ah s).take i).filter fun p=>Ce s p).length+1≤4294967296:=by
   have:(((Ah s).take i).filter fun p=>Ce s p).length≤((Ah s).take i).length:=length_filter_le _ _
   rw[length_take]at this;omega
  refine Aa (f135_ok s b h) ?_
  refine gO ?_
  refine And.intro (fun hh=>?_) (fun hh=>?_)
  ·refine hJ _ (i+1) ⟨by simp at hlt;omega,trivial⟩ (by simp at hlt;omega) (Imp.weak ?_ (by simp(disch:=omega)only[go_sem]))
   refine gO ?_
   exact .sl (by simp[take_add_one,hb,hh,Proc.c])
  ·refine hJ _ (i+1) ⟨by simp at hlt;omega,trivial⟩ (by simp at hlt;omega) (Imp.weak ?_ (by simp(disch:=omega)only[go_sem]))
   refine gO ?_
   exact .sl (by simp[take_add_one,hb,hh])
 ·subst hil
  simp(disch:=omega)only[go_sem,take_length]
  refine B3 ⟨[],[],[1216]⟩ _ ?_
  simp(disch:=omega)only[go_sem,Bg]
def Ca(s:WS)(l:List Proc):WS:=(Ah s).foldl (fun x p=>if AK l p then x else A3 x p) s
theorem f62_ok(s:WS)(l:List Proc)(h:Few s)(hl:l.length≤1000000):Ac C0 62 [.agg s.c,Aq l] [] (.agg (Ca s l).c) []:=by
 have hpl:=CW h
 refine Ac.go f62 ?_
 unfold f62
 refine gO ?_
 refine Aa (f73_ok s h) ?_
 refine gO ?_
 refine Ab (α:=Nat) (fun i=>⟨[(10,I i),(9,I (Ah s).length),(8,Aq (Ah s)),(2,.ptr 128 0),(1,Aq l),(4,.ptr 256 0)],[(128,(((Ah s).take i).foldl (fun x p=>if AK l p then x else A3 x p) s).c),(256,wsz)]⟩) (fun i=>i≤((Ah s)).length∧Few (((Ah s).take i).foldl (fun x p=>if AK l p then x else A3 x p) s)) (fun i=>((Ah s)).length-i) 0 ⟨by omega,h⟩ ?_ ?_
 ·exact Bu
 rintro i ⟨hi,hP⟩ J hJ
 refine gO ?_
 refine ⟨fun hlt=>?_,fun hge=>?_⟩
 rotate_left
 have hil:i=((Ah s)).length:=by simp at hge;omega
 rotate_left
 obtain⟨b,hb⟩:∃ b,((Ah s))[i]?=some b:=⟨_,gE (by simp at hlt;omega)⟩
 have hbm:=mG hb
 simp(disch:=omega)only[go_sem,gm,hb]
 ·have e:((Ah s).take (i+1)).foldl (fun x p=>if AK l p then x else A3 x p) s=if AK l b then ((Ah s).take i).foldl (fun x p=>if AK l p then x else A3 x p) s else A3 (((Ah s).take i).foldl (fun x p=>if AK l p then x else A3 x p) s) b:=by
   rw[take_add_one,hb,toList_some,List.foldl_append];rfl
  generalize ((Ah s).take i).foldl (fun x p=>if AK l p then x else A3 x p) s=t at hP e
  refine Aa (f59_ok l b hl) ?_
  cases hh:AK l b
  ·rw[if_neg (by simp[hh])]at e
   simp(disch:=omega)only[go_sem,Bool.not_false]
   refine Aa (f74_ok t b hP) ?_
   refine gO ?_
   refine hJ _ (i+1) ⟨by simp at hlt;omega,by rw[e];exact GJ hP b⟩ (by simp at hlt;omega) (Imp.weak (by simp(disch:=omega)only[go_sem]) ?_)
   rw[e];simp(disch:=omega)only[go_sem]
  ·rw[if_pos hh]at e
   simp(disch:=omega)only[go_sem,Bool.not_true]
   refine hJ _ (i+1) ⟨by simp at hlt;omega,by rw[e];exact hP⟩ (by simp at hlt;omega) (Imp.weak (by simp(disch:=omega)only[go_sem]) ?_)
   rw[e];simp(disch:=omega)only[go_sem]
 ·subst hil
  rw[take_length]at hP ⊢
  refine BP _ ?_
  simp(disch:=omega)only[go_sem,Ca]
theorem G9{s:WS}{p:Proc}(h:p∈Bg s):p∈Ah s:=(mem_filter.1 h).1
def J5:Nat→WS→List Proc × List Proc
 | 0,s=>([],Ah s)
 | n+1,s=>match Bg s with
  |[]=>([],Ah s)
  | p::_=>(p::(J5 n (A3 s p)).1,(J5 n (A3 s p)).2)
def Cv(s:WS):List Proc × List Proc:=J5 (Ah s).length s
theorem Vb:∀ (n m:Nat) (s:WS),BX s→(Ah s).length≤n→(Ah s).length≤m→J5 n s=J5 m s
 | 0,0,_,_,_,_=>rfl
 | 0,m+1,s,_,h,_=>by
  have e:Bg s=[]:=by unfold Bg;rw[List.eq_nil_of_length_eq_zero (by omega:(Ah s).length=0)];rfl
  simp[J5,e]
 | n+1,0,s,_,_,h=>by
  have e:Bg s=[]:=by unfold Bg;rw[List.eq_nil_of_length_eq_zero (by omega:(Ah s).length=0)];rfl
  simp[J5,e]
 | n+1,m+1,s,hg,h1,h2=>by
  simp only[J5]
  cases hf:Bg s with
  | nil=>rfl
  | cons p l =>
   have hd:=DZ hg (G9 (p:=p) (by rw[hf];simp))
   simp only
   rw[Vb n m (A3 s p) (Cg hg p) (by omega) (by omega)]
theorem Mb{s:WS}(hg:BX s):Cv s=match Bg s with
 |[]=>([],Ah s)
 | p::_=>(p::(Cv (A3 s p)).1,(Cv (A3 s p)).2):=by
 unfold Cv
 cases hf:Bg s with
 | nil =>
  cases (Ah s).length<;>simp[J5,hf]
 | cons p l =>
  have hd:=DZ hg (G9 (p:=p) (by rw[hf];simp))
  rw[Vb _ ((Ah (A3 s p)).length+1) s hg (Nat.le_refl _) (by
   have:=Kx hg p
   have hm:=G9 (p:=p) (s:=s) (by rw[hf];simp)
   have hnd:=FG (Dp (Aw s.queues++B2 s.needs))
   rw[this]
   have:(Ah s).filter (fun x=>decide (x≠p))=(Ah s).erase p:=by
    have hnd':(Ah s).Nodup:=hnd
    rw[List.Nodup.erase_eq_filter hnd']
    refine List.filter_congr fun x _=>?_
    by_cases hx:x=p<;>simp[hx]
   rw[this,List.length_erase_of_mem hm]
   omega)]
  simp only[J5,hf]
theorem f55_ok(s:WS)(h:Few s)(hg:BX s):Ac C0 55 [.agg s.c] [] (.tup [Aq (Cv s).1,Aq (Cv s).2]) []:=by
 refine Ac.go f55 ?_
 unfold f55
 refine gO ?_
 refine Aa (f77_ok s h) ?_
 refine gO ?_
 refine Ab (α:=WS × List Proc) (fun x=>⟨[(5,Aq (Bg x.1)),(4,.sl (.own 1472 0) 3 (x.2.map Proc.c)),(1,.ptr 64 0)],[(64,x.1.c)]⟩) (fun x=>Few x.1∧BX x.1∧x.2.length+(Ah x.1).length≤1000000∧x.2++(Cv x.1).1=(Cv s).1∧(Cv x.1).2=(Cv s).2) (fun x=>(Ah x.1).length) (s,[]) ⟨h,hg,by have:=CW h;simp;omega,rfl,rfl⟩ ?_ ?_
 ·exact Imp.weak (by simp(disch:=omega)only[go_sem]) (by simp(disch:=omega)only[go_sem])
 rintro⟨t,gs⟩ ⟨i1,i2,i3,i4,i5⟩ J hJ
 replace i1:Few t:=i1
 replace i2:BX t:=i2
 replace i3:gs.length+(Ah t).length≤1000000:=i3
 replace i4:gs++(Cv t).1=(Cv s).1:=i4
 replace i5:(Cv t).2=(Cv s).2:=i5
 rw[Mb i2]at i4 i5
 cases hf:Bg t with
 | nil =>
  rw[hf]at i4 i5
  have e0:(0<((0:Nat):Int))=False:=by simp
  simp(disch:=omega)only[go_sem,hf,List.map_nil,List.length_nil,e0,decide_false]
  refine Aa (f73_ok t i1) ?_
  refine gO ?_
  refine B3 ⟨[],[],[1472]⟩ _ ?_
  refine gO ?_
  simp only[List.append_nil]at i4 i5
  exact .eq (by rw[← i4,← i5])
 | cons p l =>
  simp only[hf]at i4 i5
  have hm:p∈Ah t:=G9 (by rw[hf];simp)
  have hd:=DZ i2 hm
  have e0:(0<(l.length:Int)+1)=True:=eq_true (by omega)
  have hbd:gs.length+1≤4294967296:=by omega
  simp(disch:=omega)only[go_sem,hf,Aq,e0]
  refine Aj 4 [([],[1]),([],[5]),([],[14]),([],[15])] fol ?_
  refine gO ?_
  first|(refine Aa (f74_ok t p i1) ?_)|(refine Ai (f74_ok t p i1) ?_)
  refine gO ?_
  have hfew:=GJ i1 p
  refine Aa (f77_ok (A3 t p) hfew) ?_
  refine gO ?_
  refine hJ _ (A3 t p,gs++[p]) ⟨hfew,Cg i2 p,by simp;omega,by rw[← i4];simp,i5⟩ hd (Imp.weak ?_ ?_)
  ·simp(disch:=omega)only[go_sem]
   exact .sl (by simp[Proc.c])
  ·exact gI
def U1:Nat→Expr→Prop
 | 0,_=>True
 | N+1,e=>e.kids.length≤24∧∀ k∈e.kids,U1 N k
theorem S9{lv:Int}:∀ (l:List Expr) (n d:Int),(∀ e∈l,∀ n,n+1≤(meas e (lv+1) n).2)→n≤(Ee l lv n d).2
 |[],n,d,_=>by simp[Ee]
 | e::l,n,d,h=>by
  have h1:=h e (by simp) n
  simp only[Ee]
  split
  ·simp only;omega
  ·have:=S9 l (meas e (lv+1) n).2 (max d (meas e (lv+1) n).1) fun e' he=>h e' (by simp[he])
   omega
theorem N8:∀ (N:Nat) (e:Expr),SizeOf.sizeOf e<N→∀ lv n:Int,n+1≤(meas e lv n).2
 | 0,_,h,_,_=>by omega
 | N+1,e,h,lv,n=>by
  rw[Ij]
  split
  ·simp
  ·exact S9 _ _ _ fun e' he n'=>N8 N e' (by have:=C4 he;omega) _ _
theorem Pa{lv:Int}:∀ (l:List Expr) (n d:Int),(Ee l lv n d).1≠0→0≤n→n≤24→(∀ e∈l,∀ n,0≤n→n≤24→(meas e (lv+1) n).1≠0→n+1≤(meas e (lv+1) n).2∧(meas e (lv+1) n).2≤24) →
 n+l.length≤24∧∀ e∈l,∃ n,0≤n∧n≤24∧(meas e (lv+1) n).1≠0
 |[],n,d,_,h0,h1,_=>by simp;omega
 | e::l,n,d,h,h0,h1,hk=>by
  simp only[Ee]at h
  split at h
  ·simp at h
  ·rename_i hne
   have he:=hk e (by simp) n h0 h1 hne
   have:=Pa l _ _ h (by omega) he.2 fun e' he'=>hk e' (by simp[he'])
   refine⟨by simp only[length_cons];omega,fun e' he'=>?_⟩
   rcases mem_cons.1 he' with rfl|he'
   ·exact⟨n,h0,h1,hne⟩
   ·exact this.2 e' he'
theorem QI:∀ (N:Nat) (e:Expr) (lv n:Int),1≤lv→lv≤5→0≤n→n≤24→(meas e lv n).1≠0→U1 N e
 | 0,_,_,_,_,_,_,_,_=>trivial
 | N+1,e,lv,n,h1,h2,h3,h4,h=>by
  rw[Ij]at h
  split at h
  ·simp at h
  ·rename_i hc
   have:=Pa e.kids (n+1) 0 h (by omega) (by omega) fun e' _ n' k1 k2 k3=>⟨N8 _ e' (Nat.lt_succ_self _) _ _,(Kt _ e' (Nat.lt_succ_self _) (lv+1) n' (by omega) (by omega) k1 k2).2.2.2.2 k3⟩
   refine⟨by omega,fun k hk=>?_⟩
   obtain⟨n',k1,k2,k3⟩:=this.2 k hk
   exact QI N k (lv+1) n' (by omega) (by omega) k1 k2 k3
theorem SH{e:Expr}(h:AQ e=true)(N:Nat):U1 N e:=by
 simp only[AQ,and_eq_true,Bool.not_eq_true',beq_eq_false_iff_ne]at h
 exact QI N e 1 0 (by omega) (by omega) (by omega) (by omega) h.1
theorem f129_ok:∀ (N:Nat) (e:Expr),SizeOf.sizeOf e<N→U1 N e→Ac C0 129 [.agg e.c] [] (.agg e.c) []
 | 0,_,h,_=>by omega
 | N+1,e,h,hk=>by
  have hk1:=hk.1
  refine Ac.lens f129 fun hlen=>?_
  simp only[Ec,lens,Expr.Cb,length_map,and_true,true_and]at hlen
  refine Ac.go f129 ?_
  unfold f129
  refine gO ?_
  refine Ab (α:=Nat) (fun i=>⟨[(9,I i),(8,I e.kids.length),(7,Fj e.kids),(1,.ptr 64 0),(2,.ptr 128 0),(3,.sl (.own 1088 0) 5 ((e.kids.take i).map Expr.c))],[(64,e.c),(128,(Expr.mk 0 a0 []).c)]⟩) (fun i=>i≤(e.kids).length∧True) (fun i=>(e.kids).length-i) 0 ⟨by omega,trivial⟩ ?_ ?_
  ·refine Imp.weak ?_ ?_
   all_goals(try simp(disch:=omega)only[go_sem])
   all_goals(try(repeat'(with_reducible apply And.intro)))
   all_goals(first|exact .AA (by omega)|exact .Au (by omega)|exact .sl (by simp[a0,Expr.Cb,Expr.k,Expr.atom,Expr.kids])|exact .int (by simp[a0,Expr.Cb,Expr.k,Expr.atom,Expr.kids])|exact .eq (by simp[a0,Expr.Cb,Expr.k,Expr.atom,Expr.kids]))
  rintro i ⟨hi,hP⟩ J hJ
  refine gO ?_
  refine ⟨fun hlt=>?_,fun hge=>?_⟩
  rotate_left
  have hil:i=(e.kids).length:=by simp at hge;omega
  rotate_left
  obtain⟨b,hb⟩:∃ b,(e.kids)[i]?=some b:=⟨_,gE (by simp at hlt;omega)⟩
  have hbm:=mG hb
  simp(disch:=omega)only[go_sem,gm,hb]
  ·have hsz:=C4 hbm
   have hlt':i<e.kids.length:=by simp at hlt;omega
   have hbd:min i e.kids.length+1≤4294967296:=by omega
   refine Aa (f129_ok N b (by omega) (hk.2 b hbm)) ?_
   simp(disch:=omega)only[go_sem,length_map,length_take]
   refine hJ _ (i+1) ⟨by omega,trivial⟩ (by omega) (Imp.weak ?_ ?_)
   ·simp(disch:=omega)only[go_sem]
    exact .sl (by simp[take_add_one,hb,Expr.Cb])
   ·simp(disch:=omega)only[go_sem,Expr.Cb]
  ·subst hil
   simp(disch:=omega)only[go_sem,take_length]
   refine B3 ⟨[],[],[1088]⟩ _ ?_
   simp(disch:=omega)only[go_sem,Expr.Cb]
def Dg(a b:Bs):Bool:=Op.bytesLess a b
def n0:Need:=⟨p0,.mk 0 a0 [],0⟩
def BH(l:List Queue)(i:Nat)(q:Queue):Bool:=valid q&&(decide (i=0)||Dg (l.getD (i-1) q0).res.name q.res.name)
def BB(l:List Need)(i:Nat)(n:Need):Bool:=n.proc.ok&&decide (0≤n.gen)&&decide (n.gen≤1073741824)&&AQ n.expr&&(decide (i=0)||decide (A2 (l.getD (i-1) n0).proc n.proc<0))
def BT(l:List Queue):Bool:=decide (l.length≤8)&&BE (BH l) l
def EI(l:List Need):Bool:=decide (l.length≤8)&&BE (BB l) l
def AB(s:WS):Bool:=BT s.queues&&EI s.needs&&decide ((Ah s).length≤8)
theorem A5{q:Queue}(h:Br q≤100):q.holds.length≤1000000∧q.convs.length≤1000000∧q.waits.length≤1000000:=by
 unfold Br Bo at h
 omega
theorem f54_ok(s:WS)(h:Few s):Ac C0 54 [.agg s.c] [] (B (AB s)) []:=by
 refine Ac.go f54 ?_
 unfold f54
 by_cases hq:8<s.queues.length
 ·have e1:(8<(s.queues.length:Int))=True:=eq_true (by omega)
  have e:AB s=false:=by simp[AB,BT];omega
  simp(disch:=omega)only[go_sem,e1]
  refine Ak _ ?_
  exact wb (by simp[e])
 have e1:(8<(s.queues.length:Int))=False:=eq_false (by omega)
 by_cases hn:8<s.needs.length
 ·have e2:(8<(s.needs.length:Int))=True:=eq_true (by omega)
  have e:AB s=false:=by simp[AB,EI];omega
  simp(disch:=omega)only[go_sem,e1,e2,decide_false,decide_true]
  refine Ak _ ?_
  exact wb (by simp[e])
 have e2:(8<(s.needs.length:Int))=False:=eq_false (by omega)
 simp(disch:=omega)only[go_sem,e1,e2,decide_false]
 refine Ab (α:=Nat) (fun i=>⟨[(20,I i),(19,I s.queues.length),(18,At s.queues),(1,.ptr 64 0)],[(64,s.c)]⟩) (fun i=>i≤(s.queues).length∧BE (BH s.queues) (s.queues.take i)=true) (fun i=>(s.queues).length-i) 0 ⟨by omega,rfl⟩ ?_ ?_
 ·exact Bu
 rintro i ⟨hi,hP⟩ J hJ
 refine gO ?_
 refine ⟨fun hlt=>?_,fun hge=>?_⟩
 rotate_left
 have hil:i=(s.queues).length:=by simp at hge;omega
 rotate_left
 obtain⟨b,hb⟩:∃ b,(s.queues)[i]?=some b:=⟨_,gE (by simp at hlt;omega)⟩
 have hbm:=mG hb
 simp(disch:=omega)only[go_sem,gm,hb]
 ·have ha:=A5 (h.aq b hbm)
  have bad:BH s.queues i b=false→AB s=false:=fun h=>by simp only[AB,BT,Ba hb h,Bool.and_false,Bool.false_and]
  have good:BH s.queues i b=true→BE (BH s.queues) (s.queues.take (i+1))=true:=fun h=>by rw[BI hb,hP,h];rfl
  refine Aj 18 [([],[4]),([],[25]),([1],[26]),([1],[27]),([1],[3,28]),([1],[29,28]),([1],[30,28]),([1],[1,31]),([1],[32,31]),([1],[3,31]),([1],[34,31]),([1],[33,35,31]),([1],[36,31]),([1],[37,31]),([1],[38,31]),([1],[4,31]),([1],[40,31]),([1],[41,31])] fol ?_
  refine gO ?_
  first|(refine Aa (f101_ok b ha.1 ha.2.2) ?_)|(refine Ai (f101_ok b ha.1 ha.2.2) ?_)
  cases hv:valid b
  ·simp(disch:=omega)only[go_sem]
   refine Ak _ ?_
   exact wb (by rw[bad (by simp[BH,hv])])
  by_cases hi0:i=0
  ·subst hi0
   refine gO ?_
   refine hJ _ 1 ⟨by simp at hlt;omega,good (by simp[BH,hv])⟩ (by simp at hlt;omega) AE
  ·have hi1:(0<(i:Int))=True:=eq_true (by omega)
   have hi2:((i:Int)-1)=((i-1:Nat):Int):=by omega
   obtain⟨a,ha'⟩:∃ a,s.queues[i-1]?=some a:=⟨_,gE (by simp at hlt;omega)⟩
   have had:s.queues.getD (i-1) q0=a:=by simp[List.getD,ha']
   simp(disch:=omega)only[go_sem,hi1,hi2,gm,ha']
   refine And.intro (fun hh=>?_) (fun hh=>?_)
   ·refine Ak _ ?_
    exact wb (by rw[bad (by simp only[BH,had,hv];simp[hi0];simpa [Dg]using hh)])
   ·refine hJ _ (i+1) ⟨by simp at hlt;omega,good (by simp only[BH,had,hv];simp[hi0];simpa [Dg]using hh)⟩ (by simp at hlt;omega) AE
 subst hil
 rw[take_length]at hP
 have hqs:BT s.queues=true:=by simp[BT,hP];omega
 clear hJ
 refine Ab (α:=Nat) (fun i=>⟨[(50,I i),(49,I s.needs.length),(48,FV s.needs),(1,.ptr 64 0)],[(64,s.c)]⟩) (fun i=>i≤(s.needs).length∧BE (BB s.needs) (s.needs.take i)=true) (fun i=>(s.needs).length-i) 0 ⟨by omega,rfl⟩ ?_ ?_
 ·exact Bu
 rintro i ⟨hi,hP⟩ J hJ
 refine gO ?_
 refine ⟨fun hlt=>?_,fun hge=>?_⟩
 rotate_left
 have hil:i=(s.needs).length:=by simp at hge;omega
 rotate_left
 obtain⟨b,hb⟩:∃ b,(s.needs)[i]?=some b:=⟨_,gE (by simp at hlt;omega)⟩
 have hbm:=mG hb
 simp(disch:=omega)only[go_sem,gm,hb]
 ·have bad:BB s.needs i b=false→AB s=false:=fun h=>by simp only[AB,EI,Ba hb h,Bool.and_false,Bool.false_and]
  have good:BB s.needs i b=true→BE (BB s.needs) (s.needs.take (i+1))=true:=fun h=>by rw[BI hb,hP,h];rfl
  refine Aa (f102_ok b.proc) ?_
  cases hp:b.proc.ok
  ·simp(disch:=omega)only[go_sem]
   refine Ak _ ?_
   exact wb (by rw[bad (by simp[BB,hp])])
  by_cases hg1:b.gen<0
  ·have k1:(b.gen<0)=True:=eq_true hg1
   simp(disch:=omega)only[go_sem,k1]
   refine Ak _ ?_
   exact wb (by rw[bad (by simp[BB];omega)])
  have k1:(b.gen<0)=False:=eq_false hg1
  by_cases hg2:1073741824<b.gen
  ·have k2:(1073741824<b.gen)=True:=eq_true hg2
   simp(disch:=omega)only[go_sem,k1,k2,decide_false]
   refine Ak _ ?_
   exact wb (by rw[bad (by simp[BB];omega)])
  have k2:(1073741824<b.gen)=False:=eq_false hg2
  have g1:decide (0≤b.gen)=true:=by simp;omega
  have g2:decide (b.gen≤1073741824)=true:=by simp;omega
  simp(disch:=omega)only[go_sem,k1,k2,decide_false]
  refine Ae (f103_ok b.expr) (by simp(disch:=omega)only[go_sem,Expr.Cb]) rfl ?_
  cases he:AQ b.expr
  ·simp(disch:=omega)only[go_sem]
   refine Ak _ ?_
   exact wb (by rw[bad (by simp[BB,he])])
  refine gO ?_
  refine Aj 12 [([],[5]),([],[75]),([],[76]),([],[1,77]),([],[78,77]),([],[5,77]),([],[80,77]),([],[79,81,77]),([],[82,77]),([],[83,77]),([],[6,77]),([],[85,77])] fol ?_
  by_cases hi0:i=0
  ·subst hi0
   refine gO ?_
   refine hJ _ 1 ⟨by simp at hlt;omega,good (by simp only[BB,hp,g1,g2,he];rfl)⟩ (by simp at hlt;omega) AE
  ·have hi1:(0<(i:Int))=True:=eq_true (by omega)
   have hi2:((i:Int)-1)=((i-1:Nat):Int):=by omega
   obtain⟨a,ha'⟩:∃ a,s.needs[i-1]?=some a:=⟨_,gE (by simp at hlt;omega)⟩
   have had:s.needs.getD (i-1) n0=a:=by simp[List.getD,ha']
   simp(disch:=omega)only[go_sem,hi1,hi2,gm,ha']
   first|(refine Aa (f61_ok a.proc b.proc) ?_)|(refine Ai (f61_ok a.proc b.proc) ?_)
   refine gO ?_
   by_cases hc:0≤A2 a.proc b.proc
   ·simp(disch:=omega)only[go_sem,hc]
    refine Ak _ ?_
    exact wb (by rw[bad (by simp only[BB,had];simp[hi0];omega)])
   ·simp(disch:=omega)only[go_sem,hc,decide_false]
    refine hJ _ (i+1) ⟨by simp at hlt;omega,good (by simp only[BB,had,hp,g1,g2,he];simp;omega)⟩ (by simp at hlt;omega) AE
 ·subst hil
  rw[take_length]at hP
  have hns:EI s.needs=true:=by simp[EI,hP];omega
  refine Aa (f73_ok s h) ?_
  refine gO ?_
  refine Ak _ ?_
  exact wb (by simp only[AB,hqs,hns];simp;omega)
theorem AS{s:WS}(h:AB s=true):BX s:=by
 simp only[AB,BT,and_eq_true,DU]at h
 intro q hq
 obtain⟨i,hi,he⟩:=List.getElem_of_mem hq
 have:=h.1.1.2 i q (by rw[gE hi,he])
 simp only[BH,and_eq_true]at this
 exact this.1
def IC(s:WS):Prop:=∀ n∈s.needs,AQ n.expr=true
theorem I8{s:WS}(h:AB s=true):IC s:=by
 simp only[AB,EI,and_eq_true,DU]at h
 intro q hq
 obtain⟨i,hi,he⟩:=List.getElem_of_mem hq
 have:=h.1.2.2 i q (by rw[gE hi,he])
 simp only[BB,and_eq_true]at this
 exact this.1.2
theorem Qk{s:WS}(h:IC s)(p:Proc):IC (A3 s p):=fun n hn=>h n (mem_filter.1 hn).1
theorem Ob{P:WS→Prop}(hP:∀ s p,P s→P (A3 s p)){s:WS}(l:List Proc)(h:P s):P (Ca s l):=by
 unfold Ca
 have:∀ (ps:List Proc) (x:WS),P x→P (ps.foldl (fun x p=>if AK l p then x else A3 x p) x):=by
  intro ps
  induction ps with
  | nil=>intro x hx;exact hx
  | cons p ps ih =>
   intro x hx
   simp only[List.foldl_cons]
   split
   ·exact ih x hx
   ·exact ih _ (hP x p hx)
 exact this _ _ h
theorem IL{s:WS}(h:Few s)(l:List Proc):Few (Ca s l):=Ob (P:=Few) (fun _ p h=>GJ h p) l h
theorem SO{s:WS}(h:BX s)(l:List Proc):BX (Ca s l):=Ob (P:=BX) (fun _ p h=>Cg h p) l h
theorem VP{s:WS}(h:IC s)(l:List Proc):IC (Ca s l):=Ob (P:=IC) (fun _ p h=>Qk h p) l h
theorem f72_ok(s:WS)(h:Few s)(he:IC s):Ac C0 72 [.agg s.c] [] (.agg s.c) []:=by
 have hn1:=h.nq
 have hn2:=h.nn
 refine Ac.go f72 ?_
 unfold f72
 refine gO ?_
 refine Ab (α:=Nat) (fun i=>⟨[(11,I i),(10,I s.queues.length),(9,At s.queues),(1,.ptr 64 0),(2,.ptr 128 0),(3,.ptr 192 0)],[(64,s.c),(128,wsz),(192,[.sl (.own 1984 0) 8 ((s.queues.take i).map Queue.c),.v (.slice none 0 0)])]⟩) (fun i=>i≤(s.queues).length∧True) (fun i=>(s.queues).length-i) 0 ⟨by omega,trivial⟩ ?_ ?_
 ·exact Bu
 rintro i ⟨hi,hP⟩ J hJ
 refine gO ?_
 refine ⟨fun hlt=>?_,fun hge=>?_⟩
 rotate_left
 have hil:i=(s.queues).length:=by simp at hge;omega
 rotate_left
 obtain⟨b,hb⟩:∃ b,(s.queues)[i]?=some b:=⟨_,gE (by simp at hlt;omega)⟩
 have hbm:=mG hb
 simp(disch:=omega)only[go_sem,gm,hb]
 ·have ha:=A5 (h.aq b hbm)
  have hbd:min i s.queues.length+1≤4294967296:=by omega
  refine Aj 10 [([],[5]),([],[15]),([],[16]),([],[5]),([],[18]),([2],[19]),([],[5]),([],[21]),([2,5],[22]),([2],[5])] fol ?_
  refine gO ?_
  first|(refine Aa (f127_ok b.holds ha.1) ?_)|(refine Ai (f127_ok b.holds ha.1) ?_)
  refine gO ?_
  first|(refine Aa (f128_ok b.convs ha.2.1) ?_)|(refine Ai (f128_ok b.convs ha.2.1) ?_)
  refine gO ?_
  first|(refine Aa (f128_ok b.waits ha.2.2) ?_)|(refine Ai (f128_ok b.waits ha.2.2) ?_)
  simp(disch:=omega)only[go_sem,length_map,length_take]
  refine hJ _ (i+1) ⟨by simp at hlt;omega,trivial⟩ (by simp at hlt;omega) (Imp.weak (by simp(disch:=omega)only[go_sem]) ?_)
  refine gO ?_
  exact .sl (by simp[take_add_one,hb,Queue.c])
 subst hil
 rw[take_length]
 clear hJ
 refine Ab (α:=Nat) (fun i=>⟨[(37,I i),(36,I s.needs.length),(35,FV s.needs),(1,.ptr 64 0),(2,.ptr 128 0),(3,.ptr 192 0)],[(64,s.c),(128,wsz),(192,[.sl (.own 1984 0) 8 (s.queues.map Queue.c),.sl (.own 3136 0) 9 ((s.needs.take i).map Need.c)])]⟩) (fun i=>i≤(s.needs).length∧True) (fun i=>(s.needs).length-i) 0 ⟨by omega,trivial⟩ ?_ ?_
 ·exact Bu
 rintro i ⟨hi,hP⟩ J hJ
 refine gO ?_
 refine ⟨fun hlt=>?_,fun hge=>?_⟩
 rotate_left
 have hil:i=(s.needs).length:=by simp at hge;omega
 rotate_left
 obtain⟨b,hb⟩:∃ b,(s.needs)[i]?=some b:=⟨_,gE (by simp at hlt;omega)⟩
 have hbm:=mG hb
 simp(disch:=omega)only[go_sem,gm,hb]
 ·have hbd:min i s.needs.length+1≤4294967296:=by omega
  refine Ae (f129_ok _ b.expr (Nat.lt_succ_self _) (SH (he b hbm) _)) (by simp(disch:=omega)only[go_sem,Expr.Cb]) rfl ?_
  simp(disch:=omega)only[go_sem,Expr.Cb,length_map,length_take]
  refine hJ _ (i+1) ⟨by simp at hlt;omega,trivial⟩ (by simp at hlt;omega) (Imp.weak (by simp(disch:=omega)only[go_sem]) ?_)
  refine gO ?_
  exact .sl (by simp[take_add_one,hb,Need.c])
 ·subst hil
  simp(disch:=omega)only[go_sem,take_length]
  refine B3 ⟨[],[],[1984,3136]⟩ _ ?_
  simp(disch:=omega)only[go_sem]
def wsE:WS:=⟨[],[]⟩
def Hr(s:WS):List Proc:=if AB s then Bg s else []
theorem f36_ok(s:WS)(h:Few s):Ac C0 36 [.agg s.c] [] (Aq (Hr s)) []:=by
 refine Ac.go f36 ?_
 unfold f36
 refine gO ?_
 refine Aa (f54_ok s h) ?_
 cases hv:AB s
 ·simp(disch:=omega)only[go_sem]
  refine BP _ ?_
  simp(disch:=omega)only[go_sem,Hr]
  simp only[Hr,hv]
  exact .Au (by omega)
 ·simp(disch:=omega)only[go_sem]
  refine Aa (f77_ok s h) ?_
  refine gO ?_
  refine BP _ ?_
  simp(disch:=omega)only[go_sem,Hr,hv]
def By(s:WS):List Proc × List Proc:=if AB s then Cv s else ([],[])
theorem f19_ok(s:WS)(h:Few s):Ac C0 19 [.agg s.c] [] (.tup [Aq (By s).1,Aq (By s).2]) []:=by
 refine Ac.go f19 ?_
 unfold f19
 refine gO ?_
 refine Aa (f54_ok s h) ?_
 cases hv:AB s
 ·have e:By s=([],[]):=by simp[By,hv]
  simp(disch:=omega)only[go_sem,e]
  exact DR _
 ·have e:By s=Cv s:=by simp[By,hv]
  simp(disch:=omega)only[go_sem,e]
  refine Aa (f55_ok s h (AS hv)) ?_
  refine gO ?_
  exact Av _
theorem I1{s:WS}(h:Few s)(hg:BX s):(Cv s).2.length≤20000:=by
 have key:∀ (n:Nat) (s:WS),Few s→(J5 n s).2.length≤20000:=by
  intro n
  induction n with
  | zero=>intro s h;exact CW h
  | succ n ih =>
   intro s h
   simp only[J5]
   split
   ·exact CW h
   ·exact ih _ (GJ h _)
 exact key _ s h
theorem IE{s:WS}(h:Few s):(By s).2.length≤20000:=by
 unfold By
 split
 ·rename_i hv;exact I1 h (AS hv)
 ·simp
def HY(s:WS)(p:Proc):Bool:=AK (By s).2 p
theorem f35_ok(s:WS)(p:Proc)(h:Few s):Ac C0 35 [.agg s.c,.agg p.c] [] (B (HY s p)) []:=by
 have hl:=IE h
 refine Ac.go f35 ?_
 unfold f35
 refine gO ?_
 refine Aa (f19_ok s h) ?_
 refine gO ?_
 refine Aa (f59_ok (By s).2 p (by omega)) ?_
 refine gO ?_
 refine Ak _ ?_
 exact wb rfl
def D6(s:WS)(p:Proc):WS × Int:=if AB s then (if AK (Ah s) p then (A3 s p,0) else (wsE,10)) else (wsE,2)
theorem f33_ok(s:WS)(p:Proc)(h:Few s):Ac C0 33 [.agg s.c,.agg p.c] [] (.tup [.agg (D6 s p).1.c,I (D6 s p).2]) []:=by
 have hl:=CW h
 refine Ac.go f33 ?_
 unfold f33
 refine gO ?_
 refine Aa (f54_ok s h) ?_
 cases hv:AB s
 ·have e:D6 s p=(wsE,2):=by simp[D6,hv]
  simp(disch:=omega)only[go_sem,e,wsE]
  refine Ak _ ?_
  refine .tup (Af.AD ?_)
  simp(disch:=omega)only[go_sem]
  repeat'(with_reducible apply And.intro)
  all_goals(first|exact .Au (by omega)|exact .agg (Af.AD (by simp(disch:=omega)only[go_sem])))
 refine gO ?_
 refine Aj 3 [([],[2]),([],[10]),([],[3])] fol ?_
 refine gO ?_
 first|(refine Aa (f73_ok s h) ?_)|(refine Ai (f73_ok s h) ?_)
 refine gO ?_
 first|(refine Aa (f59_ok (Ah s) p (by omega)) ?_)|(refine Ai (f59_ok (Ah s) p (by omega)) ?_)
 cases hp:AK (Ah s) p
 ·have e:D6 s p=(wsE,10):=by simp[D6,hv,hp]
  simp(disch:=omega)only[go_sem,e,wsE]
  refine Ak _ ?_
  refine .tup (Af.AD ?_)
  simp(disch:=omega)only[go_sem]
  repeat'(with_reducible apply And.intro)
  all_goals(first|exact .Au (by omega)|exact .agg (Af.AD (by simp(disch:=omega)only[go_sem])))
 ·have e:D6 s p=(A3 s p,0):=by simp[D6,hv,hp]
  simp(disch:=omega)only[go_sem,e]
  refine Aa (f74_ok s p h) ?_
  refine gO ?_
  refine Aa (f72_ok (A3 s p) (GJ h p) (Qk (I8 hv) p)) ?_
  refine gO ?_
  exact Av _
def Bw(s:WS)(l:List Proc):WS × Int:=if AB s then (Ca s l,0) else (wsE,2)
theorem f32_ok(s:WS)(l:List Proc)(h:Few s)(hl:l.length≤1000000):Ac C0 32 [.agg s.c,Aq l] [] (.tup [.agg (Bw s l).1.c,I (Bw s l).2]) []:=by
 refine Ac.go f32 ?_
 unfold f32
 refine gO ?_
 refine Aa (f54_ok s h) ?_
 cases hv:AB s
 ·have e:Bw s l=(wsE,2):=by simp[Bw,hv]
  simp(disch:=omega)only[go_sem,e,wsE]
  refine Ak _ ?_
  refine .tup (Af.AD ?_)
  simp(disch:=omega)only[go_sem]
  repeat'(with_reducible apply And.intro)
  all_goals(first|exact .Au (by omega)|exact .agg (Af.AD (by simp(disch:=omega)only[go_sem])))
 ·have e:Bw s l=(Ca s l,0):=by simp[Bw,hv]
  simp(disch:=omega)only[go_sem,e]
  refine Aa (f62_ok s l h hl) ?_
  refine gO ?_
  refine Aa (f72_ok (Ca s l) (IL h l) (VP (I8 hv) l)) ?_
  refine gO ?_
  exact Av _
def AJ(s:WS)(p:Proc)(set:List Proc)(q:Proc):List Proc:=if q=p∨AK set q=false then set else if AK (Cv (Ca s (BK set q))).2 p then (Cv (Ca s (BK set q))).2 else set
def DA(s:WS)(p:Proc):List Proc × Int:=if AB s then (if AK (Cv s).2 p then ((Cv s).2.foldl (AJ s p) (Cv s).2,0) else ([],14)) else ([],2)
theorem f21_ok(s:WS)(p:Proc)(h:Few s):Ac C0 21 [.agg s.c,.agg p.c] [] (.tup [Aq (DA s p).1,I (DA s p).2]) []:=by
 refine Ac.go f21 ?_
 unfold f21
 refine gO ?_
 refine Aa (f54_ok s h) ?_
 cases hv:AB s
 ·have e:DA s p=([],2):=by simp[DA,hv]
  simp(disch:=omega)only[go_sem,e]
  exact DR _
 have hg:=AS hv
 have hrl:=I1 h hg
 refine gO ?_
 refine Aa (f55_ok s h hg) ?_
 refine gO ?_
 refine Aa (f59_ok (Cv s).2 p (by omega)) ?_
 cases hp:AK (Cv s).2 p
 ·have e:DA s p=([],14):=by simp[DA,hv,hp]
  simp(disch:=omega)only[go_sem,e]
  exact DR _
 have e:DA s p=((Cv s).2.foldl (AJ s p) (Cv s).2,0):=by simp[DA,hv,hp]
 simp(disch:=omega)only[go_sem,e]
 refine Aa (f60_ok (Cv s).2 (by omega)) ?_
 generalize (Cv s).2=all at hrl ⊢
 refine gO ?_
 refine Ab (α:=Nat) (fun i=>⟨[(29,I i),(28,I all.length),(7,Aq all),(8,Aq ((all.take i).foldl (AJ s p) all)),(2,.ptr 128 0),(3,.ptr 192 0)],[(128,s.c),(192,p.c)]⟩) (fun i=>i≤(all).length∧((all.take i).foldl (AJ s p) all).length≤20000) (fun i=>(all).length-i) 0 ⟨by omega,hrl⟩ ?_ ?_
 ·exact Bu
 rintro i ⟨hi,hP⟩ J hJ
 refine gO ?_
 refine ⟨fun hlt=>?_,fun hge=>?_⟩
 rotate_left
 have hil:i=(all).length:=by simp at hge;omega
 rotate_left
 obtain⟨b,hb⟩:∃ b,(all)[i]?=some b:=⟨_,gE (by simp at hlt;omega)⟩
 have hbm:=mG hb
 simp(disch:=omega)only[go_sem,gm,hb]
 ·have e1:(all.take (i+1)).foldl (AJ s p) all=AJ s p ((all.take i).foldl (AJ s p) all) b:=by
   rw[take_add_one,hb,toList_some,List.foldl_append];rfl
  generalize (all.take i).foldl (AJ s p) all=set at hP e1
  have step:∀ set',AJ s p set b=set'→set'.length≤20000→∀ st',Imp ⟨C0,[],[]⟩ st' ⟨[(29,I (i+1:Nat)),(28,I all.length),(7,Aq all),(8,Aq set'),(2,.ptr 128 0),(3,.ptr 192 0)],[(128,s.c),(192,p.c)]⟩→J st':=fun set' h1 h2 st' h3=>by
   refine hJ st' (i+1) ⟨by simp at hlt;omega,by rw[e1,h1];exact h2⟩ (by simp at hlt;omega) ?_
   rw[e1,h1];exact h3
  clear hJ
  refine Aa (f61_ok b p) ?_
  refine gO ?_
  refine And.intro (fun hh=>?_) (fun hh=>?_)
  rotate_left
  ·have hbp:b=p:=by simpa using hh
   exact step set (by simp[AJ,hbp]) hP _ AE
  have hbp:¬ b=p:=by simpa using hh
  refine Aa (f59_ok set b (by omega)) ?_
  cases hs:AK set b
  ·simp(disch:=omega)only[go_sem]
   exact step set (by simp[AJ,hs]) hP _ AE
  refine gO ?_
  refine Aj 10 [([],[2]),([],[8]),([],[10]),([],[48,49]),([3],[47,50]),([3,4],[51]),([3,4,5],[52]),([3,4,5],[46]),([3,4,5],[46]),([3,4,5],[53])] fol ?_
  refine gO ?_
  have hdl:(BK set b).length≤set.length:=length_filter_le _ _
  have hf:=IL h (BK set b)
  have hg2:=SO hg (BK set b)
  have hrl2:=I1 hf hg2
  first|(refine Aa (f63_ok set b (by omega)) ?_)|(refine Ai (f63_ok set b (by omega)) ?_)
  refine gO ?_
  first|(refine Aa (f62_ok s (BK set b) h (by omega)) ?_)|(refine Ai (f62_ok s (BK set b) h (by omega)) ?_)
  refine gO ?_
  first|(refine Aa (f55_ok (Ca s (BK set b)) hf hg2) ?_)|(refine Ai (f55_ok (Ca s (BK set b)) hf hg2) ?_)
  refine gO ?_
  refine Aa (f59_ok (Cv (Ca s (BK set b))).2 p (by omega)) ?_
  cases hq:AK (Cv (Ca s (BK set b))).2 p
  ·simp(disch:=omega)only[go_sem]
   exact step set (by simp[AJ,hs,hbp,hq]) hP _ AE
  ·simp(disch:=omega)only[go_sem]
   exact step (Cv (Ca s (BK set b))).2 (by simp[AJ,hs,hbp,hq]) hrl2 _ AE
 ·subst hil
  simp(disch:=omega)only[go_sem,take_length]
  exact Av _
end Go.Rd
