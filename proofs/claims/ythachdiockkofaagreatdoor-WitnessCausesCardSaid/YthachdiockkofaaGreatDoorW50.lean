/- part 50 of the proof -/
import Derived.Test.YthachdiockkofaaGreatDoorW52
set_option linter.all false
open Go Go.Abs Go.Proofs
set_option maxRecDepth 100000
namespace Go.Rd
set_option maxHeartbeats 8000000
open List (length_cons mem_map)
open Bool (and_eq_true)
open Option (toList_some)
theorem Mu{s:List Bool}{m m':Int}(hl:s.length=6)(h1:0≤m)(h2:m<6):CJ (s.set m.toNat true) m'=true↔CJ s m'=true∧BF m m'=true:=by
 obtain⟨n,rfl⟩:∃ n:Nat,m=n:=⟨m.toNat,by omega⟩;have hn:n<6:=by omega
 unfold CJ;simp only[List.all_eq_true,List.mem_range,Bool.or_eq_true,Bool.not_eq_true',Int.toNat_natCast,List.getD_eq_getElem?_getD,List.getElem?_set];constructor
 ·intro h;refine⟨fun k hk=>?_,?_⟩
  ·by_cases e:n=k
   ·subst e;have:=h n hn;rw[if_pos rfl,if_pos (by omega)]at this;rcases this with h|h
    ·simp at h
    ·exact .inr h
   ·have:=h k hk;rw[if_neg e]at this;exact this
  ·have:=h n hn;rw[if_pos rfl,if_pos (by omega)]at this;rcases this with h|h
   ·simp at h
   ·exact h
 ·rintro⟨h,hc⟩ k hk
  by_cases e:n=k
  ·subst e;exact .inr hc
  ·rw[if_neg e];exact h k hk
theorem XR{r:Res}{a:Amt}(hk:r.kind=1)(h:r.fits a=true):r.AA=1∧Bf a.mode=true∧a.AA=0∧r.permits a=true:=by
 have h':=h;simp only[Res.fits,Res.shaped,hk,if_true,and_eq_true,beq_iff_eq]at h;obtain⟨a1,a2,a3⟩:=h;refine⟨a1,a2,a3,?_⟩;simp[Res.permits,h',Res.shaped,hk,a1]
theorem MP{r:Res}(hk:r.kind=1):∀ (l:List Amt) (seen:List Bool),seen.length=6→(∀ a∈l,r.fits a=true)→(Bl r l 0 seen=true↔(∀ a∈l,CJ seen a.mode=true)∧l.Pairwise fun a b=>BF a.mode b.mode=true)
 |[],_,_,_=>by simp[Bl]
 | a::l,seen,hl,hf=>by
  obtain⟨f1,f2,f3,f4⟩:=XR hk (hf a (by simp));have hm:1≤a.mode∧a.mode≤5:=by simpa [Bf,AL]using f2
  have ih:=MP hk l (seen.set a.mode.toNat true) (by simpa using hl) (fun x hx=>hf x (by simp[hx]));have e:Bl r (a::l) 0 seen=(CJ seen a.mode&&Bl r l 0 (seen.set a.mode.toNat true)):=by
   simp only[Bl,f4,f3,f1,if_neg (show ¬ a.mode=0 by omega),Int.zero_add];simp
  rw[e,and_eq_true,ih,List.pairwise_cons];constructor
  ·rintro⟨h1,h2,h3⟩;refine⟨fun x hx=>?_,fun x hx=>((Mu hl (by omega) (by omega)).1 (h2 x hx)).2,h3⟩;rcases List.mem_cons.1 hx with rfl|hx
   ·exact h1
   ·exact((Mu hl (by omega) (by omega)).1 (h2 x hx)).1
  ·rintro⟨h1,h2,h3⟩;exact⟨h1 a (by simp),fun x hx=>(Mu hl (by omega) (by omega)).2 ⟨h1 x (by simp[hx]),h2 x hx⟩,h3⟩
theorem Z7(m:Int):CJ no6 m=true:=by
 unfold CJ;rw[List.all_eq_true];intro k hk;have hk:k<6:=List.mem_range.1 hk;obtain rfl|rfl|rfl|rfl|rfl|rfl:k=0∨k=1∨k=2∨k=3∨k=4∨k=5:=by omega
 all_goals rfl
theorem Ks{r:Res}(hk:r.kind=1)(hs:r.shaped=true){l:List Amt}(hf:∀ a∈l,r.fits a=true):r.compat l=true↔l.Pairwise fun a b=>BF a.mode b.mode=true:=by
 unfold Res.compat;rw[hs,Bool.true_and,MP hk l no6 rfl hf];exact⟨fun h=>h.2,fun h=>⟨fun a _=>Z7 a.mode,h⟩⟩
theorem Ys{l:List AO}{p:Ae}{a:Amt}(ha:a.zero=false):(BX l p a).Perm (⟨p,a⟩::AK l p):=by
 unfold BX;rw[if_neg (by simp[ha])];refine List.perm_middle.trans ?_;rw[List.take_append_drop]
theorem Zf{r:Res}{a:Amt}(h:r.fits a=true):a.zero=false:=by
 cases hz:a.zero
 ·rfl
 ·simp only[Amt.zero,and_eq_true,beq_iff_eq]at hz;simp[Res.fits,hz.1,hz.2,Bf,AL]at h
theorem Zn{q:Queue}(hs:Sound q){w:AS}(hh:Bj q=some w):q.res.fits w.amt=true∧w.proc.ok=true∧(AK q.holds w.proc).length+1≤8:=by
 have hcv:=(BK q).1 hs.An;obtain⟨a,b,c⟩:=(Bz q).1 hs.waits;rw[Cv]at a;have hH:=(CW _ _).1 hs.holds;have hd:(AK q.holds w.proc).length≤q.holds.length:=List.length_filter_le _ _;unfold Bj at hh;cases hc:q.An with
 | cons w' l =>
  rw[hc]at hh;simp at hh;subst hh;obtain⟨z,f,_⟩:=hcv.2.2 w' (by rw[hc];simp);have:=Lh z;refine⟨f,?_,by omega⟩;unfold AB at z;cases hf:q.holds.find? (fun h=>decide (h.proc=w'.proc)) with
  |none=>rw[hf]at z;simp[Amt.zero]at z
  |some h =>
   have hp:h.proc=w'.proc:=by simpa using List.find?_some hf
   rw[← hp];exact(hH.2.2.1 h (List.mem_of_find?_eq_some hf)).1
 | nil =>
  cases hw:q.waits with
  | nil=>rw[hc,hw]at hh;simp at hh
  | cons w' l =>
   rw[hc,hw]at hh;simp at hh;subst hh;have hm:w'∈q.waits:=by rw[hw];simp
   obtain⟨f,z⟩:=c w' hm;have hok:=a.2.2 w' hm;rw[hw]at b;simp at b;exact⟨f,by simp only[AS.ok,and_eq_true]at hok;exact hok.1.1.1,by omega⟩
theorem VA{q:Queue}(hs:Sound q){w:AS}(hh:Bj q=some w)(hr:DP q.res q.holds w.proc w.amt=false):Bm q.res q.holds w.proc w.amt≠[]:=by
 obtain⟨hfit,hpo,hlen⟩:=Zn hs hh;have hz:=Zf hfit;intro he;have hH:=(CW _ _).1 hs.holds;have e1:Bm q.res q.holds w.proc w.amt=agT q.res w.proc w.amt q.holds:=by simp[Bm,hs.holds,hpo,hfit,hr]
 rw[e1]at he;have hall:∀ h∈q.holds,h.proc≠w.proc→q.res.kind=1∧q.res.compat [h.amt,w.amt]=true:=by
  intro h hm hne;have hn:q.holds.filter (fun h=>!Ez q.res w.proc w.amt h)=[]:=by simpa [agT]using he
  have:=(List.filter_eq_nil_iff.1 hn) h hm;simp only[Ez,Bool.not_eq_true,Bool.not_eq_false']at this;simpa [hne]using this
 have:DP q.res q.holds w.proc w.amt=true:=by
  simp only[DP,hs.holds,hpo,hfit,Bool.true_and];rw[CW];refine⟨hH.1,Nat.le_trans Ny hlen,?_,WG hH.2.2.2.1 hz,?_⟩
  ·intro h hm;rcases(KQ hz).1 hm with ⟨hm,_⟩|rfl
   ·exact hH.2.2.1 h hm
   ·exact⟨hpo,hfit⟩
  ·by_cases hk:q.res.kind=1
   ·have hfs:∀ a∈(BX q.holds w.proc w.amt).map (·.amt),q.res.fits a=true:=by
     intro a ha;obtain⟨h,hm,rfl⟩:=mem_map.1 ha;rcases(KQ hz).1 hm with ⟨hm,_⟩|rfl
     ·exact(hH.2.2.1 h hm).2
     ·exact hfit
    rw[Ks hk hH.1 hfs];have hp:=((Ys (l:=q.holds) (p:=w.proc) hz).map (·.amt));rw[hp.pairwise_iff (fun h=>Hs h),List.map_cons,List.pairwise_cons];constructor
    ·intro a ha;obtain⟨h,hm,rfl⟩:=mem_map.1 ha;obtain⟨hm,hne⟩:=HG.1 hm;have hc:=(hall h hm hne).2;rw[Ks hk hH.1 (by intro a ha;simp at ha;rcases ha with rfl|rfl;exact(hH.2.2.1 h hm).2;exact hfit)]at hc;simp at hc;exact Hs hc
    ·have hc:=hH.2.2.2.2;rw[Ks hk hH.1 (by intro a ha;obtain⟨h,hm,rfl⟩:=mem_map.1 ha;exact(hH.2.2.1 h hm).2)]at hc;exact hc.sublist (List.filter_sublist.map _)
   ·have hd:AK q.holds w.proc=[]:=by
     unfold AK;rw[List.filter_eq_nil_iff];intro h hm;simp only[decide_eq_true_eq,Decidable.not_not];apply Classical.byContradiction;intro hne;exact hk (hall h hm hne).1
    have e:BX q.holds w.proc w.amt=[⟨w.proc,w.amt⟩]:=by simp[BX,hz,hd]
    rw[e];have hf:=hfit;simp only[Res.fits,hk,if_false,and_eq_true,beq_iff_eq,AL,decide_eq_true_eq]at hf;obtain⟨_,f1,f2,f3⟩:=hf;have hpm:q.res.permits w.amt=true:=by simp[Res.permits,hH.1,hfit]
    simp[Res.compat,hH.1,Bl,hpm,f1,f3]
 rw[this]at hr;cases hr
theorem YS{x:WS}(hv:AD x=true){q:Queue}(hq:q∈x.Aa){p:Ae}{c:Cause}(h:A6 q p=some c):c.members≠[]∧p∉c.members∧∀ y∈c.members,y∈Ah x:=by
 have hvq:valid q=true:=((DO _).1 ((CK x).1 hv).1).2.1 q hq;simp only[valid,and_eq_true]at hvq;obtain⟨hsd,hset⟩:=hvq;have hs:=(GD q).1 hsd;cases hk:(CP q).findIdx? (fun x=>decide (x=p)) with
 |none=>simp[A6,hk]at h
 |some k =>
  obtain⟨hlt,hpk,hno⟩:=List.findIdx?_eq_some_iff_getElem.1 hk;have hpk:(CP q)[k]=p:=by simpa using hpk
  cases k with
  | zero =>
   have hc:c.members=Bm q.res q.holds p (IC q p):=by
    simp[A6,hk]at h;subst h;rfl
   cases hw:q.An++q.waits with
   | nil=>simp[CP,Bt,hw]at hlt
   | cons w l =>
    have hh:Bj q=some w:=by simp[Bj,hw]
    have hwp:w.proc=p:=by
     have:(CP q)[0]?=some p:=by rw[gE hlt,hpk]
     simp[CP,Bt,hw]at this;exact this
    have hwa:IC q p=w.amt:=by
     simp[IC,As,hw,hwp]
    rw[hh]at hset;simp only[Bool.not_eq_true']at hset;have hne:=VA hs hh hset;rw[hwp]at hne;rw[hc,hwa];refine⟨hne,?_,?_⟩
    ·intro hm;unfold Bm at hm;split at hm
     ·obtain⟨h,hm,he⟩:=mem_map.1 hm;have:=(List.mem_filter.1 hm).2;simp[Ez,he]at this
     ·cases hm
    ·intro y hm;unfold Bm at hm;split at hm
     ·obtain⟨h,hm,he⟩:=mem_map.1 hm;rw[Dc];exact .inl ⟨q,hq,(Db ..).2 (.inl ⟨h,(List.mem_filter.1 hm).1,he⟩)⟩
     ·cases hm
  | succ k =>
   have hlt':k+1<(CP q).length:=hlt;have hy:(CP q)[k]?=some ((CP q)[k]'(by omega)):=gE (by omega);have hc:c.members=[(CP q)[k]'(by omega)]:=by
    simp[A6,hk,hy]at h;subst h;rfl
   rw[hc];refine⟨by simp,?_,?_⟩
   ·intro hm;have:=hno k (by omega);simp at hm this;exact this hm.symm
   ·intro y hm;simp at hm;subst hm;exact Si hq (List.getElem_mem _)
theorem XA{x:WS}(hv:AD x=true){c:Cause}(hc:c∈A2 x.Aa (Ah x)):c.members≠[]∧c.proc∉c.members∧∀ y∈c.members,y∈Ah x:=by
 obtain⟨p,_,q,hq,h⟩:=FK.1 hc;rw[(CT h).1];exact YS hv hq h
theorem Xs{l:List Atom}{a x:Atom}(h:x∈l):x∈Ds l a:=by
 unfold Ds;split
 ·exact h
 ·simp[h]
theorem VE(l:List Atom)(a:Atom):a∈Ds l a:=by
 unfold Ds;split
 ·assumption
 ·simp
theorem Kp:∀ (es:List Expr) (l:List Atom),(∀ e∈es,∀ l x,x∈l→x∈P1 l e)→∀ x,x∈l→x∈P2 l es
 |[],_,_,_,h=>by simpa [P2]using h
 | e::es,l,hk,x,h=>by
  simp only[P2];exact Kp es _ (fun e' he=>hk e' (by simp[he])) x (hk e (by simp) l x h)
theorem T5:∀ (N:Nat) (e:Expr),SizeOf.sizeOf e<N→∀ (l:List Atom) (x:Atom),x∈l→x∈P1 l e
 | 0,_,h,_,_,_=>by omega
 | N+1,e,h,l,x,hx=>by
  rw[MN]
  by_cases h0:e.kids.length=0
  ·rw[if_pos h0];exact Xs hx
  ·rw[if_neg h0];exact Kp e.kids l (fun k hk l' x' hx'=>T5 N k (by have:=CX hk;omega) l' x' hx') x hx
theorem RF{has:Atom→Bool}:∀ (es:List Expr) (l l':List Atom),(∀ e∈es,∀ l l',(prop e l').1=true→(∀ a∈P1 l e,has a=true)→DL has e=true)→(B5 es l').1=true→(∀ a∈P2 l es,has a=true)→Ck has es=es.length
 |[],_,_,_,_,_=>by simp[Ck]
 | e::es,l,l',hk,hp,ha=>by
  simp only[B5]at hp;simp only[P2]at ha;split at hp
  ·rename_i h1;have:=hk e (by simp) l l' h1 fun a hm=>ha a (Kp es _ (fun e' _ l x hx=>T5 _ e' (Nat.lt_succ_self _) l x hx) a hm)
   have ih:=RF es _ _ (fun e' he=>hk e' (by simp[he])) hp ha;simp only[Ck,this,if_true,ih,length_cons];omega
  ·cases hp
theorem Uf{has:Atom→Bool}:∀ (N:Nat) (e:Expr),SizeOf.sizeOf e<N→∀ l l':List Atom,(prop e l').1=true→(∀ a∈P1 l e,has a=true)→DL has e=true
 | 0,_,h,_,_,_,_=>by omega
 | N+1,e,h,l,l',hp,ha=>by
  rw[HC];rw[Dz]at hp;rw[MN]at ha
  by_cases h0:e.kids.length=0
  ·rw[if_pos h0]at ha ⊢;exact ha _ (VE l e.atom)
  ·rw[if_neg h0]at hp ha ⊢;split at hp
   ·cases hp
   ·rename_i hn;have hc:=RF (has:=has) e.kids l l' (fun k hk l1 l2 hp' ha'=>Uf N k (by have:=CX hk;omega) l1 l2 hp' ha') hp ha;rw[hc];simp only[not_or,Int.not_lt]at hn;simpa using hn.2.1
theorem X4{e:Expr}(h:A4 e=true){set:List Bool}(hl:set.length=(Ag e).length)(hs:∀ b∈set,b=true):DR e set=true:=by
 have hp:(prop e []).1=true:=by simp only[A4,and_eq_true]at h;exact h.2
 have hne:=TV h;have ha:Ag e=P1 [] e:=by simp[Ag,h]
 have he:DL (DD (Ag e) set) e=true:=by
  refine Uf _ e (Nat.lt_succ_self _) [] [] hp fun a hm=>?_
  rw[← ha]at hm;unfold DD;split
  ·rename_i i hi;obtain⟨h1,_⟩:=List.findIdx?_eq_some_iff_getElem.1 hi;rw[List.getD_eq_getElem?_getD,gE (by omega)];exact hs _ (List.getElem_mem _)
  ·rename_i hi;rw[List.findIdx?_eq_none_iff]at hi;have:=hi a hm;simp at this
 unfold DR;rw[he];simpa using hne
theorem Tg{x:WS}(hv:AD x=true){p:Ae}(hp:p∈Ah x)(hf:BH x p=false):∃ q∈x.Aa,(A6 q p).isSome=true:=by
 unfold BH at hf;cases hn:x.Ao.find? (fun n=>decide (n.proc=p)) with
 |none=>rw[hn]at hf;cases hf
 |some n =>
  rw[hn]at hf;simp only at hf;have hpn:n.proc=p:=by simpa using List.find?_some hn
  have hex:A4 n.expr=true:=((FO _).1 ((CK x).1 hv).2.1).2.1 n (List.mem_of_find?_eq_some hn) |>.2.2.2;apply Classical.byContradiction;intro hno;have hw:∀ name,CC x.Aa p name=false:=by
   intro name;unfold CC;cases hq:x.Aa.find? (fun q=>q.res.name==name) with
   |none=>rfl
   |some q =>
    simp only;rw[GF];cases hc:(A6 q p).isSome
    ·rfl
    ·exact absurd ⟨q,List.mem_of_find?_eq_some hq,hc⟩ hno
  have:=X4 hex (set:=CU x n) (by simp[CU]) (by
   intro b hb;simp only[CU,mem_map]at hb;obtain⟨a,_,rfl⟩:=hb;rw[Lb hv,hpn,hw];rfl)
  rw[this]at hf;cases hf
theorem WT{α β:Type}{f:α→List β}:∀ l:List α,(∀ x∈l,f x≠[])→l.length≤(l.flatMap f).length
 |[],_=>by simp
 | x::l,h=>by
  have ih:=WT l fun y hy=>h y (by simp[hy])
  have:1≤(f x).length:=by
   cases hx:f x with
   | nil=>exact absurd hx (h x (by simp))
   | cons _ _=>simp
  simp only[List.flatMap_cons,List.length_append,length_cons];omega
def P0(s:WS)(p:Ae)(l:List Queue):Nat:=l.countP fun q=>CC s.Aa p q.res.name
def Hg(s:WS)(ms:List Ae):Nat:=(ms.map fun p=>P0 s p s.Aa).sum
theorem WH(s:WS)(p:Ae)(l:List Queue):P0 s p l≤l.length:=List.countP_le_length
theorem RD{s:WS}{p:Ae}{l:List Queue}{i:Nat}{q:Queue}(h:l[i]?=some q):P0 s p (l.take (i+1))=P0 s p (l.take i)+if CC s.Aa p q.res.name=true then 1 else 0:=by
 unfold P0;rw[List.take_add_one,h,toList_some,List.countP_append];simp[List.countP_cons]
theorem Yx{s:WS}{ms:List Ae}{i:Nat}{p:Ae}(h:ms[i]?=some p):Hg s (ms.take (i+1))=Hg s (ms.take i)+P0 s p s.Aa:=by
 unfold Hg;rw[List.take_add_one,h,toList_some,List.map_append,List.sum_append];simp
theorem Xf(s:WS):∀ ms:List Ae,Hg s ms≤ms.length*s.Aa.length
 |[]=>by simp[Hg]
 | p::ms=>by
  have ih:=Xf s ms;have:=WH s p s.Aa;have e:Hg s (p::ms)=P0 s p s.Aa+Hg s ms:=by simp[Hg]
  rw[e,length_cons,Nat.succ_mul];omega
theorem Qg{α β:Type}{f:α→Option β}{w:α→Bool}:∀ l:List α,(∀ x∈l,(f x).isSome=true→w x=true)→(l.filterMap f).length≤l.countP w
 |[],_=>by simp
 | x::l,h=>by
  have ih:=Qg l fun y hy=>h y (by simp[hy])
  have hx:=h x (by simp);rw[List.filterMap_cons,List.countP_cons];cases hf:f x with
  |none=>simp only;omega
  |some b =>
   rw[hf]at hx;have:=hx rfl;simp only[this,if_true,length_cons];omega
theorem M9(A:List Ae):∀ (ms:List Ae) (s:WS),Cm s→∃ g:Queue→Queue,(F3 A ms s).Aa=s.Aa.map g∧∀ q∈s.Aa,(g q).res=q.res∧∀ y,(As (g q) y).isSome=true→(As q y).isSome=true
 |[],s,_=>⟨id,by simp[F3],fun q _=>⟨rfl,fun y h=>h⟩⟩
 | m::ms,s,hg=>by
  have e:F3 A (m::ms) s=F3 A ms (if Be A m then s else BP s m):=rfl;rw[e];split
  ·exact M9 A ms s hg
  ·obtain⟨g,h1,h2⟩:=M9 A ms _ (CE hg m);refine⟨fun q=>g (Cd q m),?_,fun q hq=>?_⟩
   ·rw[h1];simp[BP]
   ·obtain⟨a,b⟩:=h2 (Cd q m) (by simp only[BP,mem_map];exact⟨q,hq,rfl⟩);exact⟨a.trans (Oo q m),fun y hy=>Vs (hg q hq) (b y hy)⟩
theorem Xz{s:WS}(hv:AD s=true)(A ms:List Ae):(A2 (BY s A).Aa ms).length≤Hg s ms:=by
 obtain⟨g,h1,h2⟩:=M9 A (Ah s) s (Bh hv);rw[show BY s A=F3 A (Ah s) s from rfl,h1];unfold A2
 induction ms with
 | nil=>simp[Hg]
 | cons p ms ih =>
  have e:Hg s (p::ms)=P0 s p s.Aa+Hg s ms:=by simp[Hg]
  rw[e,List.flatMap_cons,List.length_append];refine Nat.add_le_add ?_ ih;unfold Cs P0;rw[List.filterMap_map];refine Qg s.Aa fun q hq hc=>?_
  rw[Function.comp,← GF]at hc;unfold CC;rw[Lq hv hq];exact(h2 q hq).2 p hc
theorem Xy{x:WS}(hv:AD x=true)(hf:BT x=[]):(Ah x).length≤(A2 x.Aa (Ah x)).length:=by
 refine WT (Ah x) fun p hp=>?_
 have h0:BH x p=false:=by
  cases h:BH x p
  ·rfl
  ·have:p∈BT x:=DK.2 ⟨hp,h⟩;rw[hf]at this;cases this
 obtain⟨q,hq,hc⟩:=Tg hv hp h0;obtain⟨c,hc⟩:=Option.isSome_iff_exists.1 hc;intro he;have:c∈Cs p x.Aa:=List.mem_filterMap.2 ⟨q,hq,hc⟩;rw[he]at this;cases this
theorem T0{s:WS}(hv:AD s=true){A ms:List Ae}{c:Cause}(hc:c∈A2 (BY s A).Aa ms):CC s.Aa c.proc c.name=true:=by
 obtain⟨g,h1,h2⟩:=M9 A (Ah s) s (Bh hv);rw[show BY s A=F3 A (Ah s) s from rfl,h1]at hc;obtain⟨p,_,q',hq',h⟩:=FK.1 hc;obtain⟨q,hq,rfl⟩:=mem_map.1 hq';obtain⟨a,b⟩:=CT h;have hs:(A6 (g q) p).isSome=true:=by rw[h];rfl
 rw[← GF]at hs;rw[a,b,(h2 q hq).1];unfold CC;rw[Lq hv hq];exact(h2 q hq).2 p hs
end Go.Rd
