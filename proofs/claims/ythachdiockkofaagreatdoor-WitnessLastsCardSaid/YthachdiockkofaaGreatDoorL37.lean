/- part 37 of the proof -/
import Derived.Test.YthachdiockkofaaGreatDoorL31
set_option linter.all false
open Go Go.Abs Go.Proofs
set_option maxRecDepth 100000
namespace Go.Rd
set_option maxHeartbeats 8000000
open List (all_eq_true filter_append filter_cons foldl_append foldl_cons getElem_mem length_append length_cons length_map length_take map_append map_cons mem_append mem_cons mem_filter mem_filterMap mem_map mem_of_mem_take mem_singleton nodup_cons pairwise_append pairwise_iff_getElem pairwise_map set_set)
open Bool (and_eq_true false_eq_true or_eq_true)
open Option (getD_some map_some none_or toList_some)
open Nat (le_trans lt_or_ge min_eq_left)
def Gl(y:Ab)(q q':Queue):Prop :=
 (Aq q' y=Aq q y∧At q'.holds y=At q.holds y∧∀ w∈q'.waits,w.proc=y→∃ v∈q.waits,v.proc=y∧v.prio=w.prio)∨∃ a,Aq q y=some a∧Aq q' y=none∧At q'.holds y=a
def Gl.refl{y:Ab}(q:Queue):Gl y q q:=.inl ⟨rfl,rfl,fun w h e=>⟨w,h,e,rfl⟩⟩
def Gl.trans{y:Ab}{a b c:Queue}(h1:Gl y a b)(h2:Gl y b c):Gl y a c:=by
 rcases h1 with ⟨p1,p2,p3⟩|⟨x,p1,p2,p3⟩
 ·rcases h2 with ⟨r1,r2,r3⟩|⟨x,r1,r2,r3⟩
  ·refine .inl ⟨r1.trans p1,r2.trans p2,fun w hw e=>?_⟩;obtain⟨v,v1,v2,v3⟩:=r3 w hw e;obtain⟨u,u1,u2,u3⟩:=p3 v v1 v2;exact⟨u,u1,u2,u3.trans v3⟩
  ·exact .inr ⟨x,p1▸r1,r2,r3⟩
 ·rcases h2 with ⟨r1,r2,r3⟩|⟨z,r1,r2,r3⟩
  ·exact .inr ⟨x,p1,r1.trans p2,r2.trans p3⟩
  ·rw[p2]at r1;cases r1
def bU{q:Queue}{w:AP}(y:Ab)(hs:Sound q)(h:Bk q=some w):Gl y q (CK q w):=by
 by_cases hy:y=w.proc
 ·subst hy;refine .inr ⟨w.amt,OE h,Mv hs h,?_⟩;rcases E4 h with ⟨l,hc,e⟩|⟨hc,l,hw,e⟩<;>rw[e]<;>exact Jh
 ·refine .inl ⟨IP h hy,?_,fun v hv e2=>⟨v,?_,e2,rfl⟩⟩
  ·rcases E4 h with ⟨l,hc,e⟩|⟨hc,l,hw,e⟩<;>rw[e]<;>exact EW hy
  ·rcases E4 h with ⟨l,hc,e⟩|⟨hc,l,hw,e⟩
   ·rw[e]at hv;exact hv
   ·rw[e]at hv;rw[hw];exact List.mem_cons_of_mem _ hv
def bR{q:Queue}(y:Ab)(hs:Sound q):Gl y q (BT q).1 :=
 (Ha (P:=fun x=>Sound x∧Gl y q x) (fun _ _ h hh hr=>⟨JZ h.1 hh hr,h.2.trans (bU y h.1 hh)⟩) _ q rfl ⟨hs,.refl q⟩).1.2
def RC{q:Queue}(y:Ab)(hs:Sound q):Gl y q (ET q):=bR y hs
def ZK{q:Queue}{p y:Ab}(h:y≠p):Gl y q (DZ q p):=.inl ⟨Tu h,rfl,fun w hw e=>⟨w,by simp only[DZ,AZ,mem_filter]at hw;exact hw.1,e,rfl⟩⟩
def bT{q:Queue}{p y:Ab}{a:Amt}(h:y≠p):Gl y q (ID q p a):=.inl ⟨rfl,EW h,fun w hw e=>⟨w,hw,e,rfl⟩⟩
def ZJ{q:Queue}{p y:Ab}{a:Amt}(h:y≠p):Gl y q (FY q p a):=.inl ⟨Tt h,rfl,fun w hw e=>⟨w,hw,e,rfl⟩⟩
def ZL{q:Queue}{p y:Ab}{a:Amt}{prio:Int}(h:y≠p):Gl y q (Ga q p a prio):=.inl ⟨Tw h,rfl,fun w hw e=>by
 rcases LB hw with rfl|hw|⟨v,hv,_,rfl⟩
 ·exact absurd e.symm h
 ·exact⟨w,hw,e,rfl⟩
 ·exact⟨v,hv,e,rfl⟩⟩
def bS{q:Queue}{p y:Ab}(h:y≠p):Gl y q (Bw q p):=.inl ⟨WI h,(EW h:At (B5 q.holds p ⟨0,0⟩) y=At q.holds y),fun w hw e=>⟨w,by simp only[Bw,AZ,mem_filter]at hw;exact hw.1,e,rfl⟩⟩
def erW(w:AP):AP:={ w with CQ:=0 }
def er(q:Queue):Queue:={ q with Ao:=q.Ao.map erW,waits:=q.waits.map erW,gen:=0 }
def cT(q:Queue):Bk (er q)=(Bk q).map erW:=by
 unfold Bk er;simp only[← map_append];cases q.Ao++q.waits<;>rfl
def fe(q:Queue)(w:AP):CK (er q) (erW w)=er (CK q w):=by
 unfold CK er;cases hq:q.Ao
 ·simp only[List.map_nil,hq,List.map_drop];rfl
 ·simp only[map_cons];rfl
def MG:∀ (n:Nat) (q:Queue),BK q≤n→(BT (er q)).1=er (BT q).1
 | n,q,hn=>by
  rw[Iq (er q),Iq q,cT];cases hh:Bk q with
  |none=>rfl
  |some w =>
   have hlt:=GZ hh;simp only[map_some];have e:Et (er q).res (er q).holds (erW w).proc (erW w).amt=Et q.res q.holds w.proc w.amt:=rfl;rw[e];cases n with
   | zero=>omega
   | succ n =>
    split
    ·simp only[fe];exact MG n _ (by omega)
    ·rfl
def aB(q:Queue)(p:Ab):er (Bw q p)=Bw (er q) p:=by
 simp only[E9,er,AZ,List.filter_map];rfl
def fc{q:Queue}(h:Sound q)(p:Ab):er (BT (Bw (ET q) p)).1=er (BT (Bw q p)).1:=by
 have e:er (Bw (ET q) p)=er (Bw (BT q).1 p):=rfl;rw[← MG _ _ (Nat.le_refl _),e,MG _ _ (Nat.le_refl _),K4 h]
def QK(l:List AK)(p:Ab):AA (AA l p) p=AA l p:=by simp[AA,List.filter_filter]
def QL(l:List AP)(p:Ab):AZ (AZ l p) p=AZ l p:=by simp[AZ,List.filter_filter]
def Y1(l:List AK)(p:Ab)(a:Amt):AA (B5 l p a) p=AA l p:=by
 unfold B5;split
 ·exact QK l p
 ·have h1:∀ m:List AK,(∀ x∈m,x∈AA l p)→AA m p=m:=fun m hm=>List.filter_eq_self.2 fun x hx=>by
   have:=hm x hx;simp only[AA,mem_filter]at this;exact this.2
  have h2:∀ A B:List AK,AA (A++⟨p,a⟩::B) p=AA A p++AA B p:=fun A B=>by simp[AA,filter_append]
  rw[h2,h1 _ (fun x hx=>mem_of_mem_take hx),h1 _ (fun x hx=>List.mem_of_mem_drop hx),List.take_append_drop]
def aw(l:List AP)(w:AP):(AZ (KW l w) w.proc).map erW=(AZ l w.proc).map erW:=by
 unfold KW;generalize E0 l w l.length=k;have h:∀ m:List AP,(AZ (m.map fun x=>{ x with CQ:=x.CQ+1 }) w.proc).map erW=(AZ m w.proc).map erW:=fun m=>by
  induction m with
  | nil=>rfl
  | cons x m ih =>
   simp only[AZ,map_cons,filter_cons]at ih ⊢;split
   ·simp only[map_cons,ih];rfl
   ·exact ih
 have h2:∀ A B:List AP,AZ (A++w::B) w.proc=AZ A w.proc++AZ B w.proc:=fun A B=>by simp[AZ,filter_append]
 rw[h2,map_append,h,← map_append];have h3:∀ A B:List AP,AZ A w.proc++AZ B w.proc=AZ (A++B) w.proc:=fun A B=>by simp[AZ,filter_append]
 rw[h3,List.take_append_drop]
def ai(q:Queue)(p:Ab):Bw (DZ q p) p=Bw q p:=by simp only[E9,DZ,QL]
def cK(q:Queue)(p:Ab)(a:Amt):Bw (ID q p a) p=Bw q p:=by simp only[E9,ID,Y1]
def ah(q:Queue)(p:Ab)(a:Amt):Bw (FY q p a) p=Bw q p:=by simp[E9,FY,AZ,filter_append]
def cJ(q:Queue)(p:Ab):Bw (Bw q p) p=Bw q p:=by simp only[E9,QK,QL]
def aj(q:Queue)(p:Ab)(a:Amt)(prio:Int):er (Bw (Ga q p a prio) p)=er (Bw q p):=by
 simp only[E9,Ga,er];rw[aw q.waits ⟨p,a,prio,0⟩]
structure HQ(p:Ab)(q q':Queue):Prop where
 val:valid q'=true
 res:q'.res=q.res
 inp:∀ x,inQ q' x→inQ q x∨x=p
 same:∀ y,y≠p→Gl y q q'
 cut:er (B1 q' p)=er (B1 q p)
def HQ.refl{p:Ab}{q:Queue}(hv:valid q=true):HQ p q q:=⟨hv,rfl,fun _ h=>.inl h,fun _ _=>.refl q,rfl⟩
def HQ.trans{p:Ab}{a b c:Queue}(h:HQ p a b)(h':HQ p b c):HQ p a c :=
 ⟨h'.val,h'.res.trans h.res,fun x hx=>(h'.inp x hx).elim (h.inp x) .inr,fun y hy=>(h.same y hy).trans (h'.same y hy),h'.cut.trans h.cut⟩
def J1{p:Ab}{q q1:Queue}(hv:valid q=true)(h:Sound q1)(hr:q1.res=q.res)(hi:∀ x,inQ q1 x→inQ q x∨x=p)(hs:∀ y,y≠p→Gl y q q1)(hc:er (Bw q1 p)=er (Bw q p)):HQ p q (ET q1) where
 val:=On h
 res:=(Ya q1).trans hr
 inp:=fun x hx=>hi x ((Om q1 x).1 hx)
 same:=fun y hy=>(hs y hy).trans (RC y h)
 cut:=by
  rw[FP (On h),FP hv,fc h,← MG _ _ (Nat.le_refl _),hc,MG _ _ (Nat.le_refl _)]
def cE{q:Queue}{p:Ab}(hv:valid q=true)(hw:(Aq q p).isSome=true):HQ p q (Bn q p).1:=by
 have hs:=((BE q).1 hv).1;have e:(Bn q p).1=ET (DZ q p):=by simp[Bn,hv,hw]
 rw[e];exact J1 hv (LJ hs p) rfl (fun x hx=>.inl (Q2 hx)) (fun y hy=>ZK hy) (by rw[ai])
def Xz{q:Queue}{p:Ab}{a:Amt}(hv:valid q=true)(hz:(At q.holds p).zero=false)(hw:Aq q p=none)(hc:q.res.covers (At q.holds p) a=true):HQ p q (A7 q p a).1:=by
 have hs:=((BE q).1 hv).1
 by_cases he:At q.holds p=a
 ·have e:(A7 q p a).1=q:=by
   unfold A7;rw[if_neg (by simp[hv]),if_neg (by simp[hz]),if_neg (by simp[hw]),if_neg (by simp[hc]),if_pos (by simp[he])]
  rw[e];exact .refl hv
 ·have e:(A7 q p a).1=ET (ID q p a):=by
   unfold A7;rw[if_neg (by simp[hv]),if_neg (by simp[hz]),if_neg (by simp[hw]),if_neg (by simp[hc]),if_neg (by simp[he])]
  rw[e];exact J1 hv (O5 hs hz hw hc) rfl (fun x hx=>T9 hx) (fun y hy=>bT hy) (by rw[cK])
def ji{q:Queue}(p:Ab)(hv:valid q=true):HQ p q (B4 p q).1:=by
 unfold B4;cases hq:Me q p
 ·exact .refl hv
 simp only[if_true];have hs:=((BE q).1 hv).1;unfold FC;simp only[hv,if_true];have hm:B2 (Bp q) p=true:=by
  have:p∈Bp q:=by
   rw[Ea];unfold Me at hq;rcases(by simpa using hq:(Aq q p).isSome=true∨(At q.holds p).zero=false) with h|h
   ·obtain⟨w,h1,h2⟩:=IN.1 h;rcases mem_append.1 h1 with h1|h1
    ·exact .inr (.inl ⟨w,h1,h2⟩)
    ·exact .inr (.inr ⟨w,h1,h2⟩)
   ·exact .inl (Ic h)
  simpa [B2]using this
 rw[hm];simp only[if_true];exact J1 hv (Ii hs p) rfl (fun x hx=>.inl ((Q1 q p x).1 hx).1) (fun y hy=>bS hy) (by rw[cJ])
def RN{q:Queue}{p:Ab}{a:Amt}(hw:Aq q p=none):Aq (FY q p a) p=some (C8 q.res (At q.holds p) a):=by
 have hn:=E7.1 hw;have h1:q.Ao.find? (fun w=>decide (w.proc=p))=none:=by
  rw[List.find?_eq_none];intro x hx;simpa using hn x (by simp[hx])
 unfold Aq FY;simp only[List.find?_append,h1,List.find?_cons,decide_true,none_or,Option.some_or,map_some]
def RP{q:Queue}{p:Ab}{a:Amt}{prio:Int}(hw:Aq q p=none):Aq (Ga q p a prio) p=some a∧∀ w∈(Ga q p a prio).waits,w.proc=p→w.prio=prio:=by
 have hn:=E7.1 hw;have h1:q.Ao.find? (fun w=>decide (w.proc=p))=none:=by
  rw[List.find?_eq_none];intro x hx;simpa using hn x (by simp[hx])
 have h2:∀ k,(q.waits.take k).find? (fun w=>decide (w.proc=p))=none:=fun k=>by
  rw[List.find?_eq_none];intro x hx;simpa using hn x (by simp[mem_of_mem_take hx])
 refine⟨?_,fun w hw e=>?_⟩
 ·unfold Aq Ga KW;simp only[List.find?_append,h1,h2,List.find?_cons,decide_true,none_or,Option.some_or,map_some]
 ·rcases LB hw with rfl|hw|⟨v,hv,_,rfl⟩
  ·rfl
  ·exact absurd e (hn w (by simp[hw]))
  ·exact absurd e (hn v (by simp[hv]))
def eW{q:Queue}{p:Ab}{a:Amt}{prio:Int}(hv:valid q=true)(hp:p.ok=true)(h1:0≤prio∧prio≤7)(hf:q.res.fits a=true)(hw:Aq q p=none)(h8:(At q.holds p).zero=true→q.holds.length+q.waits.length<8) :
 (A3 q p a prio).2.2=0∧HQ p q (A3 q p a prio).1∧(q.res.covers (At q.holds p) a=true→(A3 q p a prio).1=q) ∧
 (q.res.covers (At q.holds p) a=false→(Aq (A3 q p a prio).1 p=none∧At (A3 q p a prio).1.holds p=C8 q.res (At q.holds p) a)∨(Aq (A3 q p a prio).1 p=some (C8 q.res (At q.holds p) a)∧At (A3 q p a prio).1.holds p=At q.holds p∧∀ w∈(A3 q p a prio).1.waits,w.proc=p→w.prio=prio)):=by
 have hs:=((BE q).1 hv).1;unfold A3;rw[if_neg (by simp[hv]),if_neg (by simp[hp]),if_neg (by simp;omega),if_neg (by simp;omega),if_neg (by simp[hf]),if_neg (by simp[hw])];cases hc:q.res.covers (At q.holds p) a
 ·rw[if_neg (by simp)];cases hz:(At q.holds p).zero
  ·rw[if_pos (by simp)];have hsq:Sound (FY q p a):=M3 hs hf hw hz hc;refine⟨rfl,J1 hv hsq rfl (fun x hx=>Vq hx) (fun y hy=>ZJ hy) (by rw[ah]),fun h=>(by cases h),fun _=>?_⟩;have hw1:=RN (a:=a) hw;rcases RC p hsq with ⟨g1,g2,g3⟩|⟨b,g1,g2,g3⟩
   ·refine .inr ⟨g1.trans hw1,g2,fun w hw' e=>?_⟩;obtain⟨v,v1,v2,_⟩:=g3 w hw' e;exact absurd v2 (E7.1 hw v (by simp[show v∈q.waits from v1]))
   ·rw[hw1]at g1;exact .inl ⟨g2,g3.trans (Option.some.inj g1).symm⟩
  ·have h8':=h8 hz;rw[if_neg (by simp),if_neg (by simp;omega)];have hsq:Sound (Ga q p a prio):=O6 hs hp h1 hf hw hz h8';refine⟨rfl,J1 hv hsq rfl (fun x hx=>Vr hx) (fun y hy=>ZL hy) (aj q p a prio),fun h=>(by cases h),fun _=>?_⟩;obtain⟨hw1,hw2⟩:=RP (a:=a) (prio:=prio) hw;have hj:C8 q.res (At q.holds p) a=a:=by
    rw[zero_eq hz]at hc ⊢;exact OL hf hc
   rw[hj];rcases RC p hsq with ⟨g1,g2,g3⟩|⟨b,g1,g2,g3⟩
   ·refine .inr ⟨g1.trans hw1,g2,fun w hw' e=>?_⟩;obtain⟨v,v1,v2,v3⟩:=g3 w hw' e;rw[← v3];exact hw2 v v1 v2
   ·rw[hw1]at g1;exact .inl ⟨g2,g3.trans (Option.some.inj g1).symm⟩
 ·rw[if_pos rfl];exact⟨rfl,.refl hv,fun _=>rfl,fun h=>by cases h⟩
def PG:∀ a b:Bs,a≠b→BX a b=true∨BX b a=true
 |[],[],h=>absurd rfl h
 |[],_::_,_=>.inl (by simp[BX,Op.bytesLess])
 |_::_,[],_=>.inr (by simp[BX,Op.bytesLess])
 | a::x,b::y,h=>by
  rw[Ks,Ks]
  by_cases e:a=b
  ·subst e;rcases PG x y (fun e=>h (by rw[e])) with h1|h1
   ·left;simp[h1]
   ·right;simp[h1]
  ·have:a<b∨b<a:=by
    rcases Nat.lt_or_gt_of_ne (fun h1=>e (UInt8.toNat_inj.1 h1):a.toNat≠b.toNat) with h1|h1
    ·exact .inl (UInt8.lt_iff_toNat_lt.2 h1)
    ·exact .inr (UInt8.lt_iff_toNat_lt.2 h1)
   rcases this with h1|h1
   ·left;simp[h1]
   ·right;simp[h1]
def VL{a b:Bs}(h:BX a b=true):¬ BX b a=true:=fun h'=>Hd a (Hr h h')
def YI(l:List Bs):Prop:=l.Pairwise fun a b=>BX a b=true
def aY{l:List Bs}(h:YI l)(n:Bs):YI (PV l n):=by
 unfold PV;split
 ·exact h
 rename_i hn;have key:∀ k,k≤l.length→(∀ y∈l.drop k,BX n y=true)→(∀ y∈l.take (IM l n k),BX y n=true)∧∀ y∈l.drop (IM l n k),BX n y=true:=by
  intro k
  induction k with
  | zero=>intro _ hd;exact⟨fun y hy=>by simp[IM]at hy,by simpa [IM]using hd⟩
  | succ k ih =>
   intro hk hd;have hg:l.getD k []=l[k]:=by simp[List.getD,gE (show k<l.length by omega)]
   simp only[IM,hg];split
   ·rename_i hc;refine ih (by omega) fun y hy=>?_
    rw[List.drop_eq_getElem_cons (by omega)]at hy;rcases mem_cons.1 hy with rfl|hy
    ·exact hc
    ·exact hd y hy
   ·rename_i hc;refine⟨fun y hy=>?_,hd⟩;have hkn:BX l[k] n=true:=by
     rcases PG n l[k] (fun e=>hn (e▸getElem_mem _)) with h1|h1
     ·exact absurd h1 hc
     ·exact h1
    rw[List.take_succ_eq_append_getElem (by omega)]at hy;rcases mem_append.1 hy with hy|hy
    ·obtain⟨j,hj,rfl⟩:=List.mem_iff_getElem.1 hy;simp only[length_take]at hj;rw[List.getElem_take];exact Hr (pairwise_iff_getElem.1 h j k (by omega) (by omega) (by omega)) hkn
    ·rw[mem_singleton.1 hy];exact hkn
 obtain⟨h1,h2⟩:=key l.length (Nat.le_refl _) (by simp);unfold mid YI;rw[pairwise_append];refine⟨h.sublist (List.take_sublist _ _),List.pairwise_cons.2 ⟨h2,h.sublist (List.drop_sublist _ _)⟩,fun a ha b hb=>?_⟩;rcases mem_cons.1 hb with rfl|hb
 ·exact h1 a ha
 ·exact Hr (h1 a ha) (h2 b hb)
def SJ:∀ (ns l:List Bs),YI l→YI (ns.foldl PV l)
 |[],_,h=>h
 | n::ns,_,h=>SJ ns _ (aY h n)
def Rj(l:List Entry):YI (B3 l):=SJ _ _ List.Pairwise.nil
def Kv(l:List Entry):(B3 l).Nodup:=List.Pairwise.imp (R:=fun a b=>BX a b=true) (S:=fun a b=>a≠b) (fun {a b} h e=>Hd b (by rw[e]at h;exact h)) (Rj l)
def Zi(l:List Entry)(e:Entry)(n:Bs):An (l++[e]) n=if e.name==n then e.after else An l n:=by
 simp[An,foldl_append]
def rkA(a:Amt):Nat:=if a.mode=0 then a.Ax.toNat else if a.mode=5 then 4 else if a.mode=4 then 3 else if a.mode=1 then 1 else 2
def dM{a b:Int}(h:A5 b a=true)(hn:b≠a):∀ u v:Int,rkA ⟨a,u⟩<rkA ⟨b,v⟩:=by
 have ha:Bi a=true:=by simp only[A5,and_eq_true]at h;exact h.1.2
 have hb:Bi b=true:=by simp only[A5,and_eq_true]at h;exact h.1.1
 intro u v;revert h hn;rcases AN ha with rfl|rfl|rfl|rfl|rfl<;>rcases AN hb with rfl|rfl|rfl|rfl|rfl<;>simp[rkA]<;>decide
def Tq{a:Amt}(h:usable a=true):1≤rkA a∧rkA a≤8:=by
 rcases C2 h with ⟨h1,h2⟩|⟨h1,h2,h3⟩
 ·obtain⟨m,u⟩:=a;simp only at h1;rcases AN h1 with rfl|rfl|rfl|rfl|rfl<;>simp[rkA]
 ·simp only[rkA,h1,if_true];omega
def Xl{a b:Amt}(h:DA a b=true):rkA a<rkA b∧rkA b≤8:=by
 have hu:=(Ln h).1;refine⟨?_,(Tq hu).2⟩;have hne:a≠b:=by
  intro e;subst e;simp[DA]at h
 rcases(Ln h).2 with rfl|⟨ua,ub,h1⟩
 ·have:=(Tq hu).1;have e:rkA ⟨0,0⟩=0:=rfl;omega
 ·rcases h1 with ⟨h1,h2⟩|⟨h1,h2,h3⟩
  ·obtain⟨m,u⟩:=a;obtain⟨n,v⟩:=b;refine dM h2 (fun e=>hne ?_) u v;simp only at e h1 h2;rcases C2 ua with ⟨_,k1⟩|⟨k1,_⟩
   ·rcases C2 ub with ⟨_,k2⟩|⟨k2,_⟩
    ·simp only at k1 k2;rw[e,k1,k2]
    ·simp only at k2;omega
   ·exact absurd k1 h1
  ·have:a.Ax≠b.Ax:=fun e=>hne (by
    obtain⟨m,u⟩:=a;obtain⟨n,v⟩:=b;simp only at h1 h2 e;rw[h1,h2,e])
   rcases C2 ua with ⟨k,_⟩|⟨_,k,_⟩
   ·exact absurd h1 (H5 k)
   ·simp only[rkA,h1,h2,if_true];omega
structure FW(l:Ledger):Prop where
 ent:∀ (i:Nat) (e:Entry),l.entries[i]?=some e→BM e.name=true∧e.before=An (l.entries.take i) e.name∧DA e.before e.after=true
 nam:(B3 l.entries).length≤8
 n4:l.AG.length≤4
 lab:∀ s∈l.AG,1≤s.label∧s.label≤99∧0≤s.pos∧s.pos≤(l.entries.length:Int)
 asc:l.AG.Pairwise fun a b=>a.pos≤b.pos
 uni:l.AG.Pairwise fun a b=>a.label≠b.label
def SW:∀ (ns:List Bs) (l:List Entry),(∀ e∈l,e.name∈ns)→(∀ n,l.countP (fun e=>e.name==n)≤8)→l.length≤8*ns.length
 |[],l,h,_=>by
  cases l with
  | nil=>simp
  | cons e l=>exact absurd (h e (by simp)) (by simp)
 | n::ns,l,h,hc=>by
  have h1:=hc n;rw[List.countP_eq_length_filter]at h1;have h2:∀ l:List Entry,l.length=(l.filter fun e=>e.name==n).length+(l.filter fun e=>!(e.name==n)).length:=fun l=>by
   induction l with
   | nil=>rfl
   | cons e l ih =>
    simp only[filter_cons];cases e.name==n<;>simp<;>omega
  have h2:=h2 l;have h3:=SW ns (l.filter fun e=>!(e.name==n)) (fun e he=>by
   rw[mem_filter]at he;rcases mem_cons.1 (h e he.1) with h4|h4
   ·rw[h4]at he;simp at he
   ·exact h4) fun m=>le_trans (List.Sublist.countP_le List.filter_sublist) (hc m)
  simp only[length_cons];omega
def Ss{l:List Entry}(h:∀ i e,l[i]?=some e→BM e.name=true∧e.before=An (l.take i) e.name∧DA e.before e.after=true)(n:Bs):∀ i,i≤l.length→(l.take i).countP (fun e=>e.name==n)≤rkA (An (l.take i) n)∧rkA (An (l.take i) n)≤8
 | 0,_=>⟨by simp,by simp[An,rkA]⟩
 | i+1,hi=>by
  obtain⟨e,he⟩:∃ e,l[i]?=some e:=⟨_,gE (by omega)⟩;obtain⟨h1,h2⟩:=Ss h n i (by omega);obtain⟨_,g2,g3⟩:=h i e he;rw[D7 he,tA,he,List.countP_append];simp only[toList_some,List.countP_cons,List.countP_nil];cases hn:e.name==n
  ·simp only[false_eq_true,if_false];exact⟨by omega,h2⟩
  ·simp only[if_true];have hn:e.name=n:=by simpa using hn
   rw[hn]at g2;rw[g2]at g3;have:=Xl g3;exact⟨by omega,this.2⟩
def FW.len{l:Ledger}(h:FW l):l.entries.length≤72:=by
 have:=SW (B3 l.entries) l.entries (fun e he=>(D9 _ _).2 ⟨e,he,rfl⟩) fun n=>by
  obtain⟨h1,h2⟩:=Ss h.ent n l.entries.length (Nat.le_refl _);rw[tL]at h1 h2;omega
 have:=h.nam;omega
def X4{l:List Save}(h:∀ i s,l[i]?=some s→i=0∨(l.getD (i-1) s0).pos≤s.pos):∀ d i a b,l[i]?=some a→l[i+d+1]?=some b→a.pos≤b.pos
 | 0,i,a,b,ha,hb=>by
  have:=h (i+1) b hb;rw[show l.getD (i+1-1) s0=a by simp[List.getD,ha]]at this;omega
 | d+1,i,a,b,ha,hb=>by
  have hlt:=Aj hb;obtain⟨c,hc⟩:∃ c,l[i+d+1]?=some c:=⟨_,gE (by omega)⟩;have h1:=X4 h d i a c ha hc;have h2:=h (i+(d+1)+1) b hb;rw[show l.getD (i+(d+1)+1-1) s0=c by simp[List.getD,show i+(d+1)+1-1=i+d+1 by omega,hc]]at h2;omega
def EO(l:Ledger):A9 l=true↔FW l:=by
 constructor
 ·intro h;simp only[A9,and_eq_true,zD,CM,EU,EL,or_eq_true]at h;obtain⟨⟨⟨⟨h1,h2⟩,h3⟩,h4⟩,h5⟩:=h;refine⟨fun i e he=>⟨(h3 i e he).1.1,(h3 i e he).1.2,(h3 i e he).2⟩,h4,h2,fun s hs=>?_,?_,?_⟩
  ·obtain⟨i,hi⟩:=List.getElem?_of_mem hs;have:=h5 i s hi;exact⟨this.1.1.1.1.1,this.1.1.1.1.2,this.1.1.1.2,this.1.1.2⟩
  ·rw[pairwise_iff_getElem];intro i j hi hj hij;obtain⟨d,rfl⟩:∃ d,j=i+d+1:=⟨j-i-1,by omega⟩;exact X4 (fun i s hs=>(h5 i s hs).1.2) d i _ _ (gE hi) (gE hj)
  ·rw[pairwise_iff_getElem];intro i j hi hj hij e;have a:=(h5 i _ (gE hi)).2;have b:=(h5 j _ (gE hj)).2;rw[e,b]at a;omega
 ·intro h;simp only[A9,and_eq_true,zD,CM,EU,EL,or_eq_true];refine⟨⟨⟨⟨h.len,h.n4⟩,fun i e he=>?_⟩,h.nam⟩,fun i s hs=>?_⟩
  ·obtain⟨a,b,c⟩:=h.ent i e he;exact⟨⟨a,b⟩,c⟩
  ·obtain⟨a,b,c,d⟩:=h.lab s (mG hs);have hlt:=Aj hs;refine⟨⟨⟨⟨⟨a,b⟩,c⟩,d⟩,?_⟩,?_⟩
   ·cases i with
    | zero=>exact .inl rfl
    | succ i =>
     right;have hg:l.AG[i]?=some (l.AG[i]):=gE (by omega);have:=pairwise_iff_getElem.1 h.asc i (i+1) (by omega) hlt (by omega);rw[get_eq hs]at this;rw[Nat.add_sub_cancel,show l.AG.getD i s0=l.AG[i] by simp[List.getD,hg]];exact this
   ·unfold JD;have:l.AG.findIdx? (fun x=>x.label==s.label)=some i:=by
     rw[List.findIdx?_eq_some_iff_getElem];refine⟨hlt,by simp[get_eq hs],fun j hj=>?_⟩;have:=pairwise_iff_getElem.1 h.uni j i (by omega) hlt hj;rw[get_eq hs]at this;simpa using this
    rw[this]
def FW.snoc{l:Ledger}(h:FW l){e:Entry}(hn:BM e.name=true)(hb:e.before=An l.entries e.name)(hg:DA e.before e.after=true)(h8:(B3 (l.entries++[e])).length≤8):FW ⟨l.entries++[e],l.AG⟩ where
 ent:=fun i b hbi=>by
  simp only at hbi ⊢;rw[List.getElem?_append]at hbi;split at hbi
  ·rename_i hlt;obtain⟨h1,h2,h3⟩:=h.ent i b hbi;rw[List.take_append_of_le_length (by omega)];exact⟨h1,h2,h3⟩
  ·rename_i hge;have hi:i-l.entries.length=0:=by
    have:=Aj hbi;simp at this;omega
   rw[hi]at hbi;simp at hbi;subst hbi;have:i=l.entries.length:=by omega
   subst this;rw[List.take_left']
   ·exact⟨hn,hb,hg⟩
   ·rfl
 nam:=h8
 n4:=h.n4
 lab:=fun s hs=>by
  obtain⟨a,b,c,d⟩:=h.lab s hs;refine⟨a,b,c,?_⟩;simp only[length_append,List.length_singleton];omega
 asc:=h.asc
 uni:=h.uni
def Rk{l m:List Entry}(h:∀ e∈l,∃ b∈m,b.name=e.name):(B3 l).length≤(B3 m).length :=
 CY _ _ (Kv l) fun x hx=>by
  rw[D9]at hx ⊢;obtain⟨e,he,rfl⟩:=hx;exact h e he
def FW.cut{l:Ledger}(h:FW l){label:Int}{a n:Nat}(hb:KL l label=some (a,n)):FW (Np l a n):=by
 have key:∀ s∈l.AG.take n,s.pos≤(min a l.entries.length:Nat):=by
  unfold KL at hb;split at hb
  ·cases hb;intro s hs;simp at hs
  ·cases hf:l.AG.findIdx? (fun s=>s.label==label) with
   |none=>rw[hf]at hb;cases hb
   |some i =>
    rw[hf]at hb;simp only[zO,Prod.mk.injEq]at hb;obtain⟨hi,_,_⟩:=List.findIdx?_eq_some_iff_getElem.1 hf;have hg:l.AG.getD i s0=l.AG[i]:=by simp[List.getD,gE hi]
    rw[hg]at hb;intro s hs;obtain⟨j,hj,rfl⟩:=List.mem_iff_getElem.1 hs;simp only[length_take]at hj;rw[List.getElem_take];have h1:=(h.lab l.AG[i] (getElem_mem hi)).2.2;have h2:l.AG[j].pos≤l.AG[i].pos:=by
     rcases lt_or_ge j i with hji|hji
     ·exact pairwise_iff_getElem.1 h.asc j i (by omega) hi hji
     ·have:j=i:=by omega
      subst this;exact Int.le_refl _
    omega
 refine⟨fun i e he=>?_,le_trans (Rk fun e he=>⟨e,mem_of_mem_take he,rfl⟩) h.nam,by(show (l.AG.take n).length≤4);rw[length_take];have:=h.n4;omega,fun s hs=>?_,h.asc.sublist (List.take_sublist _ _),h.uni.sublist (List.take_sublist _ _)⟩
 ·simp only[Np]at he ⊢;rw[List.getElem?_take]at he;split at he
  ·rename_i hlt;rw[List.take_take,min_eq_left (by omega)];exact h.ent i e he
  ·cases he
 ·have h1:=key s hs;obtain⟨p,q,r,_⟩:=h.lab s (mem_of_mem_take hs);refine⟨p,q,r,?_⟩;simp only[Np,length_take];exact h1
def FW.save{l:Ledger}{lab:Int}(h:FW l)(h0:(Ed l lab).2=0):FW (Ed l lab).1∧(Ed l lab).1.entries=l.entries:=by
 have hv:=(EO l).2 h;revert h0;unfold Ed;rw[if_neg (by simp[hv])];split
 ·intro h0;simp at h0
 rename_i h1;split
 ·intro h0;simp at h0
 rename_i h2;split
 ·intro h0;simp at h0
 rename_i h3;intro _;simp only[or_eq_true,zD,not_or]at h1;refine⟨⟨h.ent,h.nam,?_,fun s hs=>?_,?_,?_⟩,rfl⟩
 ·have:=h.n4;simp only[length_append,List.length_singleton];omega
 ·rcases mem_append.1 hs with hs|hs
  ·exact h.lab s hs
  ·rw[mem_singleton.1 hs];exact⟨by show 1≤lab;omega,by show lab≤99;omega,by simp,by simp⟩
 ·rw[pairwise_append];refine⟨h.asc,List.pairwise_singleton _ _,fun a ha b hb=>?_⟩;rw[mem_singleton.1 hb];exact(h.lab a ha).2.2.2
 ·rw[pairwise_append];refine⟨h.uni,List.pairwise_singleton _ _,fun a ha b hb e=>h2 ?_⟩;rw[mem_singleton.1 hb]at e;unfold JD;cases hf:l.AG.findIdx? (fun s=>s.label==lab) with
  |none =>
   rw[List.findIdx?_eq_none_iff]at hf;have:=hf a ha;simp only at e;simp[e]at this
  |some i=>simp
def MM{name n:Bs}(h:n≠name)(l:List Entry):An (l.filter (Cd name)) n=An l n:=by
 unfold An;generalize (⟨0,0⟩:Amt)=a
 induction l generalizing a with
 | nil=>rfl
 | cons e l ih =>
  rw[filter_cons];cases hk:Cd name e
  ·have he:e.name=name:=by simpa [Cd]using hk
   simp only[false_eq_true,if_false,foldl_cons];rw[ih,if_neg (by rw[he];simpa using Ne.symm h)]
  ·simp only[if_true,foldl_cons];rw[ih]
def Xm(name:Bs)(l:List Entry):An (l.filter (Cd name)) name=⟨0,0⟩:=LX fun⟨e,he,hn⟩=>by
 rw[mem_filter]at he;simp[Cd,hn]at he
def Vf{l:List Entry}(h:∀ i e,l[i]?=some e→BM e.name=true∧e.before=An (l.take i) e.name∧DA e.before e.after=true)(name:Bs):∀ k,k≤l.length →
 ∀ i e,((l.take k).filter (Cd name))[i]?=some e→BM e.name=true∧e.before=An (((l.take k).filter (Cd name)).take i) e.name∧DA e.before e.after=true
 | 0,_,i,e,he=>by simp at he
 | k+1,hk,i,e,he=>by
  obtain⟨b,hb⟩:∃ b,l[k]?=some b:=⟨_,gE (by omega)⟩;have ih:=Vf h name k (by omega);have e1:(l.take (k+1)).filter (Cd name)=(l.take k).filter (Cd name)++[b].filter (Cd name):=by
   rw[tA,hb,filter_append];rfl
  rw[e1]at he ⊢;rw[List.getElem?_append]at he;split at he
  ·rename_i hlt;rw[List.take_append_of_le_length (by omega)];exact ih i e he
  ·rename_i hge;cases hkb:Cd name b
   ·rw[filter_cons,hkb]at he;simp at he
   ·rw[filter_cons,hkb]at he;simp only[if_true,List.filter_nil]at he;have h0:i-((l.take k).filter (Cd name)).length=0:=by have:=Aj he;simp at this;omega
    rw[h0]at he;simp at he;subst he;have hi:i=((l.take k).filter (Cd name)).length:=by omega
    rw[List.take_left' hi.symm];obtain⟨g1,g2,g3⟩:=h k b hb;refine⟨g1,?_,g3⟩;rw[MM (by simpa [Cd]using hkb)];exact g2
def QF(l:List Entry)(name:Bs)(pos:Nat):∀ i,i≤l.length→La l name pos i=(((l.take (min i pos)).countP fun e=>e.name==name:Nat):Int)
 | 0,_=>by simp[La]
 | i+1,hi=>by
  obtain⟨b,hb⟩:∃ b,l[i]?=some b:=⟨_,gE (by omega)⟩;have hg:l.getD i ⟨[],⟨0,0⟩,⟨0,0⟩⟩=b:=by simp[List.getD,hb]
  simp only[La,QF l name pos i (by omega),hg]
  by_cases hp:i<pos
  ·rw[min_eq_left (by omega),min_eq_left (by omega),tA,hb,List.countP_append];simp only[toList_some,List.countP_cons,List.countP_nil];cases hn:b.name==name<;>simp<;>omega
  ·rw[Nat.min_eq_right (by omega),Nat.min_eq_right (by omega),if_neg (by omega)];omega
def ZM(l:List Entry)(name:Bs){pos:Nat}(h:pos≤l.length):(pos:Int)-La l name pos l.length=(((l.take pos).filter (Cd name)).length:Nat):=by
 rw[QF l name pos l.length (Nat.le_refl _),Nat.min_eq_right h];have h1:=List.length_eq_countP_add_countP (fun e:Entry=>e.name==name) (l:=l.take pos);rw[length_take,min_eq_left h]at h1;have h2:(l.take pos).countP (fun e=>decide ¬(e.name==name)=true)=((l.take pos).filter (Cd name)).length:=by
  rw[List.countP_eq_length_filter];congr 1;refine List.filter_congr fun x _=>?_
  rw[Bool.eq_iff_iff];simp[Cd]
 omega
def FW.drop{l:Ledger}{name:Bs}(h:FW l)(hn:∃ e∈l.entries,e.name=name):(FZ l name).1.entries=l.entries.filter (Cd name)∧FW (FZ l name).1:=by
 have hlt:(l.entries.filter (Cd name)).length≠l.entries.length:=fun e=>by
  obtain⟨b,hb,hbn⟩:=hn;have:=List.length_filter_eq_length_iff.1 e b hb;simp[Cd,hbn]at this
 have e1:(FZ l name).1=⟨l.entries.filter (Cd name),l.AG.map (DE l.entries name l.entries.length)⟩:=by
  unfold FZ;rw[if_neg (by simp[(EO l).2 h]),if_neg hlt]
 rw[e1];have hpos:∀ s∈l.AG,∃ k:Nat,s.pos=k∧k≤l.entries.length∧(DE l.entries name l.entries.length s).pos=(((l.entries.take k).filter (Cd name)).length:Nat):=fun s hs=>by
  obtain⟨_,_,h3,h4⟩:=h.lab s hs;obtain⟨k,hk⟩:=Int.eq_ofNat_of_zero_le h3;refine⟨k,hk,by omega,?_⟩;simp only[DE,hk];exact ZM _ _ (by omega)
 have hmono:∀ j k:Nat,j≤k→((l.entries.take j).filter (Cd name)).length≤((l.entries.take k).filter (Cd name)).length:=fun j k hjk=>by
  refine(List.Sublist.filter _ ?_).length_le;rw[← min_eq_left hjk,← List.take_take];exact List.take_sublist _ _
 refine⟨rfl,⟨?_,le_trans (Rk fun e he=>⟨e,(mem_filter.1 he).1,rfl⟩) h.nam,by simpa using h.n4,fun s hs=>?_,?_,?_⟩⟩
 ·have:=Vf h.ent name l.entries.length (Nat.le_refl _);rw[tL]at this;exact this
 ·simp only[mem_map]at hs;obtain⟨s',hs',rfl⟩:=hs;obtain⟨k,_,hk,h3⟩:=hpos s' hs';obtain⟨a,b,_,_⟩:=h.lab s' hs';refine⟨a,b,by rw[h3];omega,?_⟩;rw[h3];have:=hmono k l.entries.length hk;rw[tL]at this;simp only;omega
 ·simp only;rw[pairwise_map];refine h.asc.imp_of_mem fun {a b} ha hb hab=>?_
  obtain⟨j,hj,_,h3⟩:=hpos a ha;obtain⟨k,hk,_,h4⟩:=hpos b hb;rw[h3,h4];have:=hmono j k (by omega);omega
 ·simp only;rw[pairwise_map];exact h.uni
def OY{q q':Queue}{x:Pcs}(hr:q'.res=q.res)(hs:Gl x.proc q q'):∀ {az:List Atom},CJ q x az=true→CJ q' x az=true
 |[],h=>by
  simp only[CJ,and_eq_true,zD,Bool.not_eq_true']at h ⊢;rw[hr];rcases hs with ⟨h1,h2,_⟩|⟨b,h1,_⟩
  ·rw[h1,h2];exact h
  ·rw[h1]at h;simp at h
 | a::az,h=>by
  unfold CJ at h ⊢;rw[hr];split at h
  ·rename_i hn;rw[if_pos hn];exact OY hr hs h
  rename_i hn;rw[if_neg hn];split at h
  ·rename_i hc;rw[if_pos hc];exact OY hr hs h
  rename_i hc;rw[if_neg hc];rcases hs with ⟨h1,h2,h3⟩|⟨b,h1,h2,h3⟩
  ·rw[h1,h2];split at h
   ·rename_i hw;rw[if_pos hw];exact h
   rename_i hw;rw[if_neg hw];split at h
   ·cases h
   rename_i ha;rw[if_neg ?_]
   ·exact h
   intro ha';apply ha;rw[List.any_eq_true]at ha' ⊢;obtain⟨w,hw1,hw2⟩:=ha';rw[and_eq_true,zD]at hw2;obtain⟨v,v1,v2,v3⟩:=h3 w hw1 hw2.1;exact⟨v,v1,by rw[v2,v3,hw2.2];simp⟩
  ·rw[h1]at h;rw[h2,h3];simp only[Option.isSome_some,zT,false_eq_true,if_false,getD_some]at h;split at h
   ·cases h
   simp only[and_eq_true,zD]at h;simp[h.2]
def KF.same{q q':Queue}{p:Ab}{l:Amt}(h:KF q p l)(hs:Gl p q q'):KF q' p l:=by
 rcases hs with ⟨h1,h2,_⟩|⟨b,h1,_⟩
 ·exact⟨h1.trans h.1,h2.trans h.2⟩
 ·rw[h.1]at h1;cases h1
structure CD(p:Ab)(t t':List Queue):Prop where
 len:t'.length=t.length
 each:∀ (k:Nat) (q:Queue),t[k]?=some q→∃ q',t'[k]?=some q'∧HQ p q q'
def CD.refl{p:Ab}{t:List Queue}(h:CE t):CD p t t:=⟨rfl,fun _ q hq=>⟨q,hq,.refl (h.val q (mG hq))⟩⟩
def CD.trans{p:Ab}{a b c:List Queue}(h:CD p a b)(h':CD p b c):CD p a c:=⟨h'.len.trans h.len,fun k q hq=>by
 obtain⟨q1,h1,h2⟩:=h.each k q hq;obtain⟨q2,h3,h4⟩:=h'.each k q1 h1;exact⟨q2,h3,h2.trans h4⟩⟩
def G8{p:Ab}{t:List Queue}{k:Nat}{q q1:Queue}(h:CE t)(hq:t[k]?=some q)(hs:HQ p q q1):CD p t (t.set k q1):=⟨by simp,fun j r hr=>by
 by_cases e:k=j
 ·subst e;rw[hq]at hr;have:=Option.some.inj hr;subst this;exact⟨q1,List.getElem?_set_self (Aj hq),hs⟩
 ·exact⟨r,by rw[List.getElem?_set_ne e];exact hr,.refl (h.val r (mG hr))⟩⟩
def CD.mem{p:Ab}{t t':List Queue}(h:CD p t t'){q':Queue}(hq:q'∈t'):∃ q∈t,HQ p q q':=by
 obtain⟨k,hk⟩:=List.getElem?_of_mem hq;have hlt:=Aj hk;rw[h.len]at hlt;obtain⟨q2,h1,h2⟩:=h.each k t[k] (gE hlt);rw[hk]at h1;have:=Option.some.inj h1;subst this;exact⟨t[k],getElem_mem hlt,h2⟩
def CD.res{p:Ab}{t t':List Queue}(h:CD p t t'):t'.map (·.res)=t.map (·.res):=by
 refine List.ext_getElem? fun k=>?_
 rw[gm,gm];cases hk:t[k]? with
 |none =>
  have:t'.length≤k:=by rw[h.len];exact List.getElem?_eq_none_iff.1 hk
  rw[List.getElem?_eq_none_iff.2 this]
 |some q =>
  obtain⟨q',h1,h2⟩:=h.each k q hk;rw[h1];simp only[map_some,h2.res]
structure Fine(now:Int)(t:List Queue)(x:Pcs):Prop where
 head:EI x=true
 fits:Il t x
 wait:x.waiting=true→GF x.req=true∧Cm (CB t) x.req.expr=0∧0≤x.since∧x.since≤now∧∀ q∈t,CJ q x (Ag x.req.expr)=true
 idle:x.waiting=false→R8 x.req=true∧x.since=0∧Idle t x
def Fine.led{now:Int}{t:List Queue}{x:Pcs}(h:Fine now t x):FW x.led:=by
 have:=h.head;simp only[EI,and_eq_true]at this;exact(EO _).1 this.1.1.2
def Fine.step{now:Int}{t t':List Queue}{x:Pcs}{p:Ab}(h:Fine now t x)(hs:CD p t t')(hp:x.proc≠p):Fine now t' x where
 head:=h.head
 fits:=h.fits.res hs.res
 wait:=fun hw=>by
  obtain⟨a,b,c,d,e⟩:=h.wait hw;refine⟨a,by unfold CB;rw[hs.res];exact b,c,d,fun q' hq'=>?_⟩;obtain⟨q,hq,hx⟩:=hs.mem hq';exact OY hx.res (hx.same _ hp) (e q hq)
 idle:=fun hw=>by
  obtain⟨a,b,c⟩:=h.idle hw;refine⟨a,b,fun q' hq'=>?_⟩;obtain⟨q,hq,hx⟩:=hs.mem hq';rw[hx.res];exact(c q hq).same (hx.same _ hp)
def Fine.K{now:Int}{t:List Queue}{x:Pcs}(ht:CE t)(h:Fine now t x):KX t x:=fun q hq=>by
 cases hw:x.waiting
 ·exact((h.idle hw).2.2 q hq).k
 ·obtain⟨a,b,c,d,e⟩:=h.wait hw;refine Un (Ov ht h.fits hq) _ (fun a ha hn=>?_) (e q hq);obtain⟨k,q',k1,k2,k3,k4⟩:=CZ ht b ha;obtain⟨i,hi⟩:=List.getElem?_of_mem hq;have:=EY ht k2 hi (k3.trans hn);subst this;rw[k2]at hi;have:=Option.some.inj hi;subst this;exact k4
structure VE(e:Option Nat)(w:Am):Prop where
 je:JE e w
 ord:(w.procs.map (·.proc)).Pairwise fun a b=>Bc a b<0
 known:∀ q∈w.Aa,∀ p,inQ q p→p∈w.procs.map (·.proc)
 now:0≤w.now∧w.now≤1073741824
 fine:∀ (j:Nat) (x:Pcs),w.procs[j]?=some x→some j≠e→Fine w.now w.Aa x
def VE.but{w:Am}(h:VE none w)(i:Nat):VE (some i) w:=⟨h.je.but i,h.ord,h.known,h.now,fun j x hj _=>h.fine j x hj (by simp)⟩
def VE.step{i:Nat}{w w':Am}{z:Pcs}(h:VE (some i) w)(hz:w.procs[i]?=some z)(hp:w'.procs=w.procs)(hn:w'.now=w.now)(hs:Fj z.proc w.Aa w'.Aa)(hx:CD z.proc w.Aa w'.Aa):VE (some i) w' where
 je:=h.je.step hz hp hs
 ord:=by rw[hp];exact h.ord
 known:=fun q' hq' p hi=>by
  rw[hp];obtain⟨q,hq,hs⟩:=hx.mem hq';rcases hs.inp p hi with hi|rfl
  ·exact h.known q hq p hi
  ·exact mem_map.2 ⟨z,mG hz,rfl⟩
 now:=by rw[hn];exact h.now
 fine:=fun j x hj hne=>by
  rw[hp]at hj;rw[hn];refine(h.fine j x hj hne).step hx fun e=>hne ?_
  rw[h.je.uq j i x z hj hz e]
def H4{l:List Pcs}{i:Nat}{x y:Pcs}(hx:l[i]?=some x)(h:y.proc=x.proc):(l.set i y).map (·.proc)=l.map (·.proc):=by
 rw[List.map_set,h];exact Mc (by simp[hx])
def VE.set{i:Nat}{w:Am}{z y:Pcs}(h:VE (some i) w)(hz:w.procs[i]?=some z)(hy:y.proc=z.proc)(hf:Fine w.now w.Aa y):VE none (AF w i y) where
 je:=h.je.set hz hy fun hw=>⟨by
  have:=(hf.wait hw).1;simp only[GF,and_eq_true]at this;exact this.1.1.1.1,fun a ha=>by
  obtain⟨k,_,hk,_⟩:=CZ h.je.tab (hf.wait hw).2.1 ha;exact⟨k,hk⟩,hf.K h.je.tab⟩
 ord:=by simp only[AF];rw[H4 hz hy];exact h.ord
 known:=by simp only[AF];rw[H4 hz hy];exact h.known
 now:=h.now
 fine:=fun j x hj _=>by
  simp only[AF]at hj;rw[List.getElem?_set]at hj;split at hj
  ·split at hj
   ·have:=Option.some.inj hj;subst this;exact hf
   ·cases hj
  ·rename_i hne;exact h.fine j x hj fun e=>hne (Option.some.inj e).symm
def VE.set'{i:Nat}{w:Am}{z y:Pcs}(h:VE (some i) w)(hz:w.procs[i]?=some z)(hy:y.proc=z.proc):VE (some i) (AF w i y) where
 je:=h.je.set' hz hy
 ord:=by simp only[AF];rw[H4 hz hy];exact h.ord
 known:=by simp only[AF];rw[H4 hz hy];exact h.known
 now:=h.now
 fine:=fun j x hj hne=>by
  simp only[AF]at hj;rw[List.getElem?_set]at hj;split at hj
  ·rename_i e;subst e;exact absurd rfl hne
  ·exact h.fine j x hj hne
def VE.note{e:Option Nat}{w:Am}(h:VE e w)(k:Int)(p:Ab):VE e (BQ w k p):=⟨h.je.note k p,h.ord,h.known,h.now,h.fine⟩
def W1{t:List Queue}{p:Ab}{name:Bs}{k:Nat}{q:Queue}(h:CE t)(hf:BS t name=some k)(hq:t[k]?=some q)(hw:(Aq q p).isSome=true):(Co t p name).1=t.set k (Bn q p).1:=by
 have hg:t.getD k q0=q:=by simp[List.getD,hq]
 have h0:=(Kd (h.val q (mG hq)) hw).1;simp only[Co,(DU t).2 h,hf,hg,h0];rfl
def OS{t:List Queue}{p:Ab}{a:Atom}{k:Nat}{q:Queue}(h:CE t)(hf:BS t a.name=some k)(hq:t[k]?=some q)(hw:Aq q p=none)(hz:(At q.holds p).zero=false)(hc:q.res.covers (At q.holds p) a.amt=true):(A8 t p a).1=t.set k (A7 q p a.amt).1:=by
 have hg:t.getD k q0=q:=by simp[List.getD,hq]
 have h0:=(Ht (h.val q (mG hq)) hz hw hc).1;simp only[A8,(DU t).2 h,hf,hg,h0];rfl
def Ol(w:Am)(x:Pcs)(name:Bs):(Dl w x name).now=w.now:=by
 unfold Dl;split
 ·rfl
 ·unfold Jw DJ;split<;>split<;>rfl
def ik{w:Am}{x:Pcs}{name:Bs}{k:Nat}{q:Queue}(h:CE w.Aa)(hf:BS w.Aa name=some k)(hq:w.Aa[k]?=some q)(hkq:Kq q x.proc (An x.led.entries name)) :
 ∃ q1,(Dl w x name).Aa=w.Aa.set k q1∧HQ x.proc q q1∧KF q1 x.proc (An x.led.entries name):=by
 have hlt:=Aj hq;have hg:w.Aa.getD k q0=q:=by simp[List.getD,hq]
 have hv:=h.val q (mG hq);cases hw:(Aq q x.proc).isSome
 ·have eA:DJ w x name k=w:=by simp only[DJ,hg,hw];rfl
  have hwn:=E1 hw;have eK:Dl w x name=Jw w x name k:=by unfold Dl;rw[hf];simp only[eA]
  rw[eK];unfold Jw;rw[hg]
  by_cases hl:At q.holds x.proc=An x.led.entries name
  ·simp only[hl,decide_true,if_true];exact⟨q,(Mc hq).symm,.refl hv,hwn,hl⟩
  ·simp only[hl,decide_false,false_eq_true,if_false];obtain⟨hz,hc⟩:=hkq.2.resolve_left hl;have hls:=Ht (a:=An x.led.entries name) hv hz hwn hc;exact⟨_,OS (a:=⟨name,An x.led.entries name⟩) h hf hq hwn hz hc,Xz hv hz hwn hc,hls.2.2.1,hls.2.2.2⟩
 ·have hcs:=Kd hv hw;have hl:=hkq.1 hw;have e1:=W1 h hf hq hw;have eA:DJ w x name k=Cg w (w.Aa.set k (Bn q x.proc).1) (Co w.Aa x.proc name).2.1:=by simp only[DJ,hg,hw,if_true,e1]
  have eK:Dl w x name=DJ w x name k:=by
   unfold Dl;rw[hf];simp only;unfold Jw;rw[eA];have:(Cg w (w.Aa.set k (Bn q x.proc).1) (Co w.Aa x.proc name).2.1).Aa.getD k q0=(Bn q x.proc).1:=by simp[Cg,List.getD,hlt]
   rw[this,hcs.2.2.2,hl];simp
  rw[eK,eA];exact⟨_,rfl,cE hv hw,hcs.2.2.1,hcs.2.2.2.trans hl⟩
def X8{i:Nat}{w:Am}{x z:Pcs}{name:Bs}{k:Nat}{q:Queue}(h:VE (some i) w)(hz:w.procs[i]?=some z)(hp:z.proc=x.proc)(hK:KX w.Aa x)(hf:BS w.Aa name=some k)(hq:w.Aa[k]?=some q)(hn:q.res.name=name) :
 ∃ q1,(Dl w x name).Aa=w.Aa.set k q1∧HQ x.proc q q1∧KF q1 x.proc (An x.led.entries name)∧VE (some i) (Dl w x name):=by
 obtain⟨q1,h1,h2,h3⟩:=ik h.je.tab hf hq (hn▸hK q (mG hq));refine⟨q1,h1,h2,h3,h.step hz (Fu _ _ _) (Ol _ _ _) (hp▸(Iv h.je.tab hK ⟨k,hf⟩).2.1) ?_⟩;rw[hp,h1];exact G8 h.je.tab hq h2
def Ys(e:Expr):∀ (k:Nat) (o:List Bool) (i:Nat),(prN e k o).getD i false=true→o.getD i false=true
 | 0,_,_,h=>h
 | k+1,o,i,h=>by
  have h1:=Ys e k _ i h;split at h1
  ·rename_i hk
   by_cases e1:i=k
   ·rw[e1];exact hk
   ·simp only[List.getD]at h1 ⊢;rw[List.getElem?_set_ne (Ne.symm e1)]at h1;exact h1
  ·exact h1
def ZB{e:Expr}{set:List Bool}{i:Nat}(h:(Cv e set)[i]?=some true):set.getD i false=true:=by
 have hd:(Cv e set).getD i false=true:=by simp[List.getD,h]
 unfold Cv at hd;split at hd
 ·have:=Ys e _ _ i hd;simp only[List.getD,gm]at this;cases hr:(List.range (Ag e).length)[i]? with
  |none=>rw[hr]at this;simp at this
  |some j =>
   rw[hr]at this;have hj:j=i:=by
    have hlt:=Aj hr;rw[List.getElem?_range (by simpa using hlt)]at hr;exact(Option.some.inj hr).symm
   subst hj;simpa using this
 ·simp only[List.getD,List.getElem?_replicate]at hd;split at hd<;>simp at hd
def Uo{q:Queue}{x:Pcs}{a:Atom}(hn:a.name=q.res.name):∀ {az:List Atom},Je az→a∈az→CJ q x az=true →
 (q.res.covers (An x.led.entries q.res.name) a.amt=true→KF q x.proc (An x.led.entries q.res.name)) ∧
 (q.res.covers (An x.led.entries q.res.name) a.amt=false→(Aq q x.proc=none∧At q.holds x.proc=C8 q.res (An x.led.entries q.res.name) a.amt)∨At q.holds x.proc=An x.led.entries q.res.name)
 | b::az,hu,ha,h=>by
  have hu':=nodup_cons.1 hu;unfold CJ at h
  by_cases e:b.name=q.res.name
  ·have hba:b=a:=by
    rcases mem_cons.1 ha with ha|ha
    ·exact ha.symm
    ·exact absurd (mem_map.2 ⟨a,ha,hn.trans e.symm⟩) hu'.1
   subst hba;rw[if_neg (by simpa using e)]at h;refine⟨fun hc=>?_,fun hc=>?_⟩
   ·rw[if_pos hc]at h;exact Ro az (fun c hc' e'=>hu'.1 (mem_map.2 ⟨c,hc',e'.symm.trans e.symm⟩)) h
   ·rw[if_neg (by simp[hc])]at h;split at h
    ·rename_i hw;exact .inl ⟨E1 (by simpa using hw),by simpa using h⟩
    ·split at h
     ·cases h
     ·simp only[and_eq_true,zD]at h;exact .inr h.1
  ·rw[if_pos (by simpa using e)]at h;rcases mem_cons.1 ha with rfl|ha
   ·exact absurd hn e
   ·exact Uo hn hu'.2 ha h
def Xr{r:Res}{l a:Amt}(hl:l=⟨0,0⟩∨r.fits l=true)(ha:r.fits a=true)(hc:r.covers l a=false):DA l (C8 r l a)=true∧r.fits (C8 r l a)=true:=by
 rcases hl with rfl|hl
 ·rw[OL ha hc];refine⟨?_,ha⟩;have hu:usable a=true:=Ho ha;have hne:(⟨0,0⟩:Amt)≠a:=fun e=>J4 hu e.symm
  simp[DA,hu,hne]
 ·obtain⟨j1,j2,j3,_⟩:=MP hl ha hc;refine⟨?_,j1⟩;have hu1:usable l=true:=Ho hl;have hu2:usable (C8 r l a)=true:=Ho j1;have hz:=J4 hu1;rw[DW j1 hl]at j2;generalize C8 r l a=j at j1 j2 j3 hu2;unfold DA;rw[if_neg (by simp[hu2];exact Ne.symm j3),if_neg ?_,if_neg (by simp[hu1])]
  ·rcases(B9 hl).2 with ⟨k,m,u⟩|⟨k,m,u,_⟩
   ·rw[if_pos (by simpa using H5 m)];rw[if_pos k]at j2;exact j2
   ·rw[if_neg (by simp[m])];rw[if_neg k]at j2;rcases(B9 j1).2 with ⟨k2,_⟩|⟨_,m2,_⟩
    ·exact absurd k2 k
    ·have:l.Ax≠j.Ax:=fun e=>j3 (by
      obtain⟨x,y⟩:=l;obtain⟨x2,y2⟩:=j;simp only at m m2 e;rw[m,m2,e])
     simp at j2 ⊢;omega
  ·intro h;apply hz;obtain⟨x,y⟩:=l;simp at h;simp[h]
def XZ{q:Queue}(h:valid q=true):BM q.res.name=true:=by
 have:=((BE q).1 h).1.res;simp only[GO,and_eq_true]at this;exact this.1.1
def VY{t:List Queue}(h:CE t){l:List Entry}(hl:∀ e∈l,∃ q∈t,q.res.name=e.name):(B3 l).length≤8:=by
 have:=CY _ (t.map fun q=>q.res.name) (Kv l) fun x hx=>by
  obtain⟨e,he,rfl⟩:=(D9 _ _).1 hx;obtain⟨q,hq,hn⟩:=hl e he;exact mem_map.2 ⟨q,hq,hn⟩
 rw[length_map]at this;have:=h.n;omega
structure TF(t0:List Queue)(i:Nat)(x z:Pcs)(w:Am)(kl:List (Bool × Atom)):Prop where
 ve:VE (some i) w
 at_:w.procs[i]?=some z
 eq:∃ l,z = { x with led:=l }
 led:FW z.led
 fits:Il w.Aa z
 xfit:Il w.Aa x
 rsv:Cm (CB w.Aa) x.req.expr=0
 kx:KX w.Aa x
 sub:∀ p∈kl,p.2∈Ag x.req.expr
 uq:(kl.map fun p=>p.2.name).Nodup
 todo:∀ q∈w.Aa,(∃ p∈kl,p.2.name=q.res.name)→An z.led.entries q.res.name=An x.led.entries q.res.name∧CJ q x (Ag x.req.expr)=true
 done:∀ q∈w.Aa,(¬ ∃ p∈kl,p.2.name=q.res.name)→KF q x.proc (An z.led.entries q.res.name)
 grant:∀ p∈kl,p.1=true→∀ q∈w.Aa,q.res.name=p.2.name→q.res.covers (At q.holds x.proc) p.2.amt=true
 tr:CD x.proc t0 w.Aa
def TF.step{t0:List Queue}{i:Nat}{x z:Pcs}{w:Am}{kp:Bool}{a:Atom}{kl:List (Bool × Atom)}(h:TF t0 i x z w ((kp,a)::kl)):∃ z',TF t0 i x z' (Fy w i x kp a.name) kl:=by
 have ht:=h.ve.je.tab;have ha:=h.sub (kp,a) (by simp);obtain⟨k,q,f1,f2,f3,f4⟩:=CZ ht h.rsv ha;simp only at f1 f3 f4;have hqm:=mG f2;have hu:=nodup_cons.1 (show (a.name::kl.map fun p=>p.2.name).Nodup from h.uq);have hnk:∀ n,n=a.name→¬ ∃ p∈kl,p.2.name=n:=fun n e ⟨p,hp,hn⟩=>hu.1 (mem_map.2 ⟨p,hp,hn.trans e⟩)
 obtain⟨t1,t2⟩:=h.todo q hqm ⟨(kp,a),by simp,f3.symm⟩;obtain⟨l,hl⟩:=h.eq;have hzp:z.proc=x.proc:=by rw[hl]
 have hg:w.Aa.getD k q0=q:=by simp[List.getD,f2]
 have hpd:w.procs.getD i x0=z:=by simp[List.getD,h.at_]
 have hother:∀ q'∈w.Aa,q'.res.name≠a.name→∀ p:Bool × Atom,(∃ p∈(kp,a)::kl,p.2.name=q'.res.name)↔∃ p∈kl,p.2.name=q'.res.name:=fun q' _ hne _=>by
  constructor
  ·rintro⟨p,hp,hn⟩;rcases mem_cons.1 hp with rfl|hp
   ·exact absurd hn.symm hne
   ·exact⟨p,hp,hn⟩
  ·rintro⟨p,hp,hn⟩;exact⟨p,by simp[hp],hn⟩
 cases kp
 ·obtain⟨q1,e1,e2,e3,e4⟩:=X8 h.ve h.at_ hzp h.kx f1 f2 f3;have hk:Fy w i x false a.name=Dl w x a.name:=rfl;have hst:=G8 ht f2 e2;have hres:(w.Aa.set k q1).map (·.res)=w.Aa.map (·.res):=hst.res;have hmem:∀ q'∈w.Aa.set k q1,q'=q1∨(q'∈w.Aa∧q'.res.name≠a.name):=fun q' hq'=>by
   rcases CO (q:=q) hq' with rfl|⟨j,hj,hjq⟩
   ·exact .inl rfl
   ·exact .inr ⟨mG hjq,fun e=>hj (EY ht hjq f2 (e.trans f3.symm))⟩
  have hn1:q1.res.name=a.name:=by rw[e2.res];exact f3
  refine⟨z,?_⟩;rw[hk];refine⟨e4,by rw[Fu];exact h.at_,h.eq,h.led,?_,?_,?_,(Iv ht h.kx ⟨k,f1⟩).2.2.1,fun p hp=>h.sub p (by simp[hp]),hu.2,?_,?_,?_,?_⟩<;>rw[e1]
  ·exact h.fits.res hres
  ·exact h.xfit.res hres
  ·unfold CB;rw[hres];exact h.rsv
  ·intro q' hq' hx;rcases hmem q' hq' with rfl|⟨h1,h2⟩
   ·exact absurd hx (hnk _ hn1)
   ·exact h.todo q' h1 ((hother q' h1 h2 (false,a)).2 hx)
  ·intro q' hq' hx;rcases hmem q' hq' with rfl|⟨h1,h2⟩
   ·rw[hn1];have:=t1;rw[f3]at this;rw[this];exact e3
   ·exact h.done q' h1 fun hx'=>hx ((hother q' h1 h2 (false,a)).1 hx')
  ·intro p hp h1 q' hq' hn;rcases hmem q' hq' with rfl|⟨h2,h3⟩
   ·exact absurd ⟨p,hp,hn.symm⟩ (hnk _ hn1)
   ·exact h.grant p (by simp[hp]) h1 q' h2 hn
  ·exact h.tr.trans hst
 ·have hgr:=h.grant (true,a) (by simp) rfl q hqm f3;simp only at hgr;obtain⟨p1,p2⟩:=Uo f3.symm (Gm _) ha t2;have hk:Fy w i x true a.name=if decide (At q.holds x.proc=An z.led.entries a.name) then w else AF w i { z with led:=(FO z.led ⟨a.name,An z.led.entries a.name,At q.holds x.proc⟩).1 }:=by
   unfold Fy;simp only[f1,hg,hpd];rfl
  have hname:∀ q'∈w.Aa,q'.res.name=a.name→q'=q:=fun q' hq' e=>by
   obtain⟨j,hj⟩:=List.getElem?_of_mem hq';have:=EY ht hj f2 (e.trans f3.symm);subst this;rw[f2]at hj;exact(Option.some.inj hj).symm
  have hlz:An z.led.entries a.name=An x.led.entries a.name:=by rw[f3]at t1;exact t1
  rw[f3]at p1 p2;cases hc:q.res.covers (An x.led.entries a.name) a.amt
  ·rcases p2 hc with ⟨g1,g2⟩|g1
   ·have hlf:An x.led.entries a.name=⟨0,0⟩∨q.res.fits (An x.led.entries a.name)=true:=by
     have:=Ov ht h.xfit hqm;rw[f3]at this;exact this
    obtain⟨gg,gf⟩:=Xr hlf f4 hc;have hne:At q.holds x.proc≠An z.led.entries a.name:=by
     rw[g2,hlz];intro e;rw[e]at gg;simp[DA]at gg
    rw[if_neg (by simpa using hne)]at hk;have hsn:FW ⟨z.led.entries++[⟨a.name,An z.led.entries a.name,At q.holds x.proc⟩],z.led.AG⟩:=by
     refine h.led.snoc (by rw[← f3];exact XZ (ht.val q hqm)) rfl (by rw[hlz,g2];exact gg) (VY ht fun e he=>?_);rcases mem_append.1 he with he|he
     ·obtain⟨k',q',_,h2,h3,_⟩:=h.fits e.name ⟨e,he,rfl⟩;exact⟨q',mG h2,h3⟩
     ·rw[mem_singleton.1 he];exact⟨q,hqm,f3⟩
    have hrec:(FO z.led ⟨a.name,An z.led.entries a.name,At q.holds x.proc⟩).1=⟨z.led.entries++[⟨a.name,An z.led.entries a.name,At q.holds x.proc⟩],z.led.AG⟩:=by
     unfold FO;rw[if_neg (by simp[(EO _).2 h.led]),if_neg (by simp[(EO _).2 hsn])]
    rw[hrec]at hk;have hh:∀ n,An (z.led.entries++[⟨a.name,An z.led.entries a.name,At q.holds x.proc⟩]) n=if a.name==n then At q.holds x.proc else An z.led.entries n:=fun n=>Zi _ _ _
    refine⟨{ z with led:=⟨z.led.entries++[⟨a.name,An z.led.entries a.name,At q.holds x.proc⟩],z.led.AG⟩ },?_⟩;rw[hk];refine⟨h.ve.set' h.at_ rfl,List.getElem?_set_self (Aj h.at_),⟨_,by rw[hl]⟩,hsn,?_,h.xfit,h.rsv,h.kx,fun p hp=>h.sub p (by simp[hp]),hu.2,?_,?_,fun p hp=>h.grant p (by simp[hp]),h.tr⟩
    ·intro n hn;simp only[hh]
     by_cases e:a.name=n
     ·subst e;exact⟨k,q,f1,f2,f3,by simp only[beq_self_eq_true,if_true];rw[g2];exact gf⟩
     ·obtain⟨b,hb,hbn⟩:=hn;have hb':∃ e∈z.led.entries,e.name=n:=by
       rcases mem_append.1 hb with hb|hb
       ·exact⟨b,hb,hbn⟩
       ·rw[mem_singleton.1 hb]at hbn;exact absurd hbn e
      rw[if_neg (by simpa using e)];exact h.fits n hb'
    ·intro q' hq' hx;have hne':q'.res.name≠a.name:=fun e=>hnk _ e hx
     simp only[hh];rw[if_neg (by simpa using Ne.symm hne')];exact h.todo q' hq' ((hother q' hq' hne' (true,a)).2 hx)
    ·intro q' hq' hx;simp only[hh]
     by_cases e:q'.res.name=a.name
     ·have:=hname q' hq' e;subst this;rw[if_pos (by simpa using e.symm)];exact⟨g1,rfl⟩
     ·rw[if_neg (by simpa using Ne.symm e)];exact h.done q' hq' fun hx'=>hx ((hother q' hq' e (true,a)).1 hx')
   ·rw[g1,hc]at hgr;cases hgr
  ·have hkf:=p1 hc;rw[if_pos (by simpa [hlz]using hkf.2)]at hk;refine⟨z,?_⟩;rw[hk];refine⟨h.ve,h.at_,h.eq,h.led,h.fits,h.xfit,h.rsv,h.kx,fun p hp=>h.sub p (by simp[hp]),hu.2,fun q' hq' hx=>?_,fun q' hq' hx=>?_,fun p hp=>h.grant p (by simp[hp]),h.tr⟩
   ·exact h.todo q' hq' ((hother q' hq' (fun e=>hnk _ e hx) (true,a)).2 hx)
   ·by_cases e:q'.res.name=a.name
    ·have:=hname q' hq' e;subst this;rw[e,hlz];exact hkf
    ·exact h.done q' hq' fun hx'=>hx ((hother q' hq' e (true,a)).1 hx')
def TF.all{t0:List Queue}{i:Nat}{x:Pcs}:∀ (kl:List (Bool × Atom)) {z:Pcs} {w:Am},TF t0 i x z w kl→∃ z',TF t0 i x z' (CW w i x kl) []
 |[],z,_,h=>⟨z,h⟩
 |(kp,a)::kl,_,_,h=>by
  obtain⟨z',h'⟩:=h.step;exact TF.all kl h'
def Ty{f:Atom→Bs}:∀ (l:List Bool) (m:List Atom),(m.map f).Nodup→((l.zip m).map fun p=>f p.2).Nodup
 |[],_,_=>by simp
 |_::_,[],_=>by simp
 | b::l,a::m,h=>by
  have h':=nodup_cons.1 (show (f a::m.map f).Nodup from h);simp only[List.zip_cons_cons,map_cons];refine nodup_cons.2 ⟨fun hm=>h'.1 ?_,Ty l m h'.2⟩;obtain⟨p,hp,e⟩:=mem_map.1 hm;rw[← e];exact mem_map.2 ⟨p.2,(List.of_mem_zip hp).2,rfl⟩
def Q4(i:Nat)(x:Pcs):∀ (kl:List (Bool × Atom)) (w:Am),(CW w i x kl).now=w.now
 |[],_=>rfl
 |(kp,a)::kl,w=>by
  show (CW (Fy w i x kp a.name) i x kl).now=w.now;rw[Q4 i x kl];unfold Fy;split
  ·exact Ol _ _ _
  ·split
   ·rfl
   ·split<;>rfl
def EJ(x:Pcs):EI x=true↔x.proc.ok=true∧1≤x.cost∧x.cost≤1000∧A9 x.led=true∧0≤x.gen∧x.gen≤1073741824:=by
 simp only[EI,and_eq_true,zD];exact⟨fun⟨⟨⟨⟨⟨a,b⟩,c⟩,d⟩,e⟩,f⟩=>⟨a,b,c,d,e,f⟩,fun⟨a,b,c,d,e,f⟩=>⟨⟨⟨⟨⟨a,b⟩,c⟩,d⟩,e⟩,f⟩⟩
def JF{now:Int}{t:List Queue}{x y:Pcs}(hx:EI x=true)(hp:y.proc=x.proc)(hc:y.cost=x.cost)(hl:FW y.led)(hg:0≤y.gen∧y.gen≤1073741824)(hf:Il t y)(hw:y.waiting=false)(hr:R8 y.req=true)(hs:y.since=0)(hi:Idle t y):Fine now t y where
 head:=by
  obtain⟨a,b,c,_⟩:=(EJ x).1 hx;exact(EJ y).2 ⟨hp▸a,hc▸b,hc▸c,(EO _).2 hl,hg⟩
 fits:=hf
 wait:=fun h=>by rw[hw]at h;cases h
 idle:=fun _=>⟨hr,hs,hi⟩
def Uv:R8 D4=true:=kR
def KB{w:Am}{i:Nat}{x:Pcs}(h:VE none w)(hx:w.procs[i]?=some x)(hw:x.waiting=true):VE none (Cq w i x)∧CD x.proc w.Aa (Cq w i x).Aa∧(Cq w i x).now=w.now:=by
 have hf:=h.fine i x hx (by simp);obtain⟨r1,r2,r3,r4,r5⟩:=hf.wait hw;have ht:=h.je.tab;have h0:TF w.Aa i x x (BQ w 2 x.proc) ((Cv x.req.expr (Bh w.Aa x.proc x.req.expr)).zip (Ag x.req.expr)):=by
  refine⟨(h.but i).note 2 x.proc,hx,⟨x.led,rfl⟩,hf.led,hf.fits,hf.fits,r2,hf.K ht,fun p hp=>(List.of_mem_zip hp).2,Ty _ _ (Gm _),fun q hq _=>⟨rfl,r5 q hq⟩,fun q hq hn=>?_,fun p hp hp1 q hq hn=>?_,.refl ht⟩
  ·refine Ro _ (fun a ha e=>hn ?_) (r5 q hq);obtain⟨j,hj⟩:=List.getElem?_of_mem ha;have hlt:=Aj hj;have hl:j<(Cv x.req.expr (Bh w.Aa x.proc x.req.expr)).length:=by rw[Ru];exact hlt
   refine⟨((Cv x.req.expr (Bh w.Aa x.proc x.req.expr))[j],a),?_,e.symm⟩;have:((Cv x.req.expr (Bh w.Aa x.proc x.req.expr)).zip (Ag x.req.expr))[j]?=some ((Cv x.req.expr (Bh w.Aa x.proc x.req.expr))[j],a):=by
    rw[List.getElem?_zip_eq_some];exact⟨gE hl,hj⟩
   exact mG this
  ·obtain⟨j,hj⟩:=List.getElem?_of_mem hp;rw[List.getElem?_zip_eq_some]at hj;rw[hp1]at hj;have:=ZB hj.1;simp only[Bh,List.getD,gm,hj.2]at this;simp only[map_some,getD_some]at this;unfold Ji at this;obtain⟨k,hk⟩:=List.getElem?_of_mem hq;have hfq:=Nv ht hk;rw[hn]at hfq;rw[hfq]at this;have hk':w.Aa[k]?=some q:=hk;simp only[show w.Aa.getD k q0=q by simp[List.getD,hk']]at this;exact this
 obtain⟨z,hz⟩:=TF.all _ h0;have hnow:=Q4 i x ((Cv x.req.expr (Bh w.Aa x.proc x.req.expr)).zip (Ag x.req.expr)) (BQ w 2 x.proc);simp only[Cq];generalize CW (BQ w 2 x.proc) i x ((Cv x.req.expr (Bh w.Aa x.proc x.req.expr)).zip (Ag x.req.expr))=w1 at hz hnow ⊢;obtain⟨l,hl⟩:=hz.eq;have e1:w1.procs.getD i x0=z:=by simp[List.getD,hz.at_]
 have hi:=Aj hz.at_;have e2:(AF w1 i (Br z)).procs.getD i x0=Br z:=by simp[AF,List.getD,hi]
 rw[e1,e2];have e3:(AF w1 i (Br z)).procs[i]?=some (Br z):=by simp[AF,hi]
 refine⟨VE.set (hz.ve.set' hz.at_ rfl) e3 rfl (JF hf.head (by rw[hl];rfl) (by rw[hl];rfl) hz.led (IF _) (fun n hn=>hz.fits n hn) rfl Uv rfl fun q hq=>?_),hz.tr,hnow⟩;have:=hz.done q hq (by simp);rw[show (BC (Br z)).proc=x.proc by rw[hl];rfl];exact this
def DK(ms:List Ab)(q:Queue):Queue:=ms.foldl B1 q
def ff{q q':Queue}(hv:valid q=true)(hv':valid q'=true)(h:er q'=er q)(p:Ab):er (B1 q' p)=er (B1 q p):=by
 rw[FP hv,FP hv',← MG _ _ (Nat.le_refl _),← MG _ _ (Nat.le_refl _),aB,aB,h]
def Fw:∀ (ms:List Ab) {q:Queue},valid q=true→valid (DK ms q)=true
 |[],_,h=>h
 | m::ms,_,h=>Fw ms (FU h m)
def Nz:∀ (ms:List Ab) {q q':Queue},valid q=true→valid q'=true→er q'=er q→er (DK ms q')=er (DK ms q)
 |[],_,_,_,_,h=>h
 | m::ms,_,_,hv,hv',h=>Nz ms (FU hv m) (FU hv' m) (ff hv hv' h m)
def SK(p:Ab):∀ (ms:List Ab) {q:Queue},valid q=true→DK ms (B1 q p)=B1 (DK ms q) p
 |[],_,_=>rfl
 | m::ms,q,h=>by
  show DK ms (B1 (B1 q p) m)=B1 (DK ms (B1 q m)) p;rw[Ry h,SK p ms (FU h m)]
def LU(a b:List Ab)(q:Queue):DK (a++b) q=DK b (DK a q):=by simp[DK,foldl_append]
def MK:∀ (a b:List Ab) {q:Queue},valid q=true→DK a (DK b q)=DK b (DK a q)
 |[],_,_,_=>rfl
 | m::a,b,q,h=>by
  show DK a (B1 (DK b q) m)=DK b (DK a (B1 q m));rw[← SK m b h,MK a b (FU h m)]
structure RR(ms:List Ab)(t t':List Queue):Prop where
 len:t'.length=t.length
 each:∀ (k:Nat) (q:Queue),t[k]?=some q→∃ q',t'[k]?=some q'∧valid q'=true∧q'.res=q.res∧(∀ y,y∉ms→Gl y q q')∧er (DK ms q')=er (DK ms q)
def CD.off{p:Ab}{t t':List Queue}(h:CD p t t'):RR [p] t t':=⟨h.len,fun k q hq=>by
 obtain⟨q',h1,h2⟩:=h.each k q hq;exact⟨q',h1,h2.val,h2.res,fun y hy=>h2.same y (by simpa using hy),h2.cut⟩⟩
def RR.refl{t:List Queue}(ht:CE t):RR [] t t:=⟨rfl,fun _ q hq=>⟨q,hq,ht.val q (mG hq),rfl,fun _ _=>.refl q,rfl⟩⟩
def RR.trans{ms ms':List Ab}{a b c:List Queue}(ha:∀ q∈a,valid q=true)(h:RR ms a b)(h':RR ms' b c):RR (ms++ms') a c:=⟨h'.len.trans h.len,fun k q hq=>by
 obtain⟨q1,h1,v1,r1,s1,c1⟩:=h.each k q hq;obtain⟨q2,h2,v2,r2,s2,c2⟩:=h'.each k q1 h1;have v0:=ha q (mG hq);refine⟨q2,h2,v2,r2.trans r1,fun y hy=>?_,?_⟩
 ·simp only[mem_append,not_or]at hy;exact(s1 y hy.1).trans (s2 y hy.2)
 ·rw[LU,LU,MK ms' ms v2,Nz ms (Fw ms' v1) (Fw ms' v2) c2,MK ms ms' v1,Nz ms' (Fw ms v0) (Fw ms v1) c1]⟩
structure Run(ms:List Ab)(w w':Am):Prop where
 off:RR ms w.Aa w'.Aa
 same:∀ x∈w.procs,x.proc∉ms→x∈w'.procs
 back:∀ x∈w'.procs,x.proc∉ms→x∈w.procs
def Run.refl{w:Am}(ht:CE w.Aa):Run [] w w:=⟨.refl ht,fun _ h _=>h,fun _ h _=>h⟩
def Run.trans{ms ms':List Ab}{a b c:Am}(ht:CE a.Aa)(h:Run ms a b)(h':Run ms' b c):Run (ms++ms') a c where
 off:=h.off.trans ht.val h'.off
 same:=fun x hx hn=>by
  simp only[mem_append,not_or]at hn;exact h'.same x (h.same x hx hn.1) hn.2
 back:=fun x hx hn=>by
  simp only[mem_append,not_or]at hn;exact h.back x (h'.back x hx hn.2) hn.1
def run_set{w w':Am}{i:Nat}{x y:Pcs}(hx:w.procs[i]?=some x)(hy:y.proc=x.proc)(hp:w'.procs=w.procs.set i y)(hs:CD x.proc w.Aa w'.Aa):Run [x.proc] w w' where
 off:=hs.off
 same:=fun z hz hn=>by
  rw[hp];obtain⟨j,hj⟩:=List.getElem?_of_mem hz;have hne:i≠j:=fun e=>by
   subst e;rw[hx]at hj;rw[← Option.some.inj hj]at hn;simp at hn
  exact mG (i:=j) (by rw[List.getElem?_set_ne hne];exact hj)
 back:=fun z hz hn=>by
  rw[hp]at hz;rcases List.mem_or_eq_of_mem_set hz with hz|rfl
  ·exact hz
  ·simp[hy]at hn
def PM{w:Am}{i:Nat}{x:Pcs}(h:VE none w)(hx:w.procs[i]?=some x)(hw:x.waiting=true):Run [x.proc] w (Cq w i x):=by
 obtain⟨y,h1,_,h3⟩:=He hx;exact run_set hx h3 h1 (KB h hx hw).2.1
def JT{w:Am}{x:Pcs}(h:HB w x=true):x.waiting=true:=by
 simp only[HB,and_eq_true]at h;exact h.1
def RE:∀ (n:Nat) (w:Am),VE none w→VE none (C1 n w)∧(C1 n w).now=w.now
 | 0,_,h=>⟨h,rfl⟩
 | n+1,w,h=>by
  simp only[C1];cases hs:F2 w with
  |none=>exact⟨h,rfl⟩
  |some i =>
   obtain⟨x,hx,hsat⟩:=FR hs;simp only[show w.procs.getD i x0=x by simp[List.getD,hx]];obtain⟨h1,_,h3⟩:=KB h hx (JT hsat);obtain⟨g1,g2⟩:=RE n _ h1;exact⟨g1,g2.trans h3⟩
def KC{w:Am}(h:VE none w):VE none (Bl w)∧(Bl w).now=w.now:=RE _ w h
def Mq:∀ (n:Nat) (w:Am),wcount w≤n→F2 (C1 n w)=none
 | 0,w,h=>by
  show F2 w=none;unfold F2;rw[List.findIdx?_eq_none_iff];intro x hx;cases hs:HB w x
  ·rfl
  ·have hc:wcount w=0:=by omega
   unfold wcount at hc;rw[List.countP_eq_zero]at hc;exact absurd (JT hs) (hc x hx)
 | n+1,w,h=>by
  simp only[C1];cases hs:F2 w with
  |none=>exact hs
  |some i =>
   obtain⟨x,hx,hsat⟩:=FR hs;simp only[show w.procs.getD i x0=x by simp[List.getD,hx]];have:=(Ja hs hx hsat).2;exact Mq n _ (by omega)
def Mr(w:Am):F2 (Bl w)=none:=Mq _ w (Nat.le_refl _)
def PO:∀ (n:Nat) (w:Am),VE none w→∃ ms,Run ms w (C1 n w)∧(∀ m∈ms,∃ x∈w.procs,x.proc=m∧x.waiting=true)∧∀ x∈(C1 n w).procs,x.proc∈ms→x.waiting=false
 | 0,w,h=>⟨[],.refl h.je.tab,fun _ hm=>by(cases hm),fun _ _ hm=>by(cases hm)⟩
 | n+1,w,h=>by
  simp only[C1];cases hs:F2 w with
  |none=>exact⟨[],.refl h.je.tab,fun _ hm=>by(cases hm),fun _ _ hm=>by(cases hm)⟩
  |some i =>
   obtain⟨x,hx,hsat⟩:=FR hs;have hwt:=JT hsat;simp only[show w.procs.getD i x0=x by simp[List.getD,hx]];have h1:=(KB h hx hwt).1;have h2:=PM h hx hwt;obtain⟨ms,g1,g2,g3⟩:=PO n _ h1;obtain⟨y,p1,p2,p3⟩:=He hx;have hyi:(Cq w i x).procs[i]?=some y:=by rw[p1];exact List.getElem?_set_self (Aj hx)
   have key:∀ z∈(Cq w i x).procs,z.proc=x.proc→z=y:=fun z hz e=>by
    obtain⟨j,hj⟩:=List.getElem?_of_mem hz;have:=h1.je.uq j i z y hj hyi (e.trans p3.symm);subst this;rw[hyi]at hj;exact(Option.some.inj hj).symm
   have hnm:x.proc∉ms:=fun hm=>by
    obtain⟨z,z1,z2,z3⟩:=g2 _ hm;rw[key z z1 z2,p2]at z3;cases z3
   refine⟨[x.proc]++ms,h2.trans h.je.tab g1,fun m hm=>?_,fun z hz hm=>?_⟩
   ·rcases mem_append.1 hm with hm|hm
    ·exact⟨x,mG hx,(mem_singleton.1 hm).symm,hwt⟩
    ·obtain⟨z,z1,z2,z3⟩:=g2 m hm;have hne:z.proc∉[x.proc]:=fun e=>hnm (by rw[← mem_singleton.1 e,z2];exact hm)
     exact⟨z,h2.back z z1 hne,z2,z3⟩
   ·rcases mem_append.1 hm with hm|hm
    ·have:=g1.back z hz (by rw[mem_singleton.1 hm];exact hnm);rw[key z this (mem_singleton.1 hm)];exact p2
    ·exact g3 z hz hm
def PQ{w:Am}(h:VE none w):∃ ms,Run ms w (Bl w)∧(∀ m∈ms,∃ x∈w.procs,x.proc=m∧x.waiting=true)∧∀ x∈(Bl w).procs,x.proc∈ms→x.waiting=false:=PO _ w h
def PN{D:List Ab}{w0:Am}(ht:CE w0.Aa)(H:∀ (ms:List Ab) (w:Am),VE none w→Run ms w0 w→(∀ m∈ms,m∉D)→∀ x∈w.procs,HB w x=true→x.proc∉D):∀ (n:Nat) (ms:List Ab) (w:Am),VE none w→Run ms w0 w→(∀ m∈ms,m∉D)→∃ ms',Run ms' w0 (C1 n w)∧∀ m∈ms',m∉D
 | 0,ms,_,_,hr,hm=>⟨ms,hr,hm⟩
 | n+1,ms,w,h,hr,hm=>by
  simp only[C1];cases hs:F2 w with
  |none=>exact⟨ms,hr,hm⟩
  |some i =>
   obtain⟨x,hx,hsat⟩:=FR hs;have hwt:=JT hsat;simp only[show w.procs.getD i x0=x by simp[List.getD,hx]];have hxD:=H ms w h hr hm x (mG hx) hsat;exact PN ht H n (ms++[x.proc]) _ (KB h hx hwt).1 (hr.trans ht (PM h hx hwt)) fun m hm'=>by
    rcases mem_append.1 hm' with hm'|hm'
    ·exact hm m hm'
    ·rw[mem_singleton.1 hm'];exact hxD
def Sr{i:Nat}{x z:Pcs}:∀ (az:List Atom) (w:Am),VE (some i) w→w.procs[i]?=some z→z.proc=x.proc→KX w.Aa x→(∀ a∈az,∃ k,BS w.Aa a.name=some k) →
 VE (some i) (Dy w x az)∧CD x.proc w.Aa (Dy w x az).Aa∧(Dy w x az).now=w.now
 |[],w,h,_,_,_,_=>⟨h,.refl h.je.tab,rfl⟩
 | a::az,w,h,hz,hp,hk,hf=>by
  obtain⟨k,hfk⟩:=hf a (by simp);obtain⟨_,q,hq,hn⟩:=C5 hfk;obtain⟨q1,e1,e2,_,e4⟩:=X8 h hz hp hk hfk hq hn;have hst:CD x.proc w.Aa (Dl w x a.name).Aa:=by rw[e1];exact G8 h.je.tab hq e2
  obtain⟨g1,g2,g3⟩:=Sr az (Dl w x a.name) e4 (by rw[Fu];exact hz) hp (Iv h.je.tab hk ⟨k,hfk⟩).2.2.1 fun b hb=>by
   rw[Ia hst.res];exact hf b (by simp[hb])
  exact⟨g1,hst.trans g2,g3.trans (Ol _ _ _)⟩
def Gs{w:Am}{i:Nat}{x:Pcs}(h:VE none w)(hx:w.procs[i]?=some x)(hw:x.waiting=true):VE none (AH w i x)∧CD x.proc w.Aa (AH w i x).Aa∧(AH w i x).now=w.now∧Idle (AH w i x).Aa x:=by
 have hf:=h.fine i x hx (by simp);obtain⟨r1,r2,r3,r4,r5⟩:=hf.wait hw;obtain⟨g1,g2,g3⟩:=Sr (Ag x.req.expr) w (h.but i) hx rfl (hf.K h.je.tab) fun a ha=>by
  obtain⟨k,_,hk,_⟩:=CZ h.je.tab r2 ha;exact⟨k,hk⟩
 have hid:Idle (AH w i x).Aa x:=fun q hq=>by
  rcases(Eb h.je hx hw).2.2 q hq with hk|⟨hm,hn⟩
  ·exact hk
  ·exact Ro _ hn (r5 q hm)
 have hxx:(Dy w x (Ag x.req.expr)).procs[i]?=some x:=by rw[Gw];exact hx
 refine⟨VE.set g1 hxx rfl (JF hf.head rfl rfl hf.led ?_ (fun n hn=>hf.fits.res g2.res n hn) rfl Uv rfl hid),g2,g3,hid⟩;obtain⟨_,_,_,_,a,b⟩:=(EJ x).1 hf.head;exact⟨a,b⟩
def Rp{q:Queue}{x y:Pcs}(h1:y.proc=x.proc)(h2:y.led=x.led)(h3:y.req=x.req):∀ az,CJ q y az=CJ q x az
 |[]=>by simp only[CJ,h1,h2]
 | a::az=>by simp only[CJ,h1,h2,h3,Rp h1 h2 h3 az]
def Fine.next{now:Int}{t:List Queue}{x:Pcs}(h:Fine now t x):Fine now t (BC x) where
 head:=by
  obtain⟨a,b,c,d,_⟩:=(EJ x).1 h.head;exact(EJ _).2 ⟨a,b,c,d,IF _⟩
 fits:=h.fits
 wait:=fun hw=>by
  obtain⟨a,b,c,d,e⟩:=h.wait hw;exact⟨a,b,c,d,fun q hq=>(Rp (x:=x) (y:=BC x) rfl rfl rfl _).trans (e q hq)⟩
 idle:=h.idle
def VE.next{w:Am}{i:Nat}{x:Pcs}(h:VE none w)(hx:w.procs[i]?=some x):VE none (AF w i (BC x)):=(h.but i).set hx rfl (h.fine i x hx (by simp)).next
def VF{w:Am}{i:Nat}{x:Pcs}(h:VE none w)(hx:w.procs[i]?=some x)(hw:x.waiting=true):VE none (DL w i x)∧(DL w i x).now=w.now:=by
 obtain⟨g1,_,g3,_⟩:=Gs (h.note 4 x.proc) (i:=i) (x:=x) hx hw;have hi:=Aj hx;have hp:(AH (BQ w 4 x.proc) i x).procs[i]?=some (Br x):=by rw[Bm];exact List.getElem?_set_self hi
 simp only[DL];rw[show (AH (BQ w 4 x.proc) i x).procs.getD i x0=Br x by simp[List.getD,hp]];exact⟨g1.next hp,g3⟩
def VG:∀ (n:Nat) (w:Am),VE none w→F2 w=none→VE none (HT n w)∧F2 (HT n w)=none∧(HT n w).now=w.now∧(wcount w≤n→Ns (HT n w) = -1)
 | 0,w,h,hq=>⟨h,hq,rfl,fun hn=>HH (w:=w) (by omega)⟩
 | n+1,w,h,hq=>by
  rcases H9 w with he|⟨k,x,he,hx,hwt⟩
  ·rw[EK he];exact⟨h,hq,rfl,fun _=>he⟩
  ·rw[Iz he hx];obtain⟨g1,g2⟩:=VF h hx hwt;obtain⟨s1,s2⟩:=KC g1;obtain⟨r1,r2,r3,r4⟩:=VG n _ s1 (Mr _);have h3:=Kr w hx hwt;have h4:=Hh (DL w k x);exact⟨r1,r2,r3.trans (s2.trans g2),fun hn=>r4 (by omega)⟩
def Yq{q:Queue}{x:Pcs}{a:Atom}(hn:a.name=q.res.name)(h1:q.res.covers (An x.led.entries q.res.name) a.amt=true→KF q x.proc (An x.led.entries q.res.name))
 (h2:q.res.covers (An x.led.entries q.res.name) a.amt=false→(Aq q x.proc=none∧At q.holds x.proc=C8 q.res (An x.led.entries q.res.name) a.amt)∨(Aq q x.proc=some (C8 q.res (An x.led.entries q.res.name) a.amt)∧At q.holds x.proc=An x.led.entries q.res.name∧∀ w∈q.waits,w.proc=x.proc→w.prio=x.req.prio)) :
 ∀ {az:List Atom},Je az→a∈az→CJ q x az=true
 | b::az,hu,ha=>by
  have hu':=nodup_cons.1 hu;unfold CJ
  by_cases e:b.name=q.res.name
  ·have hba:b=a:=by
    rcases mem_cons.1 ha with ha|ha
    ·exact ha.symm
    ·exact absurd (mem_map.2 ⟨a,ha,hn.trans e.symm⟩) hu'.1
   subst hba;rw[if_neg (by simpa using e)];cases hc:q.res.covers (An x.led.entries q.res.name) b.amt
   ·rw[if_neg (by simp)];rcases h2 hc with ⟨g1,g2⟩|⟨g1,g2,g3⟩
    ·rw[if_pos (by simp[g1])];exact decide_eq_true g2
    ·rw[if_neg (by simp[g1]),if_neg ?_]
     ·simp[g1,g2]
     ·intro hany;rw[List.any_eq_true]at hany;obtain⟨w,w1,w2⟩:=hany;rw[and_eq_true,zD]at w2;have:=g3 w w1 w2.1;simp[this]at w2
   ·rw[if_pos rfl];have hk:=h1 hc;have key:∀ {az:List Atom},(∀ c∈az,c.name≠q.res.name)→CJ q x az=true:=by
     intro az
     induction az with
     | nil=>intro _;simp[CJ,hk.1,hk.2]
     | cons c az ih =>
      intro hc';unfold CJ;rw[if_pos (by simpa using hc' c (by simp))];exact ih fun d hd=>hc' d (by simp[hd])
    exact key fun c hc' e'=>hu'.1 (mem_map.2 ⟨c,hc',e'.trans e.symm⟩)
  ·rw[if_pos (by simpa using e)];rcases mem_cons.1 ha with rfl|ha
   ·exact absurd hn e
   ·exact Yq hn h1 h2 hu'.2 ha
def V6{q:Queue}{x:Pcs}(hk:KF q x.proc (An x.led.entries q.res.name)):∀ {az:List Atom},(∀ c∈az,c.name≠q.res.name)→CJ q x az=true
 |[],_=>by simp[CJ,hk.1,hk.2]
 | c::az,h=>by
  unfold CJ;rw[if_pos (by simpa using h c (by simp))];exact V6 hk fun d hd=>h d (by simp[hd])
def To{e:Option Nat}{w:Am}(h:VE e w):(w.procs.map (·.proc)).length≤8:=by rw[length_map];exact h.je.n
def XR{e:Option Nat}{w:Am}(h:VE e w){p:Ab}(hp:p∈w.procs.map (·.proc))(hn:p∉Ay w.Aa):(Ay w.Aa).length<8:=by
 have:=CY (p::Ay w.Aa) (w.procs.map (·.proc)) (nodup_cons.2 ⟨hn,Jl _⟩) fun x hx=>by
  rcases mem_cons.1 hx with rfl|hx
  ·exact hp
  ·obtain⟨q,hq,hi⟩:=(Dv _ _).1 hx;exact h.known q hq x hi
 have h8:=To h;simp only[length_cons]at this;omega
def T8{q:Queue}(hs:Sound q){x:AK}(hx:x∈q.holds):At q.holds x.proc=x.amt∧x.amt.zero=false:=by
 obtain⟨_,_,h3,h4,_⟩:=(C7 _ _).1 hs.holds;refine⟨?_,Gd (h3 x hx).2⟩;unfold At;cases hf:q.holds.find? (fun h=>decide (h.proc=x.proc)) with
 |none =>
  rw[List.find?_eq_none]at hf;have:=hf x hx;simp at this
 |some y =>
  have hy:=List.mem_of_find?_eq_some hf;have hyp:y.proc=x.proc:=by simpa using List.find?_some hf
  have key:∀ a∈q.holds,∀ b∈q.holds,a.proc=b.proc→a=b:=fun a ha b hb e=>by
   obtain⟨i,hi⟩:=List.getElem?_of_mem ha;obtain⟨j,hj⟩:=List.getElem?_of_mem hb;rcases Nat.lt_trichotomy i j with hlt|rfl|hlt
   ·have:=pairwise_iff_getElem.1 h4 i j (Aj hi) (Aj hj) hlt;rw[get_eq hi,get_eq hj,e,Cj]at this;omega
   ·rw[hi]at hj;exact Option.some.inj hj
   ·have:=pairwise_iff_getElem.1 h4 j i (Aj hj) (Aj hi) hlt;rw[get_eq hi,get_eq hj,e,Cj]at this;omega
  have:y=x:=key y hy x hx hyp;rw[this]
def XQ{e:Option Nat}{w:Am}(h:VE e w){p:Ab}(hp:p∈w.procs.map (·.proc)){q:Queue}(hq:q∈w.Aa)(hw:Aq q p=none)(hz:(At q.holds p).zero=true):q.holds.length+q.waits.length<8:=by
 have hs:=((BE q).1 (h.je.tab.val q hq)).1;obtain⟨_,_,h3,h4,_⟩:=(C7 _ _).1 hs.holds;obtain⟨a,b,c⟩:=(Bt q).1 hs.waits;rw[Ct]at a;have h1:(q.holds.map (·.proc)).Nodup:=by
  unfold List.Nodup;rw[pairwise_map];exact h4.imp fun {x y} hxy e=>by rw[e,Cj]at hxy;omega
 have h2:(q.waits.map (·.proc)).Nodup:=HE.1 a.2.1;have hpH:p∉q.holds.map (·.proc):=fun hm=>by
  obtain⟨x,hx,rfl⟩:=mem_map.1 hm;obtain⟨g1,g2⟩:=T8 hs hx;rw[g1,g2]at hz;cases hz
 have hpW:p∉q.waits.map (·.proc):=fun hm=>by
  obtain⟨x,hx,hxp⟩:=mem_map.1 hm;exact E7.1 hw x (by simp[hx]) hxp
 have hnd:(p::(q.holds.map (·.proc)++q.waits.map (·.proc))).Nodup:=by
  refine nodup_cons.2 ⟨fun hm=>(mem_append.1 hm).elim hpH hpW,?_⟩;rw[List.nodup_append];refine⟨h1,h2,fun x hx y hy e=>?_⟩;obtain⟨u,hu,rfl⟩:=mem_map.1 hx;obtain⟨v,hv,rfl⟩:=mem_map.1 hy;obtain⟨g1,g2⟩:=T8 hs hu;have:=(c v hv).2;rw[← e,g1,g2]at this;cases this
 have:=CY _ (w.procs.map (·.proc)) hnd fun x hx=>by
  rcases mem_cons.1 hx with rfl|hx
  ·exact hp
  ·rcases mem_append.1 hx with hx|hx
   ·obtain⟨u,hu,rfl⟩:=mem_map.1 hx;exact h.known q hq _ (.inl ⟨u,hu,rfl⟩)
   ·obtain⟨u,hu,rfl⟩:=mem_map.1 hx;exact h.known q hq _ (.inr (.inr ⟨u,hu,rfl⟩))
 have h8:=To h;simp only[length_cons,length_append,length_map]at this h8;omega
structure Tz(t0:List Queue)(i:Nat)(y:Pcs)(w:Am)(az:List Atom):Prop where
 ve:VE (some i) w
 at_:w.procs[i]?=some y
 rsv:Cm (CB w.Aa) y.req.expr=0
 sub:∀ a∈az,a∈Ag y.req.expr
 uq:(az.map (·.name)).Nodup
 todo:∀ q∈w.Aa,(∃ a∈az,a.name=q.res.name)→KF q y.proc (An y.led.entries q.res.name)
 done:∀ q∈w.Aa,(¬ ∃ a∈az,a.name=q.res.name)→CJ q y (Ag y.req.expr)=true
 tr:CD y.proc t0 w.Aa
def YS{t:List Queue}{p:Ab}{a:Atom}{prio:Int}{k:Nat}{q:Queue}(h:CE t)(hf:BS t a.name=some k)(hq:t[k]?=some q)(h8:p∉Ay t→(Ay t).length<8)(h0:(A3 q p a.amt prio).2.2=0):(DN t p a prio).1=t.set k (A3 q p a.amt prio).1:=by
 have hg:t.getD k q0=q:=by simp[List.getD,hq]
 have hb:(decide ((Ay t).length=8)&&!B2 (Ay t) p)=false:=by
  by_cases hm:p∈Ay t
  ·simp[B2,hm]
  ·have:=h8 hm;have:(Ay t).length≠8:=by omega
   simp[this]
 simp only[DN,(DU t).2 h,hf,hg,hb,h0];rfl
def Tz.step{t0:List Queue}{i:Nat}{y:Pcs}{w:Am}{a:Atom}{az:List Atom}(hy:y.proc.ok=true)(hpr:0≤y.req.prio∧y.req.prio≤7)(h:Tz t0 i y w (a::az)):Tz t0 i y (E8 w y.proc a y.req.prio) az:=by
 have ht:=h.ve.je.tab;have ha:=h.sub a (by simp);obtain⟨k,q,f1,f2,f3,f4⟩:=CZ ht h.rsv ha;have hqm:=mG f2;have hu:=nodup_cons.1 (show (a.name::az.map (·.name)).Nodup from h.uq);have hnk:∀ n,n=a.name→¬ ∃ b∈az,b.name=n:=fun n e ⟨b,hb,hn⟩=>hu.1 (mem_map.2 ⟨b,hb,hn.trans e⟩)
 have hkf:=h.todo q hqm ⟨a,by simp,f3.symm⟩;have hpm:y.proc∈w.procs.map (·.proc):=mem_map.2 ⟨y,mG h.at_,rfl⟩;obtain⟨c1,c2,c3,c4⟩:=eW (p:=y.proc) (a:=a.amt) (prio:=y.req.prio) (ht.val q hqm) hy hpr f4 hkf.1 (XQ h.ve hpm hqm hkf.1);have h8:y.proc∉Ay w.Aa→(Ay w.Aa).length<8:=XR h.ve hpm;have e1:(E8 w y.proc a y.req.prio).Aa=w.Aa.set k (A3 q y.proc a.amt y.req.prio).1:=YS ht f1 f2 h8 c1;have hst:=G8 ht f2 c2;have hres:=hst.res;have hsT:Fj y.proc w.Aa (w.Aa.set k (A3 q y.proc a.amt y.req.prio).1):=by
  refine Md ht f2 (Pm hkf.2 c1).1 ?_
  by_cases hm:y.proc∈Ay w.Aa
  ·exact .inr (.inl hm)
  ·exact .inr (.inr (h8 hm))
 have hn1:(A3 q y.proc a.amt y.req.prio).1.res.name=a.name:=by rw[c2.res];exact f3
 have hmem:∀ q'∈w.Aa.set k (A3 q y.proc a.amt y.req.prio).1,q'=(A3 q y.proc a.amt y.req.prio).1∨(q'∈w.Aa∧q'.res.name≠a.name):=fun q' hq'=>by
  rcases CO (q:=q) hq' with hh|⟨j,hj,hjq⟩
  ·exact .inl hh
  ·exact .inr ⟨mG hjq,fun e=>hj (EY ht hjq f2 (e.trans f3.symm))⟩
 refine⟨h.ve.step h.at_ rfl rfl (by rw[e1];exact hsT) (by rw[e1];exact hst),h.at_,?_,fun b hb=>h.sub b (by simp[hb]),hu.2,?_,?_,?_⟩<;>rw[e1]
 ·unfold CB;rw[hres];exact h.rsv
 ·intro q' hq' hx;rcases hmem q' hq' with rfl|⟨h1,h2⟩
  ·exact absurd hx (hnk _ hn1)
  ·obtain⟨b,hb,hbn⟩:=hx;exact h.todo q' h1 ⟨b,by simp[hb],hbn⟩
 ·intro q' hq' hx;rcases hmem q' hq' with rfl|⟨h1,h2⟩
  ·rw[hkf.2]at c3 c4;refine Yq (a:=a) hn1.symm (fun hc=>?_) (fun hc=>?_) (Gm _) ha
   ·rw[c2.res]at hc ⊢;rw[c3 hc];exact hkf
   ·rw[c2.res]at hc ⊢;exact c4 hc
  ·refine h.done q' h1 fun⟨b,hb,hbn⟩=>?_
   rcases mem_cons.1 hb with rfl|hb
   ·exact h2 hbn.symm
   ·exact hx ⟨b,hb,hbn⟩
 ·exact h.tr.trans hst
def Tz.all{t0:List Queue}{i:Nat}{y:Pcs}(hy:y.proc.ok=true)(hpr:0≤y.req.prio∧y.req.prio≤7):∀ (az:List Atom) {w:Am},Tz t0 i y w az→Tz t0 i y (Cz w y.proc y.req.prio az) []
 |[],_,h=>h
 |_::az,_,h=>Tz.all hy hpr az (h.step hy hpr)
def Po(p:Ab)(prio:Int):∀ (az:List Atom) (w:Am),(Cz w p prio az).now=w.now
 |[],_=>rfl
 | a::az,w=>Po p prio az (E8 w p a prio)
def L8(r:Req):GF r=true↔Bb r.expr=true∧0≤r.prio∧r.prio≤7∧0≤r.BY∧r.BY≤1000:=by
 simp only[GF,and_eq_true,zD];exact⟨fun⟨⟨⟨⟨a,b⟩,c⟩,d⟩,e⟩=>⟨a,b,c,d,e⟩,fun⟨a,b,c,d,e⟩=>⟨⟨⟨⟨a,b⟩,c⟩,d⟩,e⟩⟩
def WU{w:Am}{i:Nat}{x:Pcs}{r:Req}(h:VE none w)(hx:w.procs[i]?=some x)(hw:x.waiting=false)(hr:GF r=true)(hv:Cm (CB w.Aa) r.expr=0) :
 VE none (Ka w i x r)∧(Ka w i x r).now=w.now∧(Ka w i x r).procs=w.procs.set i (Gi w.now x r)∧CD x.proc w.Aa (Ka w i x r).Aa:=by
 have hf:=h.fine i x hx (by simp);obtain⟨d1,d2,d3⟩:=hf.idle hw;obtain⟨o1,o2,o3,o4,o5,o6⟩:=(EJ x).1 hf.head;obtain⟨q1,q2,q3,q4,q5⟩:=(L8 r).1 hr;have hi:=Aj hx;have hy:(AF w i (Gi w.now x r)).procs[i]?=some (Gi w.now x r):=by simp[AF,hi]
 have h0:Tz w.Aa i (Gi w.now x r) (AF w i (Gi w.now x r)) (Ag r.expr):=by
  refine⟨(h.but i).set' hx rfl,hy,hv,fun a ha=>ha,Gm _,fun q hq _=>d3 q hq,fun q hq hn=>?_,.refl h.je.tab⟩;exact V6 (x:=Gi w.now x r) (d3 q hq) fun c hc e=>hn ⟨c,hc,e⟩
 have h1:=Tz.all (y:=Gi w.now x r) o1 ⟨q2,q3⟩ _ h0;have hp:(Ka w i x r).procs=w.procs.set i (Gi w.now x r):=Hb _ _ _ _;have hn:(Ka w i x r).now=w.now:=Po _ _ _ _;have hq:Ka w i x r=Cz (AF w i (Gi w.now x r)) (Gi w.now x r).proc (Gi w.now x r).req.prio (Ag r.expr):=rfl;rw[← hq]at h1;refine⟨?_,hn,hp,h1.tr⟩;have:=VE.set (y:=Gi w.now x r) h1.ve h1.at_ rfl ⟨(EJ _).2 ⟨o1,o2,o3,o4,IF _⟩,fun n hn'=>hf.fits.res h1.tr.res n hn',fun _=>?_,fun e=>by cases e⟩
 ·have e:AF (Ka w i x r) i (Gi w.now x r)=Ka w i x r:=by
   unfold AF;rw[JU h1.at_]
  rw[← e];exact this
 ·rw[hn];exact⟨hr,h1.rsv,h.now.1,Int.le_refl _,fun q hq'=>h1.done q hq' (by simp)⟩
def SO{l:List Entry}{n:Bs}(h:An l n≠⟨0,0⟩):∃ e∈l,e.name=n:=by
 by_cases hn:∃ e∈l,e.name=n
 ·exact hn
 ·exact absurd (LX hn) h
def T4{w:Am}{i:Nat}{x:Pcs}{name:Bs}(h:VE none w)(hx:w.procs[i]?=some x)(hw:x.waiting=false)(hz:An x.led.entries name≠⟨0,0⟩) :
 VE none (GL w i x name)∧(GL w i x name).now=w.now∧(∃ y,(GL w i x name).procs=w.procs.set i y∧y.proc=x.proc∧y.waiting=false)∧CD x.proc w.Aa (GL w i x name).Aa:=by
 have ht:=h.je.tab;have hf:=h.fine i x hx (by simp);obtain⟨d1,d2,d3⟩:=hf.idle hw;have hent:=SO hz;obtain⟨k,q,f1,f2,f3,f4⟩:=hf.fits name hent;have hqm:=mG f2;have hkf:=d3 q hqm;rw[f3]at hkf;have hv:=ht.val q hqm;have hnz:(At q.holds x.proc).zero=false:=by rw[hkf.2];exact Gd f4
 have hc:q.res.covers (At q.holds x.proc) ⟨0,0⟩=true:=by rw[hkf.2];exact Hl f4
 have e1:=OS (a:=⟨name,⟨0,0⟩⟩) ht f1 f2 hkf.1 hnz hc;have hX:=Xz hv hnz hkf.1 hc;have hls:=Ht hv hnz hkf.1 hc;have hst:=G8 ht f2 hX;have hsT:Fj x.proc w.Aa (w.Aa.set k (A7 q x.proc ⟨0,0⟩).1):=by
  obtain⟨q',e2,g,_⟩:=Hu (a:=⟨name,⟨0,0⟩⟩) ht f1 f2 hkf.1 hnz hc;rw[e1]at e2;rw[e2];exact g
 obtain⟨l1,l2⟩:=hf.led.drop hent;have hd:GL w i x name=AF (Cg w (w.Aa.set k (A7 q x.proc ⟨0,0⟩).1) (A8 w.Aa x.proc ⟨name,⟨0,0⟩⟩).2.1) i (BC { x with led:=(FZ x.led name).1 }):=by
  simp only[GL,e1]
 rw[hd];refine⟨VE.set (w:=Cg w (w.Aa.set k (A7 q x.proc ⟨0,0⟩).1) (A8 w.Aa x.proc ⟨name,⟨0,0⟩⟩).2.1) ((h.but i).step hx rfl rfl hsT hst) hx rfl (JF hf.head rfl rfl l2 (IF _) (fun n hn=>?_) hw d1 d2 fun q' hq'=>?_),rfl,⟨_,rfl,rfl,hw⟩,hst⟩
 ·have e:(BC { x with led:=(FZ x.led name).1 }).led.entries=x.led.entries.filter (Cd name):=l1;rw[e]at hn ⊢;obtain⟨b,hb,hbn⟩:=hn;rw[mem_filter]at hb;have hne:n≠name:=by
   rw[← hbn];simpa [Cd]using hb.2
  rw[MM hne];exact hf.fits.res hst.res n ⟨b,hb.1,hbn⟩
 ·have e:(BC { x with led:=(FZ x.led name).1 }).led.entries=x.led.entries.filter (Cd name):=l1;rw[e];rcases CO (q:=q) hq' with rfl|⟨j,hj,hjq⟩
  ·rw[hX.res,f3,Xm];exact⟨hls.2.2.1,hls.2.2.2⟩
  ·have hne:q'.res.name≠name:=fun e=>hj (EY ht hjq f2 (e.trans f3.symm))
   rw[MM hne];exact d3 q' (mG hjq)
def QU{r:Res}{h a:Amt}(hf:r.fits h=true)(hg:Gr a h)(ha:usable a=true):r.fits a=true:=by
 have:=OC hf hg;simp only[Res.covers,Res.permits,and_eq_true,or_eq_true]at this;rcases this.1.2.2 with h1|h1
 ·exact absurd (zero_eq h1) (J4 ha)
 ·exact h1
structure M7(t0:List Queue)(i:Nat)(x z:Pcs)(a:Nat)(w:Am)(az:List Atom):Prop where
 ve:VE (some i) w
 at_:w.procs[i]?=some z
 zp:z.proc=x.proc
 fits:Il w.Aa x
 sub:∀ b∈az,(∃ e∈x.led.entries,e.name=b.name)∧b.amt=An (x.led.entries.take a) b.name
 todo:∀ q∈w.Aa,(∃ b∈az,b.name=q.res.name)→KF q x.proc (An x.led.entries q.res.name)
 done:∀ q∈w.Aa,(¬ ∃ b∈az,b.name=q.res.name)→KF q x.proc (An (x.led.entries.take a) q.res.name)
 uq:(az.map (·.name)).Nodup
 tr:CD x.proc t0 w.Aa
def YM(w:Am)(p:Ab)(a:Atom):(FX w p a).now=w.now:=by
 unfold FX;split
 ·rfl
 ·split<;>rfl
def M7.step{t0:List Queue}{i:Nat}{x z:Pcs}{a:Nat}{w:Am}{b:Atom}{az:List Atom}(hv:A9 x.led=true)(h:M7 t0 i x z a w (b::az)):M7 t0 i x z a (FX w x.proc b) az:=by
 have ht:=h.ve.je.tab;obtain⟨hb1,hb2⟩:=h.sub b (by simp);obtain⟨k,q,f1,f2,f3,f4⟩:=h.fits b.name hb1;have hg:w.Aa.getD k q0=q:=by simp[List.getD,f2]
 have hqm:=mG f2;have hu:=nodup_cons.1 (show (b.name::az.map (·.name)).Nodup from h.uq);have hnk:∀ n,n=b.name→¬ ∃ c∈az,c.name=n:=fun n e ⟨c,hc,hn⟩=>hu.1 (mem_map.2 ⟨c,hc,hn.trans e⟩)
 have hkf:=h.todo q hqm ⟨b,by simp,f3.symm⟩;rw[f3]at hkf;have hqv:=ht.val q hqm
 by_cases hne:At q.holds x.proc=b.amt
 ·have e:FX w x.proc b=w:=by
   unfold FX;simp only[f1,hg];rw[if_pos (by simpa using hne)]
  rw[e];refine⟨h.ve,h.at_,h.zp,h.fits,fun c hc=>h.sub c (by simp[hc]),fun q' hq' ⟨c,hc,hcn⟩=>h.todo q' hq' ⟨c,by simp[hc],hcn⟩,fun q' hq' hx=>?_,hu.2,h.tr⟩
  by_cases e2:q'.res.name=b.name
  ·obtain⟨j,hj⟩:=List.getElem?_of_mem hq';have:=EY ht hj f2 (e2.trans f3.symm);subst this;rw[f2]at hj;have:=Option.some.inj hj;subst this;rw[f3,← hb2];exact⟨hkf.1,hne⟩
  ·refine h.done q' hq' fun⟨c,hc,hcn⟩=>?_
   rcases mem_cons.1 hc with rfl|hc
   ·exact e2 hcn.symm
   ·exact hx ⟨c,hc,hcn⟩
 ·have hnz:(At q.holds x.proc).zero=false:=by rw[hkf.2];exact Gd f4
  have hc:q.res.covers (At q.holds x.proc) b.amt=true:=by rw[hkf.2,hb2];exact OC f4 (OF hv b.name a)
  have e1:=OS ht f1 f2 hkf.1 hnz hc;have hX:=Xz hqv hnz hkf.1 hc;have hls:=Ht hqv hnz hkf.1 hc;have hst:=G8 ht f2 hX;have hsT:Fj x.proc w.Aa (w.Aa.set k (A7 q x.proc b.amt).1):=by
   obtain⟨q',e2,g,_⟩:=Hu ht f1 f2 hkf.1 hnz hc;rw[e1]at e2;rw[e2];exact g
  have e:FX w x.proc b=Cg w (w.Aa.set k (A7 q x.proc b.amt).1) (A8 w.Aa x.proc b).2.1:=by
   unfold FX;simp only[f1,hg];rw[if_neg (by simpa using hne),e1]
  have hn1:(A7 q x.proc b.amt).1.res.name=b.name:=by rw[hX.res];exact f3
  have hmem:∀ q'∈w.Aa.set k (A7 q x.proc b.amt).1,q'=(A7 q x.proc b.amt).1∨(q'∈w.Aa∧q'.res.name≠b.name):=fun q' hq'=>by
   rcases CO (q:=q) hq' with hh|⟨j,hj,hjq⟩
   ·exact .inl hh
   ·exact .inr ⟨mG hjq,fun e=>hj (EY ht hjq f2 (e.trans f3.symm))⟩
  rw[e];refine⟨h.ve.step h.at_ rfl rfl (by rw[h.zp];exact hsT) (by rw[h.zp];exact hst),h.at_,h.zp,h.fits.res hst.res,fun c hc=>h.sub c (by simp[hc]),fun q' hq' hx=>?_,fun q' hq' hx=>?_,hu.2,h.tr.trans hst⟩
  ·rcases hmem q' hq' with rfl|⟨h1,h2⟩
   ·exact absurd hx (hnk _ hn1)
   ·obtain⟨c,hc,hcn⟩:=hx;exact h.todo q' h1 ⟨c,by simp[hc],hcn⟩
  ·rcases hmem q' hq' with rfl|⟨h1,h2⟩
   ·rw[hn1,← hb2];exact⟨hls.2.2.1,hls.2.2.2⟩
   ·refine h.done q' h1 fun⟨c,hc,hcn⟩=>?_
    rcases mem_cons.1 hc with rfl|hc
    ·exact h2 hcn.symm
    ·exact hx ⟨c,hc,hcn⟩
def M7.all{t0:List Queue}{i:Nat}{x z:Pcs}{a:Nat}(hv:A9 x.led=true):∀ (az:List Atom) {w:Am},M7 t0 i x z a w az→M7 t0 i x z a (Cs w x.proc az) []∧(Cs w x.proc az).now=w.now
 |[],_,h=>⟨h,rfl⟩
 | b::az,w,h=>by
  obtain⟨g1,g2⟩:=M7.all hv az (h.step hv);exact⟨g1,g2.trans (YM _ _ _)⟩
def XY{l:Ledger}{label:Int}(h:(Bx l label).2.2=0):∃ a n,KL l label=some (a,n)∧(Bx l label).2.1=Jd l a∧(Bx l label).1=Np l a n:=by
 unfold Bx at h ⊢;split at h
 ·simp at h
 ·rename_i hv;cases hb:KL l label with
  |none=>rw[hb]at h;simp at h
  |some p=>obtain⟨a,n⟩:=p;exact⟨a,n,rfl,by simp[hv],by simp[hv]⟩
def aT{l:List Entry}{a:Nat}{n:Bs}(h:¬ ∃ e∈l.drop a,e.name=n):An (l.take a) n=An l n:=by
 have:∀ (m:List Entry) (v:Amt),(¬ ∃ e∈m,e.name=n)→m.foldl (fun a e=>if e.name==n then e.after else a) v=v:=by
  intro m
  induction m with
  | nil=>intro v _;rfl
  | cons e m ih =>
   intro v hn;rw[foldl_cons,if_neg (by simpa using fun e'=>hn ⟨e,by simp,e'⟩)];exact ih v fun⟨e',h1,h2⟩=>hn ⟨e',by simp[h1],h2⟩
 unfold An
 conv=>rhs;rw[← List.take_append_drop a l,foldl_append]
 exact(this _ _ h).symm
def TN{w:Am}{i:Nat}{x:Pcs}{label:Int}(h:VE none w)(hx:w.procs[i]?=some x)(h0:(Bx x.led label).2.2=0) :
 VE none (KM w i x label)∧(KM w i x label).now=w.now∧(∃ y,(KM w i x label).procs=w.procs.set i y∧y.proc=x.proc∧y.waiting=false)∧CD x.proc w.Aa (KM w i x label).Aa:=by
 have hf:=h.fine i x hx (by simp);have hv:=(EO _).2 hf.led;obtain⟨a,n,hb,e1,e2⟩:=XY h0;obtain⟨p1,p2,p3⟩:=Sl x;have hli:=Aj hx;have hcalm:VE none (Ec w i x)∧(Ec w i x).procs=w.procs.set i (CG x)∧(Ec w i x).now=w.now∧Idle (Ec w i x).Aa x∧CD x.proc w.Aa (Ec w i x).Aa∧R8 (CG x).req=true∧(CG x).since=0:=by
  unfold Ec CG;cases hw:x.waiting
  ·obtain⟨d1,d2,d3⟩:=hf.idle hw;exact⟨h,(JU hx).symm,rfl,d3,.refl h.je.tab,d1,d2⟩
  ·simp only[if_true];obtain⟨g1,g2,g3,g4⟩:=Gs h hx hw;exact⟨g1,Bm _ _ _,g3,g4,g2,Uv,rfl⟩
 obtain⟨c1,c2,c3,c4,c5,c6,c7⟩:=hcalm;have c2':(Ec w i x).procs[i]?=some (CG x):=by rw[c2];exact List.getElem?_set_self hli
 have hS:M7 w.Aa i x (Fc (CG x) (Bx x.led label).1) a (AF (Ec w i x) i (Fc (CG x) (Bx x.led label).1)) (Jd x.led a):=by
  refine⟨(c1.but i).set' c2' rfl,by simp[AF,Aj c2'],p1,hf.fits.res c5.res,fun b hb=>?_,fun q hq _=>c4 q hq,fun q hq hn=>?_,?_,c5⟩
  ·simp only[Jd,mem_map]at hb;obtain⟨m,hm,rfl⟩:=hb;obtain⟨e,he,hn⟩:=(D9 _ _).1 hm;exact⟨⟨e,List.mem_of_mem_drop he,hn⟩,rfl⟩
  ·rw[aT]
   ·exact c4 q hq
   ·intro hd;refine hn ⟨⟨q.res.name,An (x.led.entries.take a) q.res.name⟩,?_,rfl⟩;exact mem_map.2 ⟨q.res.name,(D9 _ _).2 hd,rfl⟩
  ·have:(Jd x.led a).map (·.name)=B3 (x.led.entries.drop a):=by simp[Jd,Function.comp_def]
   rw[this];exact Kv _
 obtain⟨g1,g2⟩:=M7.all hv _ hS;have hp:(Cs (AF (Ec w i x) i (Fc (CG x) (Bx x.led label).1)) x.proc (Jd x.led a)).procs=w.procs.set i (Fc (CG x) (Bx x.led label).1):=by
  rw[FJ];simp only[AF,c2,set_set]
 obtain⟨o1,o2,o3,o4,o5,o6⟩:=(EJ x).1 hf.head;have hcost:(CG x).cost=x.cost:=by unfold CG;split<;>rfl
 unfold KM;rw[p1,e1];refine⟨VE.set (z:=Fc (CG x) (Bx x.led label).1) g1.ve g1.at_ rfl (JF hf.head p1 hcost ?_ (IF _) (fun m hm=>?_) p2 c6 c7 fun q hq=>?_),g2.trans c3,⟨BC (Fc (CG x) (Bx x.led label).1),?_,p1,p2⟩,g1.tr⟩
 ·show FW (Bx x.led label).1;rw[e2];exact hf.led.cut hb
 ·have e:(BC (Fc (CG x) (Bx x.led label).1)).led.entries=x.led.entries.take a:=by
   show (Bx x.led label).1.entries=_;rw[e2];rfl
  rw[e]at hm ⊢;obtain⟨b,hbm,hbn⟩:=hm;obtain⟨k,q,k1,k2,k3,k4⟩:=g1.fits m ⟨b,mem_of_mem_take hbm,hbn⟩;refine⟨k,q,k1,k2,k3,QU k4 (OF hv m a) ?_⟩
  by_cases ha:a≤x.led.entries.length
  ·exact LY hv a ha ⟨b,hbm,hbn⟩
  ·have hu:=LY hv (n:=m) x.led.entries.length (Nat.le_refl _) ⟨b,by rw[tL];exact mem_of_mem_take hbm,hbn⟩;rw[List.take_of_length_le (by omega)];rw[tL]at hu;exact hu
 ·have e:(BC (Fc (CG x) (Bx x.led label).1)).led.entries=x.led.entries.take a:=by
   show (Bx x.led label).1.entries=_;rw[e2];rfl
  rw[e];have:=g1.done q hq (by simp);rw[show (BC (Fc (CG x) (Bx x.led label).1)).proc=x.proc from p1];exact this
 ·show List.set (Cs (AF (Ec w i x) i (Fc (CG x) (Bx x.led label).1)) x.proc (Jd x.led a)).procs i _=_;rw[hp,set_set]
def fu{q:Queue}(hv:valid q=true){p:Ab}(h:inQ q p):Me q p=true:=by
 have hs:=((BE q).1 hv).1;unfold Me;rw[or_eq_true];rcases h with ⟨x,hx,rfl⟩|⟨x,hx,hp⟩|⟨x,hx,hp⟩
 ·right;obtain⟨g1,g2⟩:=T8 hs hx;rw[g1,g2];rfl
 ·left;exact IN.2 ⟨x,by simp[hx],hp⟩
 ·left;exact IN.2 ⟨x,by simp[hx],hp⟩
def bK{q:Queue}(hv:valid q=true){p x:Ab}(h:inQ (B4 p q).1 x):inQ q x∧x≠p:=by
 have hin:=ji p hv;unfold B4 at h;cases hq:Me q p
 ·rw[hq]at h;simp only[false_eq_true,if_false]at h;exact⟨h,fun e=>by rw[e]at h;rw[fu hv h]at hq;cases hq⟩
 ·rw[hq]at h;simp only[if_true]at h;unfold FC at h;simp only[hv,if_true]at h;split at h
  ·rw[Om]at h;exact(Q1 q p x).1 h
  ·rcases h with ⟨_,hm,_⟩|⟨_,hm,_⟩|⟨_,hm,_⟩<;>simp[q0]at hm
def fN{t:List Queue}(p:Ab)(h:CE t):CD p t (BO t p).1∧∀ q∈(BO t p).1,∀ x,inQ q x→x≠p:=by
 have e:(BO t p).1=t.map fun q=>(B4 p q).1:=by simp[BO,(DU t).2 h]
 rw[e];refine⟨⟨by simp,fun k q hq=>⟨(B4 p q).1,by rw[gm,hq];rfl,ji p (h.val q (mG hq))⟩⟩,fun q hq x hx=>?_⟩;obtain⟨q',hq',rfl⟩:=mem_map.1 hq;exact(bK (h.val q' hq') hx).2
def Sw{l:List Pcs}{i:Nat}{x:Pcs}{P:Ab→Prop}(hx:l[i]?=some x)(p:Ab)(hp:p∈l.map (·.proc))(hne:p≠x.proc):p∈(l.eraseIdx i).map (·.proc):=by
 obtain⟨z,hz,rfl⟩:=mem_map.1 hp;refine mem_map.2 ⟨z,?_,rfl⟩;obtain⟨j,hj⟩:=List.getElem?_of_mem hz;have hne':j≠i:=fun e=>by
  subst e;rw[hx]at hj;exact hne (by rw[← Option.some.inj hj])
 rw[List.eraseIdx_eq_take_drop_succ,mem_append];rcases lt_or_ge j i with hlt|hge
 ·exact .inl (mG (i:=j) (by rw[List.getElem?_take,if_pos hlt];exact hj))
 ·exact .inr (mG (i:=j-(i+1)) (by rw[List.getElem?_drop,show i+1+(j-(i+1))=j by omega];exact hj))
def T6{w:Am}{i:Nat}{x:Pcs}(h:VE none w)(hx:w.procs[i]?=some x):VE none (KP w i x)∧(KP w i x).now=w.now∧Run [x.proc] w (KP w i x)∧∀ y∈(KP w i x).procs,y.proc≠x.proc:=by
 obtain⟨hX,hgone⟩:=fN x.proc h.je.tab;have hsub:∀ (j:Nat) (y:Pcs),(w.procs.eraseIdx i)[j]?=some y→∃ j',w.procs[j']?=some y∧j'≠i:=fun j y hj=>by
  rw[List.getElem?_eraseIdx]at hj;split at hj
  ·rename_i hlt;exact⟨j,hj,by omega⟩
  ·rename_i hlt;exact⟨j+1,hj,by omega⟩
 have hneq:∀ y∈w.procs.eraseIdx i,y∈w.procs∧y.proc≠x.proc:=fun y hy=>by
  obtain⟨j,hj⟩:=List.getElem?_of_mem hy;obtain⟨j',h1,h2⟩:=hsub j y hj;exact⟨mG h1,fun e=>h2 (h.je.uq j' i y x h1 hx e)⟩
 refine⟨⟨LW h.je hx,?_,fun q hq p hi=>?_,h.now,fun j y hj _=>?_⟩,rfl,⟨hX.off,fun z hz hn=>?_,fun z hz _=>(hneq z hz).1⟩,fun y hy=>(hneq y hy).2⟩
 ·show ((w.procs.eraseIdx i).map (·.proc)).Pairwise _;exact h.ord.sublist ((List.eraseIdx_sublist _ _).map _)
 ·obtain⟨q',hq',hs⟩:=hX.mem hq;have hne:=hgone q hq p hi;rcases hs.inp p hi with hi|rfl
  ·exact Sw (P:=fun _=>True) hx p (h.known q' hq' p hi) hne
  ·exact absurd rfl hne
 ·obtain⟨j',h1,h2⟩:=hsub j y hj;exact(h.fine j' y h1 (by simp)).step hX (hneq y (mG hj)).2
 ·have hne:z.proc≠x.proc:=by simpa using hn
  obtain⟨y,hy,_⟩:=mem_map.1 (Sw (P:=fun _=>True) hx z.proc (mem_map.2 ⟨z,hz,rfl⟩) hne);obtain⟨j,hj⟩:=List.getElem?_of_mem hz;have hne':j≠i:=fun e=>by
   subst e;rw[hx]at hj;exact hne (by rw[← Option.some.inj hj])
  show z∈w.procs.eraseIdx i;rw[List.eraseIdx_eq_take_drop_succ,mem_append];rcases lt_or_ge j i with hlt|hge
  ·exact .inl (mG (i:=j) (by rw[List.getElem?_take,if_pos hlt];exact hj))
  ·exact .inr (mG (i:=j-(i+1)) (by rw[List.getElem?_drop,show i+1+(j-(i+1))=j by omega];exact hj))
def dN{w:Am}{i:Nat}{x:Pcs}{n:Int}(h:VE none w)(hx:w.procs[i]?=some x)(hw:x.waiting=false)(h0:(Ed x.led n).2=0):VE none (AF w i (BC (IK x n))):=by
 have hf:=h.fine i x hx (by simp);obtain⟨d1,d2,d3⟩:=hf.idle hw;obtain⟨l1,l2⟩:=hf.led.save h0;refine(h.but i).set hx rfl (JF hf.head rfl rfl l1 (IF _) (fun m hm=>?_) hw d1 d2 fun q hq=>?_)
 ·have e:(BC (IK x n)).led.entries=x.led.entries:=l2;rw[e]at hm ⊢;exact hf.fits m hm
 ·have e:(BC (IK x n)).led.entries=x.led.entries:=l2;rw[e];exact d3 q hq
def de:FW CS:=(EO _).1 kR
def RH{l:List Pcs}{p:Ab}(ho:(l.map (·.proc)).Pairwise fun a b=>Bc a b<0)(hn:p∉l.map (·.proc)):∀ k,k≤l.length→(∀ y∈l.drop k,Bc p y.proc<0)→(∀ y∈l.take (FG l p k),Bc y.proc p<0)∧∀ y∈l.drop (FG l p k),Bc p y.proc<0
 | 0,_,h=>⟨fun y hy=>by simp[FG]at hy,by simpa [FG]using h⟩
 | k+1,hk,h=>by
  have hg:l.getD k x0=l[k]:=by simp[List.getD,gE (show k<l.length by omega)]
  have hs:=CN l[k].proc p;simp only[FG,hg];split
  ·rename_i hc;refine RH ho hn k (by omega) fun y hy=>?_
   rw[List.drop_eq_getElem_cons (by omega)]at hy;rcases mem_cons.1 hy with rfl|hy
   ·omega
   ·exact h y hy
  ·rename_i hc;refine⟨fun y hy=>?_,h⟩;have hkp:Bc l[k].proc p<0:=by
    by_cases e:Bc l[k].proc p=0
    ·exact absurd (mem_map.2 ⟨l[k],getElem_mem _,Gc e⟩) hn
    ·omega
   rw[List.take_succ_eq_append_getElem (by omega)]at hy;rcases mem_append.1 hy with hy|hy
   ·obtain⟨j,hj,rfl⟩:=List.mem_iff_getElem.1 hy;simp only[length_take]at hj;rw[List.getElem_take];rw[pairwise_map]at ho;exact CU (pairwise_iff_getElem.1 ho j k (by omega) (by omega) (by omega)) hkp
   ·rw[mem_singleton.1 hy];exact hkp
def MO{l:List Pcs}{p:Ab}(h:¬ 0≤DP l p):p∉l.map (·.proc):=fun hm=>by
 obtain⟨x,hx,hp⟩:=mem_map.1 hm;apply h;unfold DP;cases hf:l.findIdx? (fun x=>decide (x.proc=p)) with
 |none =>
  rw[List.findIdx?_eq_none_iff]at hf;have:=hf x hx;simp[hp]at this
 |some i=>simp
def Yp{w:Am}{p:Ab}{cost:Int}(h:VE none w)(h0:(EE w p cost).2=0):VE none (EE w p cost).1∧(EE w p cost).1.now=w.now∧Run [p] w (EE w p cost).1:=by
 revert h0;unfold EE;split
 ·intro h0;simp at h0
 rename_i h1;split
 ·intro h0;simp at h0
 rename_i h2;split
 ·intro h0;simp at h0
 rename_i h3;intro _;simp only[or_eq_true,Bool.not_eq_true',zD,not_or,Bool.not_eq_false]at h1;have hnm:=MO h2;obtain⟨s1,s2⟩:=RH (p:=p) h.ord hnm w.procs.length (Nat.le_refl _) (by simp);have hmem:∀ y,y∈R3 w.procs (Mf p cost)↔y∈w.procs∨y=Mf p cost:=fun y=>Uj _ _ _ _
 have hle:FG w.procs p w.procs.length≤w.procs.length:=WA _ _ _;have hlen:(R3 w.procs (Mf p cost)).length=w.procs.length+1:=by
  simp only[R3,mid,length_append,length_cons,length_take,List.length_drop];show min (FG w.procs p w.procs.length) w.procs.length+(w.procs.length-FG w.procs p w.procs.length+1)=_;omega
 have hord:((R3 w.procs (Mf p cost)).map (·.proc)).Pairwise fun a b=>Bc a b<0:=by
  have ho:=h.ord;rw[pairwise_map]at ho ⊢;show (w.procs.take (FG w.procs p w.procs.length)++Mf p cost::w.procs.drop (FG w.procs p w.procs.length)).Pairwise _;rw[pairwise_append];refine⟨ho.sublist (List.take_sublist _ _),List.pairwise_cons.2 ⟨fun y hy=>s2 y hy,ho.sublist (List.drop_sublist _ _)⟩,fun a ha b hb=>?_⟩;rcases mem_cons.1 hb with rfl|hb
  ·exact s1 a ha
  ·exact CU (s1 a ha) (s2 b hb)
 have hnew:Fine w.now w.Aa (Mf p cost):=by
  refine⟨(EJ _).2 ⟨h1.1,by show 1≤cost;omega,by show cost≤1000;omega,(EO _).2 de,(by show (0:Int)≤0;omega),(by show (0:Int)≤1073741824;omega)⟩,fun n ⟨e,he,_⟩=>by simp[Mf,CS]at he,fun e=>by(cases e),fun _=>⟨Uv,rfl,fun q hq=>?_⟩⟩;have hni:¬ inQ q p:=fun hi=>hnm (h.known q hq p hi)
  refine⟨?_,?_⟩
  ·show Aq q p=none;rw[E7];intro w hw e;rcases mem_append.1 hw with hw|hw
   ·exact hni (.inr (.inl ⟨w,hw,e⟩))
   ·exact hni (.inr (.inr ⟨w,hw,e⟩))
  ·show At q.holds p=⟨0,0⟩;cases hz:(At q.holds p).zero
   ·exact absurd (.inl (Ic hz)) hni
   ·exact zero_eq hz
 have hfine:∀ y∈R3 w.procs (Mf p cost),Fine w.now w.Aa y:=fun y hy=>by
  rcases(hmem y).1 hy with hy|rfl
  ·obtain⟨j,hj⟩:=List.getElem?_of_mem hy;exact h.fine j y hj (by simp)
  ·exact hnew
 refine⟨⟨⟨h.je.tab,?_,fun a b u v ha hb e=>?_,fun j y hj _ hw=>?_⟩,hord,fun q hq x hi=>?_,h.now,fun j y hj _=>hfine y (mG hj)⟩,rfl,⟨?_,fun z hz _=>(hmem z).2 (.inl hz),fun z hz hn=>?_⟩⟩
 ·show (R3 w.procs (Mf p cost)).length≤8;rw[hlen];have:=h.je.n;omega
 ·rw[pairwise_map]at hord;rcases Nat.lt_trichotomy a b with hlt|rfl|hlt
  ·have:=pairwise_iff_getElem.1 hord a b (Aj ha) (Aj hb) hlt;rw[get_eq ha,get_eq hb,e,Cj]at this;omega
  ·rfl
  ·have:=pairwise_iff_getElem.1 hord b a (Aj hb) (Aj ha) hlt;rw[get_eq ha,get_eq hb,e,Cj]at this;omega
 ·have hf:=hfine y (mG hj);refine⟨((L8 _).1 (hf.wait hw).1).1,fun a ha=>?_,hf.K h.je.tab⟩;obtain⟨k,_,hk,_⟩:=CZ h.je.tab (hf.wait hw).2.1 ha;exact⟨k,hk⟩
 ·obtain⟨z,hz,hzp⟩:=mem_map.1 (h.known q hq x hi);exact mem_map.2 ⟨z,(hmem z).2 (.inl hz),hzp⟩
 ·exact(CD.refl (p:=p) h.je.tab).off
 ·rcases(hmem z).1 hz with hz|rfl
  ·exact hz
  ·simp[Mf]at hn
def Mw(w:Am):Prop:=∀ x∈w.procs,x.waiting=true→x.req.BY=0∨w.now<x.since+x.req.BY
def Ws{w:Am}(h:VE none w):∀ y∈(Bl w).procs,y.waiting=true→y∈w.procs:=fun y hy hw=>by
 obtain⟨ms,g1,_,g3⟩:=PQ h
 by_cases hm:y.proc∈ms
 ·rw[g3 y hy hm]at hw;cases hw
 ·exact g1.back y hy hm
def Wr{w:Am}(h:VE none w)(ht:Mw w):Mw (Bl w):=fun y hy hw=>by
 rw[(KC h).2];exact ht y (Ws h y hy hw) hw
def Vj{now:Int}{l:List Pcs}:∀ i,i≤l.length→(JA now (l.take i)).2.1 = -1→∀ j x,j<i→l[j]?=some x→¬ (x.waiting=true∧x.req.BY≠0∧FK x≤now)
 | 0,_,_,j,_,hj,_=>by omega
 | i+1,hi,h,j,x,hj,hx=>by
  obtain⟨b,hb⟩:∃ b,l[i]?=some b:=⟨_,gE (by omega)⟩;rw[Ou now hb]at h;split at h
  ·simp only at h;omega
  ·rename_i hc
   by_cases e:j=i
   ·subst e;rw[hb]at hx;have:=Option.some.inj hx;subst this;rintro⟨h1,h2,h3⟩;apply hc;simp[KV,h1,h2,h3,h]
   ·exact Vj i (by omega) h j x (by omega) hx
def fb{x:Pcs}(h1:0≤x.since∧x.since≤1073741824)(h2:0≤x.req.BY∧x.req.BY≤1000):FK x=x.since+x.req.BY:=by
 unfold FK;have e:IntKind.i64.wrap (x.since+x.req.BY)=x.since+x.req.BY:=by
  exact wrap64 _ (by omega) (by omega)
 exact e
def Zp{w:Am}(h:VE none w)(he:Ns w = -1):Mw w:=fun x hx hw=>by
 obtain⟨j,hj⟩:=List.getElem?_of_mem hx;have hf:=h.fine j x hj (by simp);obtain⟨a,b,c,d,_⟩:=hf.wait hw;obtain⟨_,_,_,l1,l2⟩:=(L8 _).1 a;have hn:=h.now;have hd:=fb (x:=x) ⟨c,by omega⟩ ⟨l1,l2⟩;have:=Vj (now:=w.now) (l:=w.procs) w.procs.length (Nat.le_refl _) (by rw[tL];exact he) j x (Aj hj) hj;rw[hd]at this
 by_cases hl:x.req.BY=0
 ·exact .inl hl
 ·exact .inr (by
   have h3:¬ (x.since+x.req.BY≤w.now):=fun h3=>this ⟨hw,hl,h3⟩
   omega)
def JV{w w':Am}{i:Nat}{y:Pcs}(ht:Mw w)(hp:w'.procs=w.procs.set i y)(hn:w'.now=w.now)(hy:y.waiting=true→y.req.BY=0∨w.now<y.since+y.req.BY):Mw w':=fun z hz hw=>by
 rw[hp]at hz;rw[hn];rcases List.mem_or_eq_of_mem_set hz with hz|rfl
 ·exact ht z hz hw
 ·exact hy hw
structure VC(w:Am):Prop where
 ve:VE none w
 quiet:F2 w=none
 time:Mw w
def JW{w:Am}(h:VE none w)(ht:Mw w):VC (Bl w):=⟨(KC h).1,Mr w,Wr h ht⟩
def JS{w:Am}:F2 w=none↔∀ x∈w.procs,HB w x=false:=by
 unfold F2;rw[List.findIdx?_eq_none_iff]
def WT{a:Amt}(h:(a.mode==0&&a.Ax==0)=false):a≠⟨0,0⟩:=fun e=>by rw[e]at h;simp at h
def ZC{w:Am}{i:Nat}{y:Pcs}(h:F2 w=none)(hy:y.waiting=false):F2 (AF w i y)=none:=by
 rw[JS]at *;intro x hx;simp only[AF]at hx;rcases List.mem_or_eq_of_mem_set hx with hx|rfl
 ·exact h x hx
 ·simp[HB,hy]
def eY{w:Am}{k:Cmd}{i:Nat}{x:Pcs}(h:VC w)(hx:w.procs[i]?=some x)(h0:(doI w k i x).2=0):VC (doI w k i x).1:=by
 have hi:=Aj hx;revert h0;unfold doI;split
 ·unfold Dm;split
  ·intro h0;simp at h0
  rename_i hw;split
  ·rename_i hr;split
   ·rename_i hv;intro _;obtain⟨g1,g2,g3,_⟩:=WU h.ve hx (by simpa using hw) hr hv;refine JW g1 (JV h.time g3 g2 fun _=>?_);obtain⟨_,_,_,l1,_⟩:=(L8 _).1 hr;show k.req.BY=0∨w.now<w.now+k.req.BY;omega
   ·rename_i hv;intro h0;exact absurd h0 hv
  ·intro h0;simp at h0
 split
 ·split
  ·rename_i hw;intro _;obtain⟨g1,_,g3,_⟩:=Gs h.ve hx hw;have hp:(AH w i x).procs[i]?=some (Br x):=by rw[Bm];exact List.getElem?_set_self hi
   refine JW (g1.next hp) (JV (w:=AH w i x) (JV h.time (Bm _ _ _) g3 fun e=>by cases e) rfl rfl fun e=>by cases e)
  ·intro h0;simp at h0
 split
 ·unfold D3;split
  ·intro h0;simp at h0
  rename_i hw;split
  ·intro h0;simp at h0
  rename_i hz;intro _;obtain⟨g1,g2,⟨y,g3,_,g5⟩,_⟩:=T4 (name:=k.name) h.ve hx (by simpa using hw) (WT (by simpa using hz));exact JW g1 (JV h.time g3 g2 fun e=>by rw[g5]at e;cases e)
 split
 ·split
  ·intro h0;simp at h0
  rename_i hw;have hw:x.waiting=false:=by simpa using hw
  split
  ·rename_i hs;intro _;exact⟨dN h.ve hx hw hs,ZC h.quiet hw,JV h.time rfl rfl fun e=>by rw[show (BC (IK x k.n)).waiting=x.waiting from rfl,hw]at e;cases e⟩
  ·rename_i hs;intro h0;exact absurd h0 hs
 split
 ·unfold DT;split
  ·rename_i hu;intro _;obtain⟨g1,g2,⟨y,g3,_,g5⟩,_⟩:=TN h.ve hx hu;exact JW g1 (JV h.time g3 g2 fun e=>by rw[g5]at e;cases e)
  ·rename_i hu;intro h0;exact absurd h0 hu
 have hgone:VC (NC w i x):=by
  obtain⟨g1,g2,g3,_⟩:=T6 h.ve hx;refine JW g1 fun y hy hw=>?_
  rw[g2];have hy':y∈w.procs.eraseIdx i:=hy;exact h.time y (List.mem_of_mem_eraseIdx hy') hw
 split
 ·split
  ·intro h0;simp at h0
  ·intro _;exact hgone
 ·intro _;exact hgone
def dB{w:Am}{p:Ab}{cost:Int}(h:VC w)(h0:(EE w p cost).2=0):VC (EE w p cost).1:=by
 obtain⟨g1,g2,g3⟩:=Yp h.ve h0;have hmem:∀ y∈(EE w p cost).1.procs,y∈w.procs∨y=Mf p cost:=by
  revert h0;unfold EE;split
  ·intro h0;simp at h0
  split
  ·intro h0;simp at h0
  split
  ·intro h0;simp at h0
  intro _ y hy;exact(Uj _ _ _ _).1 hy
 have hq:(EE w p cost).1.Aa=w.Aa:=by
  unfold EE;split
  ·rfl
  split
  ·rfl
  split
  ·rfl
  rfl
 refine⟨g1,?_,fun y hy hw=>?_⟩
 ·rw[JS];intro y hy;rcases hmem y hy with hy|rfl
  ·have:=JS.1 h.quiet y hy;unfold HB at this ⊢;rw[hq];exact this
  ·rfl
 ·rw[g2];rcases hmem y hy with hy|rfl
  ·exact h.time y hy hw
  ·cases hw
def dQ{w:Am}{n:Int}(h:VC w)(h0:(HD w n).2=0):VC (HD w n).1:=by
 revert h0;unfold HD;split
 ·intro h0;simp at h0
 rename_i h1;split
 ·intro h0;simp at h0
 rename_i h2;intro _;simp only[or_eq_true,zD,not_or]at h1 h2;have hn:=h.ve.now;have hv:VE none { w with now:=w.now+n }:=by
  refine⟨⟨h.ve.je.tab,h.ve.je.n,h.ve.je.uq,h.ve.je.good⟩,h.ve.ord,h.ve.known,?_,fun j x hj hne=>?_⟩
  ·constructor
   ·show 0≤w.now+n;omega
   ·show w.now+n≤1073741824;omega
  ·have hf:=h.ve.fine j x hj hne;refine⟨hf.head,hf.fits,fun hw=>?_,hf.idle⟩;obtain⟨a,b,c,d,e⟩:=hf.wait hw;exact⟨a,b,c,by show x.since≤w.now+n;omega,e⟩
 have hq:F2 { w with now:=w.now+n } = none:=h.quiet;obtain⟨r1,r2,_,r4⟩:=VG (wcount { w with now:=w.now+n }) _ hv hq;exact⟨r1,r2,Zp r1 (r4 (Nat.le_refl _))⟩
def eZ{w:Am}{k:Cmd}(h:VC w)(h0:(doW w k).2=0):VC (doW w k).1:=by
 revert h0;unfold doW;split
 ·intro h0;simp at h0
 split
 ·exact dB h
 split
 ·exact dQ h
 cases hf:w.procs.findIdx? (fun x=>decide (x.proc=k.proc)) with
 |none=>intro h0;simp at h0
 |some i =>
  obtain⟨hi,_,_⟩:=List.findIdx?_eq_some_iff_getElem.1 hf;have hx:w.procs[i]?=some (w.procs.getD i x0):=by simp[List.getD,gE hi]
  exact eY h hx
def aU{t:List Queue}{x:Pcs}(ht:CE t)(hl:FW x.led)(hf:Il t x)(hi:Idle t x):EX x.led=Gz t x.proc:=by
 refine Ur (R:=fun a b:Atom=>BX a.name b.name=true) (fun a=>by rw[GA];simp) (fun a b h=>VL h) ?_ ?_ fun a=>?_
 ·unfold EX;rw[List.pairwise_filterMap];refine(Rj _).imp fun {m n} hmn a ha b hb=>?_
  split at ha
  ·cases ha
  split at hb
  ·cases hb
  cases ha;cases hb;exact hmn
 ·unfold Gz;rw[List.pairwise_filterMap,pairwise_iff_getElem];intro i j h1 h2 hij a ha b hb;obtain⟨d,rfl⟩:∃ d,j=i+d+1:=⟨j-i-1,by omega⟩;have:=Qf ht d i h2;rw[show t.getD i q0=t[i] by simp[List.getD,h1],show t.getD (i+d+1) q0=t[i+d+1] by simp[List.getD,h2]]at this;split at ha
  ·cases ha
  split at hb
  ·cases hb
  cases ha;cases hb;exact this
 ·unfold EX Gz;rw[mem_filterMap,mem_filterMap];constructor
  ·rintro⟨n,hn,ha⟩;split at ha
   ·cases ha
   rename_i hz;obtain⟨k,q,_,f2,f3,_⟩:=hf n ((D9 _ _).1 hn);have hqm:=mG f2;have hk:=hi q hqm;refine⟨q,hqm,?_⟩;rw[f3]at hk;rw[hk.2,f3,if_neg (by simpa [Amt.zero]using hz)];exact ha
  ·rintro⟨q,hq,ha⟩;split at ha
   ·cases ha
   rename_i hz;have hk:=hi q hq;refine⟨q.res.name,(D9 _ _).2 (SO fun e=>hz ?_),?_⟩
   ·rw[hk.2,e];rfl
   ·rw[hk.2]at ha hz;rw[if_neg (by simpa [Amt.zero]using hz)];exact ha
def YR{w:Am}(h:VC w):Cw ⟨w.now,w.Aa,w.procs⟩=true:=by
 have ht:=h.ve.je.tab;simp only[Cw,and_eq_true,zD,CM,all_eq_true];refine⟨⟨⟨⟨⟨h.ve.now.1,h.ve.now.2⟩,(DU _).2 ht⟩,h.ve.je.n⟩,fun p hp=>?_⟩,fun i x hx=>?_⟩
 ·obtain⟨q,hq,hi⟩:=(Dv _ _).1 hp;have:=h.ve.known q hq p hi
  by_cases hn:0≤DP w.procs p
  ·exact hn
  ·exact absurd this (MO hn)
 ·have hf:=h.ve.fine i x hx (by simp);have hxm:=mG hx;simp only[DG,Es,and_eq_true];refine⟨⟨⟨hf.head,?_⟩,?_⟩,?_⟩
  ·rw[all_eq_true];intro a ha;unfold EX at ha;rw[mem_filterMap]at ha;obtain⟨n,hn,he⟩:=ha;split at he
   ·cases he
   cases he;obtain⟨k,q,f1,f2,f3,f4⟩:=hf.fits n ((D9 _ _).1 hn);unfold Ge;simp only[f1,show w.Aa.getD k q0=q by simp[List.getD,f2]];exact f4
  ·cases hw:x.waiting
   ·obtain⟨a,b,c⟩:=hf.idle hw;simp only[false_eq_true,if_false,G0,and_eq_true,zD];refine⟨⟨⟨a,by simp[b]⟩,aU ht hf.led hf.fits c⟩,?_⟩;have:Eh w.Aa x.proc=[]:=by
     unfold Eh;rw[List.filterMap_eq_nil_iff];intro q hq;rw[(c q hq).1];rfl
    rw[this];rfl
   ·obtain⟨a,b,c,d,e⟩:=hf.wait hw;simp only[if_true,F3,and_eq_true,zD,all_eq_true,or_eq_true];refine⟨⟨⟨⟨⟨⟨a,by simp[b]⟩,c⟩,d⟩,?_⟩,?_⟩,e⟩
    ·rcases h.time x hxm hw with h1|h1
     ·exact .inl (by simp[h1])
     ·exact .inr h1
    ·have:=JS.1 h.quiet x hxm;simp only[HB,hw,Bool.true_and]at this;simp[this]
  ·cases i with
   | zero=>simp
   | succ i =>
    have hlt:=Aj hx;have ho:=h.ve.ord;rw[pairwise_map]at ho;have:=pairwise_iff_getElem.1 ho i (i+1) (by omega) hlt (by omega);rw[get_eq hx]at this;rw[Nat.add_sub_cancel,show w.procs.getD i x0=w.procs[i] by simp[List.getD,gE (show i<w.procs.length by omega)]];simp[this]
def FV{c:Cen}(h:Cw c=true):VC ⟨c.now,c.Aa,c.procs,[]⟩:=by
 have hfit:=Kf h;have ht:=hfit.je.tab;simp only[Cw,and_eq_true,zD,CM,all_eq_true]at h;obtain⟨⟨⟨⟨⟨h1,h2⟩,h3⟩,h4⟩,h5⟩,h6⟩:=h;have hpos:∀ i x,c.procs[i]?=some x→EI x=true∧(if x.waiting then F3 c.now c.Aa x else G0 c.Aa x)=true:=fun i x hi=>by
  have:=h6 i x hi;simp only[DG,Es,and_eq_true]at this;exact⟨this.1.1.1,this.1.2⟩
 have hord:∀ i x,c.procs[i]?=some x→(decide (i=0)||decide (Bc (c.procs.getD (i-1) x0).proc x.proc<0))=true:=fun i x hi=>by
  have:=h6 i x hi;simp only[DG,and_eq_true]at this;exact this.2
 have hwait:∀ i x,c.procs[i]?=some x→x.waiting=true→F3 c.now c.Aa x=true:=fun i x hi hw=>by
  have:=(hpos i x hi).2;rw[hw,if_pos rfl]at this;exact this
 refine⟨⟨hfit.je,?_,fun q hq p hi=>?_,⟨h1,h2⟩,fun j x hj _=>⟨(hpos j x hj).1,hfit.fits x (mG hj),fun hw=>?_,fun hw=>?_⟩⟩,?_,fun x hx hw=>?_⟩
 ·show (c.procs.map (·.proc)).Pairwise _;rw[pairwise_map,pairwise_iff_getElem];intro i j hi hj hij;obtain⟨d,rfl⟩:∃ d,j=i+d+1:=⟨j-i-1,by omega⟩;exact JP hord d i _ _ (gE hi) (gE hj)
 ·have:=h5 p ((Dv _ _).2 ⟨q,hq,hi⟩);unfold DP at this;cases hf:c.procs.findIdx? (fun x=>decide (x.proc=p)) with
  |none=>rw[hf]at this;simp at this
  |some i =>
   obtain⟨hi',hp,_⟩:=List.findIdx?_eq_some_iff_getElem.1 hf;exact mem_map.2 ⟨c.procs[i],getElem_mem hi',by simpa using hp⟩
 ·have:=hwait j x hj hw;simp only[F3,and_eq_true,zD,all_eq_true]at this;obtain⟨⟨⟨⟨⟨⟨a,b⟩,c'⟩,d⟩,e⟩,f⟩,g⟩:=this;exact⟨a,by simpa using b,c',d,g⟩
 ·have:=(hpos j x hj).2;rw[hw]at this;have h7:G0 c.Aa x=true:=by simpa using this
  have hid:=hfit.idle x (mG hj) hw;simp only[G0,and_eq_true]at h7;exact⟨h7.1.1.1,by simpa using h7.1.1.2,hid⟩
 ·rw[JS];intro x hx;obtain⟨j,hj⟩:=List.getElem?_of_mem hx;cases hw:x.waiting
  ·simp[HB,hw]
  ·have:=hwait j x hj hw;simp only[F3,and_eq_true,zD,all_eq_true]at this;simp only[HB,hw,Bool.true_and];simpa using this.1.2
 ·obtain⟨j,hj⟩:=List.getElem?_of_mem hx;have:=hwait j x hj hw;simp only[F3,and_eq_true,zD,all_eq_true,or_eq_true]at this;rcases this.1.1.2 with h7|h7
  ·exact .inl (by simpa using h7)
  ·exact .inr h7
def ab{c:Cen}{k:Cmd}(h:Cw c=true)(h0:(doC c k).2.2=0):Cw (doC c k).1=true:=by
 unfold doC at h0 ⊢;rw[if_pos h]at h0 ⊢;split at h0
 ·rename_i h1;rw[if_pos h1];exact YR (eZ (FV h) h1)
 ·rename_i h1;exact absurd h0 h1
end Go.Rd
