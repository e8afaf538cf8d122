/- part 21 of the proof -/
import Derived.Test.YthachdiockkofaaGreatDoorS20
set_option linter.all false
open Go Go.Abs Go.Proofs
set_option maxRecDepth 100000
namespace Go.Rd
set_option maxHeartbeats 8000000
open List (length_map map_append map_cons map_nil map_set mem_append mem_cons mem_filter mem_map mem_singleton nodup_append pairwise_cons take_add_one take_length)
open Bool (and_eq_true)
open Tryz
theorem CE{α:Type}[DecidableEq α]:∀ (l' l:List α),l'.Nodup→(∀ x∈l',x∈l)→l'.length≤l.length
 |[],_,_,_=>Nat.zero_le _
 | a::l',l,hn,hs=>by
  have hn':=List.nodup_cons.1 hn;have ha:=hs a (by simp);have:=CE l' (l.erase a) hn'.2 fun x hx=>(List.mem_erase_of_ne (fun e=>hn'.1 (by rw[← e];exact hx))).2 (hs x (by simp[hx]))
  have h2:=List.length_erase_of_mem ha;have h3:0<l.length:=List.length_pos_of_mem ha;simp only[List.length_cons];omega
theorem Hf{l:List Wait}:QP l↔(l.map (·.proc)).Nodup:=by
 unfold QP List.Nodup;rw[List.pairwise_map]
def DA(q:Queue)(p:Proc):Queue:={ q with convs:=AI q.convs p,waits:=AI q.waits p }
theorem Lc{q:Queue}(h:Sound q)(p:Proc):Sound (DA q p):=by
 have hw:=Bo q.waits p;have hc:=Bo q.convs p;refine⟨h.res,h.holds,?_,?_,h.gen⟩
 ·have:=(Bk q).1 h.convs;rw[Bk];simp only[DA];refine⟨by omega,this.2.1.sublist List.filter_sublist,fun w hw=>?_⟩;simp only[AI,mem_filter,decide_eq_true_eq]at hw;exact this.2.2 w hw.1
 ·have:=(A8 q).1 h.waits;rw[A8];obtain⟨a,b,c⟩:=this;rw[B7]at a;simp only[DA,B7];refine⟨⟨by omega,a.2.1.sublist List.filter_sublist,fun w hw=>?_⟩,by omega,fun w hw=>?_⟩
  ·simp only[AI,mem_filter]at hw;exact a.2.2 w hw.1
  ·simp only[AI,mem_filter,decide_eq_true_eq]at hw;exact c w hw.1
theorem XW{q:Queue}(h:Sound q){p:Proc}(hz:(Ak q.holds p).zero=false):q.res.fits (Ak q.holds p)=true∧p.ok=true∧∃ x∈q.holds,x.proc=p:=by
 obtain⟨h1,h2,h3,h4,h5⟩:=(CJ _ _).1 h.holds;unfold Ak at hz ⊢;cases hf:q.holds.find? (fun h=>decide (h.proc=p)) with
 |none=>rw[hf]at hz;simp[Amt.zero]at hz
 |some x =>
  have hm:=List.mem_of_find?_eq_some hf;have hx:x.proc=p:=by simpa using List.find?_some hf
  exact⟨(h3 x hm).2,hx▸(h3 x hm).1,x,hm,hx⟩
theorem Yu{m n:Int}(hm:AX m=true)(hn:AX n=true):AX (Pb m n)=true∧AL (Pb m n) m=true∧AL (Pb m n) n=true:=by
 rcases Ax hm with rfl|rfl|rfl|rfl|rfl<;>rcases Ax hn with rfl|rfl|rfl|rfl|rfl<;>decide
theorem JI{m:Int}(hm:AX m=true):AL m m=true:=by
 rcases Ax hm with rfl|rfl|rfl|rfl|rfl<;>decide
theorem QY{a b c:Int}(h1:AL a b=true)(h2:AL b c=true):AL a c=true:=by
 have ha:AX a=true:=by simp only[AL,and_eq_true]at h1;exact h1.1.1
 have hb:AX b=true:=by simp only[AL,and_eq_true]at h1;exact h1.1.2
 have hc:AX c=true:=by simp only[AL,and_eq_true]at h2;exact h2.1.2
 revert h1 h2;rcases Ax ha with rfl|rfl|rfl|rfl|rfl<;>rcases Ax hb with rfl|rfl|rfl|rfl|rfl<;>rcases Ax hc with rfl|rfl|rfl|rfl|rfl<;>decide
theorem BE{r:Res}{a:Amt}(h:r.fits a=true):r.shaped=true∧((r.kind=1∧AX a.mode=true∧a.units=0)∨(r.kind≠1∧a.mode=0∧1≤a.units∧a.units≤r.units∧r.units≤8)):=by
 simp only[Res.fits,and_eq_true]at h;obtain⟨h1,h2⟩:=h;refine⟨h1,?_⟩;split at h2
 ·rename_i hk;simp at h2;exact .inl ⟨hk,h2.1,h2.2⟩
 ·rename_i hk;simp[between]at h2;have:r.units≤8:=by
   simp only[Res.shaped,if_neg hk]at h1;split at h1
   ·simp[between]at h1;omega
   ·cases h1
  exact .inr ⟨hk,h2.1,h2.2.1,h2.2.2,this⟩
theorem C2{r:Res}{a b:Amt}(ha:r.fits a=true)(hb:r.fits b=true):r.covers a b=if r.kind=1 then AL a.mode b.mode else decide (b.units≤a.units):=by
 have z1:=FN ha;have z2:=FN hb;have hs:=(BE ha).1;simp[Res.covers,Res.permits,hs,ha,hb,z1,z2]
theorem GY{r:Res}{a:Amt}(h:r.fits a=true):(G4.fits a||Ha.fits a)=true:=by
 rcases(BE h).2 with ⟨_,h2,h3⟩|⟨_,h2,h3,h4,h5⟩
 ·simp[Res.fits,G4,Res.shaped,h2,h3]
 ·have:between a.units 1 8=true:=by simp[between];omega
  simp[Res.fits,Ha,Res.shaped,h2,this,show between (8:Int) 1 8=true by decide]
theorem JN{r:Res}{h a:Amt}(hh:r.fits h=true)(ha:r.fits a=true)(hc:r.covers h a=false):r.fits (CC r h a)=true∧r.covers (CC r h a) h=true∧CC r h a≠h∧r.covers (CC r h a) a=true:=by
 have hs:=(BE hh).1;have hp1:r.permits h=true:=by simp[Res.permits,hs,hh]
 have hp2:r.permits a=true:=by simp[Res.permits,hs,ha]
 unfold CC;simp only[hp1,hp2,hc,Bool.and_self,Bool.not_true,Bool.false_eq_true,if_false]
 by_cases h2:r.covers a h=true
 ·rw[if_pos h2];refine⟨ha,h2,(fun e=>by rw[e]at h2 hc;rw[h2]at hc;cases hc),?_⟩;rw[C2 ha ha];rcases(BE ha).2 with ⟨k1,k2,k3⟩|⟨k1,k2,k3,k4,_⟩
  ·rw[if_pos k1];exact JI k2
  ·rw[if_neg k1];simp
 ·rw[if_neg h2];rw[C2 hh ha]at hc;rw[C2 ha hh]at h2;rcases(BE hh).2 with ⟨k1,k2,k3⟩|⟨k1,k2,k3,k4,_⟩
  ·rcases(BE ha).2 with ⟨_,j2,j3⟩|⟨j1,_⟩
   ·obtain⟨s1,s2,s3⟩:=Yu k2 j2;rw[if_pos k1]at hc;have hf:r.fits ⟨Pb h.mode a.mode,0⟩=true:=by simp[Res.fits,hs,k1,s1]
    refine⟨hf,(by rw[C2 hf hh,if_pos k1];exact s2),fun e=>?_,by rw[C2 hf ha,if_pos k1];exact s3⟩;have:Pb h.mode a.mode=h.mode:=congrArg Amt.mode e;rw[this]at s3;rw[s3]at hc;cases hc
   ·exact absurd k1 j1
  ·rw[if_neg k1]at hc h2;simp at hc h2;omega
theorem Ms{q:Queue}(h:Sound q){p:Proc}{a:Amt}(ha:q.res.fits a=true)(hw:Aj q p=none)(hz:(Ak q.holds p).zero=false)(hc:q.res.covers (Ak q.holds p) a=false) :
 Sound { q with convs:=q.convs++[⟨p,CC q.res (Ak q.holds p) a,0,0⟩] }:=by
 obtain⟨hf,hpo,x,hx,hxp⟩:=XW h hz;obtain⟨j1,j2,j3,_⟩:=JN hf ha hc;obtain⟨c1,c2,c3⟩:=(Bk q).1 h.convs;have hn:=EF.1 hw;have hlen:q.holds.length≤8:=((CJ _ _).1 h.holds).2.1;have hnd:(q.convs.map (·.proc)++[p]).Nodup:=by
  rw[nodup_append];refine⟨Hf.1 c2,by simp,fun y hy z hz=>?_⟩;simp only[mem_singleton]at hz;simp only[mem_map]at hy;obtain⟨w,hw1,hw2⟩:=hy;rw[hz,← hw2];exact hn w (by simp[hw1])
 have hle:=CE _ (q.holds.map (·.proc)) hnd fun y hy=>by
  rw[mem_append]at hy;rcases hy with hy|hy
  ·simp only[mem_map]at hy;obtain⟨w,hw1,hw2⟩:=hy;obtain⟨x',h1,h2⟩:=HG (c3 w hw1).1;exact mem_map.2 ⟨x',h1,by rw[h2,hw2]⟩
  ·rw[mem_singleton.1 hy];exact mem_map.2 ⟨x,hx,hxp⟩
 simp only[List.length_append,length_map,List.length_singleton]at hle;refine⟨h.res,h.holds,?_,h.waits,h.gen⟩;rw[Bk];refine⟨by simp;omega,?_,fun w hw=>?_⟩
 ·rw[Hf];simpa using hnd
 ·simp only[mem_append,mem_singleton]at hw;rcases hw with hw|rfl
  ·exact c3 w hw
  ·exact⟨hz,j1,j2,j3,rfl,rfl⟩
def Ew(l:List Wait)(w:Wait):Nat→Nat
 | 0=>0
 | k+1=>if (l.getD k w0).prio<w.prio∧(l.getD k w0).passed<3 then Ew l w k else k+1
def Kk(l:List Wait)(w:Wait):List Wait:=l.take (Ew l w l.length)++w::(l.drop (Ew l w l.length)).map fun x=>{ x with passed:=x.passed+1 }
theorem Vj(l:List Wait)(w:Wait):∀ k,Ew l w k≤k
 | 0=>by simp[Ew]
 | k+1=>by
  simp only[Ew];split
  ·have:=Vj l w k;omega
  ·omega
theorem QL(l:List Wait)(w:Wait):∀ k,k≤l.length→(∀ y∈l.drop k,y.passed<3)→∀ y∈l.drop (Ew l w k),y.passed<3
 | 0,_,h=>by simpa [Ew]using h
 | k+1,hk,h=>by
  simp only[Ew];split
  ·rename_i hc;refine QL l w k (by omega) fun y hy=>?_
   rw[List.drop_eq_getElem_cons (by omega)]at hy;rcases mem_cons.1 hy with rfl|hy
   ·have:=hc.2;simpa [List.getD,gE (show k<l.length by omega)]using this
   ·exact h y hy
  ·exact h
theorem Wm(l:List Wait)(w:Wait):(Kk l w).map (·.proc)=(l.map (·.proc)).take (Ew l w l.length)++w.proc::(l.map (·.proc)).drop (Ew l w l.length):=by
 simp[Kk,List.map_take,List.map_drop,Function.comp_def]
theorem QA(l:List Wait)(w:Wait):(Kk l w).length=l.length+1:=by
 have:=Vj l w l.length;simp[Kk];omega
theorem K3{l:List Wait}{w x:Wait}(h:x∈Kk l w):x=w∨x∈l∨∃ y∈l,y.passed<3∧x = { y with passed:=y.passed+1 }:=by
 simp only[Kk,mem_append,mem_cons,mem_map]at h;rcases h with h|h|⟨y,hy,h⟩
 ·exact .inr (.inl (List.mem_of_mem_take h))
 ·exact .inl h
 ·exact .inr (.inr ⟨y,List.mem_of_mem_drop hy,QL l w _ (Nat.le_refl _) (by simp) y hy,h.symm⟩)
theorem Oh{q:Queue}(h:Sound q){p:Proc}{a:Amt}{prio:Int}(hp:p.ok=true)(hpr:0≤prio∧prio≤7)(ha:q.res.fits a=true)(hw:Aj q p=none)(hz:(Ak q.holds p).zero=true)(hl:q.holds.length+q.waits.length<8) :
 Sound { q with waits:=Kk q.waits ⟨p,a,prio,0⟩ }:=by
 obtain⟨a1,a2,a3⟩:=(A8 q).1 h.waits;rw[B7]at a1;have hn:=EF.1 hw;have hlen:=QA q.waits ⟨p,a,prio,0⟩;refine⟨h.res,h.holds,h.convs,?_,h.gen⟩;rw[A8];simp only[B7];refine⟨⟨by omega,?_,fun x hx=>?_⟩,by omega,fun x hx=>?_⟩
 ·rw[Hf,Wm];have hu:=Hf.1 a1.2.1;have hpn:p∉q.waits.map (·.proc):=fun hm=>by
   obtain⟨w,h1,h2⟩:=mem_map.1 hm;exact hn w (by simp[h1]) h2
  generalize q.waits.map (·.proc)=ps at hu hpn;generalize Ew q.waits ⟨p,a,prio,0⟩ q.waits.length=k;have hu2:=hu;rw[← List.take_append_drop k ps,nodup_append]at hu2;rw[nodup_append];refine⟨hu2.1,List.nodup_cons.2 ⟨fun hm=>hpn (List.mem_of_mem_drop hm),hu2.2.1⟩,fun y hy z hz=>?_⟩;rcases mem_cons.1 hz with rfl|hz
  ·exact fun e=>hpn (e▸List.mem_of_mem_take hy)
  ·exact hu2.2.2 y hy z hz
 ·rcases K3 hx with rfl|hx|⟨y,hy,hy3,rfl⟩
  ·simp[Wait.ok,hp,GY ha,between,hpr]
  ·exact a1.2.2 x hx
  ·have:=a1.2.2 y hy;simp only[Wait.ok,and_eq_true,between,decide_eq_true_eq]at this ⊢;exact⟨this.1,by omega,by omega⟩
 ·rcases K3 hx with rfl|hx|⟨y,hy,hy3,rfl⟩
  ·exact⟨ha,hz⟩
  ·exact a3 x hx
  ·exact a3 y hy
theorem SQ{l1 l2:List Hold}{p:Proc}(h1:∀ y∈l1,AT y.proc p<0)(h2:∀ y∈l2,AT p y.proc<0):As (l1++l2) p=l1++l2∧B8 (l1++l2) p=l1.length:=by
 have n1:∀ y∈l1++l2,y.proc≠p:=fun y hy e=>by
  rcases mem_append.1 hy with hy|hy
  ·have:=h1 y hy;rw[e,BT]at this;omega
  ·have:=h2 y hy;rw[e,BT]at this;omega
 refine⟨by unfold As;rw[List.filter_eq_self];intro y hy;simpa using n1 y hy,?_⟩;unfold B8;rw[List.findIdx?_append];have e1:l1.findIdx? (after' p)=none:=by
  rw[List.findIdx?_eq_none_iff];intro y hy;have:=h1 y hy;simp[after'];omega
 rw[e1];cases l2 with
 | nil=>simp
 | cons y l2 =>
  have:=h2 y (by simp);have hs:=Cs p y.proc;have:after' p y=true:=by simp[after'];omega
  simp[List.findIdx?_cons,this]
theorem Xo{l:List Hold}(h:L2 l){x:Hold}(hx:x∈l):∃ l1 l2,l=l1++x::l2∧∀ a:Amt,a.zero=false→BK l x.proc a=l1++⟨x.proc,a⟩::l2:=by
 obtain⟨l1,l2,rfl⟩:=List.append_of_mem hx;unfold L2 at h;rw[List.pairwise_append]at h;obtain⟨h1,h2,h3⟩:=h;have h2':=pairwise_cons.1 h2;have b1:∀ y∈l1,AT y.proc x.proc<0:=fun y hy=>h3 y hy x (by simp)
 have b2:∀ y∈l2,AT x.proc y.proc<0:=fun y hy=>h2'.1 y hy
 obtain⟨e1,e2⟩:=SQ b1 b2;refine⟨l1,l2,rfl,fun a ha=>?_⟩;have e3:As (l1++x::l2) x.proc=l1++l2:=by
  rw[← e1];simp[As]
 unfold BK;rw[ha,e3,e2];simp
theorem MG{a b c:Int}(h1:AL a b=true)(h2:Bx a c=true):Bx b c=true:=by
 have ha:AX a=true:=by simp only[AL,and_eq_true]at h1;exact h1.1.1
 have hb:AX b=true:=by simp only[AL,and_eq_true]at h1;exact h1.1.2
 have hc:AX c=true:=by simp only[Bx,and_eq_true]at h2;exact h2.1.2
 revert h1 h2;rcases Ax ha with rfl|rfl|rfl|rfl|rfl<;>rcases Ax hb with rfl|rfl|rfl|rfl|rfl<;>rcases Ax hc with rfl|rfl|rfl|rfl|rfl<;>decide
theorem MH{a b:Int}(h:Bx a b=true):Bx b a=true:=by
 have ha:AX a=true:=by simp only[Bx,and_eq_true]at h;exact h.1.1
 have hb:AX b=true:=by simp only[Bx,and_eq_true]at h;exact h.1.2
 revert h;rcases Ax ha with rfl|rfl|rfl|rfl|rfl<;>rcases Ax hb with rfl|rfl|rfl|rfl|rfl<;>decide
def Uz(s' s:List Bool):Prop:=∀ k:Nat,s'.getD k false=true→s.getD k false=true∨∃ k':Nat,s.getD k' false=true∧k'<6∧AL k' k=true
theorem U6{s s':List Bool}{m:Int}(h:Uz s' s)(hs:D4 s m=true):D4 s' m=true:=by
 unfold D4 at *;rw[List.all_eq_true]at *;intro k hk;cases h1:s'.getD k false
 ·rfl
 ·rcases h k h1 with h2|⟨k',h2,h4,h3⟩
  ·have:=hs k hk;rw[h2]at this;simpa using this
  ·have:=hs k' (List.mem_range.2 h4);rw[h2]at this;have:=MG h3 (by simpa using this);simp[this]
theorem U7{s:List Bool}{m m':Int}(h:AL m m'=true)(hs:D4 s m=true):D4 s m'=true:=by
 unfold D4 at *;rw[List.all_eq_true]at *;intro k hk;have:=hs k hk;cases h1:s.getD k false
 ·rfl
 ·rw[h1]at this;have h2:Bx k m=true:=by simpa using this
  have:=MH (MG h (MH h2));simp[this]
theorem X3{s s':List Bool}(h:Uz s' s)(hl:s'.length=s.length)(i:Nat):Uz (s'.set i true) (s.set i true):=by
 intro k hk;rw[F7]at hk;split at hk
 ·rename_i hc;exact .inl (by rw[F7,if_pos ⟨hc.1,by omega⟩])
 ·rcases h k hk with h2|⟨k',h2,h4,h3⟩
  ·refine .inl ?_;rw[F7];split
   ·rfl
   ·exact h2
  ·refine .inr ⟨k',?_,h4,h3⟩;rw[F7];split
   ·rfl
   ·exact h2
theorem Hw{r:Res}:∀ (l:List Amt) {s s':Int} {seen seen':List Bool},s'≤s→seen'.length=seen.length→Uz seen' seen→Bh r l s seen=true→Bh r l s' seen'=true
 |[],_,_,_,_,_,_,_,_=>rfl
 | a::l,s,s',seen,seen',hs,hl,hk,h=>by
  simp only[Bh,and_eq_true,Bool.not_eq_true',decide_eq_false_iff_not]at h ⊢;obtain⟨⟨h1,h2⟩,h3⟩:=h;refine⟨⟨h1,by omega⟩,?_⟩;split at h3
  ·rename_i hm;rw[if_pos hm];exact Hw l (by omega) hl hk h3
  ·rename_i hm;rw[if_neg hm];rw[and_eq_true]at h3 ⊢;exact⟨U6 hk h3.1,Hw l (by omega) (by simpa using hl) (X3 hk hl _) h3.2⟩
theorem V7(s:List Bool):Uz s s:=fun _ h=>.inl h
theorem IL{r:Res}{a b:Amt}(ha:r.fits a=true)(hb:r.fits b=true)(hc:r.covers a b=true)(l2:List Amt):∀ (l1:List Amt) {s:Int} {seen:List Bool},seen.length=6→Bh r (l1++a::l2) s seen=true→Bh r (l1++b::l2) s seen=true
 |[],s,seen,hl,h=>by
  rw[C2 ha hb]at hc;have hs:=(BE ha).1;have hpb:r.permits b=true:=by simp[Res.permits,hs,hb]
  simp only[List.nil_append,Bh,and_eq_true,Bool.not_eq_true',decide_eq_false_iff_not]at h ⊢;obtain⟨⟨h1,h2⟩,h3⟩:=h;rcases(BE ha).2 with ⟨k1,k2,k3⟩|⟨k1,k2,k3,k4,_⟩
  ·rcases(BE hb).2 with ⟨_,j2,j3⟩|⟨j1,_⟩
   ·rw[if_pos k1]at hc;have m1:a.mode≠0:=by rcases Ax k2 with e|e|e|e|e<;>omega
    have m2:b.mode≠0:=by rcases Ax j2 with e|e|e|e|e<;>omega
    rw[if_neg m1,and_eq_true]at h3;rw[if_neg m2,and_eq_true];refine⟨⟨hpb,by omega⟩,U7 hc h3.1,Hw l2 (by omega) (by simp) (fun k hk=>?_) h3.2⟩;rw[F7]at hk;split at hk
    ·rename_i hk';refine .inr ⟨a.mode.toNat,?_,?_,?_⟩
     ·rw[F7,if_pos ⟨rfl,by rcases Ax k2 with e|e|e|e|e<;>omega⟩]
     ·rcases Ax k2 with e|e|e|e|e<;>omega
     ·rw[← hk'.1];have e1:((a.mode.toNat:Nat):Int)=a.mode:=by rcases Ax k2 with e|e|e|e|e<;>omega
      have e2:((b.mode.toNat:Nat):Int)=b.mode:=by rcases Ax j2 with e|e|e|e|e<;>omega
      rw[e1,e2];exact hc
    ·refine .inl ?_;rw[F7];split
     ·rfl
     ·exact hk
   ·exact absurd k1 j1
  ·rcases(BE hb).2 with ⟨j1,_⟩|⟨_,j2,j3,j4,_⟩
   ·exact absurd j1 k1
   ·rw[if_neg k1]at hc;simp only[decide_eq_true_eq]at hc;rw[if_pos k2]at h3;rw[if_pos j2];exact⟨⟨hpb,by omega⟩,Hw l2 (by omega) rfl (V7 _) h3⟩
 | x::l1,s,seen,hl,h=>by
  simp only[List.cons_append,Bh,and_eq_true]at h ⊢;refine⟨h.1,?_⟩;have h3:=h.2;split at h3
  ·rename_i hm;rw[if_pos hm];exact IL ha hb hc l2 l1 hl h3
  ·rename_i hm;rw[and_eq_true]at h3;rw[if_neg hm,and_eq_true];exact⟨h3.1,IL ha hb hc l2 l1 (by simpa using hl) h3.2⟩
theorem Q4{r:Res}{l:List Hold}(h:A4 r l=true){p:Proc}{a:Amt}(hz:(Ak l p).zero=false)(hc:r.covers (Ak l p) a=true)(ha:a.zero=false):A4 r (BK l p a)=true:=by
 obtain⟨h1,h2,h3,h4,h5⟩:=(CJ _ _).1 h;obtain⟨x,hx,hxp,hg⟩:∃ x∈l,x.proc=p∧Ak l p=x.amt:=by
  unfold Ak at hz ⊢;cases hf:l.find? (fun h=>decide (h.proc=p)) with
  |none=>rw[hf]at hz;simp[Amt.zero]at hz
  |some x=>exact⟨x,List.mem_of_find?_eq_some hf,by simpa using List.find?_some hf,rfl⟩
 have hfx:=(h3 x hx).2;rw[hg]at hc;have hfa:r.fits a=true:=by
  simp only[Res.covers,Res.permits,and_eq_true,Bool.or_eq_true]at hc;have:=hc.1.2.2;rw[ha]at this;simpa using this
 subst hxp;obtain⟨l1,l2,rfl,hset⟩:=Xo h4 hx;rw[hset a ha,CJ];refine⟨h1,by simpa using h2,fun y hy=>?_,?_,?_⟩
 ·simp only[mem_append,mem_cons]at hy;rcases hy with hy|rfl|hy
  ·exact h3 y (by simp[hy])
  ·exact⟨(h3 x hx).1,hfa⟩
  ·exact h3 y (by simp[hy])
 ·unfold L2 at h4 ⊢;rw[List.pairwise_append]at h4 ⊢;have h4':=pairwise_cons.1 h4.2.1;refine⟨h4.1,pairwise_cons.2 ⟨fun y hy=>h4'.1 y hy,h4'.2⟩,fun y hy z hz=>?_⟩;rcases mem_cons.1 hz with rfl|hz
  ·exact h4.2.2 y hy x (by simp)
  ·exact h4.2.2 y hy z (by simp[hz])
 ·simp only[Res.compat,and_eq_true,map_append,map_cons]at h5 ⊢;exact⟨h5.1,IL hfx hfa hc _ _ rfl h5.2⟩
def H6(q:Queue)(p:Proc)(a:Amt):Queue:={ q with holds:=BK q.holds p a }
theorem Og{q:Queue}(h:Sound q){p:Proc}{a:Amt}(hz:(Ak q.holds p).zero=false)(hw:Aj q p=none)(hc:q.res.covers (Ak q.holds p) a=true):Sound (H6 q p a):=by
 have hn:=EF.1 hw;have hlen:(BK q.holds p a).length≤q.holds.length:=by
  have h1:=NG hz;have h2:=Ps (l:=q.holds) (p:=p) (a:=a);omega
 refine⟨h.res,?_,?_,?_,h.gen⟩
 ·cases ha:a.zero
  ·exact Q4 h.holds hz hc ha
  ·simp only[H6,zero_eq ha,FZ];exact Iz List.filter_sublist h.holds
 ·obtain⟨c1,c2,c3⟩:=(Bk q).1 h.convs;rw[Bk];simp only[H6];refine⟨c1,c2,fun w hw=>?_⟩;rw[Ep (hn w (by simp[hw]))];exact c3 w hw
 ·obtain⟨a1,a2,a3⟩:=(A8 q).1 h.waits;rw[A8];simp only[H6];refine⟨a1,by omega,fun w hw=>?_⟩;rw[Ep (hn w (by simp[hw]))];exact a3 w hw
def mid{α:Type}(l:List α)(k:Nat)(p:α):List α:=l.take k++p::l.drop k
section
variable {α:Type}
theorem S9(l:List α)(k:Nat)(p:α)(h:k≤l.length):(mid l k p).length=l.length+1:=by simp[mid];omega
theorem WY(l:List α)(k:Nat)(p:α)(h:k≤l.length):(mid l k p)[k]?=some p:=by
 unfold mid;rw[List.getElem?_append_right (by simp;omega)];simp[Nat.min_eq_left h]
theorem UH(l:List α)(k:Nat)(p:α)(h:k+1≤l.length):(mid l (k+1) p)[k]?=l[k]?:=by
 unfold mid;rw[List.getElem?_append_left (by simp;omega),List.getElem?_take,if_pos (by omega)]
theorem UI{l:List α}{k:Nat}{p x:α}(hx:l[k]?=some x):((mid l (k+1) p).set (k+1) x).set k p=mid l k p:=by
 have hk:=Ae hx;have hd:l.drop k=x::l.drop (k+1):=by rw[List.drop_eq_getElem_cons hk,get_eq hx]
 have ht:l.take (k+1)=l.take k++[x]:=by rw[take_add_one,hx];rfl
 unfold mid;rw[ht,hd];have hl:(l.take k).length=k:=by simp;omega
 rw[List.append_assoc,List.set_append_right _ _ (by omega),hl];simp only[List.singleton_append,Nat.add_sub_cancel_left,List.set_cons_succ,List.set_cons_zero];rw[List.set_append_right _ _ (by omega),hl];simp
theorem Ta(l:List α)(k:Nat)(p x:α):x∈mid l k p↔x∈l∨x=p:=by
 unfold mid
 conv=>rhs;rw[← List.take_append_drop k l]
 simp only[mem_append,mem_cons];constructor
 ·rintro(h|h|h)
  ·exact .inl (.inl h)
  ·exact .inr h
  ·exact .inl (.inr h)
 ·rintro((h|h)|h)
  ·exact .inl h
  ·exact .inr (.inr h)
  ·exact .inr (.inl h)
end
@[reducible] def Z5(l:List Bs):AV:=.sl .no 1 (l.map fun s=>[.v (.string (str s))])
@[reducible] def Xc(r:Nat)(l:List Bs):AV:=.sl (.own r 0) 1 (l.map fun s=>[.v (.string (str s))])
def Il(l:List Bs)(n:Bs):Nat→Nat
 | 0=>0
 | k+1=>if BF n (l.getD k []) then Il l n k else k+1
def O6(l:List Bs)(n:Bs):List Bs:=if n∈l then l else mid l (Il l n l.length) n
def BH(l:List Entry):List Bs:=(l.map (·.name)).foldl O6 []
theorem Vi(l:List Bs)(n:Bs):∀ k,Il l n k≤k
 | 0=>by simp[Il]
 | k+1=>by
  simp only[Il];split
  ·have:=Vi l n k;omega
  ·omega
theorem Zn(l:List Bs)(n:Bs):(O6 l n).length≤l.length+1:=by
 unfold O6;split
 ·omega
 ·rw[S9 _ _ _ (Vi l n _)];omega
theorem KQ{l:List Entry}{i:Nat}{b:Entry}(hb:l[i]?=some b):BH (l.take (i+1))=O6 (BH (l.take i)) b.name:=by
 simp[BH,take_add_one,hb,List.foldl_append]
theorem Mk{l:List Entry}:∀ i,i≤l.length→(BH (l.take i)).length≤i
 | 0,_=>by simp[BH]
 | i+1,h=>by
  obtain⟨b,hb⟩:∃ b,l[i]?=some b:=⟨_,gE (by omega)⟩;rw[KQ hb];have:=Zn (BH (l.take i)) b.name;have:=Mk (l:=l) i (by omega);omega
theorem f249_ok(l:List Entry)(hl:l.length≤1000000):Ac C0 249 [DX l] [] (Z5 (BH l)) []:=by
 refine Ac.go f249 ?_;unfold f249;refine gO ?_;refine Aa (α:=Nat) (fun i=>⟨[(4,I i),(3,Xc 2688 (BH (l.take i))),(0,DX l)],[]⟩) (fun i=>i≤(l).length∧True) (fun i=>(l).length-i) 0 ⟨by omega,trivial⟩ ?_ ?_
 ·refine Imp.weak ?_ ?_
  all_goals(try simp(disch:=omega)only[go_sem])
  all_goals(try(repeat'(with_reducible apply And.intro)))
  all_goals(first|exact .AA (by omega)|exact .Az (by omega)|exact .sl (by simp[BH])|exact .int (by simp[BH])|exact .eq (by simp[BH]))
 rintro i ⟨hi,hP⟩ J hJ;refine gO ?_;refine ⟨fun hlt=>?_,fun hge=>?_⟩;rotate_left;have hil:i=(l).length:=by simp at hge;omega
 rotate_left;obtain⟨b,hb⟩:∃ b,(l)[i]?=some b:=⟨_,gE (by simp at hlt;omega)⟩;have hbm:=mG hb;have hlt2:i<(l).length:=by simp at hlt;omega
 ·have hnl:=Mk i hi;generalize hout:BH (l.take i)=out at hnl ⊢;refine Aa (α:=Nat) (fun k=>⟨[(6,I k),(5,B (decide (b.name∈out.take k))),(4,I i),(3,Xc 2688 out),(0,DX l)],[]⟩) (fun k=>k≤out.length) (fun k=>out.length-k) 0 (by omega) ?_ ?_
  ·refine Imp.weak ?_ ?_
   all_goals simp(disch:=omega)only[go_sem]
  rintro k hk J2 hJ2;refine gO ?_;refine And.intro (fun hlt3=>?_) (fun hge3=>?_)
  ·obtain⟨x,hx⟩:∃ x,out[k]?=some x:=⟨_,gE (by simp at hlt3;omega)⟩;refine Aq 11 [([],[5]),([],[21]),([],[3,22]),([],[6,22]),([],[23,24,22]),([],[25,22]),([],[0,22]),([],[4,22]),([],[27,28,22]),([],[29,22]),([],[30,22])] fol ?_;have nxt:decide (b.name∈out.take (k+1))=(decide (b.name∈out.take k)||x==b.name):=by
    rw[take_add_one,hx]
    by_cases h2:x=b.name
    ·simp[h2]
    ·have h3:b.name≠x:=Ne.symm h2;simp[h2,h3]
   cases hc:decide (b.name∈out.take k)
   ·simp(disch:=omega)only[go_sem,gm,hx,hb];refine hJ2 _ (k+1) (by simp at hlt3;omega) (by simp at hlt3;omega) (Imp.weak ?_ ?_)
    all_goals(try simp(disch:=omega)only[go_sem])
    rw[nxt,hc,Bool.false_or];exact .rfl
   ·simp(disch:=omega)only[go_sem,gm,hx,hb];refine hJ2 _ (k+1) (by simp at hlt3;omega) (by simp at hlt3;omega) (Imp.weak ?_ ?_)
    all_goals(try simp(disch:=omega)only[go_sem])
    rw[nxt,hc,Bool.true_or];exact .rfl
  have hke:k=out.length:=by simp at hge3;omega
  subst hke;rw[take_length];cases hin:decide (b.name∈out);rotate_left
  ·simp(disch:=omega)only[go_sem];have e:BH (l.take (i+1))=out:=by rw[KQ hb,hout,O6,if_pos (by simpa using hin)]
   refine hJ _ (i+1) ⟨by simp at hlt;omega,trivial⟩ (by simp at hlt;omega) (Imp.weak ?_ ?_)
   all_goals(try simp(disch:=omega)only[go_sem])
   all_goals(try(repeat'(with_reducible apply And.intro)))
   all_goals(first|exact .AA (by omega)|exact .Az (by omega)|exact .sl (by simp[e])|exact .int (by simp[e])|exact .eq (by simp[e]))
  have hbd:out.length+1≤4294967296:=by omega
  have hnin:b.name∉out:=by simpa using hin
  simp(disch:=omega)only[go_sem,gm,hb];refine Aa (α:=Nat) (fun k=>⟨[(7,I k),(4,I i),(3,Xc 2688 (mid out k b.name)),(0,DX l)],[]⟩) (fun k=>k≤out.length∧Il out b.name out.length=Il out b.name k) (fun k=>k) out.length ⟨by omega,rfl⟩ ?_ ?_
  ·refine Imp.weak ?_ ?_
   all_goals(try simp(disch:=omega)only[go_sem])
   all_goals(try(repeat'(with_reducible apply And.intro)))
   all_goals(first|exact .int (by simp;omega)|exact .int (by simp)|exact .sl (by simp[mid]))
  rintro k ⟨hk,hs⟩ J2 hJ2;have fin:Il out b.name k=k→∀ st',Imp ⟨C0,[],[]⟩ st' ⟨[(4,I (i+1:Nat)),(3,Xc 2688 (mid out k b.name)),(0,DX l)],[]⟩→J st':=fun hst st' him =>
   hJ st' (i+1) ⟨by omega,trivial⟩ (by omega) (by
    have e:BH (l.take (i+1))=mid out k b.name:=by rw[KQ hb,hout,O6,if_neg hnin,hs,hst]
    rw[e];exact him)
  refine Aq 12 [([],[7]),([],[46]),([],[47]),([],[3,48]),([],[7,48]),([],[49,50,48]),([],[51,48]),([],[3,48]),([],[7,48]),([],[54,48]),([],[53,55,48]),([],[56,48])] fol ?_;cases k with
  | zero =>
   have e0:(0<((0:Nat):Int))=False:=by simp
   simp(disch:=omega)only[go_sem,e0,decide_false];exact fin rfl _ AK
  | succ k =>
   have e0:(0<(((k+1:Nat)):Int))=True:=eq_true (by omega);have e1:(0<(k:Int)+1)=True:=eq_true (by omega);have e2:((k:Int)+1-1)=(k:Int):=by omega
   obtain⟨x,hx⟩:∃ x,out[k]?=some x:=⟨_,gE (by omega)⟩;have g1:=WY out (k+1) b.name hk;have g2:=UH out k b.name hk;rw[hx]at g2;have hml:=S9 out (k+1) b.name hk;have z1:k<(mid out (k+1) b.name).length:=by omega
   have z2:k+1<(mid out (k+1) b.name).length:=by omega
   simp(disch:=omega)only[go_sem,e0,e1,e2,gm,g1,g2,length_map,hml];cases hc:Op.bytesLess b.name x
   ·simp(disch:=omega)only[go_sem];exact fin (by simp[Il,BF,List.getD,hx,hc]) _ AK
   ·have e4:(k=k+1)=False:=eq_false (by omega);have e5:(k+1=k)=False:=eq_false (by omega);simp(disch:=omega)only[go_sem,e2,gm,g1,g2,length_map,hml,List.length_set,List.getElem?_set,e4,e5];refine hJ2 _ k ⟨by omega,by rw[hs];simp[Il,BF,List.getD,hx,hc]⟩ (by omega) (Imp.weak ?_ gI);refine gO ?_;refine .sl ?_;rw[← UI hx,map_set,map_set]
 ·subst hil;simp(disch:=omega)only[go_sem,take_length];refine CT ⟨[],[],[2688]⟩ _ ?_;simp(disch:=omega)only[go_sem]
def s0:Save:=⟨0,0⟩
def Cv:Ledger:=⟨[],[]⟩
def Em(l:List Entry)(i:Nat)(e:Entry):Bool:=Bp e.name&&decide (e.before=Ai (l.take i) e.name)&&Da e.before e.after
def Ee(l:Ledger)(i:Nat)(s:Save):Bool:=decide (1≤s.label)&&decide (s.label≤99)&&decide (0≤s.pos)&&decide (s.pos≤l.entries.length)&&(decide (i=0)||decide ((l.saves.getD (i-1) s0).pos≤s.pos))&&decide (I7 l.saves s.label=(i:Int))
def AP(l:Ledger):Bool:=decide (l.entries.length≤72)&&decide (l.saves.length≤4)&&BO (Em l.entries) l.entries&&decide ((BH l.entries).length≤8)&&BO (Ee l) l.saves
theorem f169_ok(l:Ledger):Ac C0 169 [.agg l.c] [] (B (AP l)) []:=by
 have bad:AP l=false→BC (B false) (B (AP l)):=fun h=>wb h.symm
 refine Ac.go f169 ?_;unfold f169
 by_cases h1:72<l.entries.length
 ·have e1:(72<(l.entries.length:Int))=True:=eq_true (by omega);simp(disch:=omega)only[go_sem,e1,decide_true];refine Ap _ ?_;exact wb (by simp[AP];omega)
 have e1:(72<(l.entries.length:Int))=False:=eq_false (by omega)
 by_cases h2:4<l.saves.length
 ·have e2:(4<(l.saves.length:Int))=True:=eq_true (by omega);simp(disch:=omega)only[go_sem,e1,e2,decide_true,decide_false];refine Ap _ ?_;exact wb (by simp[AP];omega)
 have e2:(4<(l.saves.length:Int))=False:=eq_false (by omega);simp(disch:=omega)only[go_sem,e1,e2,decide_false];refine Aa (α:=Nat) (fun i=>⟨[(3,I i),(1,.ptr 64 0)],[(64,l.c)]⟩) (fun i=>i≤(l.entries).length∧BO (Em l.entries) (l.entries.take i)=true) (fun i=>(l.entries).length-i) 0 ⟨by omega,rfl⟩ ?_ ?_
 ·exact Ca
 rintro i ⟨hi,hP⟩ J hJ;refine gO ?_;refine ⟨fun hlt=>?_,fun hge=>?_⟩;rotate_left;have hil:i=(l.entries).length:=by simp at hge;omega
 rotate_left;obtain⟨b,hb⟩:∃ b,(l.entries)[i]?=some b:=⟨_,gE (by simp at hlt;omega)⟩;have hbm:=mG hb;have hlt2:i<(l.entries).length:=by simp at hlt;omega
 simp(disch:=omega)only[go_sem,gm,hb]
 ·refine Aq 21 [([],[4]),([],[29]),([],[30]),([2],[31]),([2],[32]),([2],[4,33]),([2],[34,33]),([2],[1,33]),([2],[36,33]),([2],[3,33]),([2],[37,38,33]),([2],[4,33]),([2],[40,33]),([2],[39,41,33]),([2,13],[35,42,33]),([2,13],[33,43]),([2,13],[44]),([2,13],[4,45]),([2,13],[46,45]),([2,13],[4,45]),([2,13],[48,45])] fol ?_;refine gO ?_;have no:Em l.entries i b=false→AP l=false:=fun h=>by simp only[AP,Bj hb h,Bool.and_false,Bool.false_and]
  have yes:Em l.entries i b=true→BO (Em l.entries) (l.entries.take (i+1))=true:=fun h=>by rw[B4 hb,hP,h];rfl
  first|(refine Ab (f247_ok b.name) ?_)|(refine Al (f247_ok b.name) ?_)
  cases h3:Bp b.name
  ·simp(disch:=omega)only[go_sem];refine Ap _ ?_;exact wb (by rw[no (by simp[Em,h3])])
  simp(disch:=omega)only[go_sem,gm,hb]
  first|(refine Ab (f190_ok (l.entries.take i) b.name) ?_)|(refine Al (f190_ok (l.entries.take i) b.name) ?_)
  refine gO ?_;cases h4:decide (b.before=Ai (l.entries.take i) b.name)
  ·simp(disch:=omega)only[go_sem,h4];refine Ap _ ?_;exact wb (by rw[no (by simp only[Em,h3,h4];rfl)])
  simp(disch:=omega)only[go_sem,h4]
  first|(refine Ab (f248_ok b.before b.after) ?_)|(refine Al (f248_ok b.before b.after) ?_)
  cases h5:Da b.before b.after
  ·simp(disch:=omega)only[go_sem];refine Ap _ ?_;exact wb (by rw[no (by simp only[Em,h3,h4,h5];rfl)])
  refine gO ?_;refine hJ _ (i+1) ⟨by simp at hlt;omega,yes (by simp only[Em,h3,h4,h5];rfl)⟩ (by simp at hlt;omega) AK
 subst hil;rw[take_length]at hP;refine Ab (f249_ok l.entries (by omega)) ?_
 by_cases h6:8<(BH l.entries).length
 ·have e6:(8<((BH l.entries).length:Int))=True:=eq_true (by omega);simp(disch:=omega)only[go_sem,e6,decide_true];refine Ap _ ?_;exact wb (by simp[AP];omega)
 have e6:(8<((BH l.entries).length:Int))=False:=eq_false (by omega);simp(disch:=omega)only[go_sem,e6,decide_false];have hP1:=hP;clear hP hJ hi hge;refine Aa (α:=Nat) (fun i=>⟨[(5,I i),(1,.ptr 64 0)],[(64,l.c)]⟩) (fun i=>i≤(l.saves).length∧BO (Ee l) (l.saves.take i)=true) (fun i=>(l.saves).length-i) 0 ⟨by omega,rfl⟩ ?_ ?_
 ·exact Ca
 rintro i ⟨hi,hP⟩ J hJ;refine gO ?_;refine ⟨fun hlt=>?_,fun hge=>?_⟩;rotate_left;have hil:i=(l.saves).length:=by simp at hge;omega
 rotate_left;obtain⟨b,hb⟩:∃ b,(l.saves)[i]?=some b:=⟨_,gE (by simp at hlt;omega)⟩;have hbm:=mG hb;have hlt2:i<(l.saves).length:=by simp at hlt;omega
 simp(disch:=omega)only[go_sem,gm,hb]
 ·have no:Ee l i b=false→AP l=false:=fun h=>by simp only[AP,Bj hb h,Bool.and_false]
  have yes:Ee l i b=true→BO (Ee l) (l.saves.take (i+1))=true:=fun h=>by rw[B4 hb,hP,h];rfl
  refine Aq 44 [([],[6]),([],[70]),([],[71]),([],[72]),([],[6,73]),([],[74,73]),([],[75,73]),([],[73,76]),([],[77]),([],[6,78]),([],[79,78]),([],[80,78]),([],[78,81]),([],[82]),([],[6,83]),([],[84,83]),([],[1,83]),([],[86,83]),([],[87,83]),([],[85,88,83]),([],[83,89]),([],[90]),([],[5,91]),([],[92,91]),([],[93,91]),([],[1,94]),([],[95,94]),([],[5,94]),([],[97,94]),([],[96,98,94]),([],[99,94]),([],[100,94]),([],[6,94]),([],[102,94]),([],[101,103,94]),([],[94,104,91]),([],[91,105]),([],[106]),([],[1,107]),([],[108,107]),([],[6,107]),([],[110,107]),([],[109,111,107]),([],[5,107])] fol ?_
  by_cases c1:b.label<1
  ·have f1:=eq_true c1;simp(disch:=omega)only[go_sem,f1,decide_true];refine Ap _ ?_;exact wb (by rw[no (by simp[Ee,show ¬ (1≤b.label) by omega])])
  have f1:=eq_false c1
  by_cases c2:99<b.label
  ·have f2:=eq_true c2;simp(disch:=omega)only[go_sem,f1,f2,decide_true,decide_false];refine Ap _ ?_;exact wb (by rw[no (by simp[Ee,show ¬ (b.label≤99) by omega])])
  have f2:=eq_false c2
  by_cases c3:b.pos<0
  ·have f3:=eq_true c3;simp(disch:=omega)only[go_sem,f1,f2,f3,decide_true,decide_false];refine Ap _ ?_;exact wb (by rw[no (by simp[Ee,show ¬ (0≤b.pos) by omega])])
  have f3:=eq_false c3
  by_cases c4:(l.entries.length:Int)<b.pos
  ·have f4:=eq_true c4;simp(disch:=omega)only[go_sem,f1,f2,f3,f4,decide_true,decide_false];refine Ap _ ?_;exact wb (by rw[no (by simp[Ee,show ¬ (b.pos≤(l.entries.length:Int)) by omega])])
  have f4:=eq_false c4;have base:Ee l i b=((decide (i=0)||decide ((l.saves.getD (i-1) s0).pos≤b.pos))&&decide (I7 l.saves b.label=(i:Int))):=by
   simp[Ee,show 1≤b.label by omega,show b.label≤99 by omega,show 0≤b.pos by omega,show b.pos≤(l.entries.length:Int) by omega]
  have last:(decide (i=0)||decide ((l.saves.getD (i-1) s0).pos≤b.pos))=true→Ee l i b=decide (I7 l.saves b.label=(i:Int)):=fun h=>by rw[base,h,Bool.true_and]
  by_cases hi0:i=0
  ·subst hi0;have g0:=last (by simp);simp(disch:=omega)only[go_sem,f1,f2,f3,f4,decide_false]
   first|(refine Ab (f194_ok l.saves b.label) ?_)|(refine Al (f194_ok l.saves b.label) ?_)
   refine gO ?_;refine And.intro (fun hh=>?_) (fun hh=>?_)
   ·refine Ap _ ?_;exact wb (by rw[no (by rw[g0];simpa using hh)])
   ·refine hJ _ 1 ⟨by omega,yes (by rw[g0];simpa using hh)⟩ (by omega) AK
  have hi1:(0<(i:Int))=True:=eq_true (by omega);have hi2:((i:Int)-1)=((i-1:Nat):Int):=by omega
  obtain⟨a,ha'⟩:∃ a,l.saves[i-1]?=some a:=⟨_,gE (by omega)⟩;have had:l.saves.getD (i-1) s0=a:=by simp[List.getD,ha']
  by_cases c5:b.pos<a.pos
  ·have f5:=eq_true c5;simp(disch:=omega)only[go_sem,f1,f2,f3,f4,f5,hi1,hi2,gm,ha',hb,decide_true,decide_false];refine Ap _ ?_;exact wb (by rw[no (by rw[base,had];simp[hi0];omega)])
  have f5:=eq_false c5;have g0:=last (by rw[had];simp;omega);simp(disch:=omega)only[go_sem,f1,f2,f3,f4,f5,hi1,hi2,gm,ha',hb,decide_true,decide_false]
  first|(refine Ab (f194_ok l.saves b.label) ?_)|(refine Al (f194_ok l.saves b.label) ?_)
  refine gO ?_;refine And.intro (fun hh=>?_) (fun hh=>?_)
  ·refine Ap _ ?_;exact wb (by rw[no (by rw[g0];simpa using hh)])
  ·refine hJ _ (i+1) ⟨by omega,yes (by rw[g0];simpa using hh)⟩ (by omega) AK
 subst hil;rw[take_length]at hP;refine Ap _ ?_;exact wb (by simp[AP,hP,hP1];omega)
def V1(x:Wait):Wait:={ x with passed:=x.passed+1 }
theorem UY(l:List Wait)(w:Wait):Kk l w=l.take (Ew l w l.length)++w::(l.drop (Ew l w l.length)).map V1:=rfl
def KL(l:List Wait)(w:Wait):List Wait × Int × Int:=if !CY l then ([],0,2) else if !w.ok||w.passed !=0 then ([],0,1) else if 0≤E2 l w.proc then ([],0,11) else if l.length=8 then ([],0,4) else (Kk l w,((Ew l w l.length:Nat):Int),0)
theorem f291_ok(l:List Wait)(w:Wait)(hl:l.length≤1000000):Ac C0 291 [Bt l,.agg w.c] [] (.tup [Bt (KL l w).1,I (KL l w).2.1,I (KL l w).2.2]) []:=by
 refine Ac.go f291 ?_;unfold f291;refine gO ?_;refine Ab (f282_ok l hl) ?_;cases h1:CY l
 ·have e:KL l w=([],0,2):=by simp[KL,h1]
  simp(disch:=omega)only[go_sem,e,map_nil];exact Fb _
 refine gO ?_;refine Ab (f315_ok w) ?_;cases h2:w.ok
 ·have e:KL l w=([],0,1):=by simp[KL,h1,h2]
  simp(disch:=omega)only[go_sem,e,map_nil];exact Fb _
 refine gO ?_;cases h3:(w.passed !=0);rotate_left
 ·have e:KL l w=([],0,1):=by simp[KL,h1,h2,h3]
  simp(disch:=omega)only[go_sem,e,map_nil,h3];exact Fb _
 simp(disch:=omega)only[go_sem,h3];refine Ab (f153_ok l w.proc hl) ?_
 by_cases h4:0≤E2 l w.proc
 ·have e:KL l w=([],0,11):=by simp[KL,h1,h2,h3,h4]
  simp(disch:=omega)only[go_sem,e,map_nil,eq_true h4,decide_true];exact Fb _
 simp(disch:=omega)only[go_sem,eq_false h4,decide_false];have hl8:l.length≤8:=((B7 l).1 h1).1
 by_cases h5:l.length=8
 ·have e:KL l w=([],0,4):=by simp[KL,h1,h2,h3,h4,h5]
  have e5:((l.length:Int)==8)=true:=by simp[h5]
  simp(disch:=omega)only[go_sem,e,map_nil,e5];exact Fb _
 have e5:((l.length:Int)==8)=false:=by simp;omega
 simp(disch:=omega)only[go_sem,e5];have e:KL l w=(Kk l w,((Ew l w l.length:Nat):Int),0):=by simp[KL,h1,h2,h3,h4,h5]
 rw[e];refine Aa (α:=Nat) (fun k=>⟨[(7,I k),(0,Bt l),(3,.ptr 192 0)],[(192,w.c)]⟩) (fun k=>k≤l.length∧Ew l w l.length=Ew l w k) (fun k=>k) l.length ⟨by omega,rfl⟩ AK ?_;rintro k ⟨hk,hs⟩ J hJ;have hcase:k=0∨(∃ j x,k=j+1∧l[j]?=some x∧¬ x.prio<w.prio)∨(∃ j x,k=j+1∧l[j]?=some x∧x.prio<w.prio∧¬ x.passed<3)∨(∃ j x,k=j+1∧l[j]?=some x∧x.prio<w.prio∧x.passed<3):=by
  cases k with
  | zero=>exact .inl rfl
  | succ j =>
   obtain⟨x,hx⟩:∃ x,l[j]?=some x:=⟨_,gE (by omega)⟩
   by_cases c1:x.prio<w.prio
   ·by_cases c2:x.passed<3
    ·exact .inr (.inr (.inr ⟨j,x,rfl,hx,c1,c2⟩))
    ·exact .inr (.inr (.inl ⟨j,x,rfl,hx,c1,c2⟩))
   ·exact .inr (.inl ⟨j,x,rfl,hx,c1⟩)
 have hget:∀ j x,l[j]?=some x→l.getD j w0=x:=fun j x h=>by simp[List.getD,h]
 have fin:(¬ ∃ j x,k=j+1∧l[j]?=some x∧x.prio<w.prio∧x.passed<3)→Kk l w=l.take k++w::(l.drop k).map V1∧Ew l w l.length=k:=fun h=>by
  have:Ew l w k=k:=by
   cases k with
   | zero=>rfl
   | succ j =>
    obtain⟨x,hx⟩:∃ x,l[j]?=some x:=⟨_,gE (by omega)⟩;simp only[Ew,hget j x hx];rw[if_neg fun hc=>h ⟨j,x,rfl,hx,hc.1,hc.2⟩]
  rw[UY,hs,this];exact⟨rfl,rfl⟩
 refine Aq 17 [([],[7]),([],[32]),([],[33]),([],[0,34]),([],[7,34]),([],[36,34]),([],[35,37,34]),([],[38,34]),([],[39,34]),([],[3,34]),([],[41,34]),([],[40,42,34]),([],[34,43]),([],[44]),([],[0,45]),([],[7,45]),([],[47,45])] fol ?_;rcases hcase with h0|⟨j,x,hj,hx,c1⟩|⟨j,x,hj,hx,c1,c2⟩|⟨j,x,hj,hx,c1,c3⟩
 rotate_left 3
 ·subst hj;simp(disch:=omega)only[go_sem,eq_true (show 0<((j+1:Nat):Int) by omega),eq_true (show 0<(j:Int)+1 by omega),(show ((j:Int)+1-1)=(j:Int) by omega),gm,hx,eq_true c1,eq_true c3,decide_true];refine hJ _ j ⟨by omega,by rw[hs];simp only[Ew,hget j x hx];rw[if_pos ⟨c1,c3⟩]⟩ (by omega) AK
 all_goals first
  |(have hne:=fin (fun⟨j',x',a,b,c,d⟩=>by obtain rfl:j=j':=(by omega);rw[hx]at b;cases b;omega);simp(disch:=omega)only[go_sem,eq_true (show 0<(k:Int) by omega),(show ((k:Int)-1)=(j:Int) by omega),gm,hx,eq_true c1,eq_false c2,decide_true,decide_false])
  |(have hne:=fin (fun⟨j',x',a,b,c,d⟩=>by obtain rfl:j=j':=(by omega);rw[hx]at b;cases b;omega);simp(disch:=omega)only[go_sem,eq_true (show 0<(k:Int) by omega),(show ((k:Int)-1)=(j:Int) by omega),gm,hx,eq_false c1,decide_false])
  |(have hne:=fin (fun⟨j',x',a,b,c,d⟩=>by omega);simp(disch:=omega)only[go_sem,eq_false (show ¬ 0<(k:Int) by omega),decide_false])
 all_goals
  rw[hne.1,hne.2];clear fin hJ hs;have hbd3:(l.take k).length+1≤4294967296:=by simp;omega
  refine Dt 511 [(0,1,0),(1,2,0),(2,4,0),(3,8,6),(4,16,9),(5,32,0),(6,64,32),(7,128,80),(8,256,255)] [0,1,2,4,32,3,5,33,6,34,36,96,7,35,37,97,14,38,98,100,15,39,99,101,46,102,31,47,103,110,63,111,127,255,511] (fun m=>⟨sel m [(1,56,(if m / 16%2=1 then .undef else .sl (.own 3584 0) 7 [])),(2,57,Bt l),(4,58,I k),(8,59,.sl .no 7 ((l.take k).map Wait.c)),(16,60,(if m / 128%2=1 then .undef else .sl (.own 3840 0) 7 ((l.take k).map Wait.c))),(32,61,.agg w.c),(64,62,.sl (.own 3968 0) 7 [w.c]),(128,63,.sl (.own 4032 0) 7 ((l.take k++[w]).map Wait.c)),(256,8,.sl (.own 4032 0) 7 ((l.take k++[w]).map Wait.c))]++[(7,I k),(0,Bt l),(3,.ptr 192 0)],[(192,w.c)]⟩) ?_ ?_ ?_ fol
  ·exact AK
  ·simp (maxSteps:=100000000)only[Ds,Dr,Ek,Ej,and_true,Nat.reduceDiv,Nat.reduceMod,Nat.reduceAnd,Nat.reduceEqDiff,reduceIte,true_and,and_false,false_and,and_self]
   repeat'(with_reducible refine And.intro ?_ ?_)
   all_goals simp(disch:=omega)only[go_sem,List.nil_append,map_append,map_cons,map_nil]
   all_goals exact Imp.weak (by simp(disch:=omega)only[go_sem,map_append,map_cons,map_nil]) gI
  refine gO ?_;refine Aa (α:=Nat) (fun i=>⟨[(9,I i),(8,.sl (.own 5248 0) 7 ((l.take k++w::((l.drop k).take (i-k)).map V1).map Wait.c)),(0,Bt l),(7,I k)],[]⟩) (fun i=>k≤i∧i≤l.length) (fun i=>l.length-i) k ⟨by omega,hk⟩ ?_ ?_
  ·refine Imp.ren ⟨[(4032,5248)],[],[]⟩ ⟨rfl,rfl⟩ (by simp[lk]) ?_ ?_
   all_goals(try simp(disch:=omega)only[go_sem])
   all_goals(try(repeat'(with_reducible apply And.intro)))
   all_goals(exact .sl (by simp))
  rintro i ⟨hi1,hi2⟩ J2 hJ2;refine gO ?_;refine ⟨fun hlt=>?_,fun hge=>?_⟩
  ·obtain⟨b,hb⟩:∃ b,l[i]?=some b:=⟨_,gE (by simp at hlt;omega)⟩;have hbd2:(l.take k++w::((l.drop k).take (i-k)).map V1).length+1≤4294967296:=by simp;omega
   have hbok:=((B7 l).1 h1).2.2 b (mG hb);have hbp:0≤b.passed∧b.passed≤3:=by simp[Wait.ok,between]at hbok;omega
   have hnx:(l.drop k).take (i+1-k)=(l.drop k).take (i-k)++[b]:=by
    rw[show i+1-k=(i-k)+1 by omega,take_add_one,List.getElem?_drop,show k+(i-k)=i by omega,hb];rfl
   simp(disch:=omega)only[go_sem,gm,hb];refine hJ2 _ (i+1) ⟨by omega,by simp at hlt;omega⟩ (by simp at hlt;omega) (Imp.weak ?_ ?_)
   all_goals(try simp(disch:=omega)only[go_sem])
   exact .sl (by rw[hnx];simp[V1,Wait.c])
  ·have hil:i=l.length:=by simp at hge;omega
   subst hil;rw[show (l.drop k).take (l.length-k)=l.drop k from List.take_of_length_le (by simp)];refine CT ⟨[],[],[5248]⟩ _ ?_;simp(disch:=omega)only[go_sem]
def A3(q:Queue)(p:Proc):Queue × List Hold × Int:=if !valid q then (q0,[],2) else if !(Aj q p).isSome then (q0,[],10) else (El (DA q p),(Bz (DA q p)).2,0)
def AN(q:Queue)(p:Proc)(a:Amt):Queue × List Hold × Int:=if !valid q then (q0,[],2) else if (Ak q.holds p).zero then (q0,[],10) else if (Aj q p).isSome then (q0,[],14) else if !q.res.covers (Ak q.holds p) a then (q0,[],12) else if decide (Ak q.holds p=a) then (q,[],0) else (El (H6 q p a),(Bz (H6 q p a)).2,0)
def Fw(q:Queue)(p:Proc)(a:Amt):Queue:={ q with convs:=q.convs++[⟨p,CC q.res (Ak q.holds p) a,0,0⟩] }
def FJ(q:Queue)(p:Proc)(a:Amt)(prio:Int):Queue:={ q with waits:=Kk q.waits ⟨p,a,prio,0⟩ }
def AJ(q:Queue)(p:Proc)(a:Amt)(prio:Int):Queue × List Hold × Int:=if !valid q then (q0,[],2) else if !p.ok then (q0,[],1) else if decide (prio<0) then (q0,[],1) else if decide (7<prio) then (q0,[],1) else if !q.res.fits a then (q0,[],12) else if (Aj q p).isSome then (q0,[],14)
 else if q.res.covers (Ak q.holds p) a then (q,[],0) else if !(Ak q.holds p).zero then (El (Fw q p a),(Bz (Fw q p a)).2,0) else if decide (8≤(q.holds.length:Int)+q.waits.length) then (q0,[],4) else (El (FJ q p a prio),(Bz (FJ q p a prio)).2,0)
theorem Ey{q:Queue}{p:Proc}(h:(Aj q p).isSome=false):Aj q p=none:=by
 cases hw:Aj q p
 ·rfl
 ·rw[hw]at h;cases h
theorem f292_ok(q:Queue)(p:Proc)(h:BA q≤100):Ac C0 292 [.agg q.c,.agg p.c] [] (.tup [.agg (A3 q p).1.c,AB (A3 q p).2.1,I (A3 q p).2.2]) []:=by
 obtain⟨h1,h2,h3⟩:=Bw h;refine Ac.go f292 ?_;unfold f292;refine gO ?_;refine Ab (f158_ok q h1 h3) ?_;cases hv:valid q
 ·have e:A3 q p=(q0,[],2):=by simp[A3,hv]
  simp(disch:=omega)only[go_sem,Bool.not_false,e,q0];refine Ap _ ?_;refine .tup (Ah.AE ?_);simp(disch:=omega)only[go_sem]
  repeat'(with_reducible apply And.intro)
  all_goals(first|exact .Az (by omega)|exact .agg (Ah.AE gI))
 refine gO ?_;refine Ab (f98_ok q p h2 h3) ?_;cases hw:(Aj q p).isSome
 ·have e:A3 q p=(q0,[],10):=by simp[A3,hv,hw]
  simp(disch:=omega)only[go_sem,Bool.not_false,e,q0];refine Ap _ ?_;refine .tup (Ah.AE ?_);simp(disch:=omega)only[go_sem]
  repeat'(with_reducible apply And.intro)
  all_goals(first|exact .Az (by omega)|exact .agg (Ah.AE gI))
 have e:A3 q p=(El (DA q p),(Bz (DA q p)).2,0):=by simp[A3,hv,hw]
 rw[e];refine gO ?_;refine Ab (f164_ok q h1 h2 h3) ?_;refine gO ?_;refine Ab (f166_ok q.convs p h2) ?_;refine gO ?_;refine Ab (f166_ok q.waits p h3) ?_;refine gO ?_;have hw':=Bo q.waits p;have hc':=Bo q.convs p;refine Af (f167_ok (DA q p) (Lc ((Bm q).1 hv).1 p) h1 (by simp[DA];omega) (by simp[DA];omega)) (by simp(disch:=omega)only[go_sem,DA]) rfl ?_;refine gO ?_;exact AH _
theorem f259_ok(q:Queue)(p:Proc)(a:Amt)(h:BA q≤100):Ac C0 259 [.agg q.c,.agg p.c,.agg a.c] [] (.tup [.agg (AN q p a).1.c,AB (AN q p a).2.1,I (AN q p a).2.2]) []:=by
 obtain⟨h1,h2,h3⟩:=Bw h;refine Ac.go f259 ?_;unfold f259;refine gO ?_;refine Ab (f158_ok q h1 h3) ?_;cases hv:valid q
 ·have e:AN q p a=(q0,[],2):=by simp[AN,hv]
  simp(disch:=omega)only[go_sem,Bool.not_false,e,q0];refine Ap _ ?_;refine .tup (Ah.AE ?_);simp(disch:=omega)only[go_sem]
  repeat'(with_reducible apply And.intro)
  all_goals(first|exact .Az (by omega)|exact .agg (Ah.AE gI))
 refine gO ?_;refine Ab (f163_ok q p h1) ?_;refine gO ?_;refine Ab (f162_ok (Ak q.holds p)) ?_;cases hz:(Ak q.holds p).zero;rotate_left
 ·have e:AN q p a=(q0,[],10):=by simp[AN,hv,hz]
  simp(disch:=omega)only[go_sem,Bool.not_false,e,q0];refine Ap _ ?_;refine .tup (Ah.AE ?_);simp(disch:=omega)only[go_sem]
  repeat'(with_reducible apply And.intro)
  all_goals(first|exact .Az (by omega)|exact .agg (Ah.AE gI))
 refine gO ?_;refine Ab (f98_ok q p h2 h3) ?_;cases hw:(Aj q p).isSome;rotate_left
 ·have e:AN q p a=(q0,[],14):=by simp[AN,hv,hz,hw]
  simp(disch:=omega)only[go_sem,Bool.not_false,e,q0];refine Ap _ ?_;refine .tup (Ah.AE ?_);simp(disch:=omega)only[go_sem]
  repeat'(with_reducible apply And.intro)
  all_goals(first|exact .Az (by omega)|exact .agg (Ah.AE gI))
 refine gO ?_;refine Ab (f253_ok q.res (Ak q.holds p) a) ?_;cases hc:q.res.covers (Ak q.holds p) a
 ·have e:AN q p a=(q0,[],12):=by simp[AN,hv,hz,hw,hc]
  simp(disch:=omega)only[go_sem,Bool.not_false,e,q0];refine Ap _ ?_;refine .tup (Ah.AE ?_);simp(disch:=omega)only[go_sem]
  repeat'(with_reducible apply And.intro)
  all_goals(first|exact .Az (by omega)|exact .agg (Ah.AE gI))
 refine gO ?_;refine Ab (f164_ok q h1 h2 h3) ?_;refine gO ?_;cases ha:decide (Ak q.holds p=a);rotate_left
 ·have e:AN q p a=(q,[],0):=by simp only[AN,hv,hz,hw,hc,ha];rfl
  simp(disch:=omega)only[go_sem,ha,e];exact Fb _
 simp(disch:=omega)only[go_sem,ha];have e:AN q p a=(El (H6 q p a),(Bz (H6 q p a)).2,0):=by simp only[AN,hv,hz,hw,hc,ha];rfl
 rw[e];refine Ab (f165_ok q.holds p a h1) ?_;refine gO ?_;have hl:=NG hz;have hl2:=Ps (l:=q.holds) (p:=p) (a:=a);refine Af (f167_ok (H6 q p a) (Og ((Bm q).1 hv).1 hz (Ey hw) hc) (by simp[H6];omega) h2 h3) (by simp(disch:=omega)only[go_sem,H6]) rfl ?_;refine gO ?_;exact AH _
theorem XL(q:Queue)(h1:q.holds.length≤1000000)(h2:q.convs.length≤1000000)(h3:q.waits.length≤1000000):Ac C0 164 [.agg q.c] [] (.agg [.v (.string (str q.res.name)),.v (.int .i64 q.res.kind),.v (.int .i64 q.res.units),.v (.int .i64 q.res.home),AB q.holds,.sl (.own 0 0) 7 (q.convs.map Wait.c),Bt q.waits,.v (.int .i64 q.gen)]) []:=by
 refine Ac.go f164 ?_;unfold f164;refine gO ?_;refine CT ⟨[(704,0)],[],[384,1024]⟩ _ ?_;simp(disch:=omega)only[go_sem,AB]
theorem f255_ok(q:Queue)(p:Proc)(a:Amt)(prio:Int)(h:BA q≤100):Ac C0 255 [.agg q.c,.agg p.c,.agg a.c,I prio] [] (.tup [.agg (AJ q p a prio).1.c,AB (AJ q p a prio).2.1,I (AJ q p a prio).2.2]) []:=by
 obtain⟨h1,h2,h3⟩:=Bw h;refine Ac.go f255 ?_;unfold f255;refine gO ?_;refine Ab (f158_ok q h1 h3) ?_;cases hv:valid q
 ·have e:AJ q p a prio=(q0,[],2):=by simp[AJ,hv]
  simp(disch:=omega)only[go_sem,Bool.not_false,e,q0];refine Ap _ ?_;refine .tup (Ah.AE ?_);simp(disch:=omega)only[go_sem]
  repeat'(with_reducible apply And.intro)
  all_goals(first|exact .Az (by omega)|exact .agg (Ah.AE gI))
 refine gO ?_;refine Ab (f105_ok p) ?_;cases hp:p.ok
 ·have e:AJ q p a prio=(q0,[],1):=by simp[AJ,hv,hp]
  simp(disch:=omega)only[go_sem,Bool.not_false,e,q0];refine Ap _ ?_;refine .tup (Ah.AE ?_);simp(disch:=omega)only[go_sem]
  repeat'(with_reducible apply And.intro)
  all_goals(first|exact .Az (by omega)|exact .agg (Ah.AE gI))
 refine gO ?_
 by_cases hp0:prio<0
 ·have e:AJ q p a prio=(q0,[],1):=by simp[AJ,hv,hp,hp0]
  simp(disch:=omega)only[go_sem,eq_true hp0,decide_true,e,q0];refine Ap _ ?_;refine .tup (Ah.AE ?_);simp(disch:=omega)only[go_sem]
  repeat'(with_reducible apply And.intro)
  all_goals(first|exact .Az (by omega)|exact .agg (Ah.AE gI))
 by_cases hp7:7<prio
 ·have e:AJ q p a prio=(q0,[],1):=by simp[AJ,hv,hp,hp0,hp7]
  simp(disch:=omega)only[go_sem,eq_false hp0,eq_true hp7,decide_true,decide_false,e,q0];refine Ap _ ?_;refine .tup (Ah.AE ?_);simp(disch:=omega)only[go_sem]
  repeat'(with_reducible apply And.intro)
  all_goals(first|exact .Az (by omega)|exact .agg (Ah.AE gI))
 simp(disch:=omega)only[go_sem,eq_false hp0,eq_false hp7,decide_false];refine Ab (f171_ok q.res a) ?_;cases hf:q.res.fits a
 ·have e:AJ q p a prio=(q0,[],12):=by simp[AJ,hv,hp,hp0,hp7,hf]
  simp(disch:=omega)only[go_sem,Bool.not_false,e,q0];refine Ap _ ?_;refine .tup (Ah.AE ?_);simp(disch:=omega)only[go_sem]
  repeat'(with_reducible apply And.intro)
  all_goals(first|exact .Az (by omega)|exact .agg (Ah.AE gI))
 refine gO ?_;refine Ab (f98_ok q p h2 h3) ?_;cases hw:(Aj q p).isSome;rotate_left
 ·have e:AJ q p a prio=(q0,[],14):=by simp[AJ,hv,hp,hp0,hp7,hf,hw]
  simp(disch:=omega)only[go_sem,Bool.not_false,e,q0];refine Ap _ ?_;refine .tup (Ah.AE ?_);simp(disch:=omega)only[go_sem]
  repeat'(with_reducible apply And.intro)
  all_goals(first|exact .Az (by omega)|exact .agg (Ah.AE gI))
 refine gO ?_;refine Be ⟨⟨[],[],[]⟩,[(0,3072)],[]⟩ (XL q h1 h2 h3) gI (by decide) trivial (.inl rfl) ?_;refine gO ?_;refine Dq [3072] (f163_ok q p h1) gI rfl (by simp[Amt.c,AV.ren,EW,Flat,Kl]) ?_;refine gO ?_;refine Ab (f253_ok q.res (Ak q.holds p) a) ?_;cases hc:q.res.covers (Ak q.holds p) a;rotate_left
 ·have e:AJ q p a prio=(q,[],0):=by simp[AJ,hv,hp,hp0,hp7,hf,hw,hc]
  simp(disch:=omega)only[go_sem,e];refine CT ⟨[],[],[3072]⟩ _ ?_;refine gO ?_;refine .tup (Ah.AE ?_);simp(disch:=omega)only[go_sem]
  repeat'(with_reducible apply And.intro)
  all_goals(first|exact .Az (by omega)|exact .agg (Ah.AE gI))
 refine gO ?_;have hs:=((Bm q).1 hv).1;have hsl:=Sj hs;unfold BA Bq at hsl;refine Ab (f162_ok (Ak q.holds p)) ?_;cases hz:(Ak q.holds p).zero
 ·have e:AJ q p a prio=(El (Fw q p a),(Bz (Fw q p a)).2,0):=by simp[AJ,hv,hp,hp0,hp7,hf,hw,hc,hz]
  rw[e];have hbd:q.convs.length+1≤4294967296:=by omega
  simp(disch:=omega)only[go_sem,Bool.not_false];refine Aq 10 [([],[4]),([],[61]),([],[5]),([],[4]),([],[64]),([],[13]),([],[6]),([],[65,66,67]),([7],[63,68]),([7],[69])] fol ?_;simp(disch:=omega)only[go_sem]
  first|(refine Ab (f254_ok q.res (Ak q.holds p) a) ?_)|(refine Al (f254_ok q.res (Ak q.holds p) a) ?_)
  refine gO ?_;refine HV [4544] (f167_ok (Fw q p a) (Ms hs hf (Ey hw) hz hc) h1 (by simp[Fw];omega) h3) (by simp(disch:=omega)only[go_sem,Fw];exact .eq (by simp[Wait.c])) rfl ?_;refine gO ?_;exact AH _
 ·simp(disch:=omega)only[go_sem,Bool.not_true];have e8:(q.holds.length:Int)+q.waits.length=((q.holds.length+q.waits.length:Nat):Int):=by omega
  by_cases h8:8≤(q.holds.length:Int)+q.waits.length
  ·have e:AJ q p a prio=(q0,[],4):=by simp only[AJ,hv,hp,hf,hw,hc,hz,decide_eq_false hp0,decide_eq_false hp7,decide_eq_true h8];rfl
   simp(disch:=omega)only[go_sem,eq_true h8,decide_true,e,q0];refine Ap _ ?_;refine .tup (Ah.AE ?_);simp(disch:=omega)only[go_sem]
   repeat'(with_reducible apply And.intro)
   all_goals(first|exact .Az (by omega)|exact .agg (Ah.AE gI))
  simp(disch:=omega)only[go_sem,eq_false h8,decide_false];have e:AJ q p a prio=(El (FJ q p a prio),(Bz (FJ q p a prio)).2,0):=by simp only[AJ,hv,hp,hf,hw,hc,hz,decide_eq_false hp0,decide_eq_false hp7,decide_eq_false h8];rfl
  rw[e];have hS:=Oh hs hp (prio:=prio) ⟨by omega,by omega⟩ hf (Ey hw) hz (by omega);obtain⟨a1,a2,a3⟩:=(A8 q).1 hs.waits;have hwo:Wait.ok ⟨p,a,prio,0⟩=true:=by simp[Wait.ok,hp,GY hf,between];omega
  have hnone:¬ 0≤E2 q.waits p:=by
   have hn:=EF.1 (Ey hw);unfold E2;have:q.waits.findIdx? (fun h=>decide (h.proc=p))=none:=by
    rw[List.findIdx?_eq_none_iff];intro x hx;simpa using hn x (by simp[hx])
   rw[this];simp
  have ei:KL q.waits ⟨p,a,prio,0⟩=(Kk q.waits ⟨p,a,prio,0⟩,((Ew q.waits ⟨p,a,prio,0⟩ q.waits.length:Nat):Int),0):=by
   have:q.waits.length≠8:=by omega
   simp[KL,a1,hwo,hnone,this]
  have hi:=f291_ok q.waits ⟨p,a,prio,0⟩ h3;rw[ei]at hi;refine Ab hi ?_;refine gO ?_;have hpl:=QA q.waits ⟨p,a,prio,0⟩;refine HV [3072] (f167_ok (FJ q p a prio) hS h1 h2 (show (Kk q.waits ⟨p,a,prio,0⟩).length≤1000000 by omega)) (by simp(disch:=omega)only[go_sem,FJ]) rfl ?_;refine gO ?_;exact AH _
end Go.Rd
