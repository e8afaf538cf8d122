/- part 32 of the proof -/
import Derived.Test.YthachdiockkofaaGreatDoorS31
set_option linter.all false
open Go Go.Abs Go.Proofs
set_option maxRecDepth 100000
namespace Go.Rd
set_option maxHeartbeats 8000000
open List (length_map map_set mem_cons mem_map nodup_cons set_set take_length)
open Bool (and_eq_true)
open Option (getD_some)
open Tryz
theorem W3{q:Queue}{x:Pcs}{a:Atom}(hn:a.name=q.res.name)(h1:q.res.covers (Ai x.led.entries q.res.name) a.amt=true→KF q x.proc (Ai x.led.entries q.res.name))
 (h2:q.res.covers (Ai x.led.entries q.res.name) a.amt=false→(Aj q x.proc=none∧Ak q.holds x.proc=CC q.res (Ai x.led.entries q.res.name) a.amt)∨(Aj q x.proc=some (CC q.res (Ai x.led.entries q.res.name) a.amt)∧Ak q.holds x.proc=Ai x.led.entries q.res.name∧∀ w∈q.waits,w.proc=x.proc→w.prio=x.req.prio)) :
 ∀ {az:List Atom},Im az→a∈az→Cc q x az=true
 | b::az,hu,ha=>by
  have hu':=nodup_cons.1 hu;unfold Cc
  by_cases e:b.name=q.res.name
  ·have hba:b=a:=by
    rcases mem_cons.1 ha with ha|ha
    ·exact ha.symm
    ·exact absurd (mem_map.2 ⟨a,ha,hn.trans e.symm⟩) hu'.1
   subst hba;rw[if_neg (by simpa using e)];cases hc:q.res.covers (Ai x.led.entries q.res.name) b.amt
   ·rw[if_neg (by simp)];rcases h2 hc with ⟨g1,g2⟩|⟨g1,g2,g3⟩
    ·rw[if_pos (by simp[g1])];exact decide_eq_true g2
    ·rw[if_neg (by simp[g1]),if_neg ?_]
     ·simp[g1,g2]
     ·intro hany;rw[List.any_eq_true]at hany;obtain⟨w,w1,w2⟩:=hany;rw[and_eq_true,decide_eq_true_eq]at w2;have:=g3 w w1 w2.1;simp[this]at w2
   ·rw[if_pos rfl];have hk:=h1 hc;have key:∀ {az:List Atom},(∀ c∈az,c.name≠q.res.name)→Cc q x az=true:=by
     intro az
     induction az with
     | nil=>intro _;simp[Cc,hk.1,hk.2]
     | cons c az ih =>
      intro hc';unfold Cc;rw[if_pos (by simpa using hc' c (by simp))];exact ih fun d hd=>hc' d (by simp[hd])
    exact key fun c hc' e'=>hu'.1 (mem_map.2 ⟨c,hc',e'.trans e.symm⟩)
  ·rw[if_pos (by simpa using e)];rcases mem_cons.1 ha with rfl|ha
   ·exact absurd hn e
   ·exact W3 hn h1 h2 hu'.2 ha
theorem US{q:Queue}{x:Pcs}(hk:KF q x.proc (Ai x.led.entries q.res.name)):∀ {az:List Atom},(∀ c∈az,c.name≠q.res.name)→Cc q x az=true
 |[],_=>by simp[Cc,hk.1,hk.2]
 | c::az,h=>by
  unfold Cc;rw[if_pos (by simpa using h c (by simp))];exact US hk fun d hd=>h d (by simp[hd])
theorem Sk{e:Option Nat}{w:Work}(h:VE e w):(w.procs.map (·.proc)).length≤8:=by rw[length_map];exact h.je.n
theorem Ws{e:Option Nat}{w:Work}(h:VE e w){p:Proc}(hp:p∈w.procs.map (·.proc))(hn:p∉Ar w.queues):(Ar w.queues).length<8:=by
 have:=CE (p::Ar w.queues) (w.procs.map (·.proc)) (nodup_cons.2 ⟨hn,IT _⟩) fun x hx=>by
  rcases mem_cons.1 hx with rfl|hx
  ·exact hp
  ·obtain⟨q,hq,hi⟩:=(C4 _ _).1 hx;exact h.known q hq x hi
 have h8:=Sk h;simp only[List.length_cons]at this;omega
theorem SW{q:Queue}(hs:Sound q){x:Hold}(hx:x∈q.holds):Ak q.holds x.proc=x.amt∧x.amt.zero=false:=by
 obtain⟨_,_,h3,h4,_⟩:=(CJ _ _).1 hs.holds;refine⟨?_,FN (h3 x hx).2⟩;unfold Ak;cases hf:q.holds.find? (fun h=>decide (h.proc=x.proc)) with
 |none =>
  rw[List.find?_eq_none]at hf;have:=hf x hx;simp at this
 |some y =>
  have hy:=List.mem_of_find?_eq_some hf;have hyp:y.proc=x.proc:=by simpa using List.find?_some hf
  have key:∀ a∈q.holds,∀ b∈q.holds,a.proc=b.proc→a=b:=fun a ha b hb e=>by
   obtain⟨i,hi⟩:=List.getElem?_of_mem ha;obtain⟨j,hj⟩:=List.getElem?_of_mem hb;rcases Nat.lt_trichotomy i j with hlt|rfl|hlt
   ·have:=List.pairwise_iff_getElem.1 h4 i j (Ae hi) (Ae hj) hlt;rw[get_eq hi,get_eq hj,e,BT]at this;omega
   ·rw[hi]at hj;exact Option.some.inj hj
   ·have:=List.pairwise_iff_getElem.1 h4 j i (Ae hj) (Ae hi) hlt;rw[get_eq hi,get_eq hj,e,BT]at this;omega
  have:y=x:=key y hy x hx hyp;rw[this]
theorem Wr{e:Option Nat}{w:Work}(h:VE e w){p:Proc}(hp:p∈w.procs.map (·.proc)){q:Queue}(hq:q∈w.queues)(hw:Aj q p=none)(hz:(Ak q.holds p).zero=true):q.holds.length+q.waits.length<8:=by
 have hs:=((Bm q).1 (h.je.tab.val q hq)).1;obtain⟨_,_,h3,h4,_⟩:=(CJ _ _).1 hs.holds;obtain⟨a,b,c⟩:=(A8 q).1 hs.waits;rw[B7]at a;have h1:(q.holds.map (·.proc)).Nodup:=by
  unfold List.Nodup;rw[List.pairwise_map];exact h4.imp fun {x y} hxy e=>by rw[e,BT]at hxy;omega
 have h2:(q.waits.map (·.proc)).Nodup:=Hf.1 a.2.1;have hpH:p∉q.holds.map (·.proc):=fun hm=>by
  obtain⟨x,hx,rfl⟩:=mem_map.1 hm;obtain⟨g1,g2⟩:=SW hs hx;rw[g1,g2]at hz;cases hz
 have hpW:p∉q.waits.map (·.proc):=fun hm=>by
  obtain⟨x,hx,hxp⟩:=mem_map.1 hm;exact EF.1 hw x (by simp[hx]) hxp
 have hnd:(p::(q.holds.map (·.proc)++q.waits.map (·.proc))).Nodup:=by
  refine nodup_cons.2 ⟨fun hm=>(List.mem_append.1 hm).elim hpH hpW,?_⟩;rw[List.nodup_append];refine⟨h1,h2,fun x hx y hy e=>?_⟩;obtain⟨u,hu,rfl⟩:=mem_map.1 hx;obtain⟨v,hv,rfl⟩:=mem_map.1 hy;obtain⟨g1,g2⟩:=SW hs hu;have:=(c v hv).2;rw[← e,g1,g2]at this;cases this
 have:=CE _ (w.procs.map (·.proc)) hnd fun x hx=>by
  rcases mem_cons.1 hx with rfl|hx
  ·exact hp
  ·rcases List.mem_append.1 hx with hx|hx
   ·obtain⟨u,hu,rfl⟩:=mem_map.1 hx;exact h.known q hq _ (.inl ⟨u,hu,rfl⟩)
   ·obtain⟨u,hu,rfl⟩:=mem_map.1 hx;exact h.known q hq _ (.inr (.inr ⟨u,hu,rfl⟩))
 have h8:=Sk h;simp only[List.length_cons,List.length_append,length_map]at this h8;omega
structure Sw(t0:List Queue)(i:Nat)(y:Pcs)(w:Work)(az:List Atom):Prop where
 ve:VE (some i) w
 at_:w.procs[i]?=some y
 rsv:BY (B6 w.queues) y.req.expr=0
 sub:∀ a∈az,a∈Ad y.req.expr
 uq:(az.map (·.name)).Nodup
 todo:∀ q∈w.queues,(∃ a∈az,a.name=q.res.name)→KF q y.proc (Ai y.led.entries q.res.name)
 done:∀ q∈w.queues,(¬ ∃ a∈az,a.name=q.res.name)→Cc q y (Ad y.req.expr)=true
 tr:Cj y.proc t0 w.queues
theorem Xw{t:List Queue}{p:Proc}{a:Atom}{prio:Int}{k:Nat}{q:Queue}(h:Ck t)(hf:By t a.name=some k)(hq:t[k]?=some q)(h8:p∉Ar t→(Ar t).length<8)(h0:(AJ q p a.amt prio).2.2=0):(Dp t p a prio).1=t.set k (AJ q p a.amt prio).1:=by
 have hg:t.getD k q0=q:=by simp[List.getD,hq]
 have hb:(decide ((Ar t).length=8)&&!Br (Ar t) p)=false:=by
  by_cases hm:p∈Ar t
  ·simp[Br,hm]
  ·have:=h8 hm;have:(Ar t).length≠8:=by omega
   simp[this]
 simp only[Dp,(Dx t).2 h,hf,hg,hb,h0];rfl
theorem Sw.step{t0:List Queue}{i:Nat}{y:Pcs}{w:Work}{a:Atom}{az:List Atom}(hy:y.proc.ok=true)(hpr:0≤y.req.prio∧y.req.prio≤7)(h:Sw t0 i y w (a::az)):Sw t0 i y (EG w y.proc a y.req.prio) az:=by
 have ht:=h.ve.je.tab;have ha:=h.sub a (by simp);obtain⟨k,q,f1,f2,f3,f4⟩:=Cq ht h.rsv ha;have hqm:=mG f2;have hu:=nodup_cons.1 (show (a.name::az.map (·.name)).Nodup from h.uq);have hnk:∀ n,n=a.name→¬ ∃ b∈az,b.name=n:=fun n e ⟨b,hb,hn⟩=>hu.1 (mem_map.2 ⟨b,hb,hn.trans e⟩)
 have hkf:=h.todo q hqm ⟨a,by simp,f3.symm⟩;have hpm:y.proc∈w.procs.map (·.proc):=mem_map.2 ⟨y,mG h.at_,rfl⟩;obtain⟨c1,c2,c3,c4⟩:=cA (p:=y.proc) (a:=a.amt) (prio:=y.req.prio) (ht.val q hqm) hy hpr f4 hkf.1 (Wr h.ve hpm hqm hkf.1);have h8:y.proc∉Ar w.queues→(Ar w.queues).length<8:=Ws h.ve hpm;have e1:(EG w y.proc a y.req.prio).queues=w.queues.set k (AJ q y.proc a.amt y.req.prio).1:=Xw ht f1 f2 h8 c1;have hst:=GK ht f2 c2;have hres:=hst.res;have hsT:EO y.proc w.queues (w.queues.set k (AJ q y.proc a.amt y.req.prio).1):=by
  refine LD ht f2 (Oy hkf.2 c1).1 ?_
  by_cases hm:y.proc∈Ar w.queues
  ·exact .inr (.inl hm)
  ·exact .inr (.inr (h8 hm))
 have hn1:(AJ q y.proc a.amt y.req.prio).1.res.name=a.name:=by rw[c2.res];exact f3
 have hmem:∀ q'∈w.queues.set k (AJ q y.proc a.amt y.req.prio).1,q'=(AJ q y.proc a.amt y.req.prio).1∨(q'∈w.queues∧q'.res.name≠a.name):=fun q' hq'=>by
  rcases Ct (q:=q) hq' with hh|⟨j,hj,hjq⟩
  ·exact .inl hh
  ·exact .inr ⟨mG hjq,fun e=>hj (DZ ht hjq f2 (e.trans f3.symm))⟩
 refine⟨h.ve.step h.at_ rfl rfl (by rw[e1];exact hsT) (by rw[e1];exact hst),h.at_,?_,fun b hb=>h.sub b (by simp[hb]),hu.2,?_,?_,?_⟩<;>rw[e1]
 ·unfold B6;rw[hres];exact h.rsv
 ·intro q' hq' hx;rcases hmem q' hq' with rfl|⟨h1,h2⟩
  ·exact absurd hx (hnk _ hn1)
  ·obtain⟨b,hb,hbn⟩:=hx;exact h.todo q' h1 ⟨b,by simp[hb],hbn⟩
 ·intro q' hq' hx;rcases hmem q' hq' with rfl|⟨h1,h2⟩
  ·rw[hkf.2]at c3 c4;refine W3 (a:=a) hn1.symm (fun hc=>?_) (fun hc=>?_) (EY _) ha
   ·rw[c2.res]at hc ⊢;rw[c3 hc];exact hkf
   ·rw[c2.res]at hc ⊢;exact c4 hc
  ·refine h.done q' h1 fun⟨b,hb,hbn⟩=>?_
   rcases mem_cons.1 hb with rfl|hb
   ·exact h2 hbn.symm
   ·exact hx ⟨b,hb,hbn⟩
 ·exact h.tr.trans hst
theorem Sw.all{t0:List Queue}{i:Nat}{y:Pcs}(hy:y.proc.ok=true)(hpr:0≤y.req.prio∧y.req.prio≤7):∀ (az:List Atom) {w:Work},Sw t0 i y w az→Sw t0 i y (Ce w y.proc y.req.prio az) []
 |[],_,h=>h
 |_::az,_,h=>Sw.all hy hpr az (h.step hy hpr)
theorem OA(p:Proc)(prio:Int):∀ (az:List Atom) (w:Work),(Ce w p prio az).now=w.now
 |[],_=>rfl
 | a::az,w=>OA p prio az (EG w p a prio)
theorem Ly(r:Req):Gd r=true↔A5 r.expr=true∧0≤r.prio∧r.prio≤7∧0≤r.limit∧r.limit≤1000:=by
 simp only[Gd,and_eq_true,decide_eq_true_eq];exact⟨fun⟨⟨⟨⟨a,b⟩,c⟩,d⟩,e⟩=>⟨a,b,c,d,e⟩,fun⟨a,b,c,d,e⟩=>⟨⟨⟨⟨a,b⟩,c⟩,d⟩,e⟩⟩
theorem Vx{w:Work}{i:Nat}{x:Pcs}{r:Req}(h:VE none w)(hx:w.procs[i]?=some x)(hw:x.waiting=false)(hr:Gd r=true)(hv:BY (B6 w.queues) r.expr=0) :
 VE none (JB w i x r)∧(JB w i x r).now=w.now∧(JB w i x r).procs=w.procs.set i (FR w.now x r)∧Cj x.proc w.queues (JB w i x r).queues:=by
 have hf:=h.fine i x hx (by simp);obtain⟨d1,d2,d3⟩:=hf.idle hw;obtain⟨o1,o2,o3,o4,o5,o6⟩:=(Eb x).1 hf.head;obtain⟨q1,q2,q3,q4,q5⟩:=(Ly r).1 hr;have hi:=Ae hx;have hy:(At w i (FR w.now x r)).procs[i]?=some (FR w.now x r):=by simp[At,hi]
 have h0:Sw w.queues i (FR w.now x r) (At w i (FR w.now x r)) (Ad r.expr):=by
  refine⟨(h.but i).set' hx rfl,hy,hv,fun a ha=>ha,EY _,fun q hq _=>d3 q hq,fun q hq hn=>?_,.refl h.je.tab⟩;exact US (x:=FR w.now x r) (d3 q hq) fun c hc e=>hn ⟨c,hc,e⟩
 have h1:=Sw.all (y:=FR w.now x r) o1 ⟨q2,q3⟩ _ h0;have hp:(JB w i x r).procs=w.procs.set i (FR w.now x r):=GN _ _ _ _;have hn:(JB w i x r).now=w.now:=OA _ _ _ _;have hq:JB w i x r=Ce (At w i (FR w.now x r)) (FR w.now x r).proc (FR w.now x r).req.prio (Ad r.expr):=rfl;rw[← hq]at h1;refine⟨?_,hn,hp,h1.tr⟩;have:=VE.set (y:=FR w.now x r) h1.ve h1.at_ rfl ⟨(Eb _).2 ⟨o1,o2,o3,o4,H7 _⟩,fun n hn'=>hf.fits.res h1.tr.res n hn',fun _=>?_,fun e=>by cases e⟩
 ·have e:At (JB w i x r) i (FR w.now x r)=JB w i x r:=by
   unfold At;rw[Jk h1.at_]
  rw[← e];exact this
 ·rw[hn];exact⟨hr,h1.rsv,h.now.1,Int.le_refl _,fun q hq'=>h1.done q hq' (by simp)⟩
def Gm(w:Work)(i:Nat)(x:Pcs):Work :=
 Bv { BS w (Bu w.queues x.proc).1 (Bu w.queues x.proc).2 with procs:=w.procs.eraseIdx i } 5 x.proc
def G0(w:Work)(i:Nat)(x:Pcs):Work:=AQ (Gm w i x)
theorem erase_eq{α:Type}{l:List α}{i:Nat}:l.take i++l.drop (i+1)=l.eraseIdx i:=by
 rw[List.eraseIdx_eq_take_drop_succ]
theorem WG(w:Work):wcount w≤w.procs.length:=List.countP_le_length
theorem f126_ok(Inv:Work→Prop)(hI:HR Inv)(w:Work)(i:Nat)(x:Pcs)(hx:w.procs[i]?=some x)(hp:w.procs.length≤8)(hf:CU w.queues)(hw:Inv (Gm w i x))(hrl:(Bu w.queues x.proc).2.length≤100000)(hev:w.evs.length≤500000):Ac C0 126 [.ptr 63 0,I i] [(63,w.c)] (.tup []) [(63,(G0 w i x).c)]:=by
 have hi:=Ae hx;refine Ac.mk' [33] (fn:=f126) (c:=f126.body.getD .skip) (by kernel_rfl) (by kernel_rfl) (by kernel_rfl) (by kernel_rfl) (by simp[f126]) (by simp[names]) ?_;unfold f126;simp(disch:=omega)only[go_sem,gm,hx];refine Aq 10 [([],[0]),([],[0]),([],[15]),([],[16]),([],[17]),([],[18]),([],[4]),([],[19,20]),([7],[21]),([7],[21])] fol ?_;simp(disch:=omega)only[go_sem]
 first|(refine Ab (f196_ok w.queues x.proc hf) ?_)|(refine Al (f196_ok w.queues x.proc hf) ?_)
 refine gO ?_;refine call2 ⟨⟨[(0,0),(1,1)],[(63,63)],[]⟩,[],[]⟩ (f184_ok w (Bu w.queues x.proc).1 (Bu w.queues x.proc).2 (by omega)) ?_;have e0:Gm w i x=Bv { BS w (Bu w.queues x.proc).1 (Bu w.queues x.proc).2 with procs:=w.procs.eraseIdx i } 5 x.proc:=rfl;have e1:(BS w (Bu w.queues x.proc).1 (Bu w.queues x.proc).2).evs.length=w.evs.length+(Bu w.queues x.proc).2.length:=by simp[BS]
 have e2:(BS w (Bu w.queues x.proc).1 (Bu w.queues x.proc).2).procs=w.procs:=rfl;rw[← e2]at e0 hx hi hp;generalize BS w (Bu w.queues x.proc).1 (Bu w.queues x.proc).2=w1 at e0 e1 e2 hx hi hp ⊢;refine gO ?_;have ht:(w1.procs.drop (i+1)).take (w1.procs.length-(i+1))=w1.procs.drop (i+1):=List.take_of_length_le (by simp);refine FV 17 [([],[0]),([],[0]),([1],[26]),([1,2],[27]),([1,2,3],[28]),([1,2,3,4],[29]),([],[1]),([],[1]),([1,2,3,4,5,6,7],[30,31,32]),([],[0]),([9],[34]),([9,10],[35]),([9,10,11],[36]),([9,10,11,12],[37]),([],[1]),([14],[39]),([9,10,11,12,13,14,15],[38,40]),([1,2,3,4,5,6,7,8,9,10,11,12,13,14,15,16],[]),([0,1,2,3,4,5,6,7,8,9,10,11,12,13,14,15,16,17],[]),([0,1,2,3,4,5,6,7,8,9,10,11,12,13,14,15,16,17,18],[]),([0,1,2,3,4,5,6,7,8,9,10,11,12,13,14,15,16,17,18,19],[]),([0,1,2,3,4,5,6,7,8,9,10,11,12,13,14,15,16,17,18,19,20],[])] [0] [([],[33,41,0,1,4],let o0:OT:=.done;let o1:OT:=.pick [(21,o0)];let o2:OT:=.pick [(20,o1)];let o3:OT:=.pick [(19,o2)];let o4:OT:=.pick [(18,o3)];let o5:OT:=.pick [(17,o4)];let o6:OT:=.pick [(0,o4)];let o7:OT:=.pick [(0,o5),(17,o6)];o7),([0],[33,41,25,0,1,4],let o0:OT:=.done;let o1:OT:=.pick [(21,o0)];let o2:OT:=.pick [(20,o1)];let o3:OT:=.pick [(19,o2)];let o4:OT:=.pick [(18,o3)];let o5:OT:=.pick [(17,o4)];o5)] fol (by kernel_rfl) ?_;simp(disch:=omega)only[go_sem,ht];have e4:({ w1 with procs:=w1.procs.eraseIdx i }:Work).evs.length+1≤4294967296:=by show w1.evs.length+1≤_;omega
 obtain⟨k1,k2,k3⟩:=hI.few _ hw;have k4:=WG (Gm w i x);have k5:(Gm w i x).evs.length=w1.evs.length+1:=by rw[e0];simp[Bv]
 repeat'(with_reducible refine And.intro ?_ ?_)
 all_goals
  refine call2 ⟨⟨[(2688,0),(1,1)],[(63,63)],[]⟩,[],[]⟩ (f182_ok { w1 with procs:=w1.procs.eraseIdx i } 5 x.proc e4) ?_ (hh:=?_);rotate_left
  ·simp(disch:=omega)only[go_sem];exact .sl (by rw[← List.map_append,erase_eq])
  rw[← e0];refine gO ?_;refine call2 ⟨⟨[(2688,0),(1,1)],[(63,63)],[]⟩,[],[]⟩ (f122_ok Inv hI (Gm w i x) hw (by omega)) ?_;refine gO ?_;refine B1 ⟨[(2688,0),(1,1)],[(63,63)],[]⟩ _ ?_ ?_
  ·exact gI
  ·simp(disch:=omega)only[go_sem,G0]
def Fg(l:List Pcs)(p:Proc):Nat→Nat
 | 0=>0
 | k+1=>if 0<AT (l.getD k x0).proc p then Fg l p k else k+1
theorem Vk(l:List Pcs)(p:Proc):∀ k,Fg l p k≤k
 | 0=>by simp[Fg]
 | k+1=>by
  simp only[Fg];split
  ·have:=Vk l p k;omega
  ·omega
def LG(p:Proc)(cost:Int):Pcs:=⟨p,cost,Cv,false,C6,0,0⟩
def Q5(l:List Pcs)(x:Pcs):List Pcs:=mid l (Fg l x.proc l.length) x
def D7(w:Work)(p:Proc)(cost:Int):Work × Int :=
 if !p.ok||(decide (cost<1)||decide (1000<cost)) then (w,1) else if 0≤CK w.procs p then (w,11) else if w.procs.length=8 then (w,4) else ({ w with procs:=Q5 w.procs (LG p cost) },0)
theorem f117_ok(w:Work)(p:Proc)(cost:Int)(hp:w.procs.length≤1000000):Ac C0 117 [.ptr 63 0,.agg p.c,I cost] [(63,w.c)] (I (D7 w p cost).2) [(63,(D7 w p cost).1.c)]:=by
 refine Ac.go f117 ?_;unfold f117;refine gO ?_;refine Ab (f105_ok p) ?_;cases h1:(!p.ok||(decide (cost<1)||decide (1000<cost)));rotate_left
 ·have ht:D7 w p cost=(w,1):=by simp only[D7,h1];rfl
  rw[ht];cases a1:p.ok
  ·simp(disch:=omega)only[go_sem,Bool.not_false];refine B1 ⟨[(0,0),(1,1)],[(63,63)],[]⟩ _ ?_ ?_
   ·exact gI
   ·exact gI
  cases a2:decide (cost<1)
  ·rw[a1,a2]at h1;simp only[Bool.not_true,Bool.false_or]at h1;simp(disch:=omega)only[go_sem,Bool.not_true,a2,h1];refine B1 ⟨[(0,0),(1,1)],[(63,63)],[]⟩ _ ?_ ?_
   ·exact gI
   ·exact gI
  ·simp(disch:=omega)only[go_sem,Bool.not_true,a2];refine B1 ⟨[(0,0),(1,1)],[(63,63)],[]⟩ _ ?_ ?_
   ·exact gI
   ·exact gI
 obtain⟨a1,a2,a3⟩:p.ok=true∧decide (cost<1)=false∧decide (1000<cost)=false:=by simpa using h1
 simp(disch:=omega)only[go_sem,a1,a2,a3,Bool.not_true];refine Aq 6 [([],[0]),([],[21]),([],[22]),([],[23]),([],[24]),([],[4])] fol ?_;refine gO ?_;refine Dq [0] (f69_ok w.procs p) gI rfl trivial ?_;refine gO ?_
 by_cases h2:0≤CK w.procs p
 ·have ht:D7 w p cost=(w,11):=by simp only[D7,h1,h2];rfl
  rw[ht];simp(disch:=omega)only[go_sem,eq_true h2,decide_true];refine B1 ⟨[(0,0),(1,1)],[(63,63)],[]⟩ _ ?_ ?_
  ·exact gI
  ·exact gI
 simp(disch:=omega)only[go_sem,eq_false h2,decide_false,length_map]
 by_cases h3:w.procs.length=8
 ·have ht:D7 w p cost=(w,4):=by simp only[D7,h1,h2,h3];rfl
  rw[ht];have h3':decide ((w.procs.length:Int)=8)=true:=by simp;omega
  have h3'':((w.procs.length:Int)==8)=true:=by simp;omega
  simp(disch:=omega)only[go_sem,h3',h3''];refine B1 ⟨[(0,0),(1,1)],[(63,63)],[]⟩ _ ?_ ?_
  ·exact gI
  ·exact gI
 have ht:D7 w p cost=({ w with procs:=Q5 w.procs (LG p cost) },0):=by
  simp only[D7,h1,h2,h3];rfl
 rw[ht];have h3':decide ((w.procs.length:Int)=8)=false:=by simp;omega
 have h3'':((w.procs.length:Int)==8)=false:=by simp;omega
 simp(disch:=omega)only[go_sem,h3',h3''];refine Aq 9 [([],[0]),([],[36]),([],[37]),([],[38]),([],[39]),([],[4]),([],[2]),([],[41,42]),([],[43])] fol ?_;refine gO ?_;obtain⟨x,hx⟩:∃ x,x=LG p cost:=⟨_,rfl⟩;have hxp:x.proc=p:=by rw[hx];rfl
 refine Aa (α:=Nat) (fun k=>⟨[(8,I k),(7,.sl (.own 2880 0) 16 ((mid w.procs k x).map Pcs.c)),(0,.ptr 63 0)],[(63,[I w.now,Ay w.queues,.undef,.sl (.own 1 0) 7 (w.evs.map Ev.c)])]⟩) (fun k=>k≤w.procs.length∧Fg w.procs p w.procs.length=Fg w.procs p k) (fun k=>k) w.procs.length ⟨Nat.le_refl _,rfl⟩ (Imp.weak ?_ ?_) ?_
 ·simp(disch:=omega)only[go_sem]
  all_goals(try(repeat'(with_reducible apply And.intro)))
  all_goals(first|exact .int (by omega)|skip)
  have em:mid w.procs w.procs.length x=w.procs++[x]:=by simp[mid]
  rw[em,List.map_append];refine .bf (Gs.append _ ?_);simp only[hx,LG,Cv,C6,e0,a0,Expr.k,Expr.atom,Expr.kids,List.map_cons,List.map_nil,Pcs.c,Gs,Jx,Vv];simp
 ·exact gI
 rintro k ⟨hk,hs⟩ J hJ;have fin:Fg w.procs p k=k→mid w.procs k x=Q5 w.procs (LG p cost):=fun hst=>by
  rw[← hx];unfold Q5;rw[hxp,hs,hst]
 refine Aq 14 [([],[8]),([],[49]),([],[50]),([],[7,51]),([],[8,51]),([],[53,51]),([],[52,54,51]),([],[55,51]),([],[56,51]),([],[7,51]),([],[8,51]),([],[58,59,51]),([],[60,51]),([],[61,51])] fol ?_;cases k with
 | zero =>
  have e0:(0<((0:Nat):Int))=False:=by simp
  simp(disch:=omega)only[go_sem,e0,decide_false];rw[fin rfl];refine B1 ⟨[(2880,0),(1,1)],[(63,63)],[]⟩ _ ?_ ?_
  ·exact gI
  ·exact gI
 | succ k =>
  have e0:(0<(((k+1:Nat)):Int))=True:=eq_true (by omega);have e1:(0<(k:Int)+1)=True:=eq_true (by omega);have e2:((k:Int)+1-1)=(k:Int):=by omega
  obtain⟨y,hy⟩:∃ y,w.procs[k]?=some y:=⟨_,gE (by omega)⟩;have g1:=WY w.procs (k+1) x hk;have g2:=UH w.procs k x hk;rw[hy]at g2;have hml:=S9 w.procs (k+1) x hk;have z1:k<(mid w.procs (k+1) x).length:=by omega
  have z2:k+1<(mid w.procs (k+1) x).length:=by omega
  simp(disch:=omega)only[go_sem,e0,e1,e2,gm,g1,g2,length_map,hml];refine Ab (f107_ok y.proc x.proc) ?_;rw[hxp];have e4:(k=k+1)=False:=eq_false (by omega);have e5:(k+1=k)=False:=eq_false (by omega);cases hc:decide (0<AT y.proc p)
  ·have hst:Fg w.procs p (k+1)=k+1:=by
    simp only[Fg,List.getD,hy,getD_some];rw[if_neg (by simpa using hc)]
   simp(disch:=omega)only[go_sem,hc];rw[fin hst];refine B1 ⟨[(2880,0),(1,1)],[(63,63)],[]⟩ _ ?_ ?_
   ·exact gI
   ·exact gI
  ·have hst:Fg w.procs p (k+1)=Fg w.procs p k:=by
    simp only[Fg,List.getD,hy,getD_some];rw[if_pos (by simpa using hc)]
   simp(disch:=omega)only[go_sem,hc,e2,gm,g1,g2,length_map,hml,List.length_set,List.getElem?_set,e4,e5];refine hJ _ k ⟨by omega,by rw[hs,hst]⟩ (by omega) (Imp.weak ?_ gI);refine gO ?_;refine .sl ?_;rw[← UI hy,map_set,map_set];rfl
def Gl(w:Work)(i:Nat)(x:Pcs)(name:Bs):Work :=
 let w1:=BS w (AO w.queues x.proc ⟨name,⟨0,0⟩⟩).1 (AO w.queues x.proc ⟨name,⟨0,0⟩⟩).2.1
 At w1 i (Bf { x with led:=(Fx x.led name).1 })
def DE(w:Work)(i:Nat)(x:Pcs)(name:Bs):Work × Int :=
 if x.waiting then (w,14) else if (Ai x.led.entries name).mode==0&&(Ai x.led.entries name).units==0 then (w,10) else (AQ (Gl w i x name),0)
theorem f123_ok(Inv:Work→Prop)(hI:HR Inv)(w:Work)(i:Nat)(x:Pcs)(name:Bs)(hx:w.procs[i]?=some x)(hf:CU w.queues)
 (hc:x.waiting=false→Inv (Gl w i x name)) (hp:w.procs.length≤8) (hev:w.evs.length≤500000) :
 Ac C0 123 [.ptr 63 0,I i,.v (.string (str name))] [(63,w.c)] (I (DE w i x name).2) [(63,(DE w i x name).1.c)]:=by
 have hi:=Ae hx;refine Ac.go f123 ?_;unfold f123;simp(disch:=omega)only[go_sem,gm,hx];cases h1:x.waiting;rotate_left
 ·have ht:DE w i x name=(w,14):=by simp[DE,h1]
  rw[ht];simp(disch:=omega)only[go_sem,h1];refine B1 ⟨[(0,0),(1,1)],[(63,63)],[]⟩ _ ?_ ?_
  ·exact gI
  ·exact gI
 have c2:=hc h1;simp(disch:=omega)only[go_sem,h1,gm,hx];refine Ab (f190_ok x.led.entries name) ?_;refine gO ?_;cases h2:((Ai x.led.entries name).mode==0&&(Ai x.led.entries name).units==0);rotate_left
 ·have ht:DE w i x name=(w,10):=by simp only[DE,h1,h2];rfl
  rw[ht];simp(disch:=omega)only[go_sem,h2];refine B1 ⟨[(0,0),(1,1)],[(63,63)],[]⟩ _ ?_ ?_
  ·exact gI
  ·exact gI
 have ht:DE w i x name=(AQ (Gl w i x name),0):=by simp only[DE,h1,h2];rfl
 rw[ht];simp(disch:=omega)only[go_sem,h2];have k3:=GF hf x.proc ⟨name,⟨0,0⟩⟩;refine Aq 23 [([],[0]),([],[34]),([],[35]),([],[36]),([],[37]),([],[0]),([],[39]),([],[40]),([],[41]),([],[42]),([],[1]),([],[43,44]),([],[45]),([],[46]),([],[2]),([],[48]),([],[38,47,49]),([16],[50]),([16],[33]),([16],[33]),([16],[33]),([16],[51]),([16],[52])] fol ?_;simp(disch:=omega)only[go_sem,gm,hx]
 first|(refine Ab (f192_ok w.queues x.proc ⟨name,⟨0,0⟩⟩ hf) ?_)|(refine Al (f192_ok w.queues x.proc ⟨name,⟨0,0⟩⟩ hf) ?_)
 refine gO ?_;refine call2 ⟨⟨[(0,0),(1,1)],[(63,63)],[]⟩,[],[]⟩ (f184_ok w (AO w.queues x.proc ⟨name,⟨0,0⟩⟩).1 (AO w.queues x.proc ⟨name,⟨0,0⟩⟩).2.1 (by omega)) ?_;have e1:Gl w i x name=At (BS w (AO w.queues x.proc ⟨name,⟨0,0⟩⟩).1 (AO w.queues x.proc ⟨name,⟨0,0⟩⟩).2.1) i (Bf { x with led:=(Fx x.led name).1 }):=rfl;have e2:(BS w (AO w.queues x.proc ⟨name,⟨0,0⟩⟩).1 (AO w.queues x.proc ⟨name,⟨0,0⟩⟩).2.1).procs=w.procs:=rfl;have e3:(BS w (AO w.queues x.proc ⟨name,⟨0,0⟩⟩).1 (AO w.queues x.proc ⟨name,⟨0,0⟩⟩).2.1).evs.length=w.evs.length+(AO w.queues x.proc ⟨name,⟨0,0⟩⟩).2.1.length:=by simp[BS]
 generalize BS w (AO w.queues x.proc ⟨name,⟨0,0⟩⟩).1 (AO w.queues x.proc ⟨name,⟨0,0⟩⟩).2.1=w1 at e1 e2 e3 ⊢;refine gO ?_;rw[← e2]at hx hi;refine DW (st':=⟨[(0,.ptr 63 0),(1,I i),(2,.v (.string (str name)))],[(63,w1.c)]⟩) AK ?_;refine PS 20 [([],[0]),([0],[59]),([0,1],[60]),([0,1,2],[61]),([0,1,2,3],[62]),([],[1]),([],[0]),([6],[65]),([6,7],[66]),([6,7,8],[67]),([6,7,8,9],[68]),([],[1]),([6,7,8,9,10,11],[69,70]),([6,7,8,9,10,11,12],[71]),([6,7,8,9,10,11,12,13],[72]),([],[2]),([6,7,8,9,10,11,12,13,14,15],[73,74]),([6,7,8,9,10,11,12,13,14,15,16],[75]),([6,7,8,9,10,11,12,13,14,15,16,17],[58]),([6,7,8,9,10,11,12,13,14,15,16,17],[58]),([0,1,2,3,4,5,6,7,8,9,10,11,12,13,14,15,16,17,18],[]),([0,1,2,3,4,5,6,7,8,9,10,11,12,13,14,15,16,17,18,20],[]),([0,1,2,3,4,5,6,7,8,9,10,11,12,13,14,15,16,17,18,20,21],[])] [19] [63,64,76,58,0,1,2] fol (by kernel_rfl) ?_;simp(disch:=omega)only[go_sem,gm,hx]
 first|(refine Ab (f193_ok x.led name) ?_)|(refine Al (f193_ok x.led name) ?_)
 simp(disch:=omega)only[go_sem,gm,hx];have hx5:(At w1 i { x with led:=(Fx x.led name).1 }).procs[i]?=some { x with led:=(Fx x.led name).1 }:=by simp[At,hi]
 refine call2 ⟨⟨[(0,0),(1,1)],[(63,63)],[]⟩,[],[]⟩ (f121_ok (At w1 i { x with led:=(Fx x.led name).1 }) i _ hx5) ?_ (hh:=?_);rotate_left
 ·simp only[At];refine gO ?_;exact .sl (by simp only[map_set,set_set];rfl)
 have e4:At (At w1 i { x with led:=(Fx x.led name).1 }) i (Bf { x with led:=(Fx x.led name).1 })=Gl w i x name:=by rw[e1];simp[At]
 rw[e4];have e5:(Gl w i x name).evs.length≤w.evs.length+101:=by rw[e1];simp only[At];omega
 have e6:=HO (Gl w i x name);have e7:=(hI.few _ c2).2.1;refine gO ?_;refine call2 ⟨⟨[(0,0),(1,1)],[(63,63)],[]⟩,[],[]⟩ (f122_ok Inv hI (Gl w i x name) c2 (by omega)) ?_;refine gO ?_;refine B1 ⟨[(0,0),(1,1)],[(63,63)],[]⟩ _ ?_ ?_
 ·exact gI
 ·exact gI
def Fv(w:Work)(p:Proc)(a:Atom):Work:=match By w.queues a.name with
 |none=>w
 |some k=>if decide (Ak (w.queues.getD k q0).holds p=a.amt) then w else BS w (AO w.queues p a).1 (AO w.queues p a).2.1
def B5(w:Work)(p:Proc)(az:List Atom):Work:=az.foldl (fun w a=>Fv w p a) w
theorem Kr{w:Work}{p:Proc}{az:List Atom}{i:Nat}{b:Atom}(hb:az[i]?=some b):B5 w p (az.take (i+1))=Fv (B5 w p (az.take i)) p b:=by
 simp[B5,List.take_add_one,hb,List.foldl_append]
theorem TP(w:Work)(p:Proc)(a:Atom):(Fv w p a).procs=w.procs:=by
 unfold Fv;split
 ·rfl
 ·split<;>rfl
theorem Fi(w:Work)(p:Proc):∀ az:List Atom,(B5 w p az).procs=w.procs
 |[]=>rfl
 | a::az=>by
  show (B5 (Fv w p a) p az).procs=w.procs;rw[Fi,TP]
def SA(w:Work)(p:Proc)(az:List Atom):Prop:=∀ i b,az[i]?=some b→CU (B5 w p (az.take i)).queues∧∃ k,By (B5 w p (az.take i)).queues b.name=some k
theorem Xq{w:Work}{p:Proc}{a:Atom}(h:CU w.queues):(Fv w p a).evs.length≤w.evs.length+101:=by
 have:=GF h p a;unfold Fv;split
 ·omega
 ·split
  ·omega
  ·simp only[BS,List.length_append];omega
theorem HU{w:Work}{p:Proc}{az:List Atom}(h:SA w p az):∀ i,i≤az.length→(B5 w p (az.take i)).evs.length≤w.evs.length+101*i
 | 0,_=>by simp[B5]
 | i+1,hi=>by
  obtain⟨b,hb⟩:∃ b,az[i]?=some b:=⟨_,gE (by omega)⟩;have h1:=HU h i (by omega);have h2:=Xq (p:=p) (a:=b) (h i b hb).1;rw[Kr hb];omega
def DL(w:Work)(i:Nat)(x:Pcs):Work:=if x.waiting then Au w i x else w
def Cl(x:Pcs):Pcs:=if x.waiting then A7 x else x
def EJ(x:Pcs)(l:Ledger):Pcs:={ x with led:=l }
def Kb(w:Work)(i:Nat)(x:Pcs)(label:Int):Work :=
 At (B5 (At (DL w i x) i (EJ (Cl x) (Bb x.led label).1)) (Cl x).proc (Bb x.led label).2.1) i (Bf (EJ (Cl x) (Bb x.led label).1))
def Dw(w:Work)(i:Nat)(x:Pcs)(label:Int):Work × Int :=
 if (Bb x.led label).2.2=0 then (AQ (Kb w i x label),0) else (w,(Bb x.led label).2.2)
theorem f125_ok(Inv:Work→Prop)(hI:HR Inv)(w:Work)(i:Nat)(x:Pcs)(label:Int)(hx:w.procs[i]?=some x)
 (hd:x.waiting=true→LZ w x (Ad x.req.expr))
 (hc:(Bb x.led label).2.2=0→SA (At (DL w i x) i (EJ (Cl x) (Bb x.led label).1)) (Cl x).proc (Bb x.led label).2.1∧Inv (Kb w i x label))
 (hl:(Bb x.led label).2.1.length≤1000) (hp:w.procs.length≤8) (hev:w.evs.length≤500000) :
 Ac C0 125 [.ptr 63 0,I i,I label] [(63,w.c)] (I (Dw w i x label).2) [(63,(Dw w i x label).1.c)]:=by
 have hi:=Ae hx;refine Ac.go f125 ?_;unfold f125;simp(disch:=omega)only[go_sem,gm,hx];refine Ab (f195_ok x.led label) ?_;refine gO ?_
 by_cases h1:(Bb x.led label).2.2=0
 rotate_left
 ·have ht:Dw w i x label=(w,(Bb x.led label).2.2):=by simp[Dw,h1]
  rw[ht];have h1':((Bb x.led label).2.2 !=0)=true:=by simpa using h1
  simp(disch:=omega)only[go_sem,h1'];refine B1 ⟨[(0,0),(1,1)],[(63,63)],[]⟩ _ ?_ ?_
  ·exact gI
  ·exact gI
 obtain⟨c1,c2⟩:=hc h1;have ht:Dw w i x label=(AQ (Kb w i x label),0):=by simp[Dw,h1]
 rw[ht];simp(disch:=omega)only[go_sem,h1,gm,hx];cases h2:x.waiting
 ·simp(disch:=omega)only[go_sem,h2];obtain⟨w3,hw3⟩:∃ w3,w3=DL w i x:=⟨_,rfl⟩;obtain⟨y,hy⟩:∃ y,y=Cl x:=⟨_,rfl⟩;have hx3:w3.procs[i]?=some y:=by rw[hw3,hy];simp[DL,Cl,h2,hx]
  have he3:w3.evs.length≤w.evs.length+1608:=by
   rw[hw3];simp only[DL,h2];simp
  have hi3:=Ae hx3;unfold Kb at c2 ⊢;rw[← hw3,← hy]at c1 c2 ⊢;have hww:w3=w:=by rw[hw3];simp[DL,h2]
  rw[← hww];have hyx:y=x:=by rw[hy];simp[Cl,h2]
  clear hw3 hy hd hc ht;subst hyx;generalize (Bb y.led label).2.1=az at c1 c2 hl ⊢;generalize (Bb y.led label).1=led at c1 c2 ⊢;refine Aq 7 [([],[0]),([],[54]),([],[55]),([],[56]),([],[57]),([],[1]),([],[7])] fol ?_;simp(disch:=omega)only[go_sem,gm,hx3];obtain⟨o,rfl⟩:∃ o,o=i:=⟨i,rfl⟩;have he4:(At w3 o (EJ y led)).evs.length=w3.evs.length:=rfl;have hx4:(At w3 o (EJ y led)).procs[o]?=some (EJ y led):=by simp[At,hi3]
  refine Aa (α:=Nat) (fun i=>⟨[(11,I i),(8,Bn az),(0,.ptr 63 0),(1,I o),(10,.ptr 640 0)],[(63,(B5 (At w3 o (EJ y led)) y.proc (az.take i)).c),(640,y.proc.c)]⟩) (fun i=>i≤az.length) (fun i=>az.length-i) 0 (Nat.zero_le _) ?_ ?_
  ·simp only[List.take_zero,B5,List.foldl_nil,At];exact Imp.weak gI (by simp(disch:=omega)only[go_sem];exact .sl (by simp only[map_set,set_set];rfl))
  generalize At w3 o (EJ y led)=w4 at c1 c2 he4 hx4 ⊢;clear hx3 hi3;intro i hi2 J hJ;refine gO ?_;refine ⟨fun hlt=>?_,fun hge=>?_⟩
  ·obtain⟨b,hb⟩:∃ b,az[i]?=some b:=⟨_,gE (by simp at hlt;omega)⟩;have hlt2:i<az.length:=Ae hb;obtain⟨g5,k,hk⟩:=c1 i b hb;have g1:=HU c1 i hi2;have g2:=GF g5 y.proc b;have g4:=Kr (w:=w4) (p:=y.proc) hb;generalize B5 w4 y.proc (az.take i)=w5 at g1 g2 g4 g5 hk ⊢;obtain⟨hk0,q,hq,_⟩:=CH hk;have hgq:w5.queues.getD k q0=q:=by simp[List.getD,hq]
   have g6:Fv w5 y.proc b=if decide (Ak q.holds y.proc=b.amt) then w5 else BS w5 (AO w5.queues y.proc b).1 (AO w5.queues y.proc b).2.1:=by unfold Fv;rw[hk];simp only[hgq]
   obtain⟨q1,q2,q3⟩:=Bw (g5.q q (mG hq));have hn5:=g5.n;refine Aq 25 [([],[0]),([],[69]),([],[70]),([],[71]),([],[72]),([],[0]),([],[74]),([],[75]),([],[76]),([],[77]),([],[8]),([],[11]),([],[79,80]),([],[81]),([],[82]),([],[78,83]),([15],[73,84]),([15],[85]),([],[10]),([15],[86,87]),([],[8]),([],[11]),([],[89,90]),([],[91]),([],[92])] fol ?_;simp(disch:=omega)only[go_sem,gm,hb]
   first|(refine Ab (I6 w5.queues b.name (by omega)) ?_)|(refine Al (I6 w5.queues b.name (by omega)) ?_)
   simp(disch:=omega)only[go_sem,hk,atI,gm,hq]
   first|(refine Ab (f163_ok q y.proc q1) ?_)|(refine Al (f163_ok q y.proc q1) ?_)
   simp(disch:=omega)only[go_sem,gm,hb];cases hH:decide (Ak q.holds y.proc=b.amt)
   ·rw[hH]at g6;simp only[Bool.false_eq_true,if_false]at g6;simp(disch:=omega)only[go_sem,hH,Bool.not_false];refine Aq 17 [([],[0]),([],[96]),([],[97]),([],[98]),([],[99]),([],[10]),([],[8]),([],[11]),([],[102,103]),([],[104]),([],[100,101,105]),([10],[106]),([10],[95]),([10],[95]),([10],[95]),([10],[107]),([10],[108])] fol ?_;simp(disch:=omega)only[go_sem,gm,hb]
    first|(refine Ab (f192_ok w5.queues y.proc b g5) ?_)|(refine Al (f192_ok w5.queues y.proc b g5) ?_)
    refine gO ?_;refine call2 ⟨⟨[(0,0),(1,1)],[(63,63)],[]⟩,[],[]⟩ (f184_ok w5 (AO w5.queues y.proc b).1 (AO w5.queues y.proc b).2.1 (by omega)) ?_;rw[← g6,← g4];refine gO ?_;exact hJ _ (i+1) (by omega) (by omega) AK
   ·rw[hH,if_pos rfl]at g6;simp(disch:=omega)only[go_sem,hH,Bool.not_true];refine hJ _ (i+1) (by omega) (by omega) (Imp.weak gI ?_);rw[g4,g6];simp(disch:=omega)only[go_sem]
  ·have hil:i=az.length:=by simp at hge;omega
   subst hil;rw[take_length];have g1:=HU c1 _ (Nat.le_refl _);rw[take_length]at g1;have g3:(B5 w4 y.proc az).procs[o]?=some (EJ y led):=by rw[Fi];exact hx4
   refine call2 ⟨⟨[(0,0),(1,1)],[(63,63)],[]⟩,[],[]⟩ (f121_ok (B5 w4 y.proc az) o (EJ y led) g3) ?_;have g7:(At (B5 w4 y.proc az) o (Bf (EJ y led))).evs.length=(B5 w4 y.proc az).evs.length:=rfl;generalize At (B5 w4 y.proc az) o (Bf (EJ y led))=w6 at c2 g7 ⊢;have k2:=(hI.few _ c2).2.1;have k4:=HO w6;refine gO ?_;refine call2 ⟨⟨[(0,0),(1,1)],[(63,63)],[]⟩,[],[]⟩ (f122_ok Inv hI w6 c2 (by omega)) ?_;refine gO ?_;refine B1 ⟨[(0,0),(1,1)],[(63,63)],[]⟩ _ ?_ ?_
   ·exact gI
   ·exact gI
 ·simp(disch:=omega)only[go_sem,h2];obtain⟨w3,hw3⟩:∃ w3,w3=DL w i x:=⟨_,rfl⟩;obtain⟨y,hy⟩:∃ y,y=Cl x:=⟨_,rfl⟩;have hx3:w3.procs[i]?=some y:=by rw[hw3,hy];simp[DL,Cl,h2,AZ,hi]
  have he3:w3.evs.length≤w.evs.length+1608:=by
   rw[hw3];simp only[DL,h2];have:=IV (i:=i) (hd h2);simpa using this
  have hi3:=Ae hx3;unfold Kb at c2 ⊢;rw[← hw3,← hy]at c1 c2 ⊢;refine call2 ⟨⟨[(0,0),(1,1)],[(63,63)],[]⟩,[],[]⟩ (f120_ok w i x hx (hd h2) (by omega)) ?_;rw[show Au w i x=w3 by rw[hw3];simp[DL,h2]];clear hw3 hy hd hc ht;generalize (Bb x.led label).2.1=az at c1 c2 hl ⊢;generalize (Bb x.led label).1=led at c1 c2 ⊢;simp(disch:=omega)only[go_sem,gm,hx3];refine Aq 7 [([],[0]),([],[54]),([],[55]),([],[56]),([],[57]),([],[1]),([],[7])] fol ?_;simp(disch:=omega)only[go_sem,gm,hx3];obtain⟨o,rfl⟩:∃ o,o=i:=⟨i,rfl⟩;have he4:(At w3 o (EJ y led)).evs.length=w3.evs.length:=rfl;have hx4:(At w3 o (EJ y led)).procs[o]?=some (EJ y led):=by simp[At,hi3]
  refine Aa (α:=Nat) (fun i=>⟨[(11,I i),(8,Bn az),(0,.ptr 63 0),(1,I o),(10,.ptr 640 0)],[(63,(B5 (At w3 o (EJ y led)) y.proc (az.take i)).c),(640,y.proc.c)]⟩) (fun i=>i≤az.length) (fun i=>az.length-i) 0 (Nat.zero_le _) ?_ ?_
  ·simp only[List.take_zero,B5,List.foldl_nil,At];exact Imp.weak gI (by simp(disch:=omega)only[go_sem];exact .sl (by simp only[map_set,set_set];rfl))
  generalize At w3 o (EJ y led)=w4 at c1 c2 he4 hx4 ⊢;clear hx3 hi3;intro i hi2 J hJ;refine gO ?_;refine ⟨fun hlt=>?_,fun hge=>?_⟩
  ·obtain⟨b,hb⟩:∃ b,az[i]?=some b:=⟨_,gE (by simp at hlt;omega)⟩;have hlt2:i<az.length:=Ae hb;obtain⟨g5,k,hk⟩:=c1 i b hb;have g1:=HU c1 i hi2;have g2:=GF g5 y.proc b;have g4:=Kr (w:=w4) (p:=y.proc) hb;generalize B5 w4 y.proc (az.take i)=w5 at g1 g2 g4 g5 hk ⊢;obtain⟨hk0,q,hq,_⟩:=CH hk;have hgq:w5.queues.getD k q0=q:=by simp[List.getD,hq]
   have g6:Fv w5 y.proc b=if decide (Ak q.holds y.proc=b.amt) then w5 else BS w5 (AO w5.queues y.proc b).1 (AO w5.queues y.proc b).2.1:=by unfold Fv;rw[hk];simp only[hgq]
   obtain⟨q1,q2,q3⟩:=Bw (g5.q q (mG hq));have hn5:=g5.n;refine Aq 25 [([],[0]),([],[69]),([],[70]),([],[71]),([],[72]),([],[0]),([],[74]),([],[75]),([],[76]),([],[77]),([],[8]),([],[11]),([],[79,80]),([],[81]),([],[82]),([],[78,83]),([15],[73,84]),([15],[85]),([],[10]),([15],[86,87]),([],[8]),([],[11]),([],[89,90]),([],[91]),([],[92])] fol ?_;simp(disch:=omega)only[go_sem,gm,hb]
   first|(refine Ab (I6 w5.queues b.name (by omega)) ?_)|(refine Al (I6 w5.queues b.name (by omega)) ?_)
   simp(disch:=omega)only[go_sem,hk,atI,gm,hq]
   first|(refine Ab (f163_ok q y.proc q1) ?_)|(refine Al (f163_ok q y.proc q1) ?_)
   simp(disch:=omega)only[go_sem,gm,hb];cases hH:decide (Ak q.holds y.proc=b.amt)
   ·rw[hH]at g6;simp only[Bool.false_eq_true,if_false]at g6;simp(disch:=omega)only[go_sem,hH,Bool.not_false];refine Aq 17 [([],[0]),([],[96]),([],[97]),([],[98]),([],[99]),([],[10]),([],[8]),([],[11]),([],[102,103]),([],[104]),([],[100,101,105]),([10],[106]),([10],[95]),([10],[95]),([10],[95]),([10],[107]),([10],[108])] fol ?_;simp(disch:=omega)only[go_sem,gm,hb]
    first|(refine Ab (f192_ok w5.queues y.proc b g5) ?_)|(refine Al (f192_ok w5.queues y.proc b g5) ?_)
    refine gO ?_;refine call2 ⟨⟨[(0,0),(1,1)],[(63,63)],[]⟩,[],[]⟩ (f184_ok w5 (AO w5.queues y.proc b).1 (AO w5.queues y.proc b).2.1 (by omega)) ?_;rw[← g6,← g4];refine gO ?_;exact hJ _ (i+1) (by omega) (by omega) AK
   ·rw[hH,if_pos rfl]at g6;simp(disch:=omega)only[go_sem,hH,Bool.not_true];refine hJ _ (i+1) (by omega) (by omega) (Imp.weak gI ?_);rw[g4,g6];simp(disch:=omega)only[go_sem]
  ·have hil:i=az.length:=by simp at hge;omega
   subst hil;rw[take_length];have g1:=HU c1 _ (Nat.le_refl _);rw[take_length]at g1;have g3:(B5 w4 y.proc az).procs[o]?=some (EJ y led):=by rw[Fi];exact hx4
   refine call2 ⟨⟨[(0,0),(1,1)],[(63,63)],[]⟩,[],[]⟩ (f121_ok (B5 w4 y.proc az) o (EJ y led) g3) ?_;have g7:(At (B5 w4 y.proc az) o (Bf (EJ y led))).evs.length=(B5 w4 y.proc az).evs.length:=rfl;generalize At (B5 w4 y.proc az) o (Bf (EJ y led))=w6 at c2 g7 ⊢;have k2:=(hI.few _ c2).2.1;have k4:=HO w6;refine gO ?_;refine call2 ⟨⟨[(0,0),(1,1)],[(63,63)],[]⟩,[],[]⟩ (f122_ok Inv hI w6 c2 (by omega)) ?_;refine gO ?_;refine B1 ⟨[(0,0),(1,1)],[(63,63)],[]⟩ _ ?_ ?_
   ·exact gI
   ·exact gI
theorem Oq{x:Pcs}{a:Nat}(hv:AP x.led=true):∀ (az:List Atom) (w:Work),Ck w.queues→HP w.queues x→bK w.queues x a→(∀ b∈az,(∃ e∈x.led.entries,e.name=b.name)∧b.amt=Ai (x.led.entries.take a) b.name) →
 SA w x.proc az∧EO x.proc w.queues (B5 w x.proc az).queues
 |[],w,h,_,_,_=>⟨fun i b hb=>by simp at hb,.refl h⟩
 | b::az,w,h,hf,hr,hb=>by
  obtain⟨hb1,hb2⟩:=hb b (by simp);obtain⟨k,q,f1,f2,f3,f4⟩:=hf b.name hb1;have hg:w.queues.getD k q0=q:=by simp[List.getD,f2]
  obtain⟨r1,r2⟩:=hr q (mG f2);have key:EO x.proc w.queues (Fv w x.proc b).queues∧bK (Fv w x.proc b).queues x a:=by
   unfold Fv;simp only[f1,hg];split
   ·exact⟨.refl h,hr⟩
   ·rename_i hne;have hne:Ak q.holds x.proc≠b.amt:=by simpa using hne
    have hh:Ak q.holds x.proc=Ai x.led.entries b.name:=by
     rcases r2 with r2|r2
     ·rw[r2,f3]
     ·rw[f3,← hb2]at r2;exact absurd r2 hne
    obtain⟨q1,e1,hs,hqr,g1,g2⟩:=G6 (a:=b) h f1 f2 r1 (by rw[hh];exact FN f4) (by rw[hh,hb2];exact NR f4 (NU hv b.name a));simp only[BS];rw[e1];refine⟨hs,fun q' hq'=>?_⟩;rcases Ct (q:=q) hq' with rfl|⟨j,_,hj⟩
    ·exact⟨g1,.inr (by rw[g2,hb2,hqr,f3])⟩
    ·exact hr q' (mG hj)
  obtain⟨g1,g2⟩:=Oq hv az (Fv w x.proc b) key.1.tab (hf.res key.1.res) key.2 fun c hc=>hb c (by simp[hc])
  refine⟨fun i c hc=>?_,key.1.trans g2⟩;cases i with
  | zero =>
   simp at hc;subst hc;exact⟨Cm h,k,f1⟩
  | succ i=>exact g1 i c (by simpa using hc)
theorem Ro(x:Pcs):(Cl x).proc=x.proc∧(Cl x).waiting=false∧(Cl x).led=x.led:=by
 unfold Cl;cases hw:x.waiting
 ·exact⟨rfl,hw,rfl⟩
 ·exact⟨rfl,rfl,rfl⟩
theorem Z8{l:Ledger}{label:Int}(h:(Bb l label).2.2=0):AP l=true∧∃ a n,(Bb l label).2.1=IK l a∧(Bb l label).1=MI l a n:=by
 unfold Bb at h ⊢;split at h
 ·simp at h
 ·rename_i hv;refine⟨by simpa using hv,?_⟩;cases hb:Ka l label with
  |none=>rw[hb]at h;simp at h
  |some p=>obtain⟨a,n⟩:=p;exact⟨a,n,by simp[hv],by simp[hv]⟩
theorem Rl{w:Work}{i:Nat}{x:Pcs}{label:Int}(h:JE none w)(hx:w.procs[i]?=some x)(hf:HP w.queues x)(hi:x.waiting=false→Idle w.queues x)(hpt:x.waiting=true→∀ q∈w.queues,(∀ a∈Ad x.req.expr,q.res.name≠a.name)→KF q x.proc (Ai x.led.entries q.res.name))
 (h0:(Bb x.led label).2.2=0):SA (At (DL w i x) i (EJ (Cl x) (Bb x.led label).1)) (Cl x).proc (Bb x.led label).2.1∧JE none (Kb w i x label):=by
 obtain⟨hv,a,n,e1,e2⟩:=Z8 h0;obtain⟨p1,p2,p3⟩:=Ro x;have hli:=Ae hx;have hcalm:JE none (DL w i x)∧(DL w i x).procs[i]?=some (Cl x)∧(∀ q∈(DL w i x).queues,KF q x.proc (Ai x.led.entries q.res.name))∧(DL w i x).queues.map (·.res)=w.queues.map (·.res):=by
  unfold DL Cl;cases hw:x.waiting
  ·exact⟨h,hx,hi hw,rfl⟩
  ·simp only[if_true];obtain⟨_,g1,g2⟩:=DK h hx hw;have hg:=h.good i x hx (by simp) hw;have hres:=(Ky (Ad x.req.expr) w h.tab hg.k hg.fd).2.1.res;refine⟨g1,by rw[AZ];simp[hli],fun q hq=>?_,hres⟩;rcases g2 q hq with g|⟨g,gn⟩
   ·exact g
   ·exact hpt hw q g gn
 obtain⟨c1,c2,c3,c4⟩:=hcalm;obtain⟨w1,hw1⟩:∃ w1,w1=At (DL w i x) i (EJ (Cl x) (Bb x.led label).1):=⟨_,rfl⟩;have d1:JE (some i) w1:=by rw[hw1];exact(c1.but i).set' c2 rfl
 have d2:w1.queues=(DL w i x).queues:=by rw[hw1];rfl
 have d3:w1.procs[i]?=some (EJ (Cl x) (Bb x.led label).1):=by rw[hw1];simp[At,Ae c2]
 obtain⟨g1,g2⟩:=Oq (a:=a) hv (IK x.led a) w1 d1.tab (by rw[d2];exact hf.res c4) (fun q hq=>by
  rw[d2]at hq;exact⟨(c3 q hq).1,.inl (c3 q hq).2⟩) (fun b hb=>by
  simp only[IK,mem_map]at hb;obtain⟨m,hm,rfl⟩:=hb;obtain⟨e,he,hn⟩:=(DI _ _).1 hm;exact⟨⟨e,List.mem_of_mem_drop he,hn⟩,rfl⟩)
 unfold Kb;rw[← hw1,p1,e1];refine⟨g1,?_⟩;have d4:(EJ (Cl x) (Bb x.led label).1).proc=x.proc:=p1;exact JE.set (z:=EJ (Cl x) (Bb x.led label).1) (d1.step d3 (Fi _ _ _) (d4▸g2)) (by rw[Fi];exact d3) rfl (fun e=>by simp[Bf,EJ,p2]at e)
theorem P6{w:Work}{i:Nat}{x:Pcs}{name:Bs}(h:JE none w)(hx:w.procs[i]?=some x)(hw:x.waiting=false):QT (Gl w i x name):=by
 rcases Wa x.proc ⟨name,⟨0,0⟩⟩ h.tab with hl|hs
 ·refine .inr ⟨hl,by simpa [Gl,At,BS]using h.n,fun z hz hzw=>?_⟩;simp only[Gl,At,BS]at hz;rcases List.mem_or_eq_of_mem_set hz with hz|rfl
  ·exact h.reqs z hz hzw
  ·simp[Bf,hw]at hzw
 ·refine .inl ?_;unfold Gl;exact JE.set (w:=BS w (AO w.queues x.proc ⟨name,⟨0,0⟩⟩).1 (AO w.queues x.proc ⟨name,⟨0,0⟩⟩).2.1) ((h.but i).step hx rfl hs) hx rfl (fun e=>by simp[Bf,hw]at e)
def Ih(x:Pcs)(n:Int):Pcs:={ x with led:=(DM x.led n).1 }
def doI(w:Work)(k:Cmd)(i:Nat)(x:Pcs):Work × Int :=
 if k.kind=2 then CX w i x k.req
 else if k.kind=3 then (if x.waiting then (AQ (At (Au w i x) i (Bf (A7 x))),0) else (w,14))
 else if k.kind=4 then DE w i x k.name
 else if k.kind=5 then (if x.waiting then (w,14) else if (DM x.led k.n).2=0 then (At w i (Bf (Ih x k.n)),0) else (w,(DM x.led k.n).2))
 else if k.kind=6 then Dw w i x k.n
 else if k.kind=8 then (if x.waiting then (w,14) else (G0 w i x,0))
 else (G0 w i x,0)
def doW(w:Work)(k:Cmd):Work × Int :=
 if k.kind<1∨9<k.kind then (w,1) else if k.kind=1 then D7 w k.proc k.n else if k.kind=9 then He w k.n
 else match w.procs.findIdx? (fun x=>decide (x.proc=k.proc)) with
 |none=>(w,10)
 |some i=>doI w k i (w.procs.getD i x0)
theorem Lq{w:Work}{i:Nat}{x:Pcs}(h:JE none w)(hx:w.procs[i]?=some x):JE none (Gm w i x):=by
 have hs:=Tk x.proc h.tab;have hm:∀ (j:Nat) (y:Pcs),(w.procs.eraseIdx i)[j]?=some y→∃ j',w.procs[j']?=some y∧j'≠i∧j'=if j<i then j else j+1:=fun j y hj=>by
  rw[List.getElem?_eraseIdx]at hj;split at hj
  ·rename_i hlt;exact⟨j,hj,by omega,by simp[hlt]⟩
  ·rename_i hlt;exact⟨j+1,hj,by omega,by simp[hlt]⟩
 refine⟨hs.tab,?_,fun a b u v ha hb e=>?_,fun j y hj _ hw=>?_⟩
 ·simp only[Gm,Bv,BS,List.length_eraseIdx];have:=h.n;split<;>omega
 ·obtain⟨a',h1,_,h3⟩:=hm a u ha;obtain⟨b',k1,_,k3⟩:=hm b v hb;have:=h.uq a' b' u v h1 k1 e;rw[h3,k3]at this;split at this<;>split at this<;>omega
 ·obtain⟨j',h1,h2,_⟩:=hm j y hj;exact(h.good j' y h1 (by simp) hw).step hs fun e=>h2 (h.uq j' i y x h1 hx e)
theorem bA{t:List Queue}{p:Proc}(h:Ck t):(Bu t p).2.length≤100000:=by
 have e:(Bu t p).2=IE t p t.length:=by simp[Bu,(Dx t).2 h,IE]
 rw[e];have:=Oc (p:=p) (Cm h).q t.length (Nat.le_refl _);have:=h.n;omega
theorem Yx(l:Ledger)(label:Int):(Bb l label).2.1.length≤1000:=by
 unfold Bb;split
 ·simp
 ·rename_i hv;have hl:l.entries.length≤72:=by
   have:AP l=true:=by simpa using hv
   simp only[AP,and_eq_true,decide_eq_true_eq]at this;omega
  cases Ka l label with
  |none=>simp
  |some p =>
   obtain⟨a,n⟩:=p;simp only[IK,length_map];have:=Lv (l.entries.drop a);simp at this;omega
theorem RD{l:List Pcs}{p:Proc}{i:Nat}(h:l.findIdx? (fun x=>decide (x.proc=p))=some i):∃ x,l[i]?=some x:=by
 obtain⟨hi,_⟩:=List.findIdx?_eq_some_iff_getElem.1 h;exact⟨_,gE hi⟩
theorem f71_ok(w:Work)(k:Cmd)(h:Fit w):Ac C0 71 [.ptr 63 0,.agg k.c] [(63,w.c)] (I (doW w k).2) [(63,(doW w k).1.c)]:=by
 have hp:=h.je.n;have hf:=Cm h.je.tab;have hev:w.evs.length=0:=by rw[h.ev];rfl
 have hwc:=HO w;refine Ac.go f71 ?_;unfold f71;refine gO ?_
 by_cases h1:k.kind<1
 ·have ht:doW w k=(w,1):=by simp[doW,h1]
  rw[ht];simp(disch:=omega)only[go_sem,eq_true h1,decide_true];refine B1 ⟨[(0,0),(1,1)],[(63,63)],[]⟩ _ ?_ ?_
  ·exact gI
  ·exact gI
 by_cases h2:9<k.kind
 ·have ht:doW w k=(w,1):=by simp[doW,h2]
  rw[ht];simp(disch:=omega)only[go_sem,eq_false h1,eq_true h2,decide_true,decide_false];refine B1 ⟨[(0,0),(1,1)],[(63,63)],[]⟩ _ ?_ ?_
  ·exact gI
  ·exact gI
 simp(disch:=omega)only[go_sem,eq_false h1,eq_false h2,decide_false]
 by_cases h3:k.kind=1
 ·have ht:doW w k=D7 w k.proc k.n:=by simp[doW,h3]
  rw[ht];simp(disch:=omega)only[go_sem,h3];refine call2 ⟨⟨[(0,0),(1,1)],[(63,63)],[]⟩,[],[]⟩ (f117_ok w k.proc k.n (by omega)) ?_;refine gO ?_;refine B1 ⟨[(0,0),(1,1)],[(63,63)],[]⟩ _ ?_ ?_
  ·exact gI
  ·exact gI
 have h3':(k.kind==1)=false:=by simpa using h3
 simp(disch:=omega)only[go_sem,h3']
 by_cases h4:k.kind=9
 ·have ht:doW w k=He w k.n:=by simp[doW,h4]
  rw[ht];simp(disch:=omega)only[go_sem,h4];refine call2 ⟨⟨[(0,0),(1,1)],[(63,63)],[]⟩,[],[]⟩ (f118_ok (JE none) JE.bT w k.n (fun t=>⟨h.je.tab,h.je.n,h.je.uq,h.je.good⟩) h.now.1 (by omega)) ?_;refine gO ?_;refine B1 ⟨[(0,0),(1,1)],[(63,63)],[]⟩ _ ?_ ?_
  ·exact gI
  ·exact gI
 have h4':(k.kind==9)=false:=by simpa using h4
 simp(disch:=omega)only[go_sem,h4'];refine Aq 7 [([],[0]),([],[33]),([],[34]),([],[35]),([],[36]),([],[3]),([],[38])] fol ?_;refine gO ?_;refine Dq [0] (f69_ok w.procs k.proc) gI rfl trivial ?_;cases hfi:w.procs.findIdx? (fun x=>decide (x.proc=k.proc)) with
 |none =>
  have ht:doW w k=(w,10):=by simp[doW,h1,h2,h3,h4,hfi]
  have hix:CK w.procs k.proc = -1:=by simp[CK,hfi]
  rw[ht];simp(disch:=omega)only[go_sem,hix];refine B1 ⟨[(0,0),(1,1)],[(63,63)],[]⟩ _ ?_ ?_
  ·exact gI
  ·exact gI
 |some i =>
 obtain⟨x,hx⟩:=RD hfi;have hxm:=mG hx;have hi:=Ae hx;have hix:CK w.procs k.proc=i:=by simp[CK,hfi]
 have ht:doW w k=doI w k i x:=by simp[doW,h1,h2,h3,h4,hfi,List.getD,hx]
 rw[ht];simp(disch:=omega)only[go_sem,hix,eq_false (show ¬ (i:Int)<0 by omega),decide_false,gm,hx]
 by_cases k2:k.kind=2
 ·have ht2:doI w k i x=CX w i x k.req:=by simp[doI,k2]
  rw[ht2];simp(disch:=omega)only[go_sem,k2];refine call2 ⟨⟨[(0,0),(1,1)],[(63,63)],[]⟩,[],[]⟩ (f119_ok QT QT.EM w i x k.req hx hf (fun a1 a2 a3=>by
   refine TM h.je hx (h.idle x hxm a1) (by simp only[Gd,and_eq_true]at a2;exact a2.1.1.1.1) (fun a ha=>?_);obtain⟨n,_,hn,_⟩:=Cq h.je.tab a3 ha;exact⟨n,hn⟩) hp (by omega)) ?_
  refine gO ?_;refine B1 ⟨[(0,0),(1,1)],[(63,63)],[]⟩ _ ?_ ?_
  ·exact gI
  ·exact gI
 have k2':(k.kind==2)=false:=by simpa using k2
 simp(disch:=omega)only[go_sem,k2']
 by_cases k3:k.kind=3
 ·simp(disch:=omega)only[go_sem,k3];cases hw:x.waiting
  ·have ht2:doI w k i x=(w,14):=by simp[doI,k3,hw]
   rw[ht2];simp(disch:=omega)only[go_sem,hw];refine B1 ⟨[(0,0),(1,1)],[(63,63)],[]⟩ _ ?_ ?_
   ·exact gI
   ·exact gI
  have ht2:doI w k i x=(AQ (At (Au w i x) i (Bf (A7 x))),0):=by simp[doI,k3,hw]
  rw[ht2];obtain⟨s1,s2,_⟩:=DK h.je hx hw;have hx1:(Au w i x).procs[i]?=some (A7 x):=by rw[AZ];simp[hi]
  have s3:=s2.next hx1;have s4:=IV (i:=i) s1;have s5:(At (Au w i x) i (Bf (A7 x))).evs.length=(Au w i x).evs.length:=rfl;have s6:=HO (At (Au w i x) i (Bf (A7 x)));have s7:=s3.n;simp(disch:=omega)only[go_sem,hw];refine call2 ⟨⟨[(0,0),(1,1)],[(63,63)],[]⟩,[],[]⟩ (f120_ok w i x hx s1 (by omega)) ?_;refine gO ?_;refine call2 ⟨⟨[(0,0),(1,1)],[(63,63)],[]⟩,[],[]⟩ (f121_ok (Au w i x) i (A7 x) hx1) ?_;refine gO ?_;refine call2 ⟨⟨[(0,0),(1,1)],[(63,63)],[]⟩,[],[]⟩ (f122_ok (JE none) JE.EM _ s3 (by omega)) ?_;refine gO ?_;refine B1 ⟨[(0,0),(1,1)],[(63,63)],[]⟩ _ ?_ ?_
  ·exact gI
  ·exact gI
 have k3':(k.kind==3)=false:=by simpa using k3
 simp(disch:=omega)only[go_sem,k3']
 by_cases k4:k.kind=4
 ·have ht2:doI w k i x=DE w i x k.name:=by simp[doI,k4]
  rw[ht2];simp(disch:=omega)only[go_sem,k4];refine call2 ⟨⟨[(0,0),(1,1)],[(63,63)],[]⟩,[],[]⟩ (f123_ok QT QT.EM w i x k.name hx hf (fun a1=>P6 h.je hx a1) hp (by omega)) ?_;refine gO ?_;refine B1 ⟨[(0,0),(1,1)],[(63,63)],[]⟩ _ ?_ ?_
  ·exact gI
  ·exact gI
 have k4':(k.kind==4)=false:=by simpa using k4
 simp(disch:=omega)only[go_sem,k4']
 by_cases k5:k.kind=5
 ·simp(disch:=omega)only[go_sem,k5];cases hw:x.waiting;rotate_left
  ·have ht2:doI w k i x=(w,14):=by simp[doI,k5,hw]
   rw[ht2];simp(disch:=omega)only[go_sem,hw];refine B1 ⟨[(0,0),(1,1)],[(63,63)],[]⟩ _ ?_ ?_
   ·exact gI
   ·exact gI
  simp(disch:=omega)only[go_sem,hw];refine DW (st':=⟨[(5,I i),(3,.ptr 192 0),(0,.ptr 63 0)],[(192,k.c),(63,w.c)]⟩) (Imp.weak gI (by simp(disch:=omega)only[go_sem,k5])) ?_;refine FV 16 [([],[0]),([0],[84]),([0,1],[85]),([0,1,2],[86]),([0,1,2,3],[87]),([],[5]),([0,1,2,3,4,5],[88,89]),([0,1,2,3,4,5,6],[90]),([0,1,2,3,4,5,6,7],[91]),([],[3]),([9],[93]),([0,1,2,3,4,5,6,7,8,9,10],[92,94]),([0,1,2,3,4,5,6,7,8,9,10,11],[95]),([0,1,2,3,4,5,6,7,8,9,10,11,12],[83]),([0,1,2,3,4,5,6,7,8,9,10,11,12],[83]),([],[]),([0,1,2,3,4,5,6,7,8,9,10,11,12,13,15],[]),([0,1,2,3,4,5,6,7,8,9,10,11,12,13,14,15,16],[])] [14] [([],[83,7,96,5,3,0],let o0:OT:=.done;let o1:OT:=.pick [(17,o0)];let o2:OT:=.pick [(16,o1)];let o3:OT:=.pick [(14,o1)];let o4:OT:=.pick [(14,o2),(16,o3)];o4),([14],[7,96,97,5,3,0],let o0:OT:=.done;let o1:OT:=.pick [(17,o0)];let o2:OT:=.pick [(16,o1)];o2)] fol (by kernel_rfl) ?_;simp(disch:=omega)only[go_sem,gm,hx]
  first|(refine Ab (f124_ok x.led k.n) ?_)|(refine Al (f124_ok x.led k.n) ?_)
  have hs2:(DM x.led k.n).2≠0→doI w k i x=(w,(DM x.led k.n).2):=fun hne=>by simp[doI,k5,hw,hne]
  have hs3:(DM x.led k.n).2=0→doI w k i x=(At w i (Bf (Ih x k.n)),0):=fun he=>by simp[doI,k5,hw,he]
  have hx5:(At w i (Ih x k.n)).procs[i]?=some (Ih x k.n):=by simp[At,hi]
  have hs4:At (At w i (Ih x k.n)) i (Bf (Ih x k.n))=At w i (Bf (Ih x k.n)):=by simp[At]
  simp(disch:=omega)only[go_sem]
  repeat'(with_reducible refine And.intro ?_ ?_)
  all_goals intro hc
  all_goals first
   |(have hc':(DM x.led k.n).2≠0:=by simpa using hc
     rw[hs2 hc'];refine B1 ⟨[(0,0),(1,1)],[(63,63)],[]⟩ _ ?_ ?_
     ·exact gI
     ·exact gI
     done)
   | skip
  all_goals
   have hc':(DM x.led k.n).2=0:=by simpa using hc
   rw[hs3 hc'];refine DW (st':=⟨[(5,I i),(7,.ptr 448 0),(0,.ptr 63 0)],[(448,(DM x.led k.n).1.c),(63,w.c)]⟩) AK ?_;refine Aq 7 [([],[0]),([],[101]),([],[102]),([],[103]),([],[104]),([],[5]),([],[7])] fol ?_;simp(disch:=omega)only[go_sem,gm,hx,length_map];refine call2 ⟨⟨[(0,0),(1,1)],[(63,63)],[]⟩,[],[]⟩ (f121_ok (At w i (Ih x k.n)) i _ hx5) ?_ (hh:=?_);rotate_left
   ·simp(disch:=omega)only[go_sem,At,Ih];exact .sl (by simp only[map_set];rfl)
   rw[hs4];refine gO ?_;refine B1 ⟨[(0,0),(1,1)],[(63,63)],[]⟩ _ ?_ ?_
   ·exact gI
   ·exact gI
 have k5':(k.kind==5)=false:=by simpa using k5
 simp(disch:=omega)only[go_sem,k5']
 by_cases k6:k.kind=6
 ·have ht2:doI w k i x=Dw w i x k.n:=by simp[doI,k6]
  rw[ht2];simp(disch:=omega)only[go_sem,k6];refine call2 ⟨⟨[(0,0),(1,1)],[(63,63)],[]⟩,[],[]⟩ (f125_ok (JE none) JE.EM w i x k.n hx (fun a1=>(DK h.je hx a1).1) (fun a1=>Rl h.je hx (h.fits x hxm) (h.idle x hxm) (h.wait x hxm) a1) (Yx _ _) hp (by omega)) ?_;refine gO ?_;refine B1 ⟨[(0,0),(1,1)],[(63,63)],[]⟩ _ ?_ ?_
  ·exact gI
  ·exact gI
 have k6':(k.kind==6)=false:=by simpa using k6
 simp(disch:=omega)only[go_sem,k6'];have hga:=Lq h.je hx;have hrl:=bA (p:=x.proc) h.je.tab
 by_cases k8:k.kind=8
 ·simp(disch:=omega)only[go_sem,k8];cases hw:x.waiting;rotate_left
  ·have ht2:doI w k i x=(w,14):=by simp[doI,k8,hw]
   rw[ht2];simp(disch:=omega)only[go_sem,hw];refine B1 ⟨[(0,0),(1,1)],[(63,63)],[]⟩ _ ?_ ?_
   ·exact gI
   ·exact gI
  have ht2:doI w k i x=(G0 w i x,0):=by simp[doI,k8,hw]
  rw[ht2];simp(disch:=omega)only[go_sem,hw];refine call2 ⟨⟨[(0,0),(1,1)],[(63,63)],[]⟩,[],[]⟩ (f126_ok (JE none) JE.EM w i x hx hp hf hga hrl (by omega)) ?_;refine gO ?_;refine B1 ⟨[(0,0),(1,1)],[(63,63)],[]⟩ _ ?_ ?_
  ·exact gI
  ·exact gI
 have k8':(k.kind==8)=false:=by simpa using k8
 have k7:k.kind=7:=by omega
 have ht2:doI w k i x=(G0 w i x,0):=by simp[doI,k7]
 rw[ht2];simp(disch:=omega)only[go_sem,k8',k7];refine call2 ⟨⟨[(0,0),(1,1)],[(63,63)],[]⟩,[],[]⟩ (f126_ok (JE none) JE.EM w i x hx hp hf hga hrl (by omega)) ?_;refine gO ?_;refine B1 ⟨[(0,0),(1,1)],[(63,63)],[]⟩ _ ?_ ?_
 ·exact gI
 ·exact gI
end Go.Rd
