/- part 33 of the proof -/
import Derived.Test.YthachdiockkofaaGreatDoorS32
set_option linter.all false
open Go Go.Abs Go.Proofs
set_option maxRecDepth 100000
namespace Go.Rd
set_option maxHeartbeats 8000000
open List (all_eq_true length_map map_cons map_nil mem_append mem_cons mem_filterMap mem_map pairwise_iff_getElem pairwise_map set_set take_length)
open Bool (and_eq_true false_eq_true or_eq_true)
open Nat (lt_or_ge)
open Int (emod_lt_of_pos emod_nonneg)
open Tryz
theorem RN{l:List Entry}{n:Bs}(h:Ai l n≠⟨0,0⟩):∃ e∈l,e.name=n:=by
 by_cases hn:∃ e∈l,e.name=n
 ·exact hn
 ·exact absurd (Lr hn) h
theorem SS{w:Work}{i:Nat}{x:Pcs}{name:Bs}(h:VE none w)(hx:w.procs[i]?=some x)(hw:x.waiting=false)(hz:Ai x.led.entries name≠⟨0,0⟩) :
 VE none (Gl w i x name)∧(Gl w i x name).now=w.now∧(∃ y,(Gl w i x name).procs=w.procs.set i y∧y.proc=x.proc∧y.waiting=false)∧Cj x.proc w.queues (Gl w i x name).queues:=by
 have ht:=h.je.tab;have hf:=h.fine i x hx (by simp);obtain⟨d1,d2,d3⟩:=hf.idle hw;have hent:=RN hz;obtain⟨k,q,f1,f2,f3,f4⟩:=hf.fits name hent;have hqm:=mG f2;have hkf:=d3 q hqm;rw[f3]at hkf;have hv:=ht.val q hqm;have hnz:(Ak q.holds x.proc).zero=false:=by rw[hkf.2];exact FN f4
 have hc:q.res.covers (Ak q.holds x.proc) ⟨0,0⟩=true:=by rw[hkf.2];exact GW f4
 have e1:=N5 (a:=⟨name,⟨0,0⟩⟩) ht f1 f2 hkf.1 hnz hc;have hX:=Wb hv hnz hkf.1 hc;have hls:=G5 hv hnz hkf.1 hc;have hst:=GK ht f2 hX;have hsT:EO x.proc w.queues (w.queues.set k (AN q x.proc ⟨0,0⟩).1):=by
  obtain⟨q',e2,g,_⟩:=G6 (a:=⟨name,⟨0,0⟩⟩) ht f1 f2 hkf.1 hnz hc;rw[e1]at e2;rw[e2];exact g
 obtain⟨l1,l2⟩:=hf.led.drop hent;have hd:Gl w i x name=At (BS w (w.queues.set k (AN q x.proc ⟨0,0⟩).1) (AO w.queues x.proc ⟨name,⟨0,0⟩⟩).2.1) i (Bf { x with led:=(Fx x.led name).1 }):=by
  simp only[Gl,e1]
 rw[hd];refine⟨VE.set (w:=BS w (w.queues.set k (AN q x.proc ⟨0,0⟩).1) (AO w.queues x.proc ⟨name,⟨0,0⟩⟩).2.1) ((h.but i).step hx rfl rfl hsT hst) hx rfl (I8 hf.head rfl rfl l2 (H7 _) (fun n hn=>?_) hw d1 d2 fun q' hq'=>?_),rfl,⟨_,rfl,rfl,hw⟩,hst⟩
 ·have e:(Bf { x with led:=(Fx x.led name).1 }).led.entries=x.led.entries.filter (BP name):=l1;rw[e]at hn ⊢;obtain⟨b,hb,hbn⟩:=hn;rw[List.mem_filter]at hb;have hne:n≠name:=by
   rw[← hbn];simpa [BP]using hb.2
  rw[Me hne];exact hf.fits.res hst.res n ⟨b,hb.1,hbn⟩
 ·have e:(Bf { x with led:=(Fx x.led name).1 }).led.entries=x.led.entries.filter (BP name):=l1;rw[e];rcases Ct (q:=q) hq' with rfl|⟨j,hj,hjq⟩
  ·rw[hX.res,f3,VZ];exact⟨hls.2.2.1,hls.2.2.2⟩
  ·have hne:q'.res.name≠name:=fun e=>hj (DZ ht hjq f2 (e.trans f3.symm))
   rw[Me hne];exact d3 q' (mG hjq)
theorem P2{r:Res}{h a:Amt}(hf:r.fits h=true)(hg:Gr a h)(ha:usable a=true):r.fits a=true:=by
 have:=NR hf hg;simp only[Res.covers,Res.permits,and_eq_true,or_eq_true]at this;rcases this.1.2.2 with h1|h1
 ·exact absurd (zero_eq h1) (Jt ha)
 ·exact h1
structure Mu(t0:List Queue)(i:Nat)(x z:Pcs)(a:Nat)(w:Work)(az:List Atom):Prop where
 ve:VE (some i) w
 at_:w.procs[i]?=some z
 zp:z.proc=x.proc
 fits:HP w.queues x
 sub:∀ b∈az,(∃ e∈x.led.entries,e.name=b.name)∧b.amt=Ai (x.led.entries.take a) b.name
 todo:∀ q∈w.queues,(∃ b∈az,b.name=q.res.name)→KF q x.proc (Ai x.led.entries q.res.name)
 done:∀ q∈w.queues,(¬ ∃ b∈az,b.name=q.res.name)→KF q x.proc (Ai (x.led.entries.take a) q.res.name)
 uq:(az.map (·.name)).Nodup
 tr:Cj x.proc t0 w.queues
theorem Xr(w:Work)(p:Proc)(a:Atom):(Fv w p a).now=w.now:=by
 unfold Fv;split
 ·rfl
 ·split<;>rfl
theorem Mu.step{t0:List Queue}{i:Nat}{x z:Pcs}{a:Nat}{w:Work}{b:Atom}{az:List Atom}(hv:AP x.led=true)(h:Mu t0 i x z a w (b::az)):Mu t0 i x z a (Fv w x.proc b) az:=by
 have ht:=h.ve.je.tab;obtain⟨hb1,hb2⟩:=h.sub b (by simp);obtain⟨k,q,f1,f2,f3,f4⟩:=h.fits b.name hb1;have hg:w.queues.getD k q0=q:=by simp[List.getD,f2]
 have hqm:=mG f2;have hu:=List.nodup_cons.1 (show (b.name::az.map (·.name)).Nodup from h.uq);have hnk:∀ n,n=b.name→¬ ∃ c∈az,c.name=n:=fun n e ⟨c,hc,hn⟩=>hu.1 (mem_map.2 ⟨c,hc,hn.trans e⟩)
 have hkf:=h.todo q hqm ⟨b,by simp,f3.symm⟩;rw[f3]at hkf;have hqv:=ht.val q hqm
 by_cases hne:Ak q.holds x.proc=b.amt
 ·have e:Fv w x.proc b=w:=by
   unfold Fv;simp only[f1,hg];rw[if_pos (by simpa using hne)]
  rw[e];refine⟨h.ve,h.at_,h.zp,h.fits,fun c hc=>h.sub c (by simp[hc]),fun q' hq' ⟨c,hc,hcn⟩=>h.todo q' hq' ⟨c,by simp[hc],hcn⟩,fun q' hq' hx=>?_,hu.2,h.tr⟩
  by_cases e2:q'.res.name=b.name
  ·obtain⟨j,hj⟩:=List.getElem?_of_mem hq';have:=DZ ht hj f2 (e2.trans f3.symm);subst this;rw[f2]at hj;have:=Option.some.inj hj;subst this;rw[f3,← hb2];exact⟨hkf.1,hne⟩
  ·refine h.done q' hq' fun⟨c,hc,hcn⟩=>?_
   rcases mem_cons.1 hc with rfl|hc
   ·exact e2 hcn.symm
   ·exact hx ⟨c,hc,hcn⟩
 ·have hnz:(Ak q.holds x.proc).zero=false:=by rw[hkf.2];exact FN f4
  have hc:q.res.covers (Ak q.holds x.proc) b.amt=true:=by rw[hkf.2,hb2];exact NR f4 (NU hv b.name a)
  have e1:=N5 ht f1 f2 hkf.1 hnz hc;have hX:=Wb hqv hnz hkf.1 hc;have hls:=G5 hqv hnz hkf.1 hc;have hst:=GK ht f2 hX;have hsT:EO x.proc w.queues (w.queues.set k (AN q x.proc b.amt).1):=by
   obtain⟨q',e2,g,_⟩:=G6 ht f1 f2 hkf.1 hnz hc;rw[e1]at e2;rw[e2];exact g
  have e:Fv w x.proc b=BS w (w.queues.set k (AN q x.proc b.amt).1) (AO w.queues x.proc b).2.1:=by
   unfold Fv;simp only[f1,hg];rw[if_neg (by simpa using hne),e1]
  have hn1:(AN q x.proc b.amt).1.res.name=b.name:=by rw[hX.res];exact f3
  have hmem:∀ q'∈w.queues.set k (AN q x.proc b.amt).1,q'=(AN q x.proc b.amt).1∨(q'∈w.queues∧q'.res.name≠b.name):=fun q' hq'=>by
   rcases Ct (q:=q) hq' with hh|⟨j,hj,hjq⟩
   ·exact .inl hh
   ·exact .inr ⟨mG hjq,fun e=>hj (DZ ht hjq f2 (e.trans f3.symm))⟩
  rw[e];refine⟨h.ve.step h.at_ rfl rfl (by rw[h.zp];exact hsT) (by rw[h.zp];exact hst),h.at_,h.zp,h.fits.res hst.res,fun c hc=>h.sub c (by simp[hc]),fun q' hq' hx=>?_,fun q' hq' hx=>?_,hu.2,h.tr.trans hst⟩
  ·rcases hmem q' hq' with rfl|⟨h1,h2⟩
   ·exact absurd hx (hnk _ hn1)
   ·obtain⟨c,hc,hcn⟩:=hx;exact h.todo q' h1 ⟨c,by simp[hc],hcn⟩
  ·rcases hmem q' hq' with rfl|⟨h1,h2⟩
   ·rw[hn1,← hb2];exact⟨hls.2.2.1,hls.2.2.2⟩
   ·refine h.done q' h1 fun⟨c,hc,hcn⟩=>?_
    rcases mem_cons.1 hc with rfl|hc
    ·exact h2 hcn.symm
    ·exact hx ⟨c,hc,hcn⟩
theorem Mu.all{t0:List Queue}{i:Nat}{x z:Pcs}{a:Nat}(hv:AP x.led=true):∀ (az:List Atom) {w:Work},Mu t0 i x z a w az→Mu t0 i x z a (B5 w x.proc az) []∧(B5 w x.proc az).now=w.now
 |[],_,h=>⟨h,rfl⟩
 | b::az,w,h=>by
  obtain⟨g1,g2⟩:=Mu.all hv az (h.step hv);exact⟨g1,g2.trans (Xr _ _ _)⟩
theorem WA{l:Ledger}{label:Int}(h:(Bb l label).2.2=0):∃ a n,Ka l label=some (a,n)∧(Bb l label).2.1=IK l a∧(Bb l label).1=MI l a n:=by
 unfold Bb at h ⊢;split at h
 ·simp at h
 ·rename_i hv;cases hb:Ka l label with
  |none=>rw[hb]at h;simp at h
  |some p=>obtain⟨a,n⟩:=p;exact⟨a,n,rfl,by simp[hv],by simp[hv]⟩
theorem Zi{l:List Entry}{a:Nat}{n:Bs}(h:¬ ∃ e∈l.drop a,e.name=n):Ai (l.take a) n=Ai l n:=by
 have:∀ (m:List Entry) (v:Amt),(¬ ∃ e∈m,e.name=n)→m.foldl (fun a e=>if e.name==n then e.after else a) v=v:=by
  intro m
  induction m with
  | nil=>intro v _;rfl
  | cons e m ih =>
   intro v hn;rw[List.foldl_cons,if_neg (by simpa using fun e'=>hn ⟨e,by simp,e'⟩)];exact ih v fun⟨e',h1,h2⟩=>hn ⟨e',by simp[h1],h2⟩
 unfold Ai
 conv=>rhs;rw[← List.take_append_drop a l,List.foldl_append]
 exact(this _ _ h).symm
theorem SH{w:Work}{i:Nat}{x:Pcs}{label:Int}(h:VE none w)(hx:w.procs[i]?=some x)(h0:(Bb x.led label).2.2=0) :
 VE none (Kb w i x label)∧(Kb w i x label).now=w.now∧(∃ y,(Kb w i x label).procs=w.procs.set i y∧y.proc=x.proc∧y.waiting=false)∧Cj x.proc w.queues (Kb w i x label).queues:=by
 have hf:=h.fine i x hx (by simp);have hv:=(Eh _).2 hf.led;obtain⟨a,n,hb,e1,e2⟩:=WA h0;obtain⟨p1,p2,p3⟩:=Ro x;have hli:=Ae hx;have hcalm:VE none (DL w i x)∧(DL w i x).procs=w.procs.set i (Cl x)∧(DL w i x).now=w.now∧Idle (DL w i x).queues x∧Cj x.proc w.queues (DL w i x).queues∧Ra (Cl x).req=true∧(Cl x).since=0:=by
  unfold DL Cl;cases hw:x.waiting
  ·obtain⟨d1,d2,d3⟩:=hf.idle hw;exact⟨h,(Jk hx).symm,rfl,d3,.refl h.je.tab,d1,d2⟩
  ·simp only[if_true];obtain⟨g1,g2,g3,g4⟩:=F0 h hx hw;exact⟨g1,AZ _ _ _,g3,g4,g2,Tm,rfl⟩
 obtain⟨c1,c2,c3,c4,c5,c6,c7⟩:=hcalm;have c2':(DL w i x).procs[i]?=some (Cl x):=by rw[c2];exact List.getElem?_set_self hli
 have hS:Mu w.queues i x (EJ (Cl x) (Bb x.led label).1) a (At (DL w i x) i (EJ (Cl x) (Bb x.led label).1)) (IK x.led a):=by
  refine⟨(c1.but i).set' c2' rfl,by simp[At,Ae c2'],p1,hf.fits.res c5.res,fun b hb=>?_,fun q hq _=>c4 q hq,fun q hq hn=>?_,?_,c5⟩
  ·simp only[IK,mem_map]at hb;obtain⟨m,hm,rfl⟩:=hb;obtain⟨e,he,hn⟩:=(DI _ _).1 hm;exact⟨⟨e,List.mem_of_mem_drop he,hn⟩,rfl⟩
  ·rw[Zi]
   ·exact c4 q hq
   ·intro hd;refine hn ⟨⟨q.res.name,Ai (x.led.entries.take a) q.res.name⟩,?_,rfl⟩;exact mem_map.2 ⟨q.res.name,(DI _ _).2 hd,rfl⟩
  ·have:(IK x.led a).map (·.name)=BH (x.led.entries.drop a):=by simp[IK,Function.comp_def]
   rw[this];exact JW _
 obtain⟨g1,g2⟩:=Mu.all hv _ hS;have hp:(B5 (At (DL w i x) i (EJ (Cl x) (Bb x.led label).1)) x.proc (IK x.led a)).procs=w.procs.set i (EJ (Cl x) (Bb x.led label).1):=by
  rw[Fi];simp only[At,c2,set_set]
 obtain⟨o1,o2,o3,o4,o5,o6⟩:=(Eb x).1 hf.head;have hcost:(Cl x).cost=x.cost:=by unfold Cl;split<;>rfl
 unfold Kb;rw[p1,e1];refine⟨VE.set (z:=EJ (Cl x) (Bb x.led label).1) g1.ve g1.at_ rfl (I8 hf.head p1 hcost ?_ (H7 _) (fun m hm=>?_) p2 c6 c7 fun q hq=>?_),g2.trans c3,⟨Bf (EJ (Cl x) (Bb x.led label).1),?_,p1,p2⟩,g1.tr⟩
 ·show Fu (Bb x.led label).1;rw[e2];exact hf.led.cut hb
 ·have e:(Bf (EJ (Cl x) (Bb x.led label).1)).led.entries=x.led.entries.take a:=by
   show (Bb x.led label).1.entries=_;rw[e2];rfl
  rw[e]at hm ⊢;obtain⟨b,hbm,hbn⟩:=hm;obtain⟨k,q,k1,k2,k3,k4⟩:=g1.fits m ⟨b,List.mem_of_mem_take hbm,hbn⟩;refine⟨k,q,k1,k2,k3,P2 k4 (NU hv m a) ?_⟩
  by_cases ha:a≤x.led.entries.length
  ·exact Ls hv a ha ⟨b,hbm,hbn⟩
  ·have hu:=Ls hv (n:=m) x.led.entries.length (Nat.le_refl _) ⟨b,by rw[take_length];exact List.mem_of_mem_take hbm,hbn⟩;rw[List.take_of_length_le (by omega)];rw[take_length]at hu;exact hu
 ·have e:(Bf (EJ (Cl x) (Bb x.led label).1)).led.entries=x.led.entries.take a:=by
   show (Bb x.led label).1.entries=_;rw[e2];rfl
  rw[e];have:=g1.done q hq (by simp);rw[show (Bf (EJ (Cl x) (Bb x.led label).1)).proc=x.proc from p1];exact this
 ·show List.set (B5 (At (DL w i x) i (EJ (Cl x) (Bb x.led label).1)) x.proc (IK x.led a)).procs i _=_;rw[hp,set_set]
theorem cR{q:Queue}(hv:valid q=true){p:Proc}(h:inQ q p):LF q p=true:=by
 have hs:=((Bm q).1 hv).1;unfold LF;rw[or_eq_true];rcases h with ⟨x,hx,rfl⟩|⟨x,hx,hp⟩|⟨x,hx,hp⟩
 ·right;obtain⟨g1,g2⟩:=SW hs hx;rw[g1,g2];rfl
 ·left;exact Jv.2 ⟨x,by simp[hx],hp⟩
 ·left;exact Jv.2 ⟨x,by simp[hx],hp⟩
theorem ZN{q:Queue}(hv:valid q=true){p x:Proc}(h:inQ (BJ p q).1 x):inQ q x∧x≠p:=by
 have hin:=fE p hv;unfold BJ at h;cases hq:LF q p
 ·rw[hq]at h;simp only[false_eq_true,if_false]at h;exact⟨h,fun e=>by rw[e]at h;rw[cR hv h]at hq;cases hq⟩
 ·rw[hq]at h;simp only[if_true]at h;unfold E9 at h;simp only[hv,if_true]at h;split at h
  ·rw[NI]at h;exact(P9 q p x).1 h
  ·rcases h with ⟨_,hm,_⟩|⟨_,hm,_⟩|⟨_,hm,_⟩<;>simp[q0]at hm
theorem de{t:List Queue}(p:Proc)(h:Ck t):Cj p t (Bu t p).1∧∀ q∈(Bu t p).1,∀ x,inQ q x→x≠p:=by
 have e:(Bu t p).1=t.map fun q=>(BJ p q).1:=by simp[Bu,(Dx t).2 h]
 rw[e];refine⟨⟨by simp,fun k q hq=>⟨(BJ p q).1,by rw[gm,hq];rfl,fE p (h.val q (mG hq))⟩⟩,fun q hq x hx=>?_⟩;obtain⟨q',hq',rfl⟩:=mem_map.1 hq;exact(ZN (h.val q' hq') hx).2
theorem Rv{l:List Pcs}{i:Nat}{x:Pcs}{P:Proc→Prop}(hx:l[i]?=some x)(p:Proc)(hp:p∈l.map (·.proc))(hne:p≠x.proc):p∈(l.eraseIdx i).map (·.proc):=by
 obtain⟨z,hz,rfl⟩:=mem_map.1 hp;refine mem_map.2 ⟨z,?_,rfl⟩;obtain⟨j,hj⟩:=List.getElem?_of_mem hz;have hne':j≠i:=fun e=>by
  subst e;rw[hx]at hj;exact hne (by rw[← Option.some.inj hj])
 rw[List.eraseIdx_eq_take_drop_succ,mem_append];rcases lt_or_ge j i with hlt|hge
 ·exact .inl (mG (i:=j) (by rw[List.getElem?_take,if_pos hlt];exact hj))
 ·exact .inr (mG (i:=j-(i+1)) (by rw[List.getElem?_drop,show i+1+(j-(i+1))=j by omega];exact hj))
theorem Pk{w:Work}{i:Nat}{x:Pcs}(h:VE none w)(hx:w.procs[i]?=some x):VE none (Gm w i x)∧(Gm w i x).now=w.now∧Run [x.proc] w (Gm w i x)∧∀ y∈(Gm w i x).procs,y.proc≠x.proc:=by
 obtain⟨hX,hgone⟩:=de x.proc h.je.tab;have hsub:∀ (j:Nat) (y:Pcs),(w.procs.eraseIdx i)[j]?=some y→∃ j',w.procs[j']?=some y∧j'≠i:=fun j y hj=>by
  rw[List.getElem?_eraseIdx]at hj;split at hj
  ·rename_i hlt;exact⟨j,hj,by omega⟩
  ·rename_i hlt;exact⟨j+1,hj,by omega⟩
 have hneq:∀ y∈w.procs.eraseIdx i,y∈w.procs∧y.proc≠x.proc:=fun y hy=>by
  obtain⟨j,hj⟩:=List.getElem?_of_mem hy;obtain⟨j',h1,h2⟩:=hsub j y hj;exact⟨mG h1,fun e=>h2 (h.je.uq j' i y x h1 hx e)⟩
 refine⟨⟨Lq h.je hx,?_,fun q hq p hi=>?_,h.now,fun j y hj _=>?_⟩,rfl,⟨hX.off,fun z hz hn=>?_,fun z hz _=>(hneq z hz).1⟩,fun y hy=>(hneq y hy).2⟩
 ·show ((w.procs.eraseIdx i).map (·.proc)).Pairwise _;exact h.ord.sublist ((List.eraseIdx_sublist _ _).map _)
 ·obtain⟨q',hq',hs⟩:=hX.mem hq;have hne:=hgone q hq p hi;rcases hs.inp p hi with hi|rfl
  ·exact Rv (P:=fun _=>True) hx p (h.known q' hq' p hi) hne
  ·exact absurd rfl hne
 ·obtain⟨j',h1,h2⟩:=hsub j y hj;exact(h.fine j' y h1 (by simp)).step hX (hneq y (mG hj)).2
 ·have hne:z.proc≠x.proc:=by simpa using hn
  obtain⟨y,hy,_⟩:=mem_map.1 (Rv (P:=fun _=>True) hx z.proc (mem_map.2 ⟨z,hz,rfl⟩) hne);obtain⟨j,hj⟩:=List.getElem?_of_mem hz;have hne':j≠i:=fun e=>by
   subst e;rw[hx]at hj;exact hne (by rw[← Option.some.inj hj])
  show z∈w.procs.eraseIdx i;rw[List.eraseIdx_eq_take_drop_succ,mem_append];rcases lt_or_ge j i with hlt|hge
  ·exact .inl (mG (i:=j) (by rw[List.getElem?_take,if_pos hlt];exact hj))
  ·exact .inr (mG (i:=j-(i+1)) (by rw[List.getElem?_drop,show i+1+(j-(i+1))=j by omega];exact hj))
theorem bE{w:Work}{i:Nat}{x:Pcs}{n:Int}(h:VE none w)(hx:w.procs[i]?=some x)(hw:x.waiting=false)(h0:(DM x.led n).2=0):VE none (At w i (Bf (Ih x n))):=by
 have hf:=h.fine i x hx (by simp);obtain⟨d1,d2,d3⟩:=hf.idle hw;obtain⟨l1,l2⟩:=hf.led.save h0;refine(h.but i).set hx rfl (I8 hf.head rfl rfl l1 (H7 _) (fun m hm=>?_) hw d1 d2 fun q hq=>?_)
 ·have e:(Bf (Ih x n)).led.entries=x.led.entries:=l2;rw[e]at hm ⊢;exact hf.fits m hm
 ·have e:(Bf (Ih x n)).led.entries=x.led.entries:=l2;rw[e];exact d3 q hq
theorem aX:Fu Cv:=(Eh _).1 (by kernel_rfl)
theorem QM{l:List Pcs}{p:Proc}(ho:(l.map (·.proc)).Pairwise fun a b=>AT a b<0)(hn:p∉l.map (·.proc)):∀ k,k≤l.length→(∀ y∈l.drop k,AT p y.proc<0)→(∀ y∈l.take (Fg l p k),AT y.proc p<0)∧∀ y∈l.drop (Fg l p k),AT p y.proc<0
 | 0,_,h=>⟨fun y hy=>by simp[Fg]at hy,by simpa [Fg]using h⟩
 | k+1,hk,h=>by
  have hg:l.getD k x0=l[k]:=by simp[List.getD,gE (show k<l.length by omega)]
  have hs:=Cs l[k].proc p;simp only[Fg,hg];split
  ·rename_i hc;refine QM ho hn k (by omega) fun y hy=>?_
   rw[List.drop_eq_getElem_cons (by omega)]at hy;rcases mem_cons.1 hy with rfl|hy
   ·omega
   ·exact h y hy
  ·rename_i hc;refine⟨fun y hy=>?_,h⟩;have hkp:AT l[k].proc p<0:=by
    by_cases e:AT l[k].proc p=0
    ·exact absurd (mem_map.2 ⟨l[k],List.getElem_mem _,FM e⟩) hn
    ·omega
   rw[List.take_succ_eq_append_getElem (by omega)]at hy;rcases mem_append.1 hy with hy|hy
   ·obtain⟨j,hj,rfl⟩:=List.mem_iff_getElem.1 hy;simp only[List.length_take]at hj;rw[List.getElem_take];rw[pairwise_map]at ho;exact Cz (pairwise_iff_getElem.1 ho j k (by omega) (by omega) (by omega)) hkp
   ·rw[List.mem_singleton.1 hy];exact hkp
theorem Mg{l:List Pcs}{p:Proc}(h:¬ 0≤CK l p):p∉l.map (·.proc):=fun hm=>by
 obtain⟨x,hx,hp⟩:=mem_map.1 hm;apply h;unfold CK;cases hf:l.findIdx? (fun x=>decide (x.proc=p)) with
 |none =>
  rw[List.findIdx?_eq_none_iff]at hf;have:=hf x hx;simp[hp]at this
 |some i=>simp
theorem W2{w:Work}{p:Proc}{cost:Int}(h:VE none w)(h0:(D7 w p cost).2=0):VE none (D7 w p cost).1∧(D7 w p cost).1.now=w.now∧Run [p] w (D7 w p cost).1:=by
 revert h0;unfold D7;split
 ·intro h0;simp at h0
 rename_i h1;split
 ·intro h0;simp at h0
 rename_i h2;split
 ·intro h0;simp at h0
 rename_i h3;intro _;simp only[or_eq_true,Bool.not_eq_true',decide_eq_true_eq,not_or,Bool.not_eq_false]at h1;have hnm:=Mg h2;obtain⟨s1,s2⟩:=QM (p:=p) h.ord hnm w.procs.length (Nat.le_refl _) (by simp);have hmem:∀ y,y∈Q5 w.procs (LG p cost)↔y∈w.procs∨y=LG p cost:=fun y=>Ta _ _ _ _
 have hle:Fg w.procs p w.procs.length≤w.procs.length:=Vk _ _ _;have hlen:(Q5 w.procs (LG p cost)).length=w.procs.length+1:=by
  simp only[Q5,mid,List.length_append,List.length_cons,List.length_take,List.length_drop];show min (Fg w.procs p w.procs.length) w.procs.length+(w.procs.length-Fg w.procs p w.procs.length+1)=_;omega
 have hord:((Q5 w.procs (LG p cost)).map (·.proc)).Pairwise fun a b=>AT a b<0:=by
  have ho:=h.ord;rw[pairwise_map]at ho ⊢;show (w.procs.take (Fg w.procs p w.procs.length)++LG p cost::w.procs.drop (Fg w.procs p w.procs.length)).Pairwise _;rw[List.pairwise_append];refine⟨ho.sublist (List.take_sublist _ _),List.pairwise_cons.2 ⟨fun y hy=>s2 y hy,ho.sublist (List.drop_sublist _ _)⟩,fun a ha b hb=>?_⟩;rcases mem_cons.1 hb with rfl|hb
  ·exact s1 a ha
  ·exact Cz (s1 a ha) (s2 b hb)
 have hnew:Fine w.now w.queues (LG p cost):=by
  refine⟨(Eb _).2 ⟨h1.1,by show 1≤cost;omega,by show cost≤1000;omega,(Eh _).2 aX,(by show (0:Int)≤0;omega),(by show (0:Int)≤1073741824;omega)⟩,fun n ⟨e,he,_⟩=>by simp[LG,Cv]at he,fun e=>by(cases e),fun _=>⟨Tm,rfl,fun q hq=>?_⟩⟩;have hni:¬ inQ q p:=fun hi=>hnm (h.known q hq p hi)
  refine⟨?_,?_⟩
  ·show Aj q p=none;rw[EF];intro w hw e;rcases mem_append.1 hw with hw|hw
   ·exact hni (.inr (.inl ⟨w,hw,e⟩))
   ·exact hni (.inr (.inr ⟨w,hw,e⟩))
  ·show Ak q.holds p=⟨0,0⟩;cases hz:(Ak q.holds p).zero
   ·exact absurd (.inl (HG hz)) hni
   ·exact zero_eq hz
 have hfine:∀ y∈Q5 w.procs (LG p cost),Fine w.now w.queues y:=fun y hy=>by
  rcases(hmem y).1 hy with hy|rfl
  ·obtain⟨j,hj⟩:=List.getElem?_of_mem hy;exact h.fine j y hj (by simp)
  ·exact hnew
 refine⟨⟨⟨h.je.tab,?_,fun a b u v ha hb e=>?_,fun j y hj _ hw=>?_⟩,hord,fun q hq x hi=>?_,h.now,fun j y hj _=>hfine y (mG hj)⟩,rfl,⟨?_,fun z hz _=>(hmem z).2 (.inl hz),fun z hz hn=>?_⟩⟩
 ·show (Q5 w.procs (LG p cost)).length≤8;rw[hlen];have:=h.je.n;omega
 ·rw[pairwise_map]at hord;rcases Nat.lt_trichotomy a b with hlt|rfl|hlt
  ·have:=pairwise_iff_getElem.1 hord a b (Ae ha) (Ae hb) hlt;rw[get_eq ha,get_eq hb,e,BT]at this;omega
  ·rfl
  ·have:=pairwise_iff_getElem.1 hord b a (Ae hb) (Ae ha) hlt;rw[get_eq ha,get_eq hb,e,BT]at this;omega
 ·have hf:=hfine y (mG hj);refine⟨((Ly _).1 (hf.wait hw).1).1,fun a ha=>?_,hf.K h.je.tab⟩;obtain⟨k,_,hk,_⟩:=Cq h.je.tab (hf.wait hw).2.1 ha;exact⟨k,hk⟩
 ·obtain⟨z,hz,hzp⟩:=mem_map.1 (h.known q hq x hi);exact mem_map.2 ⟨z,(hmem z).2 (.inl hz),hzp⟩
 ·exact(Cj.refl (p:=p) h.je.tab).off
 ·rcases(hmem z).1 hz with hz|rfl
  ·exact hz
  ·simp[LG]at hn
def Ip:Cen:=⟨0,[],[]⟩
def doC(c:Cen)(k:Cmd):Cen × List Ev × Int :=
 if BD c then (if (doW ⟨c.now,c.queues,c.procs,[]⟩ k).2=0 then (⟨(doW ⟨c.now,c.queues,c.procs,[]⟩ k).1.now,(doW ⟨c.now,c.queues,c.procs,[]⟩ k).1.queues,(doW ⟨c.now,c.queues,c.procs,[]⟩ k).1.procs⟩,(doW ⟨c.now,c.queues,c.procs,[]⟩ k).1.evs,0) else (Ip,[],(doW ⟨c.now,c.queues,c.procs,[]⟩ k).2)) else (Ip,[],2)
theorem f30_ok(c:Cen)(k:Cmd)(h:CU c.queues):Ac C0 30 [.agg c.c,.agg k.c] [] (.tup [.agg (doC c k).1.c,T8 (doC c k).2.1,I (doC c k).2.2]) []:=by
 have hn:=h.n;refine Ac.go f30 ?_;unfold f30;refine gO ?_;refine Ab (f68_ok c h) ?_;cases hv:BD c
 ·have ht:doC c k=(Ip,[],2):=by simp[doC,hv]
  rw[ht];simp(disch:=omega)only[go_sem,Bool.not_false];refine B0 _ ?_;simp(disch:=omega)only[go_sem,Ip,map_nil];refine .tup (Ah.AE ?_);simp(disch:=omega)only[go_sem]
  repeat'(with_reducible apply And.intro)
  all_goals(first|exact .Az (by omega)|exact .agg (Ah.AE gI))
 have hfit:=F3 hv;have hpl:c.procs.length≤8:=hfit.je.n;obtain⟨w,hw⟩:∃ w:Work,w=⟨c.now,c.queues,c.procs,[]⟩:=⟨_,rfl⟩;have ht:doC c k=(if (doW w k).2=0 then (⟨(doW w k).1.now,(doW w k).1.queues,(doW w k).1.procs⟩,(doW w k).1.evs,0) else (Ip,[],(doW w k).2)):=by simp only[doC,hv,if_true,hw]
 rw[← hw]at hfit;simp(disch:=omega)only[go_sem,Bool.not_true];refine Be ⟨⟨[],[],[]⟩,[(0,896)],[]⟩ (f70_ok c (by omega) (by omega)) gI rfl gI (.inl rfl) ?_;refine gO ?_;refine Be ⟨⟨[(896,0)],[(1024,63)],[]⟩,[(1,1216)],[]⟩ (f71_ok w k hfit) gI rfl ?_ (.inl rfl) ?_
 ·rw[hw];simp(disch:=omega)only[go_sem,map_nil]
  done
 refine gO ?_;refine And.intro (fun hc=>?_) (fun hc=>?_)
 ·have hc':(doW w k).2≠0:=by simpa using hc
  rw[if_neg hc']at ht;rw[ht];refine B0 _ ?_;simp(disch:=omega)only[go_sem,Ip,map_nil];refine .tup (Ah.AE ?_);simp(disch:=omega)only[go_sem]
  repeat'(with_reducible apply And.intro)
  all_goals(first|exact .Az (by omega)|exact .agg (Ah.AE gI))
 ·have hc':(doW w k).2=0:=by simpa using hc
  rw[if_pos hc']at ht;rw[ht];obtain⟨w2,hw2⟩:∃ w2,w2=(doW w k).1:=⟨_,rfl⟩;rw[← hw2];refine DW (st':=⟨[(7,.ptr 1024 0),(4,.ptr 256 0)],[(256,[I 0,.v (.slice none 0 0),.v (.slice none 0 0)]),(1024,[I w2.now,Ay w2.queues,.sl (.own 896 0) 16 (w2.procs.map Pcs.c),.sl (.own 1216 0) 7 (w2.evs.map Ev.c)])]⟩) ?_ ?_
  ·rw[hw2];exact AK
  refine FV 8 [([],[7]),([0],[24]),([0,1],[25]),([0,1,2],[26]),([],[7]),([4],[28]),([4,5],[29]),([4,5,6],[30]),([0,1,2,3],[]),([0,1,2,3,4,5,6,7,8],[]),([0,1,2,3,4,5,6,7,8,9],[])] [4,5,6,7] [([],[27,7,4],let o0:OT:=.done;let o1:OT:=.pick [(10,o0)];let o2:OT:=.pick [(9,o1)];let o3:OT:=.pick [(8,o2)];let o4:OT:=.pick [(7,o2)];let o5:OT:=.pick [(7,o3),(8,o4)];let o6:OT:=.pick [(6,o4)];let o7:OT:=.pick [(6,o5),(8,o6)];let o8:OT:=.pick [(5,o6)];let o9:OT:=.pick [(5,o7),(8,o8)];let o10:OT:=.pick [(4,o8)];let o11:OT:=.pick [(4,o9),(8,o10)];o11),([4],[28,27,7,4],let o0:OT:=.done;let o1:OT:=.pick [(10,o0)];let o2:OT:=.pick [(9,o1)];let o3:OT:=.pick [(8,o2)];let o4:OT:=.pick [(7,o2)];let o5:OT:=.pick [(7,o3),(8,o4)];let o6:OT:=.pick [(6,o4)];let o7:OT:=.pick [(6,o5),(8,o6)];let o8:OT:=.pick [(5,o6)];let o9:OT:=.pick [(5,o7),(8,o8)];o9),([4,5],[29,27,7,4],let o0:OT:=.done;let o1:OT:=.pick [(10,o0)];let o2:OT:=.pick [(9,o1)];let o3:OT:=.pick [(8,o2)];let o4:OT:=.pick [(7,o2)];let o5:OT:=.pick [(7,o3),(8,o4)];let o6:OT:=.pick [(6,o4)];let o7:OT:=.pick [(6,o5),(8,o6)];o7),([4,5,6],[30,27,7,4],let o0:OT:=.done;let o1:OT:=.pick [(10,o0)];let o2:OT:=.pick [(9,o1)];let o3:OT:=.pick [(8,o2)];let o4:OT:=.pick [(7,o2)];let o5:OT:=.pick [(7,o3),(8,o4)];o5),([4,5,6,7],[27,31,7,4],let o0:OT:=.done;let o1:OT:=.pick [(10,o0)];let o2:OT:=.pick [(9,o1)];let o3:OT:=.pick [(8,o2)];o3)] fol (by kernel_rfl) ?_;simp(disch:=omega)only[go_sem]
  repeat'(with_reducible refine And.intro ?_ ?_)
  all_goals
   refine A1 ⟨[],[],[896,1216]⟩ _ (by(try simp(disch:=omega)only[go_sem,Dm,K7])<;>rfl) ⟨rfl,rfl⟩ (by simp[lk]) ?_ trivial;simp(disch:=omega)only[go_sem]
def LY(w:Work):Prop:=∀ x∈w.procs,x.waiting=true→x.req.limit=0∨w.now<x.since+x.req.limit
theorem Vd{w:Work}(h:VE none w):∀ y∈(AQ w).procs,y.waiting=true→y∈w.procs:=fun y hy hw=>by
 obtain⟨ms,g1,_,g3⟩:=K8 h
 by_cases hm:y.proc∈ms
 ·rw[g3 y hy hm]at hw;cases hw
 ·exact g1.back y hy hm
theorem Vc{w:Work}(h:VE none w)(ht:LY w):LY (AQ w):=fun y hy hw=>by
 rw[(Ii h).2];exact ht y (Vd h y hy hw) hw
theorem T9{now:Int}{l:List Pcs}:∀ i,i≤l.length→(I4 now (l.take i)).2.1 = -1→∀ j x,j<i→l[j]?=some x→¬ (x.waiting=true∧x.req.limit≠0∧Fj x≤now)
 | 0,_,_,j,_,hj,_=>by omega
 | i+1,hi,h,j,x,hj,hx=>by
  obtain⟨b,hb⟩:∃ b,l[i]?=some b:=⟨_,gE (by omega)⟩;rw[NL now hb]at h;split at h
  ·simp only at h;omega
  ·rename_i hc
   by_cases e:j=i
   ·subst e;rw[hb]at hx;have:=Option.some.inj hx;subst this;rintro⟨h1,h2,h3⟩;apply hc;simp[Kj,h1,h2,h3,h]
   ·exact T9 i (by omega) h j x (by omega) hx
theorem cE{x:Pcs}(h1:0≤x.since∧x.since≤1073741824)(h2:0≤x.req.limit∧x.req.limit≤1000):Fj x=x.since+x.req.limit:=by
 unfold Fj;have e:IntKind.i64.wrap (x.since+x.req.limit)=x.since+x.req.limit:=by
  exact wrap64 _ (by omega) (by omega)
 exact e
theorem X2{w:Work}(h:VE none w)(he:ML w = -1):LY w:=fun x hx hw=>by
 obtain⟨j,hj⟩:=List.getElem?_of_mem hx;have hf:=h.fine j x hj (by simp);obtain⟨a,b,c,d,_⟩:=hf.wait hw;obtain⟨_,_,_,l1,l2⟩:=(Ly _).1 a;have hn:=h.now;have hd:=cE (x:=x) ⟨c,by omega⟩ ⟨l1,l2⟩;have:=T9 (now:=w.now) (l:=w.procs) w.procs.length (Nat.le_refl _) (by rw[take_length];exact he) j x (Ae hj) hj;rw[hd]at this
 by_cases hl:x.req.limit=0
 ·exact .inl hl
 ·exact .inr (by
   have h3:¬ (x.since+x.req.limit≤w.now):=fun h3=>this ⟨hw,hl,h3⟩
   omega)
theorem Jl{w w':Work}{i:Nat}{y:Pcs}(ht:LY w)(hp:w'.procs=w.procs.set i y)(hn:w'.now=w.now)(hy:y.waiting=true→y.req.limit=0∨w.now<y.since+y.req.limit):LY w':=fun z hz hw=>by
 rw[hp]at hz;rw[hn];rcases List.mem_or_eq_of_mem_set hz with hz|rfl
 ·exact ht z hz hw
 ·exact hy hw
structure VC(w:Work):Prop where
 ve:VE none w
 quiet:Fq w=none
 time:LY w
theorem Jm{w:Work}(h:VE none w)(ht:LY w):VC (AQ w):=⟨(Ii h).1,LS w,Vc h ht⟩
theorem HL{w:Work}:Fq w=none↔∀ x∈w.procs,GG w x=false:=by
 unfold Fq;rw[List.findIdx?_eq_none_iff]
theorem Vw{a:Amt}(h:(a.mode==0&&a.units==0)=false):a≠⟨0,0⟩:=fun e=>by rw[e]at h;simp at h
theorem Ye{w:Work}{i:Nat}{y:Pcs}(h:Fq w=none)(hy:y.waiting=false):Fq (At w i y)=none:=by
 rw[HL]at *;intro x hx;simp only[At]at hx;rcases List.mem_or_eq_of_mem_set hx with hx|rfl
 ·exact h x hx
 ·simp[GG,hy]
theorem cC{w:Work}{k:Cmd}{i:Nat}{x:Pcs}(h:VC w)(hx:w.procs[i]?=some x)(h0:(doI w k i x).2=0):VC (doI w k i x).1:=by
 have hi:=Ae hx;revert h0;unfold doI;split
 ·unfold CX;split
  ·intro h0;simp at h0
  rename_i hw;split
  ·rename_i hr;split
   ·rename_i hv;intro _;obtain⟨g1,g2,g3,_⟩:=Vx h.ve hx (by simpa using hw) hr hv;refine Jm g1 (Jl h.time g3 g2 fun _=>?_);obtain⟨_,_,_,l1,_⟩:=(Ly _).1 hr;show k.req.limit=0∨w.now<w.now+k.req.limit;omega
   ·rename_i hv;intro h0;exact absurd h0 hv
  ·intro h0;simp at h0
 split
 ·split
  ·rename_i hw;intro _;obtain⟨g1,_,g3,_⟩:=F0 h.ve hx hw;have hp:(Au w i x).procs[i]?=some (A7 x):=by rw[AZ];exact List.getElem?_set_self hi
   refine Jm (g1.next hp) (Jl (w:=Au w i x) (Jl h.time (AZ _ _ _) g3 fun e=>by cases e) rfl rfl fun e=>by cases e)
  ·intro h0;simp at h0
 split
 ·unfold DE;split
  ·intro h0;simp at h0
  rename_i hw;split
  ·intro h0;simp at h0
  rename_i hz;intro _;obtain⟨g1,g2,⟨y,g3,_,g5⟩,_⟩:=SS (name:=k.name) h.ve hx (by simpa using hw) (Vw (by simpa using hz));exact Jm g1 (Jl h.time g3 g2 fun e=>by rw[g5]at e;cases e)
 split
 ·split
  ·intro h0;simp at h0
  rename_i hw;have hw:x.waiting=false:=by simpa using hw
  split
  ·rename_i hs;intro _;exact⟨bE h.ve hx hw hs,Ye h.quiet hw,Jl h.time rfl rfl fun e=>by rw[show (Bf (Ih x k.n)).waiting=x.waiting from rfl,hw]at e;cases e⟩
  ·rename_i hs;intro h0;exact absurd h0 hs
 split
 ·unfold Dw;split
  ·rename_i hu;intro _;obtain⟨g1,g2,⟨y,g3,_,g5⟩,_⟩:=SH h.ve hx hu;exact Jm g1 (Jl h.time g3 g2 fun e=>by rw[g5]at e;cases e)
  ·rename_i hu;intro h0;exact absurd h0 hu
 have hgone:VC (G0 w i x):=by
  obtain⟨g1,g2,g3,_⟩:=Pk h.ve hx;refine Jm g1 fun y hy hw=>?_
  rw[g2];have hy':y∈w.procs.eraseIdx i:=hy;exact h.time y (List.mem_of_mem_eraseIdx hy') hw
 split
 ·split
  ·intro h0;simp at h0
  ·intro _;exact hgone
 ·intro _;exact hgone
theorem bq{w:Work}{p:Proc}{cost:Int}(h:VC w)(h0:(D7 w p cost).2=0):VC (D7 w p cost).1:=by
 obtain⟨g1,g2,g3⟩:=W2 h.ve h0;have hmem:∀ y∈(D7 w p cost).1.procs,y∈w.procs∨y=LG p cost:=by
  revert h0;unfold D7;split
  ·intro h0;simp at h0
  split
  ·intro h0;simp at h0
  split
  ·intro h0;simp at h0
  intro _ y hy;exact(Ta _ _ _ _).1 hy
 have hq:(D7 w p cost).1.queues=w.queues:=by
  unfold D7;split
  ·rfl
  split
  ·rfl
  split
  ·rfl
  rfl
 refine⟨g1,?_,fun y hy hw=>?_⟩
 ·rw[HL];intro y hy;rcases hmem y hy with hy|rfl
  ·have:=HL.1 h.quiet y hy;unfold GG at this ⊢;rw[hq];exact this
  ·rfl
 ·rw[g2];rcases hmem y hy with hy|rfl
  ·exact h.time y hy hw
  ·cases hw
theorem bH{w:Work}{n:Int}(h:VC w)(h0:(He w n).2=0):VC (He w n).1:=by
 revert h0;unfold He;split
 ·intro h0;simp at h0
 rename_i h1;split
 ·intro h0;simp at h0
 rename_i h2;intro _;simp only[or_eq_true,decide_eq_true_eq,not_or]at h1 h2;have hn:=h.ve.now;have hv:VE none { w with now:=w.now+n }:=by
  refine⟨⟨h.ve.je.tab,h.ve.je.n,h.ve.je.uq,h.ve.je.good⟩,h.ve.ord,h.ve.known,?_,fun j x hj hne=>?_⟩
  ·constructor
   ·show 0≤w.now+n;omega
   ·show w.now+n≤1073741824;omega
  ·have hf:=h.ve.fine j x hj hne;refine⟨hf.head,hf.fits,fun hw=>?_,hf.idle⟩;obtain⟨a,b,c,d,e⟩:=hf.wait hw;exact⟨a,b,c,by show x.since≤w.now+n;omega,e⟩
 have hq:Fq { w with now:=w.now+n } = none:=h.quiet;obtain⟨r1,r2,_,r4⟩:=Ut (wcount { w with now:=w.now+n }) _ hv hq;exact⟨r1,r2,X2 r1 (r4 (Nat.le_refl _))⟩
theorem cD{w:Work}{k:Cmd}(h:VC w)(h0:(doW w k).2=0):VC (doW w k).1:=by
 revert h0;unfold doW;split
 ·intro h0;simp at h0
 split
 ·exact bq h
 split
 ·exact bH h
 cases hf:w.procs.findIdx? (fun x=>decide (x.proc=k.proc)) with
 |none=>intro h0;simp at h0
 |some i =>
  obtain⟨hi,_,_⟩:=List.findIdx?_eq_some_iff_getElem.1 hf;have hx:w.procs[i]?=some (w.procs.getD i x0):=by simp[List.getD,gE hi]
  exact cC h hx
theorem Zj{t:List Queue}{x:Pcs}(ht:Ck t)(hl:Fu x.led)(hf:HP t x)(hi:Idle t x):Er x.led=F8 t x.proc:=by
 refine Th (R:=fun a b:Atom=>BF a.name b.name=true) (fun a=>by rw[JT];simp) (fun a b h=>Uy h) ?_ ?_ fun a=>?_
 ·unfold Er;rw[List.pairwise_filterMap];refine(Qq _).imp fun {m n} hmn a ha b hb=>?_
  split at ha
  ·cases ha
  split at hb
  ·cases hb
  cases ha;cases hb;exact hmn
 ·unfold F8;rw[List.pairwise_filterMap,pairwise_iff_getElem];intro i j h1 h2 hij a ha b hb;obtain⟨d,rfl⟩:∃ d,j=i+d+1:=⟨j-i-1,by omega⟩;have:=Pp ht d i h2;rw[show t.getD i q0=t[i] by simp[List.getD,h1],show t.getD (i+d+1) q0=t[i+d+1] by simp[List.getD,h2]]at this;split at ha
  ·cases ha
  split at hb
  ·cases hb
  cases ha;cases hb;exact this
 ·unfold Er F8;rw[mem_filterMap,mem_filterMap];constructor
  ·rintro⟨n,hn,ha⟩;split at ha
   ·cases ha
   rename_i hz;obtain⟨k,q,_,f2,f3,_⟩:=hf n ((DI _ _).1 hn);have hqm:=mG f2;have hk:=hi q hqm;refine⟨q,hqm,?_⟩;rw[f3]at hk;rw[hk.2,f3,if_neg (by simpa [Amt.zero]using hz)];exact ha
  ·rintro⟨q,hq,ha⟩;split at ha
   ·cases ha
   rename_i hz;have hk:=hi q hq;refine⟨q.res.name,(DI _ _).2 (RN fun e=>hz ?_),?_⟩
   ·rw[hk.2,e];rfl
   ·rw[hk.2]at ha hz;rw[if_neg (by simpa [Amt.zero]using hz)];exact ha
theorem Xv{w:Work}(h:VC w):BD ⟨w.now,w.queues,w.procs⟩=true:=by
 have ht:=h.ve.je.tab;simp only[BD,and_eq_true,decide_eq_true_eq,Cx,all_eq_true];refine⟨⟨⟨⟨⟨h.ve.now.1,h.ve.now.2⟩,(Dx _).2 ht⟩,h.ve.je.n⟩,fun p hp=>?_⟩,fun i x hx=>?_⟩
 ·obtain⟨q,hq,hi⟩:=(C4 _ _).1 hp;have:=h.ve.known q hq p hi
  by_cases hn:0≤CK w.procs p
  ·exact hn
  ·exact absurd this (Mg hn)
 ·have hf:=h.ve.fine i x hx (by simp);have hxm:=mG hx;simp only[Dg,D3,and_eq_true];refine⟨⟨⟨hf.head,?_⟩,?_⟩,?_⟩
  ·rw[all_eq_true];intro a ha;unfold Er at ha;rw[mem_filterMap]at ha;obtain⟨n,hn,he⟩:=ha;split at he
   ·cases he
   cases he;obtain⟨k,q,f1,f2,f3,f4⟩:=hf.fits n ((DI _ _).1 hn);unfold FO;simp only[f1,show w.queues.getD k q0=q by simp[List.getD,f2]];exact f4
  ·cases hw:x.waiting
   ·obtain⟨a,b,c⟩:=hf.idle hw;simp only[false_eq_true,if_false,GC,and_eq_true,decide_eq_true_eq];refine⟨⟨⟨a,by simp[b]⟩,Zj ht hf.led hf.fits c⟩,?_⟩;have:DP w.queues x.proc=[]:=by
     unfold DP;rw[List.filterMap_eq_nil_iff];intro q hq;rw[(c q hq).1];rfl
    rw[this];rfl
   ·obtain⟨a,b,c,d,e⟩:=hf.wait hw;simp only[if_true,FD,and_eq_true,decide_eq_true_eq,all_eq_true,or_eq_true];refine⟨⟨⟨⟨⟨⟨a,by simp[b]⟩,c⟩,d⟩,?_⟩,?_⟩,e⟩
    ·rcases h.time x hxm hw with h1|h1
     ·exact .inl (by simp[h1])
     ·exact .inr h1
    ·have:=HL.1 h.quiet x hxm;simp only[GG,hw,Bool.true_and]at this;simp[this]
  ·cases i with
   | zero=>simp
   | succ i =>
    have hlt:=Ae hx;have ho:=h.ve.ord;rw[pairwise_map]at ho;have:=pairwise_iff_getElem.1 ho i (i+1) (by omega) hlt (by omega);rw[get_eq hx]at this;rw[Nat.add_sub_cancel,show w.procs.getD i x0=w.procs[i] by simp[List.getD,gE (show i<w.procs.length by omega)]];simp[this]
theorem Dy{c:Cen}(h:BD c=true):VC ⟨c.now,c.queues,c.procs,[]⟩:=by
 have hfit:=F3 h;have ht:=hfit.je.tab;simp only[BD,and_eq_true,decide_eq_true_eq,Cx,all_eq_true]at h;obtain⟨⟨⟨⟨⟨h1,h2⟩,h3⟩,h4⟩,h5⟩,h6⟩:=h;have hpos:∀ i x,c.procs[i]?=some x→Ea x=true∧(if x.waiting then FD c.now c.queues x else GC c.queues x)=true:=fun i x hi=>by
  have:=h6 i x hi;simp only[Dg,D3,and_eq_true]at this;exact⟨this.1.1.1,this.1.2⟩
 have hord:∀ i x,c.procs[i]?=some x→(decide (i=0)||decide (AT (c.procs.getD (i-1) x0).proc x.proc<0))=true:=fun i x hi=>by
  have:=h6 i x hi;simp only[Dg,and_eq_true]at this;exact this.2
 have hwait:∀ i x,c.procs[i]?=some x→x.waiting=true→FD c.now c.queues x=true:=fun i x hi hw=>by
  have:=(hpos i x hi).2;rw[hw,if_pos rfl]at this;exact this
 refine⟨⟨hfit.je,?_,fun q hq p hi=>?_,⟨h1,h2⟩,fun j x hj _=>⟨(hpos j x hj).1,hfit.fits x (mG hj),fun hw=>?_,fun hw=>?_⟩⟩,?_,fun x hx hw=>?_⟩
 ·show (c.procs.map (·.proc)).Pairwise _;rw[pairwise_map,pairwise_iff_getElem];intro i j hi hj hij;obtain⟨d,rfl⟩:∃ d,j=i+d+1:=⟨j-i-1,by omega⟩;exact Jh hord d i _ _ (gE hi) (gE hj)
 ·have:=h5 p ((C4 _ _).2 ⟨q,hq,hi⟩);unfold CK at this;cases hf:c.procs.findIdx? (fun x=>decide (x.proc=p)) with
  |none=>rw[hf]at this;simp at this
  |some i =>
   obtain⟨hi',hp,_⟩:=List.findIdx?_eq_some_iff_getElem.1 hf;exact mem_map.2 ⟨c.procs[i],List.getElem_mem hi',by simpa using hp⟩
 ·have:=hwait j x hj hw;simp only[FD,and_eq_true,decide_eq_true_eq,all_eq_true]at this;obtain⟨⟨⟨⟨⟨⟨a,b⟩,c'⟩,d⟩,e⟩,f⟩,g⟩:=this;exact⟨a,by simpa using b,c',d,g⟩
 ·have:=(hpos j x hj).2;rw[hw]at this;have h7:GC c.queues x=true:=by simpa using this
  have hid:=hfit.idle x (mG hj) hw;simp only[GC,and_eq_true]at h7;exact⟨h7.1.1.1,by simpa using h7.1.1.2,hid⟩
 ·rw[HL];intro x hx;obtain⟨j,hj⟩:=List.getElem?_of_mem hx;cases hw:x.waiting
  ·simp[GG,hw]
  ·have:=hwait j x hj hw;simp only[FD,and_eq_true,decide_eq_true_eq,all_eq_true]at this;simp only[GG,hw,Bool.true_and];simpa using this.1.2
 ·obtain⟨j,hj⟩:=List.getElem?_of_mem hx;have:=hwait j x hj hw;simp only[FD,and_eq_true,decide_eq_true_eq,all_eq_true,or_eq_true]at this;rcases this.1.1.2 with h7|h7
  ·exact .inl (by simpa using h7)
  ·exact .inr h7
theorem VG{c:Cen}{k:Cmd}(h:BD c=true)(h0:(doC c k).2.2=0):BD (doC c k).1=true:=by
 unfold doC at h0 ⊢;rw[if_pos h]at h0 ⊢;split at h0
 ·rename_i h1;rw[if_pos h1];exact Xv (cD (Dy h) h1)
 ·rename_i h1;exact absurd h0 h1
@[reducible] def MX(l:List Int):AV:=.sl .no 1 (l.map fun x=>[I x])
def Df(l:List Int)(a:Nat):List AV:=[MX l,I a]
theorem f15_ok(l:List Int):Ac C0 15 [MX l] [] (B (decide ((l.length:Int)≤300))) []:=by
 refine Ac.lens f15 fun hlen=>?_
 simp only[Fz,lens,length_map,and_true,true_and]at hlen;refine Ac.go f15 ?_;unfold f15;simp(disch:=omega)only[go_sem,length_map];exact AH _
theorem f49_ok(l:List Int)(a:Nat)(hl:l.length≤1000000):Ac C0 49 [.ptr 63 0] [(63,Df l a)] (B (decide ((a:Int)<l.length))) [(63,Df l a)]:=by
 refine Ac.go f49 ?_;unfold f49;refine gO ?_;refine Aq 9 [([],[0]),([],[3]),([],[4]),([],[5]),([],[0]),([],[7]),([],[8]),([],[9]),([],[10])] fol ?_;simp(disch:=omega)only[go_sem,Df,length_map];refine B1 ⟨[],[(63,63)],[]⟩ _ ?_ ?_
 ·exact gI
 ·simp(disch:=omega)only[go_sem,Df]
def IQ(x n:Int):Int:=if decide (n<1) then 0 else x%n
theorem f51_ok(x n:Int)(hn:n≤2000000):Ac C0 51 [I x,I n] [] (I (IQ x n)) []:=by
 refine Ac.go f51 ?_;unfold f51;refine gO ?_;cases h1:decide (n<1);rotate_left
 ·have e:IQ x n=0:=by simp[IQ,h1]
  rw[e];simp(disch:=omega)only[go_sem,h1];exact AH _
 have hn1:1≤n:=by simpa using h1
 have e:IQ x n=x%n:=by simp only[IQ,h1];rfl
 rw[e];have he:=emod_nonneg x (show n≠0 by omega);have he2:=emod_lt_of_pos x (show 0<n by omega);have hr:x.tmod n=x%n∨x.tmod n=x%n-n:=by
  rw[Int.tmod_eq_emod];split
  ·left;omega
  ·right;omega
 have hn0:=eq_false (show ¬ n=0 by omega);have hw:=wrap64 (x.tmod n+n) (by omega) (by omega);generalize x.tmod n=r at hr hw;generalize x%n=m at he he2 hr ⊢;simp(disch:=omega)only[go_sem,h1,hn0];rcases hr with hr|hr
 ·have hd:decide (r<0)=false:=by simp;omega
  simp(disch:=omega)only[go_sem,hd];refine B0 _ ?_;simp(disch:=omega)only[go_sem,hr]
 ·by_cases hz:m-n<0
  ·have hd:decide (r<0)=true:=by simp;omega
   simp(disch:=omega)only[go_sem,hd,hw];refine B0 _ ?_;simp(disch:=omega)only[go_sem,hr];exact .int (by omega)
  ·omega
def Ag(l:List Int)(a:Nat)(n:Int):Int × Nat:=match l[a]? with
 |none=>(0,a)
 |some x=>(IQ x n,a+1)
theorem f37_ok(l:List Int)(a:Nat)(n:Int)(hl:l.length≤1000000)(hn:n≤2000000):Ac C0 37 [.ptr 63 0,I n] [(63,Df l a)] (I (Ag l a n).1) [(63,Df l (Ag l a n).2)]:=by
 refine Ac.go f37 ?_;unfold f37;refine gO ?_;refine Aq 9 [([],[0]),([],[5]),([],[6]),([],[7]),([],[0]),([],[9]),([],[10]),([],[11]),([],[12])] fol ?_;simp(disch:=omega)only[go_sem,Df,length_map];cases hb:l[a]? with
 |none =>
  have hla:l.length≤a:=by
   rcases lt_or_ge a l.length with h|h
   ·rw[gE h]at hb;cases hb
   ·exact h
  have e:Ag l a n=(0,a):=by simp[Ag,hb]
  rw[e];simp(disch:=omega)only[go_sem,eq_true (show (l.length:Int)≤a by omega),decide_true];refine B1 ⟨[],[(63,63)],[]⟩ _ ?_ ?_
  ·exact gI
  ·simp(disch:=omega)only[go_sem,Df]
 |some x =>
  have hla:=Ae hb;have e:Ag l a n=(IQ x n,a+1):=by simp[Ag,hb]
  rw[e];have hc2:((a:Int)+1-1)=(a:Int):=by omega
  simp(disch:=omega)only[go_sem,eq_false (show ¬ (l.length:Int)≤a by omega),decide_false];refine Aq 12 [([],[0]),([],[22]),([],[23]),([],[24]),([],[0]),([],[26]),([],[27]),([],[28]),([],[29]),([],[25,30]),([],[31]),([],[1])] fol ?_;simp(disch:=omega)only[go_sem,hc2,gm,hb]
  first|(refine Ab (f51_ok x n hn) ?_)|(refine Al (f51_ok x n hn) ?_)
  refine gO ?_;refine B1 ⟨[],[(63,63)],[]⟩ _ ?_ ?_
  ·exact gI
  ·simp(disch:=omega)only[go_sem,Df]
def Nd(n:Int):Proc:=⟨(n%8)%4,1,1+(n%8) / 4⟩
theorem bW(n:Int):Ac C0 22 [I n] [] (.agg (Nd n).c) []:=by
 refine Ac.go f22 ?_;unfold f22;refine gO ?_;refine Ab (f51_ok n 8 (by omega)) ?_;have e:IQ n 8=n%8:=by simp[IQ]
 rw[e];have h0:=emod_nonneg n (show (8:Int)≠0 by omega);have h1:=emod_lt_of_pos n (show (0:Int)<8 by omega);unfold Nd;generalize n%8=m at h0 h1 ⊢;have e1:m.tmod 4=m%4:=Int.tmod_eq_emod_of_nonneg h0;have e2:m.tdiv 4=m / 4:=Int.tdiv_eq_ediv_of_nonneg h0;have e3:=wrap64 (m / 4) (by omega) (by omega);have e4:=wrap64 (1+m / 4) (by omega) (by omega);simp(disch:=omega)only[go_sem,e1,e2,e3,e4];refine Ap _ ?_;refine .eq ?_;simp[EW,AV.ren,Proc.c,e2]
def Wf:List Int:=[5,5,3,4,2,1,3,5]
theorem f275_ok(n:Int):Ac C0 275 [I n] [] (I (Wf.getD (n%8).toNat 0)) []:=by
 refine Ac.go f275 ?_;unfold f275;refine gO ?_;refine Ab (f51_ok n 8 (by omega)) ?_;have e:IQ n 8=n%8:=by simp[IQ]
 rw[e];have h0:=emod_nonneg n (show (8:Int)≠0 by omega);have h1:=emod_lt_of_pos n (show (0:Int)<8 by omega);generalize n%8=m at h0 h1 ⊢;obtain rfl|rfl|rfl|rfl|rfl|rfl|rfl|rfl:m=0∨m=1∨m=2∨m=3∨m=4∨m=5∨m=6∨m=7:=by omega
 all_goals
  refine gO ?_;refine B0 _ ?_;exact .eq rfl
attribute [go_sem] Df
theorem WZ(x n:Int)(h:1≤n):0≤IQ x n∧IQ x n<n:=by
 have e:IQ x n=x%n:=by simp only[IQ];rw[if_neg (by simp;omega)]
 rw[e];exact⟨emod_nonneg x (by omega),emod_lt_of_pos x (by omega)⟩
theorem Cb(l:List Int)(a:Nat)(n:Int)(h:1≤n):0≤(Ag l a n).1∧(Ag l a n).1<n:=by
 unfold Ag;split
 ·exact⟨Int.le_refl _,by show (0:Int)<n;omega⟩
 ·exact WZ _ _ h
theorem E8(l:List Int)(a:Nat)(n:Int):a≤(Ag l a n).2∧(a<l.length→(Ag l a n).2=a+1):=by
 unfold Ag;cases hb:l[a]? with
 |none=>exact⟨Nat.le_refl _,fun h=>by rw[gE h]at hb;cases hb⟩
 |some x=>exact⟨Nat.le_succ _,fun _=>rfl⟩
def Jz(r:Res)(n:Int):Amt:=if r.kind=1 then ⟨Wf.getD (n%8).toNat 0,0⟩ else ⟨0,1+IQ n r.units⟩
theorem f234_ok(r:Res)(n:Int)(hu:r.units≤1000000):Ac C0 234 [.agg r.c,I n] [] (.agg (Jz r n).c) []:=by
 refine Ac.go f234 ?_;unfold f234;refine gO ?_
 by_cases h1:r.kind=1
 ·have e:Jz r n=⟨Wf.getD (n%8).toNat 0,0⟩:=by simp[Jz,h1]
  rw[e];simp(disch:=omega)only[go_sem,h1];refine Ab (f275_ok n) ?_;refine gO ?_;exact AH _
 ·have e:Jz r n=⟨0,1+IQ n r.units⟩:=by simp[Jz,h1]
  have h1':(r.kind==1)=false:=by simpa using h1
  rw[e];simp(disch:=omega)only[go_sem,h1'];refine Ab (f51_ok n r.units (by omega)) ?_;have hw:IntKind.i64.wrap (1+IQ n r.units)=1+IQ n r.units:=by
   by_cases hz:1≤r.units
   ·have:=WZ n r.units hz;exact wrap64 _ (by omega) (by omega)
   ·have:IQ n r.units=0:=by simp only[IQ];rw[if_pos (by simp;omega)]
    rw[this];exact wrap64 _ (by omega) (by omega)
  simp(disch:=omega)only[go_sem,hw];exact AH _
def Uv(l:List Int)(az:List Atom)(a:Nat):Expr × Nat:=(.mk 0 (az.getD (Ag l a az.length).1.toNat a0) [],(Ag l a az.length).2)
def Gn(f:Nat→Expr × Nat):Nat→Nat→List Expr × Nat
 | 0,a=>([],a)
 | n+1,a=>((Gn f n a).1++[(f (Gn f n a).2).1],(f (Gn f n a).2).2)
def CI(l:List Int)(az:List Atom):Nat→Nat→Expr × Nat
 | 0,a=>Uv l az a
 | d+1,a=>if (Ag l a 4).1=0 then Uv l az (Ag l a 4).2 else
  (.mk (1+(Ag l (Ag l (Ag l a 4).2 3).2 (1+(Ag l (Ag l a 4).2 3).1)).1) a0 (Gn (CI l az d) (1+(Ag l (Ag l a 4).2 3).1).toNat (Ag l (Ag l (Ag l a 4).2 3).2 (1+(Ag l (Ag l a 4).2 3).1)).2).1,
   (Gn (CI l az d) (1+(Ag l (Ag l a 4).2 3).1).toNat (Ag l (Ag l (Ag l a 4).2 3).2 (1+(Ag l (Ag l a 4).2 3).1)).2).2)
theorem RP(f:Nat→Expr × Nat):∀ n a,(Gn f n a).1.length=n
 | 0,_=>rfl
 | n+1,a=>by simp[Gn,RP f n a]
theorem Ux{l:List Int}{az:List Atom}{a:Nat}(hz:1≤az.length):∃ (i:Nat) (x:Atom),(Ag l a az.length).1=(i:Int)∧az[i]?=some x∧Uv l az a=(.mk 0 x [],(Ag l a az.length).2):=by
 obtain⟨h1,h2⟩:=Cb l a az.length (by omega);obtain⟨i,hi⟩:∃ i:Nat,(Ag l a az.length).1=(i:Int):=⟨_,(Int.toNat_of_nonneg h1).symm⟩;have hlt:i<az.length:=by omega
 refine⟨i,az[i],hi,gE hlt,?_⟩;simp[Uv,hi,List.getD,hlt]
theorem f235_ok(l:List Int)(az:List Atom)(hl:l.length≤1000000)(hz:1≤az.length∧az.length≤100):∀ (d a:Nat),d≤10→Ac C0 235 [.ptr 63 0,Bn az,I d] [(63,Df l a)] (.agg (CI l az d a).1.c) [(63,Df l (CI l az d a).2)]:=by
 intro d
 induction d with
 | zero =>
  intro a _;obtain⟨i,x,h1,h2,h3⟩:=Ux (l:=l) (a:=a) hz.1;have e:CI l az 0 a=(.mk 0 x [],(Ag l a az.length).2):=by rw[CI,h3]
  refine Ac.go f235 ?_;unfold f235;refine gO ?_;refine call2 ⟨⟨[],[(63,63)],[]⟩,[],[]⟩ (f37_ok l a az.length hl (by omega)) ?_;rw[e];simp(disch:=omega)only[go_sem,h1,gm,h2];refine B1 ⟨[],[(63,63)],[]⟩ _ ?_ ?_
  ·simp(disch:=omega)only[go_sem,Expr.FF,Expr.k,Expr.atom,Expr.kids,map_nil];exact .agg (Ah.AE gI)
  ·exact gI
 | succ d ih =>
  intro a hd;refine Ac.go f235 ?_;unfold f235;have e0:((d:Int)+1==0)=false:=by simp;omega
  have e1:(((d+1:Nat):Int)==0)=false:=by simp;omega
  simp(disch:=omega)only[go_sem,e0,e1];refine call2 ⟨⟨[],[(63,63)],[]⟩,[],[]⟩ (f37_ok l a 4 hl (by omega)) ?_;refine gO ?_
  by_cases h4:(Ag l a 4).1=0
  ·obtain⟨i,x,h1,h2,h3⟩:=Ux (l:=l) (a:=(Ag l a 4).2) hz.1;have e:CI l az (d+1) a=(.mk 0 x [],(Ag l (Ag l a 4).2 az.length).2):=by rw[CI,if_pos h4,h3]
   simp(disch:=omega)only[go_sem,h4];refine call2 ⟨⟨[],[(63,63)],[]⟩,[],[]⟩ (f37_ok l (Ag l a 4).2 az.length hl (by omega)) ?_;rw[e];simp(disch:=omega)only[go_sem,h1,gm,h2];refine B1 ⟨[],[(63,63)],[]⟩ _ ?_ ?_
   ·simp(disch:=omega)only[go_sem,Expr.FF,Expr.k,Expr.atom,Expr.kids,map_nil];exact .agg (Ah.AE gI)
   ·exact gI
  have h4':((Ag l a 4).1==0)=false:=by simpa using h4
  obtain⟨a1,ha1⟩:∃ a1,a1=(Ag l a 4).2:=⟨_,rfl⟩;rw[← ha1];simp(disch:=omega)only[go_sem,h4'];refine call2 ⟨⟨[],[(63,63)],[]⟩,[],[]⟩ (f37_ok l a1 3 hl (by omega)) ?_;obtain⟨b1,b2⟩:=Cb l a1 3 (by omega);obtain⟨m,hm⟩:∃ m:Nat,1+(Ag l a1 3).1=(m:Int):=⟨(1+(Ag l a1 3).1).toNat,by omega⟩;obtain⟨a2,ha2⟩:∃ a2,a2=(Ag l a1 3).2:=⟨_,rfl⟩;rw[← ha2];have hw:IntKind.i64.wrap (1+(Ag l a1 3).1)=m:=by rw[wrap64 _ (by omega) (by omega),hm]
  simp(disch:=omega)only[go_sem,hw,hm];refine call2 ⟨⟨[],[(63,63)],[]⟩,[],[]⟩ (f37_ok l a2 m hl (by omega)) ?_;obtain⟨c1,c2⟩:=Cb l a2 m (by omega);obtain⟨a3,ha3⟩:∃ a3,a3=(Ag l a2 m).2:=⟨_,rfl⟩;rw[← ha3];have hw2:IntKind.i64.wrap (1+(Ag l a2 m).1)=1+(Ag l a2 m).1:=wrap64 _ (by omega) (by omega);have e:CI l az (d+1) a=(.mk (1+(Ag l a2 m).1) a0 (Gn (CI l az d) m a3).1,(Gn (CI l az d) m a3).2):=by
   rw[CI,if_neg h4,← ha1,hm,← ha2,← ha3];rfl
  rw[e];simp(disch:=omega)only[go_sem,hw2];refine Aa (α:=Nat) (fun i=>⟨[(9,I i),(8,.ptr 512 0),(7,I m),(6,.ptr 384 0),(0,.ptr 63 0),(1,Bn az),(2,I (d+1:Nat))],[(512,[I (1+(Ag l a2 m).1),.v (.string (str [])),I 0,I 0,.sl (.own 2944 0) 5 ((Gn (CI l az d) i a3).1.map Expr.c)]),(384,[I 0,.v (.string (str [])),I 0,I 0,.v (.slice none 0 0)]),(63,Df l (Gn (CI l az d) i a3).2)]⟩) (fun i=>i≤m) (fun i=>m-i) 0 (by omega) (Imp.weak ?_ ?_) ?_
  ·exact gI
  ·simp(disch:=omega)only[go_sem,Gn,map_nil]
   done
  rintro i hi J hJ;refine gO ?_;refine ⟨fun hlt=>?_,fun hge=>?_⟩
  ·have hlt2:i<m:=by simp at hlt;omega
   have hkl:=RP (CI l az d) i a3;have hkn:Gn (CI l az d) (i+1) a3=((Gn (CI l az d) i a3).1++[(CI l az d (Gn (CI l az d) i a3).2).1],(CI l az d (Gn (CI l az d) i a3).2).2):=rfl;generalize Gn (CI l az d) i a3=ks at hkl hkn ⊢;obtain⟨kl,ka⟩:=ks;have hd1:IntKind.i64.wrap (((d+1:Nat):Int)-1)=d:=by rw[wrap64 _ (by omega) (by omega)];omega
   simp only at hkl hkn ⊢;refine FV 6 [([],[8]),([0],[38]),([],[0]),([],[1]),([],[2]),([4],[42]),([2,3,4,5],[]),([2,3,4,5,6],[]),([0,1,2,3,4,5,6,7],[]),([0,1,2,3,4,5,6,7,8],[]),([0,1,2,3,4,5,6,7,8,9],[])] [0,1] [([],[40,41,43,9,8,7,6,0,1,2],let o0:OT:=.done;let o1:OT:=.pick [(10,o0)];let o2:OT:=.pick [(9,o1)];let o3:OT:=.pick [(8,o2)];let o4:OT:=.pick [(7,o3)];let o5:OT:=.pick [(6,o4)];let o6:OT:=.pick [(1,o3)];let o7:OT:=.pick [(1,o4),(7,o6)];let o8:OT:=.pick [(1,o5),(6,o7)];let o9:OT:=.pick [(0,o6)];let o10:OT:=.pick [(0,o7),(7,o9)];let o11:OT:=.pick [(0,o8),(6,o10)];o11),([0],[38,40,41,43,9,8,7,6,0,1,2],let o0:OT:=.done;let o1:OT:=.pick [(10,o0)];let o2:OT:=.pick [(9,o1)];let o3:OT:=.pick [(8,o2)];let o4:OT:=.pick [(7,o3)];let o5:OT:=.pick [(6,o4)];let o6:OT:=.pick [(1,o3)];let o7:OT:=.pick [(1,o4),(7,o6)];let o8:OT:=.pick [(1,o5),(6,o7)];o8),([0,1],[40,41,43,39,9,8,7,6,0,1,2],let o0:OT:=.done;let o1:OT:=.pick [(10,o0)];let o2:OT:=.pick [(9,o1)];let o3:OT:=.pick [(8,o2)];let o4:OT:=.pick [(7,o3)];let o5:OT:=.pick [(6,o4)];o5)] fol (by kernel_rfl) ?_;have hd2:((d:Int)+1-1)=d:=by omega
   have hbd:kl.length+1≤4294967296:=by omega
   simp(disch:=omega)only[go_sem,hd2]
   repeat'(with_reducible refine And.intro ?_ ?_)
   all_goals
    refine call2 ⟨⟨[],[(63,63)],[]⟩,[],[]⟩ (ih ka (by omega)) ?_;simp(disch:=omega)only[go_sem]
    repeat'(with_reducible refine And.intro ?_ ?_)
    all_goals
     refine hJ _ (i+1) (by omega) (by omega) (Imp.weak ?_ ?_)
     ·exact gI
     ·rw[hkn];refine gO ?_;exact .sl (by rw[List.map_append,map_cons,map_nil,Expr.FF])
  have him:i=m:=by simp at hge;omega
  subst him;refine B1 ⟨[],[(63,63)],[2944]⟩ _ ?_ ?_
  ·simp(disch:=omega)only[go_sem,Expr.FF,Expr.k,Expr.atom,Expr.kids,a0]
  ·exact gI
def shM(n:Int)(i:Nat):Int:=n.fdiv (2 ^ min (3*i) 64)
def Gt(cat:List Res)(n:Int):Nat→List Atom
 | 0=>[]
 | i+1=>Gt cat n i++[⟨(cat.getD i r0).name,Jz (cat.getD i r0) (shM n i)⟩]
theorem L3(cat:List Res)(n:Int):∀ i,(Gt cat n i).length=i
 | 0=>rfl
 | i+1=>by simp[Gt,L3 cat n i]
def OE(l:List Int)(cat:List Res)(a:Nat):Expr × Nat:=CI l (Gt cat (Ag l a 1048576).1 cat.length) 2 (Ag l a 1048576).2
theorem wrapu(i:Nat)(h:i≤1000):IntKind.u64.wrap (3*(i:Int))=3*i:=by
 simp only[IntKind.wrap,IntKind.signed,IntKind.bits,Bool.false_and,false_eq_true,if_false];omega
theorem f152_ok(l:List Int)(a:Nat)(cat:List Res)(hl:l.length≤1000000)(hc:1≤cat.length∧cat.length≤100)(hu:∀ r∈cat,r.units≤1000000):Ac C0 152 [.ptr 63 0,EU cat] [(63,Df l a)] (.agg (OE l cat a).1.c) [(63,Df l (OE l cat a).2)]:=by
 refine Ac.go f152 ?_;unfold f152;refine gO ?_;refine call2 ⟨⟨[],[(63,63)],[]⟩,[],[]⟩ (f37_ok l a 1048576 hl (by omega)) ?_;refine gO ?_;have e:OE l cat a=CI l (Gt cat (Ag l a 1048576).1 cat.length) 2 (Ag l a 1048576).2:=rfl;rw[e];generalize (Ag l a 1048576).2=a1;generalize (Ag l a 1048576).1=first;refine Aa (α:=Nat) (fun i=>⟨[(7,I i),(6,.sl (.own 2176 0) 3 ((Gt cat first i).map Atom.c)),(5,I first),(4,.ptr 256 0),(0,.ptr 63 0),(1,EU cat)],[(256,[I 0,.v (.string (str [])),I 0,I 0,.v (.slice none 0 0)]),(63,Df l a1)]⟩) (fun i=>i≤cat.length) (fun i=>cat.length-i) 0 (by omega) (Imp.weak ?_ ?_) ?_
 ·simp(disch:=omega)only[go_sem,Gt,map_nil]
 ·exact gI
 rintro i hi J hJ;simp(disch:=omega)only[go_sem,length_map];refine ⟨fun hlt=>?_,fun hge=>?_⟩
 ·have hlt2:i<cat.length:=by simp at hlt;omega
  obtain⟨r,hr⟩:∃ r,cat[i]?=some r:=⟨_,gE hlt2⟩;have hgd:cat.getD i r0=r:=by simp[List.getD,hr]
  have hur:=hu r (mG hr);have hwu:=wrapu i (by omega);have hal:=L3 cat first i;have han:Gt cat first (i+1)=Gt cat first i++[⟨r.name,Jz r (shM first i)⟩]:=by rw[Gt,hgd]
  have hsh:first.fdiv (2 ^ min (3*(i:Int)).toNat 64)=shM first i:=by rw[shM,show (3*(i:Int)).toNat=3*i by omega]
  have hbd:(Gt cat first i).length+1≤4294967296:=by omega
  generalize Gt cat first i=az at han hal hbd ⊢;refine Aq 18 [([],[6]),([],[1]),([],[7]),([],[17,18]),([],[19]),([],[20]),([],[1]),([],[7]),([],[22,23]),([],[24]),([],[5]),([],[7]),([],[27]),([],[28]),([],[26,29]),([],[25,30]),([15],[21,31]),([15],[32])] fol ?_;simp(disch:=omega)only[go_sem,gm,hr,hwu,eq_false (show ¬ (3*(i:Int))<0 by omega),hsh,Option.map_some]
  first|(refine Ab (f234_ok r (shM first i) hur) ?_)|(refine Al (f234_ok r (shM first i) hur) ?_)
  refine gO ?_;refine hJ _ (i+1) (by omega) (by omega) (Imp.weak ?_ ?_)
  ·simp(disch:=omega)only[go_sem];rw[han,List.map_append,map_cons,map_nil];exact .rfl
  ·exact gI
 have him:i=cat.length:=by simp at hge;omega
 subst him;have hal:=L3 cat first cat.length;refine PE [2176] ⟨⟨[],[(63,63)],[]⟩,[],[]⟩ (f235_ok l (Gt cat first cat.length) hl (by omega) 2 a1 (by omega)) gI rfl gI (.inl rfl) ?_;refine gO ?_;refine B1 ⟨[],[(63,63)],[]⟩ _ ?_ ?_
 ·exact gI
 ·exact gI
end Go.Rd
