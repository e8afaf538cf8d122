/- part 33 of the proof -/
import Derived.Test.YteliegkcmjimoaaGreatDoorW32
set_option linter.all false
open Go Go.Abs Go.Proofs
set_option maxRecDepth 100000
namespace Go.Rd
set_option maxHeartbeats 8000000
open List (all_eq_true length_map map_cons map_nil mem_append mem_filterMap mem_map pairwise_iff_getElem pairwise_map set_set)
open Bool (and_eq_true or_eq_true)
open Nat (le_refl lt_or_ge)
open Int (emod_lt_of_pos emod_nonneg)
open Tryz
def Y0{l:List Entry}{n:Bs}(h:An l n≠⟨0,0⟩):∃ e∈l,e.name=n:=by grind[Mc]
def lD{w:Ap}{i:Nat}{x:Bu}{name:Bs}(h:VE none w)(hx:w.procs[i]?=some x)(hw:x.waiting=false)(hz:An x.AB.entries name≠⟨0,0⟩) :
 VE none (IC w i x name)/\(IC w i x name).now=w.now/\(∃ y,(IC w i x name).procs=w.procs.set i y/\y.proc=x.proc/\y.waiting=false)/\Ds x.proc w.Aa (IC w i x name).Aa:=by
 have ht:=h.je.tab;have hf:=h.Lc i x hx (by simp);obtain⟨d1,d2,d3⟩:=hf.idle hw;have AeB:=Y0 hz;obtain⟨k,q,f1,f2,f3,f4⟩:=hf.fits name AeB;have UQ:=mG f2;have Uf:=d3 q UQ;rw[f3]at Uf;have hv:=ht.val q UQ;have rN:(Am q.holds x.proc).zero=false:=by rw[Uf.2];exact Jb f4
 have hc:q.res.covers (Am q.holds x.proc) ⟨0,0⟩=true:=by rw[Uf.2];exact HK f4
 have e1:=Tk (a:=⟨name,⟨0,0⟩⟩) ht f1 f2 Uf.1 rN hc;have hX:=bJ hv rN Uf.1 hc;have yY:=HQ hv rN Uf.1 hc;have GR:=I5 ht f2 hX;have hsT:Gi x.proc w.Aa (w.Aa.set k (AD q x.proc ⟨0,0⟩).1):=by
  obtain⟨q',e2,g,_⟩:=Jv (a:=⟨name,⟨0,0⟩⟩) ht f1 f2 Uf.1 rN hc;grind
 obtain⟨l1,l2⟩:=hf.AB.drop AeB;have hd:IC w i x name=AW (Da w (w.Aa.set k (AD q x.proc ⟨0,0⟩).1) (BH w.Aa x.proc ⟨name,⟨0,0⟩⟩).2.1) i (CA { x with AB:=(G6 x.AB name).1 }):=by grind[IC]
 rw[hd];refine⟨VE.set (w:=Da w (w.Aa.set k (AD q x.proc ⟨0,0⟩).1) (BH w.Aa x.proc ⟨name,⟨0,0⟩⟩).2.1) ((h.gb i).step hx rfl rfl hsT GR) hx rfl (L6 hf.head rfl rfl l2 (KQ _) (λn hn=>?_) hw d1 d2 λq' FI=>?_),rfl,⟨_,rfl,rfl,hw⟩,GR⟩
 ·have e:(CA { x with AB:=(G6 x.AB name).1 }).AB.entries=x.AB.entries.filter (CV name):=l1;rw[e]at hn ⊢;obtain⟨b,hb,nR⟩:=hn;rw[List.mem_filter]at hb;have CZ:n≠name:=by grind[CV]
  rw[QH CZ];exact hf.fits.res GR.res n ⟨b,hb.1,nR⟩
 ·have e:(CA { x with AB:=(G6 x.AB name).1 }).AB.entries=x.AB.entries.filter (CV name):=l1;rw[e];rcases D6 (q:=q) FI with rfl|⟨j,hj,hjq⟩
  ·rw[hX.res,f3,iD];exact⟨yY.2.2.1,yY.2.2.2⟩
  ·have CZ:q'.res.name≠name:=λe=>hj (F1 ht hjq f2 (e.trans f3.symm))
   rw[QH CZ];exact d3 q' (mG hjq)
def Wu{r:BE}{h a:BR}(hf:r.fits h=true)(hg:Gr a h)(ha:usable a=true):r.fits a=true:=by
 have:=SY hf hg;simp only[BE.covers,BE.permits,and_eq_true,or_eq_true]at this;rcases this.1.2.2 with h1|h1
 ·exact absurd (zero_eq h1) (MO ha)
 ·exact h1
structure Q5(t0:List Queue)(i:Nat)(x z:Bu)(a:Nat)(w:Ap)(az:List Atom):Prop where
 ve:VE (some i) w
 at_:w.procs[i]?=some z
 zp:z.proc=x.proc
 fits:Kt w.Aa x
 sub:∀ b∈az,(∃ e∈x.AB.entries,e.name=b.name)/\b.AH=An (x.AB.entries.take a) b.name
 todo:∀ q∈w.Aa,(∃ b∈az,b.name=q.res.name)->KF q x.proc (An x.AB.entries q.res.name)
 done:∀ q∈w.Aa,(¬ ∃ b∈az,b.name=q.res.name)->KF q x.proc (An (x.AB.entries.take a) q.res.name)
 uq:(az.map (·.name)).Nodup
 tr:Ds x.proc t0 w.Aa
theorem mQ(w:Ap)(p:Ac)(a:Atom):(G5 w p a).now=w.now:=by
 unfold G5;split
 ·rfl
 ·split<;>rfl
def Q5.step{t0:List Queue}{i:Nat}{x z:Bu}{a:Nat}{w:Ap}{b:Atom}{az:List Atom}(hv:Bx x.AB=true)(h:Q5 t0 i x z a w (b::az)):Q5 t0 i x z a (G5 w x.proc b) az:=by
 have ht:=h.ve.je.tab;obtain⟨UL,Ss⟩:=h.sub b (by simp);obtain⟨k,q,f1,f2,f3,f4⟩:=h.fits b.name UL;have hg:w.Aa.getD k q0=q:=by grind
 have UQ:=mG f2;have hu:=List.nodup_cons.1 (show (b.name::az.map (·.name)).Nodup from h.uq);have hnk:∀ n,n=b.name->¬ ∃ c∈az,c.name=n:=λn e ⟨c,hc,hn⟩=>hu.1 (mem_map.2 ⟨c,hc,hn.trans e⟩)
 have Uf:=h.todo q UQ ⟨b,by simp,f3.symm⟩;rw[f3]at Uf;have hqv:=ht.val q UQ
 by_cases CZ:Am q.holds x.proc=b.AH
 ·have e:G5 w x.proc b=w:=by
   simp_all[G5]
  rw[e];refine⟨h.ve,h.at_,h.zp,h.fits,λc hc=>h.sub c (by grind),λq' FI ⟨c,hc,fD⟩=>h.todo q' FI ⟨c,by grind,fD⟩,λq' FI hx=>?_,hu.2,h.tr⟩
  by_cases e2:q'.res.name=b.name
  ·obtain⟨j,hj⟩:=List.getElem?_of_mem FI;have:=F1 ht hj f2 (e2.trans f3.symm);subst this;rw[f2]at hj;have:=Option.some.inj hj;subst this;rw[f3,<- Ss];exact⟨Uf.1,CZ⟩
  ·refine h.done q' FI fun⟨c,hc,fD⟩=>?_
   grind
 ·have rN:(Am q.holds x.proc).zero=false:=by rw[Uf.2];exact Jb f4
  have hc:q.res.covers (Am q.holds x.proc) b.AH=true:=by rw[Uf.2,Ss];grind[SY,S4]
  have e1:=Tk ht f1 f2 Uf.1 rN hc;have hX:=bJ hqv rN Uf.1 hc;have yY:=HQ hqv rN Uf.1 hc;have GR:=I5 ht f2 hX;have hsT:Gi x.proc w.Aa (w.Aa.set k (AD q x.proc b.AH).1):=by
   obtain⟨q',e2,g,_⟩:=Jv ht f1 f2 Uf.1 rN hc;grind
  have e:G5 w x.proc b=Da w (w.Aa.set k (AD q x.proc b.AH).1) (BH w.Aa x.proc b).2.1:=by simp_all[G5]
  have dD:(AD q x.proc b.AH).1.res.name=b.name:=by rw[hX.res];omega
  have Ha:∀ q'∈w.Aa.set k (AD q x.proc b.AH).1,q'=(AD q x.proc b.AH).1\/(q'∈w.Aa/\q'.res.name≠b.name):=λq' FI=>by
   rcases D6 (q:=q) FI with hh|⟨j,hj,hjq⟩
   ·grind
   grind[F1]
  rw[e];refine⟨h.ve.step h.at_ rfl rfl (by rw[h.zp];exact hsT) (by rw[h.zp];exact GR),h.at_,h.zp,h.fits.res GR.res,λc hc=>h.sub c (by grind),λq' FI hx=>?_,λq' FI hx=>?_,hu.2,h.tr.trans GR⟩
  ·rcases Ha q' FI with rfl|⟨h1,h2⟩
   ·grind
   ·obtain⟨c,hc,fD⟩:=hx;exact h.todo q' h1 ⟨c,by grind,fD⟩
  ·rcases Ha q' FI with rfl|⟨h1,h2⟩
   ·rw[dD,<- Ss];exact⟨yY.2.2.1,yY.2.2.2⟩
   ·refine h.done q' h1 fun⟨c,hc,fD⟩=>?_
    grind
def Q5.all{t0:List Queue}{i:Nat}{x z:Bu}{a:Nat}(hv:Bx x.AB=true):∀ (az:List Atom) {w:Ap},Q5 t0 i x z a w az->Q5 t0 i x z a (Dn w x.proc az) []/\(Dn w x.proc az).now=w.now
 |[],_,h=>⟨h,rfl⟩
 | b::az,w,h=>by
  obtain⟨g1,g2⟩:=Q5.all hv az (h.step hv);exact⟨g1,g2.trans (mQ _ _ _)⟩
def jI{l:Ledger}{label:Int}(h:(BQ l label).2.2=0):∃ a n,Oj l label=some (a,n)/\(BQ l label).2.1=MN l a/\(BQ l label).1=PZ l a n:=by
 unfold BQ at h ⊢;grind
def rD{l:List Entry}{a:Nat}{n:Bs}(h:¬ ∃ e∈l.drop a,e.name=n):An (l.take a) n=An l n:=by
 have:∀ (m:List Entry) (v:BR),(¬ ∃ e∈m,e.name=n)->m.foldl (λa e=>if e.name==n then e.after else a) v=v:=by
  intro m
  induction m<;>grind
 unfold An
 conv=>rhs;rw[<- List.take_append_drop a l,List.foldl_append]
 grind
def jT{w:Ap}{i:Nat}{x:Bu}{label:Int}(h:VE none w)(hx:w.procs[i]?=some x)(h0:(BQ x.AB label).2.2=0) :
 VE none (NJ w i x label)/\(NJ w i x label).now=w.now/\(∃ y,(NJ w i x label).procs=w.procs.set i y/\y.proc=x.proc/\y.waiting=false)/\Ds x.proc w.Aa (NJ w i x label).Aa:=by
 have hf:=h.Lc i x hx (by simp);have hv:=(EB _).2 hf.AB;obtain⟨a,n,hb,e1,e2⟩:=jI h0;obtain⟨p1,p2,p3⟩:=Yr x;have hli:=Au hx;have rC:VE none (Fm w i x)/\(Fm w i x).procs=w.procs.set i (DM x)/\(Fm w i x).now=w.now/\Idle (Fm w i x).Aa x/\Ds x.proc w.Aa (Fm w i x).Aa/\Yh (DM x).Bk=true/\(DM x).since=0:=by
  unfold Fm DM;cases hw:x.waiting
  ·obtain⟨d1,d2,d3⟩:=hf.idle hw;exact⟨h,(My hx).symm,rfl,d3,.refl h.je.tab,d1,d2⟩
  ·simp;obtain⟨g1,g2,g3,g4⟩:=JL h hx hw;exact⟨g1,Ch _ _ _,g3,g4,g2,bR,rfl⟩
 obtain⟨c1,c2,c3,c4,c5,c6,c7⟩:=rC;have c2':(Fm w i x).procs[i]?=some (DM x):=by grind
 have hS:Q5 w.Aa i x (Gu (DM x) (BQ x.AB label).1) a (AW (Fm w i x) i (Gu (DM x) (BQ x.AB label).1)) (MN x.AB a):=by
  refine⟨(c1.gb i).set' c2' rfl,by grind[AW],p1,hf.fits.res c5.res,λb hb=>?_,λq hq _=>c4 q hq,λq hq hn=>?_,?_,c5⟩
  ·simp[MN]at hb;obtain⟨m,hm,rfl⟩:=hb;obtain⟨e,he,hn⟩:=(E5 _ _).1 hm;grind
  ·rw[rD]
   ·exact c4 q hq
   ·intro hd;refine hn ⟨⟨q.res.name,An (x.AB.entries.take a) q.res.name⟩,?_,rfl⟩;exact mem_map.2 ⟨q.res.name,(E5 _ _).2 hd,rfl⟩
  grind[MN,Nv]
 obtain⟨g1,g2⟩:=Q5.all hv _ hS;have hp:(Dn (AW (Fm w i x) i (Gu (DM x) (BQ x.AB label).1)) x.proc (MN x.AB a)).procs=w.procs.set i (Gu (DM x) (BQ x.AB label).1):=by grind[GW,AW,set_set]
 have P4:(DM x).cost=x.cost:=by unfold DM;split<;>rfl
 unfold NJ;rw[p1,e1];refine⟨VE.set (z:=Gu (DM x) (BQ x.AB label).1) g1.ve g1.at_ rfl (L6 hf.head p1 P4 ?_ (KQ _) (λm hm=>?_) p2 c6 c7 λq hq=>?_),g2.trans c3,⟨CA (Gu (DM x) (BQ x.AB label).1),?_,p1,p2⟩,g1.tr⟩
 ·show Gx (BQ x.AB label).1;rw[e2];exact hf.AB.cut hb
 ·have e:(CA (Gu (DM x) (BQ x.AB label).1)).AB.entries=x.AB.entries.take a:=by
   show (BQ x.AB label).1.entries=_;rw[e2];rfl
  rw[e]at hm ⊢;obtain⟨b,Cg,nR⟩:=hm;obtain⟨k,q,k1,k2,k3,k4⟩:=g1.fits m ⟨b,List.mem_of_mem_take Cg,nR⟩;refine⟨k,q,k1,k2,k3,Wu k4 (S4 hv m a) ?_⟩
  by_cases ha:a<=x.AB.entries.length
  ·grind[PG]
  ·have hu:=PG hv (n:=m) x.AB.entries.length (le_refl _) ⟨b,by grind,nR⟩;rw[List.take_of_length_le (by omega)];rw[List.take_length]at hu;exact hu
 ·have e:(CA (Gu (DM x) (BQ x.AB label).1)).AB.entries=x.AB.entries.take a:=by
   show (BQ x.AB label).1.entries=_;rw[e2];rfl
  rw[e];have:=g1.done q hq (by simp);rw[show (CA (Gu (DM x) (BQ x.AB label).1)).proc=x.proc from p1];exact this
 grind[AW,set_set]
theorem r8{q:Queue}(hv:valid q=true){p:Ac}(h:JY q p):OH q p=true:=by
 have hs:=((BN q).1 hv).1;unfold OH;rw[or_eq_true];rcases h with ⟨x,hx,rfl⟩|⟨x,hx,hp⟩|⟨x,hx,hp⟩
 ·grind[bn]
 ·grind[MQ]
 grind[MQ]
def te{q:Queue}(hv:valid q=true){p x:Ac}(h:JY (CN p q).1 x):JY q x/\x≠p:=by
 have Hf:=AfC p hv;unfold CN at h;cases hq:OH q p
 ·rw[hq]at h;simp at h;exact⟨h,λe=>by grind[r8]⟩
 ·rw[hq]at h;simp at h;unfold Ge at h;simp[hv]at h;split at h
  ·rw[SL]at h;exact(WK q p x).1 h
  ·rcases h with ⟨_,hm,_⟩|⟨_,hm,_⟩|⟨_,hm,_⟩<;>simp[q0]at hm
def Acf{t:List Queue}(p:Ac)(h:DI t):Ds p t (Cy t p).1/\∀ q∈(Cy t p).1,∀ x,JY q x->x≠p:=by
 have e:(Cy t p).1=t.map λq=>(CN p q).1:=by grind[Cy,EO]
 rw[e];refine⟨⟨by simp,λk q hq=>⟨(CN p q).1,by grind,AfC p (h.val q (mG hq))⟩⟩,λq hq x hx=>?_⟩;obtain⟨q',FI,rfl⟩:=mem_map.1 hq;exact(te (h.val q' FI) hx).2
def YF{l:List Bu}{i:Nat}{x:Bu}{P:Ac->Prop}(hx:l[i]?=some x)(p:Ac)(hp:p∈l.map (·.proc))(CZ:p≠x.proc):p∈(l.eraseIdx i).map (·.proc):=by
 obtain⟨z,hz,rfl⟩:=mem_map.1 hp;refine mem_map.2 ⟨z,?_,rfl⟩;obtain⟨j,hj⟩:=List.getElem?_of_mem hz;have Abp:j≠i:=λe=>by grind
 rw[List.eraseIdx_eq_take_drop_succ,mem_append];rcases lt_or_ge j i with AP|JX
 ·exact .inl (mG (i:=j) (by grind))
 ·exact .inr (mG (i:=j-(i+1)) (by grind))
def lF{w:Ap}{i:Nat}{x:Bu}(h:VE none w)(hx:w.procs[i]?=some x):VE none (NO w i x)/\(NO w i x).now=w.now/\pz [x.proc] w (NO w i x)/\∀ y∈(NO w i x).procs,y.proc≠x.proc:=by
 obtain⟨hX,RP⟩:=Acf x.proc h.je.tab;have GJ:∀ (j:Nat) (y:Bu),(w.procs.eraseIdx i)[j]?=some y->∃ j',w.procs[j']?=some y/\j'≠i:=λj y hj=>by grind
 have Abq:∀ y∈w.procs.eraseIdx i,y∈w.procs/\y.proc≠x.proc:=λy hy=>by
  obtain⟨j,hj⟩:=List.getElem?_of_mem hy;obtain⟨j',h1,h2⟩:=GJ j y hj;exact⟨mG h1,λe=>h2 (h.je.uq j' i y x h1 hx e)⟩
 refine⟨⟨PF h.je hx,?_,λq hq p hi=>?_,h.now,λj y hj _=>?_⟩,rfl,⟨hX.off,λz hz hn=>?_,λz hz _=>(Abq z hz).1⟩,λy hy=>(Abq y hy).2⟩
 ·show ((w.procs.eraseIdx i).map (·.proc)).Pairwise _;exact h.ord.sublist ((List.eraseIdx_sublist _ _).map _)
 ·obtain⟨q',FI,hs⟩:=hX.mem hq;have CZ:=RP q hq p hi;rcases hs.sa p hi with hi|rfl
  ·exact YF (P:=λ_=>True) hx p (h.known q' FI p hi) CZ
  ·exact absurd rfl CZ
 ·obtain⟨j',h1,h2⟩:=GJ j y hj;exact(h.Lc j' y h1 (by simp)).step hX (Abq y (mG hj)).2
 ·have CZ:z.proc≠x.proc:=by grind
  obtain⟨y,hy,_⟩:=mem_map.1 (YF (P:=λ_=>True) hx z.proc (mem_map.2 ⟨z,hz,rfl⟩) CZ);obtain⟨j,hj⟩:=List.getElem?_of_mem hz;have Abp:j≠i:=λe=>by grind
  show z∈w.procs.eraseIdx i;rw[List.eraseIdx_eq_take_drop_succ,mem_append];rcases lt_or_ge j i with AP|JX
  ·exact .inl (mG (i:=j) (by grind))
  ·exact .inr (mG (i:=j-(i+1)) (by grind))
def yb{w:Ap}{i:Nat}{x:Bu}{n:Int}(h:VE none w)(hx:w.procs[i]?=some x)(hw:x.waiting=false)(h0:(E9 x.AB n).2=0):VE none (AW w i (CA (Mx x n))):=by
 have hf:=h.Lc i x hx (by simp);obtain⟨d1,d2,d3⟩:=hf.idle hw;obtain⟨l1,l2⟩:=hf.AB.save h0;refine(h.gb i).set hx rfl (L6 hf.head rfl rfl l1 (KQ _) (λm hm=>?_) hw d1 d2 λq hq=>?_)
 ·have e:(CA (Mx x n)).AB.entries=x.AB.entries:=l2;rw[e]at hm ⊢;exact hf.fits m hm
 ·have e:(CA (Mx x n)).AB.entries=x.AB.entries:=l2;rw[e];exact d3 q hq
theorem xz:Gx CI:=(EB _).1 (by kernel_rfl)
def XK{l:List Bu}{p:Ac}(ho:(l.map (·.proc)).Pairwise λa b=>BF a b<0)(hn:p∉l.map (·.proc)):∀ k,k<=l.length->(∀ y∈l.drop k,BF p y.proc<0)->(∀ y∈l.take (HY l p k),BF y.proc p<0)/\∀ y∈l.drop (HY l p k),BF p y.proc<0
 | 0,_,h=>⟨λy hy=>by grind[HY],by grind⟩
 | k+1,hk,h=>by
  have hg:l.getD k x0=l[k]:=by grind
  have hs:=DP l[k].proc p;simp only[HY,hg];split
  ·rename_i hc;refine XK ho hn k (by omega) λy hy=>?_
   rw[List.drop_eq_getElem_cons (by omega)]at hy;grind
  ·rename_i hc;refine⟨λy hy=>?_,h⟩;have xe:BF l[k].proc p<0:=by grind[FL]
   rw[List.take_succ_eq_append_getElem (by omega)]at hy;rcases mem_append.1 hy with hy|hy
   ·obtain⟨j,hj,rfl⟩:=List.mem_iff_getElem.1 hy;simp at hj;rw[List.getElem_take];rw[pairwise_map]at ho;exact DQ (pairwise_iff_getElem.1 ho j k (by omega) (by omega) (by omega)) xe
   ·rw[List.mem_singleton.1 hy];exact xe
def WM{l:List Bu}{p:Ac}(h:¬ 0<=E4 l p):p∉l.map (·.proc):=λhm=>by grind[E4]
def xV{w:Ap}{p:Ac}{cost:Int}(h:VE none w)(h0:(F2 w p cost).2=0):VE none (F2 w p cost).1/\(F2 w p cost).1.now=w.now/\pz [p] w (F2 w p cost).1:=by
 revert h0;unfold F2;split
 ·omega
 rename_i h1;split
 ·omega
 rename_i h2;split
 ·omega
 rename_i h3;intro _;simp only[or_eq_true,Bool.not_eq_true',decide_eq_true_eq,not_or,Bool.not_eq_false]at h1;have Uq:=WM h2;obtain⟨s1,s2⟩:=XK (p:=p) h.ord Uq w.procs.length (le_refl _) (by simp);have Ha:∀ y,y∈Yb w.procs (P1 p cost)↔y∈w.procs\/y=P1 p cost:=λy=>bL _ _ _ _
 have hle:HY w.procs p w.procs.length<=w.procs.length:=fK _ _ _;have hlen:(Yb w.procs (P1 p cost)).length=w.procs.length+1:=by grind[Yb,UT]
 have bq:((Yb w.procs (P1 p cost)).map (·.proc)).Pairwise λa b=>BF a b<0:=by
  have ho:=h.ord;rw[pairwise_map]at ho ⊢;show (w.procs.take (HY w.procs p w.procs.length)++P1 p cost::w.procs.drop (HY w.procs p w.procs.length)).Pairwise _;rw[List.pairwise_append];refine⟨ho.sublist (List.take_sublist _ _),List.pairwise_cons.2 ⟨λy hy=>s2 y hy,ho.sublist (List.drop_sublist _ _)⟩,λa ha b hb=>?_⟩;rcases List.mem_cons.1 hb with rfl|hb
  ·exact s1 a ha
  grind[DQ]
 have UP:Fine w.now w.Aa (P1 p cost):=by
  refine⟨(HC _).2 ⟨h1.1,by show 1<=cost;omega,by show cost<=1000;omega,(EB _).2 xz,(by show (0:Int)<=0;omega),(by show (0:Int)<=1073741824;omega)⟩,λn ⟨e,he,_⟩=>by grind[P1,CI],λe=>by(cases e),λ_=>⟨bR,rfl,λq hq=>?_⟩⟩;have Up:¬ JY q p:=λhi=>Uq (h.known q hq p hi)
  refine⟨?_,?_⟩
  ·show Ar q p=none;rw[Ga];intro w hw e;rcases mem_append.1 hw with hw|hw
   ·exact Up (.inr (.inl ⟨w,hw,e⟩))
   ·exact Up (.inr (.inr ⟨w,hw,e⟩))
  ·show Am q.holds p=⟨0,0⟩;cases hz:(Am q.holds p).zero
   ·exact absurd (.inl (Kl hz)) Up
   grind[zero_eq]
 have yT:∀ y∈Yb w.procs (P1 p cost),Fine w.now w.Aa y:=λy hy=>by
  rcases(Ha y).1 hy with hy|rfl
  ·obtain⟨j,hj⟩:=List.getElem?_of_mem hy;exact h.Lc j y hj (by simp)
  omega
 refine⟨⟨⟨h.je.tab,?_,λa b u v ha hb e=>?_,λj y hj _ hw=>?_⟩,bq,λq hq x hi=>?_,h.now,λj y hj _=>yT y (mG hj)⟩,rfl,⟨?_,λz hz _=>(Ha z).2 (.inl hz),λz hz hn=>?_⟩⟩
 ·show (Yb w.procs (P1 p cost)).length<=8;rw[hlen];have:=h.je.n;omega
 ·rw[pairwise_map]at bq;rcases Nat.lt_trichotomy a b with AP|rfl|AP
  ·grind[pairwise_iff_getElem,CJ]
  ·rfl
  grind[pairwise_iff_getElem,CJ]
 ·have hf:=yT y (mG hj);refine⟨((PT _).1 (hf.wait hw).1).1,λa ha=>?_,hf.K h.je.tab⟩;obtain⟨k,_,hk,_⟩:=DF h.je.tab (hf.wait hw).2.1 ha;grind
 ·obtain⟨z,hz,zi⟩:=mem_map.1 (h.known q hq x hi);grind
 ·exact(Ds.refl (p:=p) h.je.tab).off
 ·rcases(Ha z).1 hz with hz|rfl<;>simp_all[P1]
def X0:Hw:=⟨0,[],[]⟩
def Yz(c:Hw)(k:MS):Hw × List Ev × Int :=
 if Ck c then (if (NX ⟨c.now,c.Aa,c.procs,[]⟩ k).2=0 then (⟨(NX ⟨c.now,c.Aa,c.procs,[]⟩ k).1.now,(NX ⟨c.now,c.Aa,c.procs,[]⟩ k).1.Aa,(NX ⟨c.now,c.Aa,c.procs,[]⟩ k).1.procs⟩,(NX ⟨c.now,c.Aa,c.procs,[]⟩ k).1.D1,0) else (X0,[],(NX ⟨c.now,c.Aa,c.procs,[]⟩ k).2)) else (X0,[],2)
def j9(c:Hw)(k:MS)(h:Fa c.Aa):Ad C0 119 [.agg c.c,.agg k.c] [] (.BC [.agg (Yz c k).1.c,dh (Yz c k).2.1,I (Yz c k).2.2]) []:=by
 have hn:=h.n;refine Ad.go f119 ?_;unfold f119;refine gO ?_;refine Ab (q9 c h) ?_;cases hv:Ck c
 ·have ht:Yz c k=(X0,[],2):=by simp[Yz,hv]
  rw[ht];simp(disch:=omega)only[go_sem,Bool.not_false];refine CT _ ?_;simp(disch:=omega)only[go_sem,X0,map_nil];refine .BC (Ae.AJ ?_);simp(disch:=omega)only[go_sem]
  repeat'(with_reducible apply And.intro)
  all_goals(first|exact .A8 (by omega)|exact .agg (Ae.AJ gI))
 have Md:=Lh hv;have Sv:c.procs.length<=8:=Md.je.n;obtain⟨w,hw⟩:∃ w:Ap,w=⟨c.now,c.Aa,c.procs,[]⟩:=⟨_,rfl⟩;have ht:Yz c k=(if (NX w k).2=0 then (⟨(NX w k).1.now,(NX w k).1.Aa,(NX w k).1.procs⟩,(NX w k).1.D1,0) else (X0,[],(NX w k).2)):=by simp only[Yz,hv,if_true,hw]
 rw[<- hw]at Md;simp(disch:=omega)only[go_sem,Bool.not_true];refine By ⟨⟨[],[],[]⟩,[(0,896)],[]⟩ (vH c (by omega) (by omega)) gI rfl gI (.inl rfl) ?_;refine gO ?_;refine By ⟨⟨[(896,0)],[(1024,63)],[]⟩,[(1,1216)],[]⟩ (vI w k Md) gI rfl ?_ (.inl rfl) ?_
 ·rw[hw];simp(disch:=omega)only[go_sem,map_nil]
  done
 refine gO ?_;refine And.intro (λhc=>?_) (λhc=>?_)
 ·have X6:(NX w k).2≠0:=by simpa using hc
  rw[if_neg X6]at ht;rw[ht];refine CT _ ?_;simp(disch:=omega)only[go_sem,X0,map_nil];refine .BC (Ae.AJ ?_);simp(disch:=omega)only[go_sem]
  repeat'(with_reducible apply And.intro)
  all_goals(first|exact .A8 (by omega)|exact .agg (Ae.AJ gI))
 ·have X6:(NX w k).2=0:=by simpa using hc
  rw[if_pos X6]at ht;rw[ht];obtain⟨w2,zf⟩:∃ w2,w2=(NX w k).1:=⟨_,rfl⟩;rw[<- zf];refine Ep (st':=⟨[(7,.ptr 1024 0),(4,.ptr 256 0)],[(256,[I 0,.v (.slice none 0 0),.v (.slice none 0 0)]),(1024,[I w2.now,AN w2.Aa,.sl (.own 896 0) 16 (w2.procs.map Bu.c),.sl (.own 1216 0) 7 (w2.D1.map Ev.c)])]⟩) ?_ ?_
  ·rw[zf];exact AK
  refine Kh 8 [([],[7]),([0],[24]),([0,1],[25]),([0,1,2],[26]),([],[7]),([4],[28]),([4,5],[29]),([4,5,6],[30]),([0,1,2,3],[]),([0,1,2,3,4,5,6,7,8],[]),([0,1,2,3,4,5,6,7,8,9],[])] [4,5,6,7] [([],[27,7,4],let o0:OT:=.done;let o1:OT:=.pick [(10,o0)];let o2:OT:=.pick [(9,o1)];let o3:OT:=.pick [(8,o2)];let o4:OT:=.pick [(7,o2)];let o5:OT:=.pick [(7,o3),(8,o4)];let o6:OT:=.pick [(6,o4)];let o7:OT:=.pick [(6,o5),(8,o6)];let o8:OT:=.pick [(5,o6)];let o9:OT:=.pick [(5,o7),(8,o8)];let gu:OT:=.pick [(4,o8)];let oL:OT:=.pick [(4,o9),(8,gu)];oL),([4],[28,27,7,4],let o0:OT:=.done;let o1:OT:=.pick [(10,o0)];let o2:OT:=.pick [(9,o1)];let o3:OT:=.pick [(8,o2)];let o4:OT:=.pick [(7,o2)];let o5:OT:=.pick [(7,o3),(8,o4)];let o6:OT:=.pick [(6,o4)];let o7:OT:=.pick [(6,o5),(8,o6)];let o8:OT:=.pick [(5,o6)];let o9:OT:=.pick [(5,o7),(8,o8)];o9),([4,5],[29,27,7,4],let o0:OT:=.done;let o1:OT:=.pick [(10,o0)];let o2:OT:=.pick [(9,o1)];let o3:OT:=.pick [(8,o2)];let o4:OT:=.pick [(7,o2)];let o5:OT:=.pick [(7,o3),(8,o4)];let o6:OT:=.pick [(6,o4)];let o7:OT:=.pick [(6,o5),(8,o6)];o7),([4,5,6],[30,27,7,4],let o0:OT:=.done;let o1:OT:=.pick [(10,o0)];let o2:OT:=.pick [(9,o1)];let o3:OT:=.pick [(8,o2)];let o4:OT:=.pick [(7,o2)];let o5:OT:=.pick [(7,o3),(8,o4)];o5),([4,5,6,7],[27,31,7,4],let o0:OT:=.done;let o1:OT:=.pick [(10,o0)];let o2:OT:=.pick [(9,o1)];let o3:OT:=.pick [(8,o2)];o3)] B6 (by kernel_rfl) ?_;simp(disch:=omega)only[go_sem]
  repeat'(with_reducible refine And.intro ?_ ?_)
  all_goals
   refine AY ⟨[],[],[896,1216]⟩ _ (by(try simp(disch:=omega)only[go_sem,Cx,Gv])<;>rfl) ⟨rfl,rfl⟩ (by simp[lk]) ?_ trivial;simp(disch:=omega)only[go_sem]
def Ql(w:Ap):Prop:=∀ x∈w.procs,x.waiting=true->x.Bk.CP=0\/w.now<x.since+x.Bk.CP
def fy{w:Ap}(h:VE none w):∀ y∈(B3 w).procs,y.waiting=true->y∈w.procs:=λy hy hw=>by
 obtain⟨ms,g1,_,g3⟩:=Ux h
 by_cases hm:y.proc∈ms
 ·grind
 ·exact g1.back y hy hm
def fx{w:Ap}(h:VE none w)(ht:Ql w):Ql (B3 w):=λy hy hw=>by
 rw[(NB h).2];exact ht y (fy h y hy hw) hw
def di{now:Int}{l:List Bu}:∀ i,i<=l.length->(L3 now (l.take i)).2.1 = -1->∀ j x,j<i->l[j]?=some x->¬ (x.waiting=true/\x.Bk.CP≠0/\Lb x<=now)
 | 0,_,_,j,_,hj,_=>by omega
 | i+1,hi,h,j,x,hj,hx=>by
  obtain⟨b,hb⟩:∃ b,l[i]?=some b:=⟨_,gE (by omega)⟩;rw[SN now hb]at h;split at h
  ·omega
  ·rename_i hc
   by_cases e:j=i
   ·grind[NY]
   ·exact di i (by omega) h j x (by omega) hx
def Aaa{x:Bu}(h1:0<=x.since/\x.since<=1073741824)(h2:0<=x.Bk.CP/\x.Bk.CP<=1000):Lb x=x.since+x.Bk.CP:=by grind[Lb,wrap64]
def oo{w:Ap}(h:VE none w)(he:Rr w = -1):Ql w:=λx hx hw=>by
 obtain⟨j,hj⟩:=List.getElem?_of_mem hx;have hf:=h.Lc j x hj (by simp);obtain⟨a,b,c,d,_⟩:=hf.wait hw;obtain⟨_,_,_,l1,l2⟩:=(PT _).1 a;have hn:=h.now;have hd:=Aaa (x:=x) ⟨c,by omega⟩ ⟨l1,l2⟩;have:=di (now:=w.now) (l:=w.procs) w.procs.length (le_refl _) (by rw[List.take_length];exact he) j x (Au hj) hj;rw[hd]at this
 by_cases hl:x.Bk.CP=0
 ·exact .inl hl
 ·exact .inr (by grind)
def Mz{w w':Ap}{i:Nat}{y:Bu}(ht:Ql w)(hp:w'.procs=w.procs.set i y)(hn:w'.now=w.now)(hy:y.waiting=true->y.Bk.CP=0\/w.now<y.since+y.Bk.CP):Ql w':=λz hz hw=>by
 rw[hp]at hz;rw[hn];rcases List.mem_or_eq_of_mem_set hz with hz|rfl
 ·exact ht z hz hw
 grind
structure VC(w:Ap):Prop where
 ve:VE none w
 quiet:Ho w=none
 time:Ql w
def MA{w:Ap}(h:VE none w)(ht:Ql w):VC (B3 w):=⟨(NB h).1,Qg w,fx h ht⟩
def Mw{w:Ap}:Ho w=none↔∀ x∈w.procs,Lf w x=false:=by grind[Ho]
def pU{a:BR}(h:(a.mode==0&&a.AG==0)=false):a≠⟨0,0⟩:=λe=>by grind
def oT{w:Ap}{i:Nat}{y:Bu}(h:Ho w=none)(hy:y.waiting=false):Ho (AW w i y)=none:=by
 rw[Mw]at *;intro x hx;simp[AW]at hx;rcases List.mem_or_eq_of_mem_set hx with hx|rfl
 ·exact h x hx
 grind[Lf]
theorem z7{w:Ap}{k:MS}{i:Nat}{x:Bu}(h:VC w)(hx:w.procs[i]?=some x)(h0:(Qv w k i x).2=0):VC (Qv w k i x).1:=by
 have hi:=Au hx;revert h0;unfold Qv;split
 ·unfold Ez;split
  ·intro h0;simp at h0
  rename_i hw;split
  ·rename_i hr;split
   ·rename_i hv;intro _;obtain⟨g1,g2,g3,_⟩:=pY h.ve hx (by grind) hr hv;refine MA g1 (Mz h.time g3 g2 λ_=>?_);obtain⟨_,_,_,l1,_⟩:=(PT _).1 hr;show k.Bk.CP=0\/w.now<w.now+k.Bk.CP;omega
   ·rename_i hv;intro h0;exact absurd h0 hv
  ·intro h0;simp at h0
 split
 ·split
  ·rename_i hw;intro _;obtain⟨g1,_,g3,_⟩:=JL h.ve hx hw;have hp:(Bb w i x).procs[i]?=some (CH x):=by grind[Ch]
   refine MA (g1.next hp) (Mz (w:=Bb w i x) (Mz h.time (Ch _ _ _) g3 λe=>by cases e) rfl rfl λe=>by cases e)
  ·intro h0;simp at h0
 split
 ·unfold Fv;split
  ·intro h0;simp at h0
  rename_i hw;split
  ·intro h0;simp at h0
  rename_i hz;intro _;obtain⟨g1,g2,⟨y,g3,_,g5⟩,_⟩:=lD (name:=k.name) h.ve hx (by grind) (pU (by grind));exact MA g1 (Mz h.time g3 g2 λe=>by grind)
 split
 ·split
  ·intro h0;simp at h0
  rename_i hw;have hw:x.waiting=false:=by grind
  split
  ·rename_i hs;intro _;exact⟨yb h.ve hx hw hs,oT h.quiet hw,Mz h.time rfl rfl λe=>by simp_all[CA,Mx]⟩
  ·rename_i hs;intro h0;exact absurd h0 hs
 split
 ·unfold Fx;split
  ·rename_i hu;intro _;obtain⟨g1,g2,⟨y,g3,_,g5⟩,_⟩:=jT h.ve hx hu;exact MA g1 (Mz h.time g3 g2 λe=>by grind)
  ·rename_i hu;intro h0;exact absurd h0 hu
 have RP:VC (Ud w i x):=by
  obtain⟨g1,g2,g3,_⟩:=lF h.ve hx;refine MA g1 λy hy hw=>?_
  rw[g2];have hy':y∈w.procs.eraseIdx i:=hy;exact h.time y (List.mem_of_mem_eraseIdx hy') hw
 split
 ·split
  ·intro h0;simp at h0
  ·intro _;exact RP
 ·intro _;exact RP
theorem xU{w:Ap}{p:Ac}{cost:Int}(h:VC w)(h0:(F2 w p cost).2=0):VC (F2 w p cost).1:=by
 obtain⟨g1,g2,g3⟩:=xV h.ve h0;have Ha:∀ y∈(F2 w p cost).1.procs,y∈w.procs\/y=P1 p cost:=by
  revert h0;unfold F2;split
  ·omega
  split
  ·omega
  split
  ·omega
  intro _ y hy;exact(bL _ _ _ _).1 hy
 have hq:(F2 w p cost).1.Aa=w.Aa:=by grind[F2]
 refine⟨g1,?_,λy hy hw=>?_⟩
 ·rw[Mw];intro y hy;rcases Ha y hy with hy|rfl
  ·have:=Mw.1 h.quiet y hy;unfold Lf at this ⊢;rw[hq];exact this
  ·rfl
 ·rw[g2];rcases Ha y hy with hy|rfl
  ·exact h.time y hy hw
  ·cases hw
theorem yj{w:Ap}{n:Int}(h:VC w)(h0:(JH w n).2=0):VC (JH w n).1:=by
 revert h0;unfold JH;split
 ·omega
 rename_i h1;split
 ·omega
 rename_i h2;intro _;simp only[or_eq_true,decide_eq_true_eq,not_or]at h1 h2;have hn:=h.ve.now;have hv:VE none { w with now:=w.now+n }:=by
  refine⟨⟨h.ve.je.tab,h.ve.je.n,h.ve.je.uq,h.ve.je.FM⟩,h.ve.ord,h.ve.known,?_,λj x hj CZ=>?_⟩
  ·grind
  ·have hf:=h.ve.Lc j x hj CZ;refine⟨hf.head,hf.fits,λhw=>?_,hf.idle⟩;obtain⟨a,b,c,d,e⟩:=hf.wait hw;grind
 have hq:Ho { w with now:=w.now+n } = none:=h.quiet;obtain⟨r1,r2,_,r4⟩:=dV (wcount { w with now:=w.now+n }) _ hv hq;exact⟨r1,r2,oo r1 (r4 (le_refl _))⟩
theorem z8{w:Ap}{k:MS}(h:VC w)(h0:(NX w k).2=0):VC (NX w k).1:=by grind[NX,xU,yj,List.findIdx?_eq_some_iff_getElem,z7]
def rP{t:List Queue}{x:Bu}(ht:DI t)(hl:Gx x.AB)(hf:Kt t x)(hi:Idle t x):Hi x.AB=Jt t x.proc:=by
 refine js (R:=λa b:Atom=>BD a.name b.name=true) (λa=>by rw[Ij];simp) (λa b h=>OP h) ?_ ?_ λa=>?_
 ·unfold Hi;rw[List.pairwise_filterMap];refine(Xd _).imp λ{m n} hmn a ha b hb=>?_
  grind
 ·unfold Jt;rw[List.pairwise_filterMap,pairwise_iff_getElem];intro i j h1 h2 UN a ha b hb;obtain⟨d,rfl⟩:∃ d,j=i+d+1:=⟨j-i-1,by omega⟩;have:=VA ht d i h2;rw[show t.getD i q0=t[i] by grind,show t.getD (i+d+1) q0=t[i+d+1] by grind]at this;split at ha
  ·cases ha
  split at hb
  ·cases hb
  cases ha;cases hb;exact this
 ·unfold Hi Jt;rw[mem_filterMap,mem_filterMap];constructor
  ·rintro⟨n,hn,ha⟩;split at ha
   ·grind
   rename_i hz;obtain⟨k,q,_,f2,f3,_⟩:=hf n ((E5 _ _).1 hn);have UQ:=mG f2;have hk:=hi q UQ;refine⟨q,UQ,?_⟩;rw[f3]at hk;rw[hk.2,f3,if_neg (by grind[BR.zero])];omega
  ·rintro⟨q,hq,ha⟩;split at ha
   ·grind
   rename_i hz;have hk:=hi q hq;refine⟨q.res.name,(E5 _ _).2 (Y0 λe=>hz ?_),?_⟩
   ·rw[hk.2,e];rfl
   ·rw[hk.2]at ha hz;simp_all[BR.zero]
theorem mX{w:Ap}(h:VC w):Ck ⟨w.now,w.Aa,w.procs⟩=true:=by
 have ht:=h.ve.je.tab;simp[Ck,and_eq_true,decide_eq_true_eq,CY,all_eq_true];refine⟨⟨⟨⟨⟨h.ve.now.1,h.ve.now.2⟩,(EO _).2 ht⟩,h.ve.je.n⟩,λp hp=>?_⟩,λi x hx=>?_⟩
 ·obtain⟨q,hq,hi⟩:=(En _ _).1 hp;have:=h.ve.known q hq p hi
  by_cases hn:0<=E4 w.procs p
  ·exact hn
  ·exact absurd this (WM hn)
 ·have hf:=h.ve.Lc i x hx (by simp);have Ya:=mG hx;simp only[EE,Fu,and_eq_true];refine⟨⟨⟨hf.head,?_⟩,?_⟩,?_⟩
  ·rw[all_eq_true];intro a ha;unfold Hi at ha;rw[mem_filterMap]at ha;obtain⟨n,hn,he⟩:=ha;split at he
   ·grind
   cases he;obtain⟨k,q,f1,f2,f3,f4⟩:=hf.fits n ((E5 _ _).1 hn);grind[Hr]
  ·cases hw:x.waiting
   ·obtain⟨a,b,c⟩:=hf.idle hw;simp only[Bool.false_eq_true,if_false,IV,and_eq_true,decide_eq_true_eq];refine⟨⟨⟨a,by simp[b]⟩,rP ht hf.AB hf.fits c⟩,?_⟩;have:GY w.Aa x.proc=[]:=by
     unfold GY;rw[List.filterMap_eq_nil_iff];intro q hq;rw[(c q hq).1];rfl
    rw[this];rfl
   ·obtain⟨a,b,c,d,e⟩:=hf.wait hw;simp only[if_true,He,and_eq_true,decide_eq_true_eq,all_eq_true,or_eq_true];refine⟨⟨⟨⟨⟨⟨a,by simp[b]⟩,c⟩,d⟩,?_⟩,?_⟩,e⟩
    ·rcases h.time x Ya hw with h1|h1<;>grind
    ·have:=Mw.1 h.quiet x Ya;simp[Lf,hw,Bool.true_and]at this;simp[this]
  ·cases i with
   | zero=>simp
   | succ i =>
    have AP:=Au hx;have ho:=h.ve.ord;rw[pairwise_map]at ho;have:=pairwise_iff_getElem.1 ho i (i+1) (by omega) AP (by omega);rw[get_eq hx]at this;rw[Nat.add_sub_cancel,show w.procs.getD i x0=w.procs[i] by grind];simp[this]
theorem F9{c:Hw}(h:Ck c=true):VC ⟨c.now,c.Aa,c.procs,[]⟩:=by
 have Md:=Lh h;simp[Ck,and_eq_true,decide_eq_true_eq,CY,all_eq_true]at h;obtain⟨⟨⟨⟨⟨h1,h2⟩,h3⟩,h4⟩,h5⟩,h6⟩:=h;have S7:∀ i x,c.procs[i]?=some x->E2 x=true/\(if x.waiting then He c.now c.Aa x else IV c.Aa x)=true:=λi x hi=>by
  have:=h6 i x hi;simp only[EE,Fu,and_eq_true]at this;exact⟨this.1.1.1,this.1.2⟩
 have bq:∀ i x,c.procs[i]?=some x->(decide (i=0)||decide (BF (c.procs.getD (i-1) x0).proc x.proc<0))=true:=λi x hi=>by simp_all[EE]
 have Y7:∀ i x,c.procs[i]?=some x->x.waiting=true->He c.now c.Aa x=true:=λi x hi hw=>by
  have:=(S7 i x hi).2;rw[hw,if_pos rfl]at this;exact this
 refine⟨⟨Md.je,?_,λq hq p hi=>?_,⟨h1,h2⟩,λj x hj _=>⟨(S7 j x hj).1,Md.fits x (mG hj),λhw=>?_,λhw=>?_⟩⟩,?_,λx hx hw=>?_⟩
 ·show (c.procs.map (·.proc)).Pairwise _;rw[pairwise_map,pairwise_iff_getElem];intro i j hi hj UN;obtain⟨d,rfl⟩:∃ d,j=i+d+1:=⟨j-i-1,by omega⟩;exact Mt bq d i _ _ (gE hi) (gE hj)
 ·have:=h5 p ((En _ _).2 ⟨q,hq,hi⟩);unfold E4 at this;cases hf:c.procs.findIdx? (λx=>decide (x.proc=p)) with
  |none=>rw[hf]at this;simp at this
  |some i =>
   obtain⟨hi',hp,_⟩:=List.findIdx?_eq_some_iff_getElem.1 hf;exact mem_map.2 ⟨c.procs[i],List.getElem_mem hi',by grind⟩
 ·have:=Y7 j x hj hw;simp only[He,and_eq_true,decide_eq_true_eq,all_eq_true]at this;obtain⟨⟨⟨⟨⟨⟨a,b⟩,c'⟩,d⟩,e⟩,f⟩,g⟩:=this;exact⟨a,by grind,c',d,g⟩
 ·have:=(S7 j x hj).2;rw[hw]at this;have h7:IV c.Aa x=true:=by grind
  have hid:=Md.idle x (mG hj) hw;simp only[IV,and_eq_true]at h7;exact⟨h7.1.1.1,by grind,hid⟩
 ·rw[Mw];intro x hx;obtain⟨j,hj⟩:=List.getElem?_of_mem hx;cases hw:x.waiting
  ·simp[Lf,hw]
  ·have:=Y7 j x hj hw;simp only[He,and_eq_true,decide_eq_true_eq,all_eq_true]at this;simp[Lf,hw,Bool.true_and];simpa using this.1.2
 ·obtain⟨j,hj⟩:=List.getElem?_of_mem hx;have:=Y7 j x hj hw;simp only[He,and_eq_true,decide_eq_true_eq,all_eq_true,or_eq_true]at this;rcases this.1.1.2 with h7|h7
  ·exact .inl (by grind)
  ·exact .inr h7
def zT{c:Hw}{k:MS}(h:Ck c=true)(h0:(Yz c k).2.2=0):Ck (Yz c k).1=true:=by
 unfold Yz at h0 ⊢;rw[if_pos h]at h0 ⊢;split at h0
 ·rename_i h1;rw[if_pos h1];grind[mX,z8,F9]
 grind
@[reducible] def Ju(l:List Int):AV:=.sl .no 1 (l.map λx=>[I x])
def EY(l:List Int)(a:Nat):List AV:=[Ju l,I a]
def lr(l:List Int):Ad C0 9 [Ju l] [] (B (decide ((l.length:Int)<=300))) []:=by
 refine Ad.lens f9 λhlen=>?_
 simp only[FZ,lens,length_map,and_true,true_and]at hlen;refine Ad.go f9 ?_;unfold f9;simp(disch:=omega)only[go_sem,length_map];exact AQ _
def vl(l:List Int)(a:Nat)(hl:l.length<=1000000):Ad C0 116 [.ptr 63 0] [(63,EY l a)] (B (decide ((a:Int)<l.length))) [(63,EY l a)]:=by
 refine Ad.go f116 ?_;unfold f116;refine gO ?_;refine Ay 9 [([],[0]),([],[3]),([],[4]),([],[5]),([],[0]),([],[7]),([],[8]),([],[9]),([],[10])] B6 ?_;simp(disch:=omega)only[go_sem,EY,length_map];refine C8 ⟨[],[(63,63)],[]⟩ _ ?_ ?_
 ·exact gI
 ·simp(disch:=omega)only[go_sem,EY]
def LJ(x n:Int):Int:=if decide (n<1) then 0 else x%n
def Wm(x n:Int)(hn:n<=2000000):Ad C0 70 [I x,I n] [] (I (LJ x n)) []:=by
 refine Ad.go f70 ?_;unfold f70;refine gO ?_;cases h1:decide (n<1);rotate_left
 ·have e:LJ x n=0:=by simp[LJ,h1]
  rw[e];simp(disch:=omega)only[go_sem,h1];exact AQ _
 have dD:1<=n:=by simpa using h1
 have e:LJ x n=x%n:=by simp only[LJ,h1];rfl
 rw[e];have he:=emod_nonneg x (show n≠0 by omega);have pC:=emod_lt_of_pos x (show 0<n by omega);have hr:x.tmod n=x%n\/x.tmod n=x%n-n:=by
  rw[Int.tmod_eq_emod];split
  ·left;omega
  ·right;omega
 have hn0:=eq_false (show ¬ n=0 by omega);have hw:=wrap64 (x.tmod n+n) (by omega) (by omega);generalize x.tmod n=r at hr hw;generalize x%n=m at he pC hr ⊢;simp(disch:=omega)only[go_sem,h1,hn0];rcases hr with hr|hr
 ·have hd:decide (r<0)=false:=by simp;omega
  simp(disch:=omega)only[go_sem,hd];refine CT _ ?_;simp(disch:=omega)only[go_sem,hr]
 ·by_cases hz:m-n<0
  ·have hd:decide (r<0)=true:=by simp;omega
   simp(disch:=omega)only[go_sem,hd,hw];refine CT _ ?_;simp(disch:=omega)only[go_sem,hr];exact .int (by omega)
  ·omega
def Ak(l:List Int)(a:Nat)(n:Int):Int × Nat:=match l[a]? with
 |none=>(0,a)
 |some x=>(LJ x n,a+1)
def DL(l:List Int)(a:Nat)(n:Int)(hl:l.length<=1000000)(hn:n<=2000000):Ad C0 115 [.ptr 63 0,I n] [(63,EY l a)] (I (Ak l a n).1) [(63,EY l (Ak l a n).2)]:=by
 refine Ad.go f115 ?_;unfold f115;refine gO ?_;refine Ay 9 [([],[0]),([],[5]),([],[6]),([],[7]),([],[0]),([],[9]),([],[10]),([],[11]),([],[12])] B6 ?_;simp(disch:=omega)only[go_sem,EY,length_map];cases hb:l[a]? with
 |none =>
  have hla:l.length<=a:=by
   rcases lt_or_ge a l.length with h|h
   ·rw[gE h]at hb;cases hb
   ·exact h
  have e:Ak l a n=(0,a):=by simp[Ak,hb]
  rw[e];simp(disch:=omega)only[go_sem,eq_true (show (l.length:Int)<=a by omega),decide_true];refine C8 ⟨[],[(63,63)],[]⟩ _ ?_ ?_
  ·exact gI
  ·simp(disch:=omega)only[go_sem,EY]
 |some x =>
  have hla:=Au hb;have e:Ak l a n=(LJ x n,a+1):=by simp[Ak,hb]
  rw[e];have ba:((a:Int)+1-1)=(a:Int):=by omega
  simp(disch:=omega)only[go_sem,eq_false (show ¬ (l.length:Int)<=a by omega),decide_false];refine Ay 12 [([],[0]),([],[22]),([],[23]),([],[24]),([],[0]),([],[26]),([],[27]),([],[28]),([],[29]),([],[25,30]),([],[31]),([],[1])] B6 ?_;simp(disch:=omega)only[go_sem,ba,gm,hb]
  first|(refine Ab (Wm x n hn) ?_)|(refine Ax (Wm x n hn) ?_)
  refine gO ?_;refine C8 ⟨[],[(63,63)],[]⟩ _ ?_ ?_
  ·exact gI
  ·simp(disch:=omega)only[go_sem,EY]
def R9(n:Int):Ac:=⟨(n%8)%4,1,1+(n%8) / 4⟩
def yJ(n:Int):Ad C0 31 [I n] [] (.agg (R9 n).c) []:=by
 refine Ad.go f31 ?_;unfold f31;refine gO ?_;refine Ab (Wm n 8 (by omega)) ?_;have e:LJ n 8=n%8:=by simp[LJ]
 rw[e];have h0:=emod_nonneg n (show (8:Int)≠0 by omega);have h1:=emod_lt_of_pos n (show (0:Int)<8 by omega);unfold R9;generalize n%8=m at h0 h1 ⊢;have e1:m.tmod 4=m%4:=Int.tmod_eq_emod_of_nonneg h0;have e2:m.tdiv 4=m / 4:=Int.tdiv_eq_ediv_of_nonneg h0;have e3:=wrap64 (m / 4) (by omega) (by omega);have e4:=wrap64 (1+m / 4) (by omega) (by omega);simp(disch:=omega)only[go_sem,e1,e2,e3,e4];refine Al _ ?_;refine .eq ?_;simp[JU,F0,AV.Cz,Ac.c,e2]
def jg:List Int:=[5,5,3,4,2,1,3,5]
theorem wI(n:Int):Ad C0 292 [I n] [] (I (jg.getD (n%8).toNat 0)) []:=by
 refine Ad.go f292 ?_;unfold f292;refine gO ?_;refine Ab (Wm n 8 (by omega)) ?_;have e:LJ n 8=n%8:=by simp[LJ]
 rw[e];have h0:=emod_nonneg n (show (8:Int)≠0 by omega);have h1:=emod_lt_of_pos n (show (0:Int)<8 by omega);generalize n%8=m at h0 h1 ⊢;obtain rfl|rfl|rfl|rfl|rfl|rfl|rfl|rfl:m=0\/m=1\/m=2\/m=3\/m=4\/m=5\/m=6\/m=7:=by omega
 all_goals
  refine gO ?_;refine CT _ ?_;exact .eq rfl
attribute [go_sem] EY
def l6(x n:Int)(h:1<=n):0<=LJ x n/\LJ x n<n:=by
 have e:LJ x n=x%n:=by simp_all[LJ,if_neg]
 rw[e];exact⟨emod_nonneg x (by omega),emod_lt_of_pos x (by omega)⟩
def Dl(l:List Int)(a:Nat)(n:Int)(h:1<=n):0<=(Ak l a n).1/\(Ak l a n).1<n:=by
 unfold Ak;split
 ·omega
 simp_all[l6]
def GN(l:List Int)(a:Nat)(n:Int):a<=(Ak l a n).2/\(a<l.length->(Ak l a n).2=a+1):=by
 unfold Ak;grind
def MX(r:BE)(n:Int):BR:=if r.kind=1 then ⟨jg.getD (n%8).toNat 0,0⟩ else ⟨0,1+LJ n r.AG⟩
def kW(r:BE)(n:Int)(hu:r.AG<=1000000):Ad C0 264 [.agg r.c,I n] [] (.agg (MX r n).c) []:=by
 refine Ad.go f264 ?_;unfold f264;refine gO ?_
 by_cases h1:r.kind=1
 ·have e:MX r n=⟨jg.getD (n%8).toNat 0,0⟩:=by simp[MX,h1]
  rw[e];refine gS ?_;refine Ab (wI n) (gO ?_);exact AQ _
 ·have e:MX r n=⟨0,1+LJ n r.AG⟩:=by simp[MX,h1]
  have wY:(r.kind==1)=false:=by grind
  rw[e];refine gS ?_;refine Ab (Wm n r.AG (by omega)) ?_;have hw:IntKind.i64.wrap (1+LJ n r.AG)=1+LJ n r.AG:=by
   by_cases hz:1<=r.AG
   ·have:=l6 n r.AG hz;exact wrap64 _ (by omega) (by omega)
   simp_all[LJ,wrap64]
  refine gS ?_;exact AQ _
def dX(l:List Int)(az:List Atom)(a:Nat):Expr × Nat:=(.mk 0 (az.getD (Ak l a az.length).1.toNat a0) [],(Ak l a az.length).2)
def IF(f:Nat->Expr × Nat):Nat->Nat->List Expr × Nat
 | 0,a=>([],a)
 | n+1,a=>((IF f n a).1++[(f (IF f n a).2).1],(f (IF f n a).2).2)
def D3(l:List Int)(az:List Atom):Nat->Nat->Expr × Nat
 | 0,a=>dX l az a
 | d+1,a=>if (Ak l a 4).1=0 then dX l az (Ak l a 4).2 else
  (.mk (1+(Ak l (Ak l (Ak l a 4).2 3).2 (1+(Ak l (Ak l a 4).2 3).1)).1) a0 (IF (D3 l az d) (1+(Ak l (Ak l a 4).2 3).1).toNat (Ak l (Ak l (Ak l a 4).2 3).2 (1+(Ak l (Ak l a 4).2 3).1)).2).1,
   (IF (D3 l az d) (1+(Ak l (Ak l a 4).2 3).1).toNat (Ak l (Ak l (Ak l a 4).2 3).2 (1+(Ak l (Ak l a 4).2 3).1)).2).2)
def Zd(f:Nat->Expr × Nat):∀ n a,(IF f n a).1.length=n
 | 0,_=>rfl
 | n+1,a=>by simp[IF,Zd f n a]
def dZ{l:List Int}{az:List Atom}{a:Nat}(hz:1<=az.length):∃ (i:Nat) (x:Atom),(Ak l a az.length).1=(i:Int)/\az[i]?=some x/\dX l az a=(.mk 0 x [],(Ak l a az.length).2):=by
 obtain⟨h1,h2⟩:=Dl l a az.length (by omega);obtain⟨i,hi⟩:∃ i:Nat,(Ak l a az.length).1=(i:Int):=⟨_,(Int.toNat_of_nonneg h1).symm⟩;have AP:i<az.length:=by omega
 refine⟨i,az[i],hi,gE AP,?_⟩;grind[dX]
def wx(l:List Int)(az:List Atom)(hl:l.length<=1000000)(hz:1<=az.length/\az.length<=100):∀ (d a:Nat),d<=10->Ad C0 265 [.ptr 63 0,BG az,I d] [(63,EY l a)] (.agg (D3 l az d a).1.c) [(63,EY l (D3 l az d a).2)]:=by
 intro d
 induction d with
 | zero =>
  intro a _;obtain⟨i,x,h1,h2,h3⟩:=dZ (l:=l) (a:=a) hz.1;have e:D3 l az 0 a=(.mk 0 x [],(Ak l a az.length).2):=by rw[D3,h3]
  refine Ad.go f265 ?_;unfold f265;refine gO ?_;refine call2 ⟨⟨[],[(63,63)],[]⟩,[],[]⟩ (DL l a az.length hl (by omega)) ?_;rw[e];refine gS ?_;refine C8 ⟨[],[(63,63)],[]⟩ _ ?_ ?_
  ·simp only[go_sem,Expr.k,Expr.atom,Expr.kids];exact .agg (Ae.AJ gI)
  ·exact gI
 | succ d ih =>
  intro a hd;refine Ad.go f265 ?_;unfold f265;have e0:((d:Int)+1==0)=false:=by grind
  refine gS ?_;refine call2 ⟨⟨[],[(63,63)],[]⟩,[],[]⟩ (DL l a 4 hl (by omega)) (gO ?_)
  by_cases h4:(Ak l a 4).1=0
  ·obtain⟨i,x,h1,h2,h3⟩:=dZ (l:=l) (a:=(Ak l a 4).2) hz.1;have e:D3 l az (d+1) a=(.mk 0 x [],(Ak l (Ak l a 4).2 az.length).2):=by rw[D3,if_pos h4,h3]
   simp only[go_sem,h4];refine call2 ⟨⟨[],[(63,63)],[]⟩,[],[]⟩ (DL l (Ak l a 4).2 az.length hl (by omega)) ?_;rw[e];refine gS ?_;refine C8 ⟨[],[(63,63)],[]⟩ _ ?_ ?_
   ·simp only[go_sem,Expr.k,Expr.atom,Expr.kids];exact .agg (Ae.AJ gI)
   ·exact gI
  have h4':((Ak l a 4).1==0)=false:=by grind
  obtain⟨a1,sO⟩:∃ a1,a1=(Ak l a 4).2:=⟨_,rfl⟩;rw[<- sO];simp only[go_sem,h4'];refine call2 ⟨⟨[],[(63,63)],[]⟩,[],[]⟩ (DL l a1 3 hl (by omega)) ?_;obtain⟨b1,b2⟩:=Dl l a1 3 (by omega);obtain⟨m,hm⟩:∃ m:Nat,1+(Ak l a1 3).1=(m:Int):=⟨(1+(Ak l a1 3).1).toNat,by omega⟩;obtain⟨a2,ur⟩:∃ a2,a2=(Ak l a1 3).2:=⟨_,rfl⟩;rw[<- ur];have hw:IntKind.i64.wrap (1+(Ak l a1 3).1)=m:=by grind[wrap64]
  simp(disch:=omega)only[go_sem,hm];refine call2 ⟨⟨[],[(63,63)],[]⟩,[],[]⟩ (DL l a2 m hl (by omega)) ?_;obtain⟨c1,c2⟩:=Dl l a2 m (by omega);obtain⟨a3,ha3⟩:∃ a3,a3=(Ak l a2 m).2:=⟨_,rfl⟩;rw[<- ha3];have zf:IntKind.i64.wrap (1+(Ak l a2 m).1)=1+(Ak l a2 m).1:=wrap64 _ (by omega) (by omega);have e:D3 l az (d+1) a=(.mk (1+(Ak l a2 m).1) a0 (IF (D3 l az d) m a3).1,(IF (D3 l az d) m a3).2):=by simp_all[D3]
  rw[e];refine gO ?_;refine Ao (α:=Nat) (λi=>⟨[(9,I i),(8,.ptr 512 0),(7,I m),(6,.ptr 384 0),(0,.ptr 63 0),(1,BG az),(2,I (d+1:Nat))],[(512,[I (1+(Ak l a2 m).1),.v (.string (str [])),I 0,I 0,.sl (.own 2944 0) 5 ((IF (D3 l az d) i a3).1.map Expr.c)]),(384,[I 0,.v (.string (str [])),I 0,I 0,.v (.slice none 0 0)]),(63,EY l (IF (D3 l az d) i a3).2)]⟩) (λi=>i<=m) (λi=>m-i) 0 (by omega) (AT.Aq ?_ ?_) ?_
  ·exact gI
  ·simp only[go_sem,IF]
   done
  rintro i hi J hJ;refine gO ?_;refine ⟨λAP=>?_,λJX=>?_⟩
  ·have AX:i<m:=by grind
   have X7:=Zd (D3 l az d) i a3;have X8:IF (D3 l az d) (i+1) a3=((IF (D3 l az d) i a3).1++[(D3 l az d (IF (D3 l az d) i a3).2).1],(D3 l az d (IF (D3 l az d) i a3).2).2):=rfl;generalize IF (D3 l az d) i a3=ks at X7 X8 ⊢;obtain⟨kl,ka⟩:=ks;have hd1:IntKind.i64.wrap (((d+1:Nat):Int)-1)=d:=by grind[wrap64]
   simp only at X7 X8 ⊢;refine Kh 6 [([],[8]),([0],[38]),([],[0]),([],[1]),([],[2]),([4],[42]),([2,3,4,5],[]),([2,3,4,5,6],[]),([0,1,2,3,4,5,6,7],[]),([0,1,2,3,4,5,6,7,8],[]),([0,1,2,3,4,5,6,7,8,9],[])] [0,1] [([],[40,41,43,9,8,7,6,0,1,2],let o0:OT:=.done;let o1:OT:=.pick [(10,o0)];let o2:OT:=.pick [(9,o1)];let o3:OT:=.pick [(8,o2)];let o4:OT:=.pick [(7,o3)];let o5:OT:=.pick [(6,o4)];let o6:OT:=.pick [(1,o3)];let o7:OT:=.pick [(1,o4),(7,o6)];let o8:OT:=.pick [(1,o5),(6,o7)];let o9:OT:=.pick [(0,o6)];let gu:OT:=.pick [(0,o7),(7,o9)];let oL:OT:=.pick [(0,o8),(6,gu)];oL),([0],[38,40,41,43,9,8,7,6,0,1,2],let o0:OT:=.done;let o1:OT:=.pick [(10,o0)];let o2:OT:=.pick [(9,o1)];let o3:OT:=.pick [(8,o2)];let o4:OT:=.pick [(7,o3)];let o5:OT:=.pick [(6,o4)];let o6:OT:=.pick [(1,o3)];let o7:OT:=.pick [(1,o4),(7,o6)];let o8:OT:=.pick [(1,o5),(6,o7)];o8),([0,1],[40,41,43,39,9,8,7,6,0,1,2],let o0:OT:=.done;let o1:OT:=.pick [(10,o0)];let o2:OT:=.pick [(9,o1)];let o3:OT:=.pick [(8,o2)];let o4:OT:=.pick [(7,o3)];let o5:OT:=.pick [(6,o4)];o5)] B6 (by kernel_rfl) ?_;have cj:((d:Int)+1-1)=d:=by omega
   have ID:kl.length+1<=4294967296:=by omega
   simp(disch:=omega)only[go_sem,cj]
   repeat'(with_reducible refine And.intro ?_ ?_)
   all_goals
    refine call2 ⟨⟨[],[(63,63)],[]⟩,[],[]⟩ (ih ka (by omega)) ?_;simp(disch:=omega)only[go_sem]
    repeat'(with_reducible refine And.intro ?_ ?_)
    all_goals
     refine hJ _ (i+1) (by omega) (by omega) (AT.Aq ?_ ?_)
     ·exact gI
     ·rw[X8];refine gO ?_;exact .sl (by rw[List.map_append,map_cons,map_nil,Expr.Dg])
  have dB:i=m:=by grind
  subst dB;refine C8 ⟨[],[(63,63)],[2944]⟩ _ ?_ ?_
  ·simp only[go_sem,Expr.k,Expr.atom,Expr.kids,a0]
  ·exact gI
def q7(n:Int)(i:Nat):Int:=n.fdiv (2 ^ min (3*i) 64)
def IM(cat:List BE)(n:Int):Nat->List Atom
 | 0=>[]
 | i+1=>IM cat n i++[⟨(cat.getD i r0).name,MX (cat.getD i r0) (q7 n i)⟩]
def Qq(cat:List BE)(n:Int):∀ i,(IM cat n i).length=i
 | 0=>rfl
 | i+1=>by simp[IM,Qq cat n i]
def T3(l:List Int)(cat:List BE)(a:Nat):Expr × Nat:=D3 l (IM cat (Ak l a 1048576).1 cat.length) 2 (Ak l a 1048576).2
def wrapu(i:Nat)(h:i<=1000):IntKind.u64.wrap (3*(i:Int))=3*i:=by
 simp only[IntKind.wrap,IntKind.signed,IntKind.bits,Bool.false_and,Bool.false_eq_true,if_false];omega
def kM(l:List Int)(a:Nat)(cat:List BE)(hl:l.length<=1000000)(hc:1<=cat.length/\cat.length<=100)(hu:∀ r∈cat,r.AG<=1000000):Ad C0 218 [.ptr 63 0,GO cat] [(63,EY l a)] (.agg (T3 l cat a).1.c) [(63,EY l (T3 l cat a).2)]:=by
 refine Ad.go f218 ?_;unfold f218;refine gO ?_;refine call2 ⟨⟨[],[(63,63)],[]⟩,[],[]⟩ (DL l a 1048576 hl (by omega)) ?_;refine gO ?_;have e:T3 l cat a=D3 l (IM cat (Ak l a 1048576).1 cat.length) 2 (Ak l a 1048576).2:=rfl;rw[e];generalize (Ak l a 1048576).2=a1;generalize (Ak l a 1048576).1=first;refine Ao (α:=Nat) (λi=>⟨[(7,I i),(6,.sl (.own 2176 0) 3 ((IM cat first i).map Atom.c)),(5,I first),(4,.ptr 256 0),(0,.ptr 63 0),(1,GO cat)],[(256,[I 0,.v (.string (str [])),I 0,I 0,.v (.slice none 0 0)]),(63,EY l a1)]⟩) (λi=>i<=cat.length) (λi=>cat.length-i) 0 (by omega) (AT.Aq ?_ ?_) ?_
 ·simp(disch:=omega)only[go_sem,IM,map_nil]
 ·exact gI
 rintro i hi J hJ;simp(disch:=omega)only[go_sem,length_map];refine ⟨λAP=>?_,λJX=>?_⟩
 ·have AX:i<cat.length:=by simp at AP;omega
  obtain⟨r,hr⟩:∃ r,cat[i]?=some r:=⟨_,gE AX⟩;have rH:cat.getD i r0=r:=by simp[List.getD,hr]
  have hur:=hu r (mG hr);have hwu:=wrapu i (by omega);have QG:=Qq cat first i;have lI:IM cat first (i+1)=IM cat first i++[⟨r.name,MX r (q7 first i)⟩]:=by rw[IM,rH]
  have hsh:first.fdiv (2 ^ min (3*(i:Int)).toNat 64)=q7 first i:=by rw[q7,show (3*(i:Int)).toNat=3*i by omega]
  have ID:(IM cat first i).length+1<=4294967296:=by omega
  generalize IM cat first i=az at lI QG ID ⊢;refine Ay 18 [([],[6]),([],[1]),([],[7]),([],[17,18]),([],[19]),([],[20]),([],[1]),([],[7]),([],[22,23]),([],[24]),([],[5]),([],[7]),([],[27]),([],[28]),([],[26,29]),([],[25,30]),([15],[21,31]),([15],[32])] B6 ?_;simp(disch:=omega)only[go_sem,gm,hr,hwu,eq_false (show ¬ (3*(i:Int))<0 by omega),hsh,Option.map_some]
  first|(refine Ab (kW r (q7 first i) hur) ?_)|(refine Ax (kW r (q7 first i) hur) ?_)
  refine gO ?_;refine hJ _ (i+1) (by omega) (by omega) (AT.Aq ?_ ?_)
  ·simp(disch:=omega)only[go_sem];rw[lI,List.map_append,map_cons,map_nil];exact .rfl
  ·exact gI
 have dB:i=cat.length:=by simp at JX;omega
 subst dB;have QG:=Qq cat first cat.length;refine Rg [2176] ⟨⟨[],[(63,63)],[]⟩,[],[]⟩ (wx l (IM cat first cat.length) hl (by omega) 2 a1 (by omega)) gI rfl gI (.inl rfl) ?_;refine gO ?_;refine C8 ⟨[],[(63,63)],[]⟩ _ ?_ ?_
 ·exact gI
 ·exact gI
end Go.Rd
