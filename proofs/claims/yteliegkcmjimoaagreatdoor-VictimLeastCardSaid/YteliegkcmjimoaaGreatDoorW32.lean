/- part 32 of the proof -/
import Derived.Test.YteliegkcmjimoaaGreatDoorW31
set_option linter.all false
open Go Go.Abs Go.Proofs
set_option maxRecDepth 100000
namespace Go.Rd
set_option maxHeartbeats 8000000
open List (length_map map_set mem_cons mem_map nodup_cons take_length)
open Option (getD_some)
open Tryz
def mf{q:Queue}{x:Bu}{a:Atom}(hn:a.name=q.res.name)(h1:q.res.covers (An x.AB.entries q.res.name) a.AH=true->KF q x.proc (An x.AB.entries q.res.name))
 (h2:q.res.covers (An x.AB.entries q.res.name) a.AH=false->(Ar q x.proc=none/\Am q.holds x.proc=D4 q.res (An x.AB.entries q.res.name) a.AH)\/(Ar q x.proc=some (D4 q.res (An x.AB.entries q.res.name) a.AH)/\Am q.holds x.proc=An x.AB.entries q.res.name/\∀ w∈q.waits,w.proc=x.proc->w.prio=x.Bk.prio)) :
 ∀ {az:List Atom},Ly az->a∈az->DE q x az=true
 | b::az,hu,ha=>by
  have iM:=nodup_cons.1 hu;unfold DE
  by_cases e:b.name=q.res.name
  ·have dL:b=a:=by
    grind
   subst dL;rw[if_neg (by grind)];cases hc:q.res.covers (An x.AB.entries q.res.name) b.AH
   ·rw[if_neg (by simp)];rcases h2 hc with ⟨g1,g2⟩|⟨g1,g2,g3⟩
    ·rw[if_pos (by grind)];exact decide_eq_true g2
    ·rw[if_neg (by grind),if_neg ?_]
     ·simp[g1,g2]
     grind
   ·rw[if_pos rfl];have hk:=h1 hc;have key:∀ {az:List Atom},(∀ c∈az,c.name≠q.res.name)->DE q x az=true:=by
     intro az
     induction az with
     | nil=>intro _;simp[DE,hk.1,hk.2]
     | cons c az ih =>
      simp_all[DE]
    exact key λc X6 e'=>iM.1 (mem_map.2 ⟨c,X6,e'.trans e.symm⟩)
  ·rw[if_pos (by grind)];rcases mem_cons.1 ha with rfl|ha
   ·exact absurd hn e
   ·exact mf hn h1 h2 iM.2 ha
def eS{q:Queue}{x:Bu}(hk:KF q x.proc (An x.AB.entries q.res.name)):∀ {az:List Atom},(∀ c∈az,c.name≠q.res.name)->DE q x az=true
 |[],_=>by simp[DE,hk.1,hk.2]
 | c::az,h=>by
  unfold DE;rw[if_pos (by simpa using h c (by simp))];exact eS hk λd hd=>h d (by simp[hd])
def ZS{e:Option Nat}{w:Ap}(h:VE e w):(w.procs.map (·.proc)).length<=8:=by rw[length_map];exact h.je.n
def jy{e:Option Nat}{w:Ap}(h:VE e w){p:Ac}(hp:p∈w.procs.map (·.proc))(hn:p∉AM w.Aa):(AM w.Aa).length<8:=by
 have:=BP (p::AM w.Aa) (w.procs.map (·.proc)) (nodup_cons.2 ⟨hn,LM _⟩) λx hx=>by
  rcases mem_cons.1 hx with rfl|hx
  ·omega
  ·obtain⟨q,hq,hi⟩:=(En _ _).1 hx;exact h.known q hq x hi
 have h8:=ZS h;simp only[List.length_cons]at this;omega
theorem bn{q:Queue}(hs:Sound q){x:A9}(hx:x∈q.holds):Am q.holds x.proc=x.AH/\x.AH.zero=false:=by
 obtain⟨_,_,h3,h4,_⟩:=(Dk _ _).1 hs.holds;refine⟨?_,Jb (h3 x hx).2⟩;unfold Am;cases hf:q.holds.find? (λh=>decide (h.proc=x.proc)) with
 |none =>
  grind
 |some y =>
  have hy:=List.mem_of_find?_eq_some hf;have hyp:y.proc=x.proc:=by grind
  have key:∀ a∈q.holds,∀ b∈q.holds,a.proc=b.proc->a=b:=λa ha b hb e=>by
   obtain⟨i,hi⟩:=List.getElem?_of_mem ha;obtain⟨j,hj⟩:=List.getElem?_of_mem hb;rcases Nat.lt_trichotomy i j with AP|rfl|AP
   ·have:=List.pairwise_iff_getElem.1 h4 i j (Au hi) (Au hj) AP;rw[get_eq hi,get_eq hj,e,CJ]at this;omega
   ·grind
   ·have:=List.pairwise_iff_getElem.1 h4 j i (Au hj) (Au hi) AP;rw[get_eq hi,get_eq hj,e,CJ]at this;omega
  have:y=x:=key y hy x hx hyp;rw[this]
def jx{e:Option Nat}{w:Ap}(h:VE e w){p:Ac}(hp:p∈w.procs.map (·.proc)){q:Queue}(hq:q∈w.Aa)(hw:Ar q p=none)(hz:(Am q.holds p).zero=true):q.holds.length+q.waits.length<8:=by
 have hs:=((BN q).1 (h.je.tab.val q hq)).1;obtain⟨_,_,h3,h4,_⟩:=(Dk _ _).1 hs.holds;obtain⟨a,b,c⟩:=(BX q).1 hs.waits;rw[CS]at a;have h1:(q.holds.map (·.proc)).Nodup:=by
  unfold List.Nodup;rw[List.pairwise_map];exact h4.imp λ{x y} od e=>by grind[CJ]
 have h2:(q.waits.map (·.proc)).Nodup:=JI.1 a.2.1;have hpH:p∉q.holds.map (·.proc):=λhm=>by
  obtain⟨x,hx,rfl⟩:=mem_map.1 hm;grind[bn]
 have hpW:p∉q.waits.map (·.proc):=λhm=>by grind[Ga]
 have UO:(p::(q.holds.map (·.proc)++q.waits.map (·.proc))).Nodup:=by
  refine nodup_cons.2 ⟨λhm=>(List.mem_append.1 hm).elim hpH hpW,?_⟩;rw[List.nodup_append];refine⟨h1,h2,λx hx y hy e=>?_⟩;obtain⟨u,hu,rfl⟩:=mem_map.1 hx;obtain⟨v,hv,rfl⟩:=mem_map.1 hy;grind[bn]
 have:=BP _ (w.procs.map (·.proc)) UO λx hx=>by
  rcases mem_cons.1 hx with rfl|hx
  ·omega
  ·rcases List.mem_append.1 hx with hx|hx
   ·obtain⟨u,hu,rfl⟩:=mem_map.1 hx;exact h.known q hq _ (.inl ⟨u,hu,rfl⟩)
   ·obtain⟨u,hu,rfl⟩:=mem_map.1 hx;exact h.known q hq _ (.inr (.inr ⟨u,hu,rfl⟩))
 have h8:=ZS h;simp at this h8;omega
structure Z4(t0:List Queue)(i:Nat)(y:Bu)(w:Ap)(az:List Atom):Prop where
 ve:VE (some i) w
 at_:w.procs[i]?=some y
 zD:C6 (FB w.Aa) y.Bk.expr=0
 sub:∀ a∈az,a∈Ah y.Bk.expr
 uq:(az.map (·.name)).Nodup
 todo:∀ q∈w.Aa,(∃ a∈az,a.name=q.res.name)->KF q y.proc (An y.AB.entries q.res.name)
 done:∀ q∈w.Aa,(¬ ∃ a∈az,a.name=q.res.name)->DE q y (Ah y.Bk.expr)=true
 tr:Ds y.proc t0 w.Aa
def mY{t:List Queue}{p:Ac}{a:Atom}{prio:Int}{k:Nat}{q:Queue}(h:DI t)(hf:CG t a.name=some k)(hq:t[k]?=some q)(h8:p∉AM t->(AM t).length<8)(h0:(BA q p a.AH prio).2.2=0):(EK t p a prio).1=t.set k (BA q p a.AH prio).1:=by grind[Br,EK,EO]
def Z4.step{t0:List Queue}{i:Nat}{y:Bu}{w:Ap}{a:Atom}{az:List Atom}(hy:y.proc.ok=true)(Vq:0<=y.Bk.prio/\y.Bk.prio<=7)(h:Z4 t0 i y w (a::az)):Z4 t0 i y (Gb w y.proc a y.Bk.prio) az:=by
 have ht:=h.ve.je.tab;have ha:=h.sub a (by simp);obtain⟨k,q,f1,f2,f3,f4⟩:=DF ht h.zD ha;have UQ:=mG f2;have hu:=nodup_cons.1 (show (a.name::az.map (·.name)).Nodup from h.uq);have hnk:∀ n,n=a.name->¬ ∃ b∈az,b.name=n:=λn e ⟨b,hb,hn⟩=>hu.1 (mem_map.2 ⟨b,hb,hn.trans e⟩)
 have Uf:=h.todo q UQ ⟨a,by simp,f3.symm⟩;have hpm:y.proc∈w.procs.map (·.proc):=mem_map.2 ⟨y,mG h.at_,rfl⟩;obtain⟨c1,c2,c3,c4⟩:=zU (p:=y.proc) (a:=a.AH) (prio:=y.Bk.prio) (ht.val q UQ) hy Vq f4 Uf.1 (jx h.ve hpm UQ Uf.1);have h8:y.proc∉AM w.Aa->(AM w.Aa).length<8:=jy h.ve hpm;have e1:(Gb w y.proc a y.Bk.prio).Aa=w.Aa.set k (BA q y.proc a.AH y.Bk.prio).1:=mY ht f1 f2 h8 c1;have GR:=I5 ht f2 c2;have N2:=GR.res;have hsT:Gi y.proc w.Aa (w.Aa.set k (BA q y.proc a.AH y.Bk.prio).1):=by
  refine PY ht f2 (TW Uf.2 c1).1 ?_;grind
 have dD:(BA q y.proc a.AH y.Bk.prio).1.res.name=a.name:=by rw[c2.res];omega
 have Ha:∀ q'∈w.Aa.set k (BA q y.proc a.AH y.Bk.prio).1,q'=(BA q y.proc a.AH y.Bk.prio).1\/(q'∈w.Aa/\q'.res.name≠a.name):=λq' FI=>by
  rcases D6 (q:=q) FI with hh|⟨j,hj,hjq⟩
  ·grind
  grind[F1]
 refine⟨h.ve.step h.at_ rfl rfl (by grind) (by grind),h.at_,?_,λb hb=>h.sub b (by grind),hu.2,?_,?_,?_⟩<;>rw[e1]
 ·unfold FB;rw[N2];exact h.zD
 ·intro q' FI hx;rcases Ha q' FI with rfl|⟨h1,h2⟩
  ·grind
  ·obtain⟨b,hb,nR⟩:=hx;exact h.todo q' h1 ⟨b,by grind,nR⟩
 ·intro q' FI hx;rcases Ha q' FI with rfl|⟨h1,h2⟩
  ·rw[Uf.2]at c3 c4;refine mf (a:=a) dD.symm (λhc=>?_) (λhc=>?_) (Jl _) ha
   ·rw[c2.res]at hc ⊢;grind
   ·rw[c2.res]at hc ⊢;grind
  ·refine h.done q' h1 fun⟨b,hb,nR⟩=>?_
   grind
 ·exact h.tr.trans GR
def Z4.all{t0:List Queue}{i:Nat}{y:Bu}(hy:y.proc.ok=true)(Vq:0<=y.Bk.prio/\y.Bk.prio<=7):∀ (az:List Atom) {w:Ap},Z4 t0 i y w az->Z4 t0 i y (DK w y.proc y.Bk.prio az) []
 |[],_,h=>h
 |_::az,_,h=>Z4.all hy Vq az (h.step hy Vq)
def TY(p:Ac)(prio:Int):∀ (az:List Atom) (w:Ap),(DK w p prio az).now=w.now
 |[],_=>rfl
 | a::az,w=>TY p prio az (Gb w p a prio)
def PT(r:ca):Hm r=true↔BM r.expr=true/\0<=r.prio/\r.prio<=7/\0<=r.CP/\r.CP<=1000:=by
 simp[Hm];grind
def pY{w:Ap}{i:Nat}{x:Bu}{r:ca}(h:VE none w)(hx:w.procs[i]?=some x)(hw:x.waiting=false)(hr:Hm r=true)(hv:C6 (FB w.Aa) r.expr=0) :
 VE none (MY w i x r)/\(MY w i x r).now=w.now/\(MY w i x r).procs=w.procs.set i (HZ w.now x r)/\Ds x.proc w.Aa (MY w i x r).Aa:=by
 have hf:=h.Lc i x hx (by simp);obtain⟨d1,d2,d3⟩:=hf.idle hw;obtain⟨o1,o2,o3,o4,o5,o6⟩:=(HC x).1 hf.head;obtain⟨q1,q2,q3,q4,q5⟩:=(PT r).1 hr;have hi:=Au hx;have hy:(AW w i (HZ w.now x r)).procs[i]?=some (HZ w.now x r):=by simp[AW,hi]
 have h0:Z4 w.Aa i (HZ w.now x r) (AW w i (HZ w.now x r)) (Ah r.expr):=by
  refine⟨(h.gb i).set' hx rfl,hy,hv,λa ha=>ha,Jl _,λq hq _=>d3 q hq,λq hq hn=>?_,.refl h.je.tab⟩;exact eS (x:=HZ w.now x r) (d3 q hq) λc hc e=>hn ⟨c,hc,e⟩
 have h1:=Z4.all (y:=HZ w.now x r) o1 ⟨q2,q3⟩ _ h0;have hp:(MY w i x r).procs=w.procs.set i (HZ w.now x r):=I9 _ _ _ _;have hn:(MY w i x r).now=w.now:=TY _ _ _ _;have hq:MY w i x r=DK (AW w i (HZ w.now x r)) (HZ w.now x r).proc (HZ w.now x r).Bk.prio (Ah r.expr):=rfl;rw[<- hq]at h1;refine⟨?_,hn,hp,h1.tr⟩;have:=VE.set (y:=HZ w.now x r) h1.ve h1.at_ rfl ⟨(HC _).2 ⟨o1,o2,o3,o4,KQ _⟩,λn iH=>hf.fits.res h1.tr.res n iH,λ_=>?_,λe=>by cases e⟩
 ·have e:AW (MY w i x r) i (HZ w.now x r)=MY w i x r:=by
   unfold AW;rw[My h1.at_]
  rw[<- e];exact this
 ·rw[hn];exact⟨hr,h1.zD,h.now.1,Int.le_refl _,λq FI=>h1.done q FI (by simp)⟩
def NO(w:Ap)(i:Nat)(x:Bu):Ap :=
 CL { Da w (Cy w.Aa x.proc).1 (Cy w.Aa x.proc).2 with procs:=w.procs.eraseIdx i } 5 x.proc
def Ud(w:Ap)(i:Nat)(x:Bu):Ap:=B3 (NO w i x)
def erase_eq{α:Type}{l:List α}{i:Nat}:l.take i++l.drop (i+1)=l.eraseIdx i:=by rw[List.eraseIdx_eq_take_drop_succ]
def jN(w:Ap):wcount w<=w.procs.length:=List.countP_le_length
def kO(Inv:Ap->Prop)(hI:Ku Inv)(w:Ap)(i:Nat)(x:Bu)(hx:w.procs[i]?=some x)(hp:w.procs.length<=8)(hf:Fa w.Aa)(hw:Inv (NO w i x))(hrl:(Cy w.Aa x.proc).2.length<=100000)(Y1:w.D1.length<=500000):Ad C0 228 [.ptr 63 0,I i] [(63,w.c)] (.BC []) [(63,(Ud w i x).c)]:=by
 have hi:=Au hx;refine Ad.go f228 ?_;unfold f228;simp(disch:=omega)only[go_sem,gm,hx];refine Ay 10 [([],[0]),([],[0]),([],[15]),([],[16]),([],[17]),([],[18]),([],[4]),([],[19,20]),([7],[21]),([7],[21])] B6 ?_;refine gO ?_
 first|(refine Ab (lg w.Aa x.proc hf) ?_)|(refine Ax (lg w.Aa x.proc hf) ?_)
 refine gO ?_;refine call2 ⟨⟨[(0,0),(1,1)],[(63,63)],[]⟩,[],[]⟩ (Nb w (Cy w.Aa x.proc).1 (Cy w.Aa x.proc).2 (by omega)) ?_;have e0:NO w i x=CL { Da w (Cy w.Aa x.proc).1 (Cy w.Aa x.proc).2 with procs:=w.procs.eraseIdx i } 5 x.proc:=rfl;have e1:(Da w (Cy w.Aa x.proc).1 (Cy w.Aa x.proc).2).D1.length=w.D1.length+(Cy w.Aa x.proc).2.length:=by simp[Da]
 have e2:(Da w (Cy w.Aa x.proc).1 (Cy w.Aa x.proc).2).procs=w.procs:=rfl;rw[<- e2]at e0 hx hi hp;generalize Da w (Cy w.Aa x.proc).1 (Cy w.Aa x.proc).2=w1 at e0 e1 e2 hx hi hp ⊢;refine gO ?_;have ht:(w1.procs.drop (i+1)).take (w1.procs.length-(i+1))=w1.procs.drop (i+1):=List.take_of_length_le (by simp);refine Kh 17 [([],[0]),([],[0]),([1],[26]),([1,2],[27]),([1,2,3],[28]),([1,2,3,4],[29]),([],[1]),([],[1]),([1,2,3,4,5,6,7],[30,31,32]),([],[0]),([9],[34]),([9,10],[35]),([9,10,11],[36]),([9,10,11,12],[37]),([],[1]),([14],[39]),([9,10,11,12,13,14,15],[38,40]),([1,2,3,4,5,6,7,8,9,10,11,12,13,14,15,16],[]),([0,1,2,3,4,5,6,7,8,9,10,11,12,13,14,15,16,17],[]),([0,1,2,3,4,5,6,7,8,9,10,11,12,13,14,15,16,17,18],[]),([0,1,2,3,4,5,6,7,8,9,10,11,12,13,14,15,16,17,18,19],[]),([0,1,2,3,4,5,6,7,8,9,10,11,12,13,14,15,16,17,18,19,20],[])] [0] [([],[33,41,0,1,4],let o0:OT:=.done;let o1:OT:=.pick [(21,o0)];let o2:OT:=.pick [(20,o1)];let o3:OT:=.pick [(19,o2)];let o4:OT:=.pick [(18,o3)];let o5:OT:=.pick [(17,o4)];let o6:OT:=.pick [(0,o4)];let o7:OT:=.pick [(0,o5),(17,o6)];o7),([0],[33,41,25,0,1,4],let o0:OT:=.done;let o1:OT:=.pick [(21,o0)];let o2:OT:=.pick [(20,o1)];let o3:OT:=.pick [(19,o2)];let o4:OT:=.pick [(18,o3)];let o5:OT:=.pick [(17,o4)];o5)] B6 (by kernel_rfl) ?_;simp(disch:=omega)only[go_sem,ht];have e4:({ w1 with procs:=w1.procs.eraseIdx i }:Ap).D1.length+1<=4294967296:=by show w1.D1.length+1<=_;omega
 obtain⟨k1,k2,k3⟩:=hI.lz _ hw;have k4:=jN (NO w i x);have k5:(NO w i x).D1.length=w1.D1.length+1:=by rw[e0];simp[CL]
 repeat'(with_reducible refine And.intro ?_ ?_)
 all_goals
  refine call2 ⟨⟨[(2688,0),(1,1)],[(63,63)],[]⟩,[],[]⟩ (aT { w1 with procs:=w1.procs.eraseIdx i } 5 x.proc e4) ?_ (hh:=?_);rotate_left
  ·simp(disch:=omega)only[go_sem];exact .sl (by rw[<- List.map_append,erase_eq])
  rw[<- e0];refine gO ?_;refine call2 ⟨⟨[(2688,0),(1,1)],[(63,63)],[]⟩,[],[]⟩ (Na Inv hI (NO w i x) hw (by omega)) ?_;refine gO ?_;refine C8 ⟨[(2688,0),(1,1)],[(63,63)],[]⟩ _ ?_ ?_
  ·exact gI
  ·simp(disch:=omega)only[go_sem,Ud]
def HY(l:List Bu)(p:Ac):Nat->Nat
 | 0=>0
 | k+1=>if 0<BF (l.getD k x0).proc p then HY l p k else k+1
def fK(l:List Bu)(p:Ac):∀ k,HY l p k<=k
 | 0=>by simp[HY]
 | k+1=>by
  simp only[HY];split
  ·have:=fK l p k;omega
  ·omega
def P1(p:Ac)(cost:Int):Bu:=⟨p,cost,CI,false,Fc,0,0⟩
def Yb(l:List Bu)(x:Bu):List Bu:=UT l (HY l x.proc l.length) x
def F2(w:Ap)(p:Ac)(cost:Int):Ap × Int :=
 if !p.ok||(decide (cost<1)||decide (1000<cost)) then (w,1) else if 0<=E4 w.procs p then (w,11) else if w.procs.length=8 then (w,4) else ({ w with procs:=Yb w.procs (P1 p cost) },0)
theorem vZ(w:Ap)(p:Ac)(cost:Int)(hp:w.procs.length<=1000000):Ad C0 219 [.ptr 63 0,.agg p.c,I cost] [(63,w.c)] (I (F2 w p cost).2) [(63,(F2 w p cost).1.c)]:=by
 refine Ad.go f219 ?_;unfold f219;refine gO ?_;refine Ab (KI p) ?_;cases h1:(!p.ok||(decide (cost<1)||decide (1000<cost)));rotate_left
 ·have ht:F2 w p cost=(w,1):=by simp only[F2,h1];rfl
  rw[ht];cases a1:p.ok
  ·simp(disch:=omega)only[go_sem,Bool.not_false];refine C8 ⟨[(0,0),(1,1)],[(63,63)],[]⟩ _ ?_ ?_
   ·exact gI
   ·exact gI
  cases a2:decide (cost<1)
  ·rw[a1,a2]at h1;simp only[Bool.not_true,Bool.false_or]at h1;simp(disch:=omega)only[go_sem,Bool.not_true,a2,h1];refine C8 ⟨[(0,0),(1,1)],[(63,63)],[]⟩ _ ?_ ?_
   ·exact gI
   ·exact gI
  ·simp(disch:=omega)only[go_sem,Bool.not_true,a2];refine C8 ⟨[(0,0),(1,1)],[(63,63)],[]⟩ _ ?_ ?_
   ·exact gI
   ·exact gI
 obtain⟨a1,a2,a3⟩:p.ok=true/\decide (cost<1)=false/\decide (1000<cost)=false:=by simpa using h1
 simp(disch:=omega)only[go_sem,a1,a2,a3,Bool.not_true];refine Ay 6 [([],[0]),([],[21]),([],[22]),([],[23]),([],[24]),([],[4])] B6 ?_;refine gO ?_;refine B4 [0] (Vd w.procs p) gI rfl trivial ?_;refine gO ?_
 by_cases h2:0<=E4 w.procs p
 ·have ht:F2 w p cost=(w,11):=by simp only[F2,h1,h2];rfl
  rw[ht];simp(disch:=omega)only[go_sem,eq_true h2,decide_true];refine C8 ⟨[(0,0),(1,1)],[(63,63)],[]⟩ _ ?_ ?_
  ·exact gI
  ·exact gI
 simp(disch:=omega)only[go_sem,eq_false h2,decide_false,length_map]
 by_cases h3:w.procs.length=8
 ·have ht:F2 w p cost=(w,4):=by simp only[F2,h1,h2,h3];rfl
  rw[ht];have lH:decide ((w.procs.length:Int)=8)=true:=by simp;omega
  have AaY:((w.procs.length:Int)==8)=true:=by simp;omega
  simp(disch:=omega)only[go_sem,lH,AaY];refine C8 ⟨[(0,0),(1,1)],[(63,63)],[]⟩ _ ?_ ?_
  ·exact gI
  ·exact gI
 have ht:F2 w p cost=({ w with procs:=Yb w.procs (P1 p cost) },0):=by
  simp only[F2,h1,h2,h3];rfl
 rw[ht];have lH:decide ((w.procs.length:Int)=8)=false:=by simp;omega
 have AaY:((w.procs.length:Int)==8)=false:=by simp;omega
 simp(disch:=omega)only[go_sem,lH,AaY];refine Ay 9 [([],[0]),([],[36]),([],[37]),([],[38]),([],[39]),([],[4]),([],[2]),([],[41,42]),([],[43])] B6 ?_;refine gO ?_;obtain⟨x,hx⟩:∃ x,x=P1 p cost:=⟨_,rfl⟩;have oh:x.proc=p:=by rw[hx];rfl
 refine Ao (α:=Nat) (λk=>⟨[(8,I k),(7,.sl (.own 2880 0) 16 ((UT w.procs k x).map Bu.c)),(0,.ptr 63 0)],[(63,[I w.now,AN w.Aa,.undef,.sl (.own 1 0) 7 (w.D1.map Ev.c)])]⟩) (λk=>k<=w.procs.length/\HY w.procs p w.procs.length=HY w.procs p k) (λk=>k) w.procs.length ⟨Nat.le_refl _,rfl⟩ (AT.Aq ?_ ?_) ?_
 ·simp(disch:=omega)only[go_sem]
  all_goals(try(repeat'(with_reducible apply And.intro)))
  all_goals(first|exact .int (by omega)|skip)
  have em:UT w.procs w.procs.length x=w.procs++[x]:=by simp[UT]
  rw[em,List.map_append];refine .xL (II.append _ ?_);simp only[hx,P1,CI,Fc,e0,a0,Expr.k,Expr.atom,Expr.kids,List.map_cons,List.map_nil,Bu.c,II,MU,gx];simp
 ·exact gI
 rintro k ⟨hk,hs⟩ J hJ;have fin:HY w.procs p k=k->UT w.procs k x=Yb w.procs (P1 p cost):=λGR=>by
  rw[<- hx];unfold Yb;rw[oh,hs,GR]
 refine Ay 14 [([],[8]),([],[49]),([],[50]),([],[7,51]),([],[8,51]),([],[53,51]),([],[52,54,51]),([],[55,51]),([],[56,51]),([],[7,51]),([],[8,51]),([],[58,59,51]),([],[60,51]),([],[61,51])] B6 ?_;cases k with
 | zero =>
  have e0:(0<((0:Nat):Int))=False:=by simp
  simp(disch:=omega)only[go_sem,e0,decide_false];rw[fin rfl];refine C8 ⟨[(2880,0),(1,1)],[(63,63)],[]⟩ _ ?_ ?_
  ·exact gI
  ·exact gI
 | succ k =>
  have e0:(0<(((k+1:Nat)):Int))=True:=eq_true (by omega);have e1:(0<(k:Int)+1)=True:=eq_true (by omega);have e2:((k:Int)+1-1)=(k:Int):=by omega
  obtain⟨y,hy⟩:∃ y,w.procs[k]?=some y:=⟨_,gE (by omega)⟩;have g1:=l0 w.procs (k+1) x hk;have g2:=eE w.procs k x hk;rw[hy]at g2;have Y2:=bK w.procs (k+1) x hk;have z1:k<(UT w.procs (k+1) x).length:=by omega
  have z2:k+1<(UT w.procs (k+1) x).length:=by omega
  simp(disch:=omega)only[go_sem,e0,e1,e2,gm,g1,g2,length_map,Y2];refine Ab (LD y.proc x.proc) ?_;rw[oh];have e4:(k=k+1)=False:=eq_false (by omega);have e5:(k+1=k)=False:=eq_false (by omega);cases hc:decide (0<BF y.proc p)
  ·have GR:HY w.procs p (k+1)=k+1:=by
    simp only[HY,List.getD,hy,getD_some];rw[if_neg (by simpa using hc)]
   simp(disch:=omega)only[go_sem,hc];rw[fin GR];refine C8 ⟨[(2880,0),(1,1)],[(63,63)],[]⟩ _ ?_ ?_
   ·exact gI
   ·exact gI
  ·have GR:HY w.procs p (k+1)=HY w.procs p k:=by
    simp only[HY,List.getD,hy,getD_some];rw[if_pos (by simpa using hc)]
   simp(disch:=omega)only[go_sem,hc,e2,gm,g1,g2,length_map,Y2,List.length_set,List.getElem?_set,e4,e5];refine hJ _ k ⟨by omega,by rw[hs,GR]⟩ (by omega) (AT.Aq ?_ gI);refine gO ?_;refine .sl ?_;rw[<- eF hy,map_set,map_set];rfl
def IC(w:Ap)(i:Nat)(x:Bu)(name:Bs):Ap :=
 let w1:=Da w (BH w.Aa x.proc ⟨name,⟨0,0⟩⟩).1 (BH w.Aa x.proc ⟨name,⟨0,0⟩⟩).2.1
 AW w1 i (CA { x with AB:=(G6 x.AB name).1 })
def Fv(w:Ap)(i:Nat)(x:Bu)(name:Bs):Ap × Int :=
 if x.waiting then (w,14) else if (An x.AB.entries name).mode==0&&(An x.AB.entries name).AG==0 then (w,10) else (B3 (IC w i x name),0)
def wa(Inv:Ap->Prop)(hI:Ku Inv)(w:Ap)(i:Nat)(x:Bu)(name:Bs)(hx:w.procs[i]?=some x)(hf:Fa w.Aa)
 (hc:x.waiting=false->Inv (IC w i x name)) (hp:w.procs.length<=8) (Y1:w.D1.length<=500000) :
 Ad C0 225 [.ptr 63 0,I i,.v (.string (str name))] [(63,w.c)] (I (Fv w i x name).2) [(63,(Fv w i x name).1.c)]:=by
 have hi:=Au hx;refine Ad.go f225 ?_;unfold f225;simp(disch:=omega)only[go_sem,gm,hx];cases h1:x.waiting;rotate_left
 ·have ht:Fv w i x name=(w,14):=by simp[Fv,h1]
  rw[ht];simp(disch:=omega)only[go_sem,h1];refine C8 ⟨[(0,0),(1,1)],[(63,63)],[]⟩ _ ?_ ?_
  ·exact gI
  ·exact gI
 have c2:=hc h1;simp(disch:=omega)only[go_sem,h1,gm,hx];refine Ab (Ib x.AB.entries name) ?_;refine gO ?_;cases h2:((An x.AB.entries name).mode==0&&(An x.AB.entries name).AG==0);rotate_left
 ·have ht:Fv w i x name=(w,10):=by simp only[Fv,h1,h2];rfl
  rw[ht];simp(disch:=omega)only[go_sem,h2];refine C8 ⟨[(0,0),(1,1)],[(63,63)],[]⟩ _ ?_ ?_
  ·exact gI
  ·exact gI
 have ht:Fv w i x name=(B3 (IC w i x name),0):=by simp only[Fv,h1,h2];rfl
 rw[ht];simp(disch:=omega)only[go_sem,h2];have k3:=IZ hf x.proc ⟨name,⟨0,0⟩⟩;refine Ay 23 [([],[0]),([],[34]),([],[35]),([],[36]),([],[37]),([],[0]),([],[39]),([],[40]),([],[41]),([],[42]),([],[1]),([],[43,44]),([],[45]),([],[46]),([],[2]),([],[48]),([],[38,47,49]),([16],[50]),([16],[33]),([16],[33]),([16],[33]),([16],[51]),([16],[52])] B6 ?_;simp(disch:=omega)only[go_sem,gm,hx]
 first|(refine Ab (Lm w.Aa x.proc ⟨name,⟨0,0⟩⟩ hf) ?_)|(refine Ax (Lm w.Aa x.proc ⟨name,⟨0,0⟩⟩ hf) ?_)
 refine gO ?_;refine call2 ⟨⟨[(0,0),(1,1)],[(63,63)],[]⟩,[],[]⟩ (Nb w (BH w.Aa x.proc ⟨name,⟨0,0⟩⟩).1 (BH w.Aa x.proc ⟨name,⟨0,0⟩⟩).2.1 (by omega)) ?_;have e1:IC w i x name=AW (Da w (BH w.Aa x.proc ⟨name,⟨0,0⟩⟩).1 (BH w.Aa x.proc ⟨name,⟨0,0⟩⟩).2.1) i (CA { x with AB:=(G6 x.AB name).1 }):=rfl;have e2:(Da w (BH w.Aa x.proc ⟨name,⟨0,0⟩⟩).1 (BH w.Aa x.proc ⟨name,⟨0,0⟩⟩).2.1).procs=w.procs:=rfl;have e3:(Da w (BH w.Aa x.proc ⟨name,⟨0,0⟩⟩).1 (BH w.Aa x.proc ⟨name,⟨0,0⟩⟩).2.1).D1.length=w.D1.length+(BH w.Aa x.proc ⟨name,⟨0,0⟩⟩).2.1.length:=by simp[Da]
 generalize Da w (BH w.Aa x.proc ⟨name,⟨0,0⟩⟩).1 (BH w.Aa x.proc ⟨name,⟨0,0⟩⟩).2.1=w1 at e1 e2 e3 ⊢;refine gO ?_;rw[<- e2]at hx hi;refine Ep (st':=⟨[(0,.ptr 63 0),(1,I i),(2,.v (.string (str name)))],[(63,w1.c)]⟩) AK ?_;refine Wd 20 [([],[0]),([0],[59]),([0,1],[60]),([0,1,2],[61]),([0,1,2,3],[62]),([],[1]),([],[0]),([6],[65]),([6,7],[66]),([6,7,8],[67]),([6,7,8,9],[68]),([],[1]),([6,7,8,9,10,11],[69,70]),([6,7,8,9,10,11,12],[71]),([6,7,8,9,10,11,12,13],[72]),([],[2]),([6,7,8,9,10,11,12,13,14,15],[73,74]),([6,7,8,9,10,11,12,13,14,15,16],[75]),([6,7,8,9,10,11,12,13,14,15,16,17],[58]),([6,7,8,9,10,11,12,13,14,15,16,17],[58]),([0,1,2,3,4,5,6,7,8,9,10,11,12,13,14,15,16,17,18],[]),([0,1,2,3,4,5,6,7,8,9,10,11,12,13,14,15,16,17,18,20],[]),([0,1,2,3,4,5,6,7,8,9,10,11,12,13,14,15,16,17,18,20,21],[])] [19] [63,64,76,58,0,1,2] B6 (by kernel_rfl) ?_;simp(disch:=omega)only[go_sem,gm,hx]
 first|(refine Ab (lf x.AB name) ?_)|(refine Ax (lf x.AB name) ?_)
 simp(disch:=omega)only[go_sem,gm,hx];have hx5:(AW w1 i { x with AB:=(G6 x.AB name).1 }).procs[i]?=some { x with AB:=(G6 x.AB name).1 }:=by simp[AW,hi]
 refine call2 ⟨⟨[(0,0),(1,1)],[(63,63)],[]⟩,[],[]⟩ (Ll (AW w1 i { x with AB:=(G6 x.AB name).1 }) i _ hx5) ?_ (hh:=?_);rotate_left
 ·simp only[AW];refine gO ?_;exact .sl (by simp only[map_set,List.set_set];rfl)
 have e4:AW (AW w1 i { x with AB:=(G6 x.AB name).1 }) i (CA { x with AB:=(G6 x.AB name).1 })=IC w i x name:=by rw[e1];simp[AW]
 rw[e4];have e5:(IC w i x name).D1.length<=w.D1.length+101:=by rw[e1];simp only[AW];omega
 have e6:=Ks (IC w i x name);have e7:=(hI.lz _ c2).2.1;refine gO ?_;refine call2 ⟨⟨[(0,0),(1,1)],[(63,63)],[]⟩,[],[]⟩ (Na Inv hI (IC w i x name) c2 (by omega)) ?_;refine gO ?_;refine C8 ⟨[(0,0),(1,1)],[(63,63)],[]⟩ _ ?_ ?_
 ·exact gI
 ·exact gI
def G5(w:Ap)(p:Ac)(a:Atom):Ap:=match CG w.Aa a.name with
 |none=>w
 |some k=>if decide (Am (w.Aa.getD k q0).holds p=a.AH) then w else Da w (BH w.Aa p a).1 (BH w.Aa p a).2.1
def Dn(w:Ap)(p:Ac)(az:List Atom):Ap:=az.foldl (λw a=>G5 w p a) w
def Ol{w:Ap}{p:Ac}{az:List Atom}{i:Nat}{b:Atom}(hb:az[i]?=some b):Dn w p (az.take (i+1))=G5 (Dn w p (az.take i)) p b:=by simp[Dn,List.take_add_one,hb,List.foldl_append]
theorem cQ(w:Ap)(p:Ac)(a:Atom):(G5 w p a).procs=w.procs:=by
 unfold G5;split
 ·rfl
 ·split<;>rfl
theorem GW(w:Ap)(p:Ac):∀ az:List Atom,(Dn w p az).procs=w.procs
 |[]=>rfl
 | a::az=>by
  show (Dn (G5 w p a) p az).procs=w.procs;rw[GW,cQ]
def Z7(w:Ap)(p:Ac)(az:List Atom):Prop:=∀ i b,az[i]?=some b->Fa (Dn w p (az.take i)).Aa/\∃ k,CG (Dn w p (az.take i)).Aa b.name=some k
def mP{w:Ap}{p:Ac}{a:Atom}(h:Fa w.Aa):(G5 w p a).D1.length<=w.D1.length+101:=by grind[IZ,G5,Da]
def Ky{w:Ap}{p:Ac}{az:List Atom}(h:Z7 w p az):∀ i,i<=az.length->(Dn w p (az.take i)).D1.length<=w.D1.length+101*i
 | 0,_=>by simp[Dn]
 | i+1,hi=>by
  obtain⟨b,hb⟩:∃ b,az[i]?=some b:=⟨_,gE (by omega)⟩;have h1:=Ky h i (by omega);have h2:=mP (p:=p) (a:=b) (h i b hb).1;rw[Ol hb];omega
def Fm(w:Ap)(i:Nat)(x:Bu):Ap:=if x.waiting then Bb w i x else w
def DM(x:Bu):Bu:=if x.waiting then CH x else x
def Gu(x:Bu)(l:Ledger):Bu:={ x with AB:=l }
def NJ(w:Ap)(i:Nat)(x:Bu)(label:Int):Ap :=
 AW (Dn (AW (Fm w i x) i (Gu (DM x) (BQ x.AB label).1)) (DM x).proc (BQ x.AB label).2.1) i (CA (Gu (DM x) (BQ x.AB label).1))
def Fx(w:Ap)(i:Nat)(x:Bu)(label:Int):Ap × Int :=
 if (BQ x.AB label).2.2=0 then (B3 (NJ w i x label),0) else (w,(BQ x.AB label).2.2)
def wc(Inv:Ap->Prop)(hI:Ku Inv)(w:Ap)(i:Nat)(x:Bu)(label:Int)(hx:w.procs[i]?=some x)
 (hd:x.waiting=true->Qm w x (Ah x.Bk.expr))
 (hc:(BQ x.AB label).2.2=0->Z7 (AW (Fm w i x) i (Gu (DM x) (BQ x.AB label).1)) (DM x).proc (BQ x.AB label).2.1/\Inv (NJ w i x label))
 (hl:(BQ x.AB label).2.1.length<=1000) (hp:w.procs.length<=8) (Y1:w.D1.length<=500000) :
 Ad C0 227 [.ptr 63 0,I i,I label] [(63,w.c)] (I (Fx w i x label).2) [(63,(Fx w i x label).1.c)]:=by
 have hi:=Au hx;refine Ad.go f227 ?_;unfold f227;refine gS ?_;refine Ab (kf x.AB label) (gO ?_)
 by_cases h1:(BQ x.AB label).2.2=0
 rotate_left
 ·have ht:Fx w i x label=(w,(BQ x.AB label).2.2):=by simp[Fx,h1]
  rw[ht];have wY:((BQ x.AB label).2.2 !=0)=true:=by grind
  refine gS ?_;refine C8 ⟨[(0,0),(1,1)],[(63,63)],[]⟩ _ ?_ ?_
  ·exact gI
  ·exact gI
 obtain⟨c1,c2⟩:=hc h1;have ht:Fx w i x label=(B3 (NJ w i x label),0):=by simp[Fx,h1]
 rw[ht];refine gS ?_;cases h2:x.waiting
 ·refine gO ?_;obtain⟨w3,hw3⟩:∃ w3,w3=Fm w i x:=⟨_,rfl⟩;obtain⟨y,hy⟩:∃ y,y=DM x:=⟨_,rfl⟩;have xq:w3.procs[i]?=some y:=by grind[Fm,DM]
  have he3:w3.D1.length<=w.D1.length+1608:=by grind[Fm]
  have hi3:=Au xq;unfold NJ at c2 ⊢;rw[<- hw3,<- hy]at c1 c2 ⊢;have my:w3=w:=by grind[Fm]
  rw[<- my];have X4:y=x:=by grind
  clear hw3 hy hd hc ht;subst X4;generalize (BQ y.AB label).2.1=az at c1 c2 hl ⊢;generalize (BQ y.AB label).1=AB at c1 c2 ⊢;refine Ay 7 [([],[0]),([],[54]),([],[55]),([],[56]),([],[57]),([],[1]),([],[7])] B6 ?_;simp only[go_sem,xq];obtain⟨o,rfl⟩:∃ o,o=i:=⟨i,rfl⟩;have he4:(AW w3 o (Gu y AB)).D1.length=w3.D1.length:=rfl;have mF:(AW w3 o (Gu y AB)).procs[o]?=some (Gu y AB):=by grind[AW]
  refine Ao (α:=Nat) (λi=>⟨[(11,I i),(8,BG az),(0,.ptr 63 0),(1,I o),(10,.ptr 640 0)],[(63,(Dn (AW w3 o (Gu y AB)) y.proc (az.take i)).c),(640,y.proc.c)]⟩) (λi=>i<=az.length) (λi=>az.length-i) 0 (Nat.zero_le _) ?_ ?_
  ·simp only[List.take_zero,Dn,List.foldl_nil,AW];exact AT.Aq gI (by refine gO ?_;exact .sl (by simp;rfl))
  generalize AW w3 o (Gu y AB)=w4 at c1 c2 he4 mF ⊢;clear xq hi3;intro i NP J hJ;refine gO ?_;refine ⟨λAP=>?_,λJX=>?_⟩
  ·obtain⟨b,hb⟩:∃ b,az[i]?=some b:=⟨_,gE (by grind)⟩;have AX:i<az.length:=Au hb;obtain⟨g5,k,hk⟩:=c1 i b hb;have g1:=Ky c1 i NP;have g2:=IZ g5 y.proc b;have g4:=Ol (w:=w4) (p:=y.proc) hb;generalize Dn w4 y.proc (az.take i)=w5 at g1 g2 g4 g5 hk ⊢;obtain⟨Tn,q,hq,_⟩:=D2 hk;have hgq:w5.Aa.getD k q0=q:=by grind
   have g6:G5 w5 y.proc b=if decide (Am q.holds y.proc=b.AH) then w5 else Da w5 (BH w5.Aa y.proc b).1 (BH w5.Aa y.proc b).2.1:=by grind[G5]
   obtain⟨q1,q2,q3⟩:=Bt (g5.q q (mG hq));have hn5:=g5.n;refine Ay 25 [([],[0]),([],[69]),([],[70]),([],[71]),([],[72]),([],[0]),([],[74]),([],[75]),([],[76]),([],[77]),([],[8]),([],[11]),([],[79,80]),([],[81]),([],[82]),([],[78,83]),([15],[73,84]),([15],[85]),([],[10]),([15],[86,87]),([],[8]),([],[11]),([],[89,90]),([],[91]),([],[92])] B6 ?_;simp only[go_sem,hb]
   first|(refine Ab (IT w5.Aa b.name (by omega)) ?_)|(refine Ax (IT w5.Aa b.name (by omega)) ?_)
   simp only[go_sem,hk,XZ,hq]
   first|(refine Ab (E0 q y.proc q1) ?_)|(refine Ax (E0 q y.proc q1) ?_)
   simp(disch:=omega)only[go_sem,hb];cases hH:decide (Am q.holds y.proc=b.AH)
   ·rw[hH]at g6;simp at g6;refine gO ?_;refine Ay 17 [([],[0]),([],[96]),([],[97]),([],[98]),([],[99]),([],[10]),([],[8]),([],[11]),([],[102,103]),([],[104]),([],[100,101,105]),([10],[106]),([10],[95]),([10],[95]),([10],[95]),([10],[107]),([10],[108])] B6 ?_;simp only[go_sem,hb]
    first|(refine Ab (Lm w5.Aa y.proc b g5) ?_)|(refine Ax (Lm w5.Aa y.proc b g5) ?_)
    refine gO ?_;refine call2 ⟨⟨[(0,0),(1,1)],[(63,63)],[]⟩,[],[]⟩ (Nb w5 (BH w5.Aa y.proc b).1 (BH w5.Aa y.proc b).2.1 (by omega)) ?_;rw[<- g6,<- g4];refine gO ?_;exact hJ _ (i+1) (by omega) (by omega) AK
   ·rw[hH,if_pos rfl]at g6;refine gO ?_;refine hJ _ (i+1) (by omega) (by omega) (AT.Aq gI ?_);rw[g4,g6];exact gI
  ·have Ba:i=az.length:=by grind
   subst Ba;rw[take_length];have g1:=Ky c1 _ (Nat.le_refl _);rw[take_length]at g1;have g3:(Dn w4 y.proc az).procs[o]?=some (Gu y AB):=by grind[GW]
   refine call2 ⟨⟨[(0,0),(1,1)],[(63,63)],[]⟩,[],[]⟩ (Ll (Dn w4 y.proc az) o (Gu y AB) g3) ?_;have g7:(AW (Dn w4 y.proc az) o (CA (Gu y AB))).D1.length=(Dn w4 y.proc az).D1.length:=rfl;generalize AW (Dn w4 y.proc az) o (CA (Gu y AB))=w6 at c2 g7 ⊢;have k2:=(hI.lz _ c2).2.1;have k4:=Ks w6;refine gO ?_;refine call2 ⟨⟨[(0,0),(1,1)],[(63,63)],[]⟩,[],[]⟩ (Na Inv hI w6 c2 (by omega)) (gO ?_);refine C8 ⟨[(0,0),(1,1)],[(63,63)],[]⟩ _ ?_ ?_
   ·exact gI
   ·exact gI
 ·refine gO ?_;obtain⟨w3,hw3⟩:∃ w3,w3=Fm w i x:=⟨_,rfl⟩;obtain⟨y,hy⟩:∃ y,y=DM x:=⟨_,rfl⟩;have xq:w3.procs[i]?=some y:=by grind[Fm,DM,Ch]
  have he3:w3.D1.length<=w.D1.length+1608:=by grind[Fm,LO]
  have hi3:=Au xq;unfold NJ at c2 ⊢;rw[<- hw3,<- hy]at c1 c2 ⊢;refine call2 ⟨⟨[(0,0),(1,1)],[(63,63)],[]⟩,[],[]⟩ (aO w i x hx (hd h2) (by omega)) ?_;rw[show Bb w i x=w3 by grind[Fm]];clear hw3 hy hd hc ht;generalize (BQ x.AB label).2.1=az at c1 c2 hl ⊢;generalize (BQ x.AB label).1=AB at c1 c2 ⊢;refine gS ?_;refine Ay 7 [([],[0]),([],[54]),([],[55]),([],[56]),([],[57]),([],[1]),([],[7])] B6 (gS ?_);obtain⟨o,rfl⟩:∃ o,o=i:=⟨i,rfl⟩;have he4:(AW w3 o (Gu y AB)).D1.length=w3.D1.length:=rfl;have mF:(AW w3 o (Gu y AB)).procs[o]?=some (Gu y AB):=by grind[AW]
  refine Ao (α:=Nat) (λi=>⟨[(11,I i),(8,BG az),(0,.ptr 63 0),(1,I o),(10,.ptr 640 0)],[(63,(Dn (AW w3 o (Gu y AB)) y.proc (az.take i)).c),(640,y.proc.c)]⟩) (λi=>i<=az.length) (λi=>az.length-i) 0 (Nat.zero_le _) ?_ ?_
  ·simp only[List.take_zero,Dn,List.foldl_nil,AW];exact AT.Aq gI (by refine gO ?_;exact .sl (by simp;rfl))
  generalize AW w3 o (Gu y AB)=w4 at c1 c2 he4 mF ⊢;clear xq hi3;intro i NP J hJ;refine gO ?_;refine ⟨λAP=>?_,λJX=>?_⟩
  ·obtain⟨b,hb⟩:∃ b,az[i]?=some b:=⟨_,gE (by grind)⟩;have AX:i<az.length:=Au hb;obtain⟨g5,k,hk⟩:=c1 i b hb;have g1:=Ky c1 i NP;have g2:=IZ g5 y.proc b;have g4:=Ol (w:=w4) (p:=y.proc) hb;generalize Dn w4 y.proc (az.take i)=w5 at g1 g2 g4 g5 hk ⊢;obtain⟨Tn,q,hq,_⟩:=D2 hk;have hgq:w5.Aa.getD k q0=q:=by grind
   have g6:G5 w5 y.proc b=if decide (Am q.holds y.proc=b.AH) then w5 else Da w5 (BH w5.Aa y.proc b).1 (BH w5.Aa y.proc b).2.1:=by grind[G5]
   obtain⟨q1,q2,q3⟩:=Bt (g5.q q (mG hq));have hn5:=g5.n;refine Ay 25 [([],[0]),([],[69]),([],[70]),([],[71]),([],[72]),([],[0]),([],[74]),([],[75]),([],[76]),([],[77]),([],[8]),([],[11]),([],[79,80]),([],[81]),([],[82]),([],[78,83]),([15],[73,84]),([15],[85]),([],[10]),([15],[86,87]),([],[8]),([],[11]),([],[89,90]),([],[91]),([],[92])] B6 ?_;simp only[go_sem,hb]
   first|(refine Ab (IT w5.Aa b.name (by omega)) ?_)|(refine Ax (IT w5.Aa b.name (by omega)) ?_)
   simp only[go_sem,hk,XZ,hq]
   first|(refine Ab (E0 q y.proc q1) ?_)|(refine Ax (E0 q y.proc q1) ?_)
   simp(disch:=omega)only[go_sem,hb];cases hH:decide (Am q.holds y.proc=b.AH)
   ·rw[hH]at g6;simp at g6;refine gO ?_;refine Ay 17 [([],[0]),([],[96]),([],[97]),([],[98]),([],[99]),([],[10]),([],[8]),([],[11]),([],[102,103]),([],[104]),([],[100,101,105]),([10],[106]),([10],[95]),([10],[95]),([10],[95]),([10],[107]),([10],[108])] B6 ?_;simp only[go_sem,hb]
    first|(refine Ab (Lm w5.Aa y.proc b g5) ?_)|(refine Ax (Lm w5.Aa y.proc b g5) ?_)
    refine gO ?_;refine call2 ⟨⟨[(0,0),(1,1)],[(63,63)],[]⟩,[],[]⟩ (Nb w5 (BH w5.Aa y.proc b).1 (BH w5.Aa y.proc b).2.1 (by omega)) ?_;rw[<- g6,<- g4];refine gO ?_;exact hJ _ (i+1) (by omega) (by omega) AK
   ·rw[hH,if_pos rfl]at g6;refine gO ?_;refine hJ _ (i+1) (by omega) (by omega) (AT.Aq gI ?_);rw[g4,g6];exact gI
  ·have Ba:i=az.length:=by grind
   subst Ba;rw[take_length];have g1:=Ky c1 _ (Nat.le_refl _);rw[take_length]at g1;have g3:(Dn w4 y.proc az).procs[o]?=some (Gu y AB):=by grind[GW]
   refine call2 ⟨⟨[(0,0),(1,1)],[(63,63)],[]⟩,[],[]⟩ (Ll (Dn w4 y.proc az) o (Gu y AB) g3) ?_;have g7:(AW (Dn w4 y.proc az) o (CA (Gu y AB))).D1.length=(Dn w4 y.proc az).D1.length:=rfl;generalize AW (Dn w4 y.proc az) o (CA (Gu y AB))=w6 at c2 g7 ⊢;have k2:=(hI.lz _ c2).2.1;have k4:=Ks w6;refine gO ?_;refine call2 ⟨⟨[(0,0),(1,1)],[(63,63)],[]⟩,[],[]⟩ (Na Inv hI w6 c2 (by omega)) (gO ?_);refine C8 ⟨[(0,0),(1,1)],[(63,63)],[]⟩ _ ?_ ?_
   ·exact gI
   ·exact gI
def TL{x:Bu}{a:Nat}(hv:Bx x.AB=true):∀ (az:List Atom) (w:Ap),DI w.Aa->Kt w.Aa x->yr w.Aa x a->(∀ b∈az,(∃ e∈x.AB.entries,e.name=b.name)/\b.AH=An (x.AB.entries.take a) b.name) ->
 Z7 w x.proc az/\Gi x.proc w.Aa (Dn w x.proc az).Aa
 |[],w,h,_,_,_=>⟨λi b hb=>by grind,.refl h⟩
 | b::az,w,h,hf,hr,hb=>by
  obtain⟨UL,Ss⟩:=hb b (by simp);obtain⟨k,q,f1,f2,f3,f4⟩:=hf b.name UL;have hg:w.Aa.getD k q0=q:=by grind
  obtain⟨r1,r2⟩:=hr q (mG f2);have key:Gi x.proc w.Aa (G5 w x.proc b).Aa/\yr (G5 w x.proc b).Aa x a:=by
   unfold G5;simp only[f1,hg];split
   ·exact⟨.refl h,hr⟩
   ·rename_i CZ;have CZ:Am q.holds x.proc≠b.AH:=by grind
    have hh:Am q.holds x.proc=An x.AB.entries b.name:=by grind
    obtain⟨q1,e1,hs,hqr,g1,g2⟩:=Jv (a:=b) h f1 f2 r1 (by grind[Jb]) (by grind[SY,S4]);simp[Da];rw[e1];refine⟨hs,λq' FI=>?_⟩;rcases D6 (q:=q) FI with rfl|⟨j,_,hj⟩
    ·grind
    ·exact hr q' (mG hj)
  obtain⟨g1,g2⟩:=TL hv az (G5 w x.proc b) key.1.tab (hf.res key.1.res) key.2 λc hc=>hb c (by grind)
  refine⟨λi c hc=>?_,key.1.trans g2⟩;cases i with
  | zero =>
   simp at hc;subst hc;exact⟨Dx h,k,f1⟩
  | succ i=>exact g1 i c (by grind)
def Yr(x:Bu):(DM x).proc=x.proc/\(DM x).waiting=false/\(DM x).AB=x.AB:=by
 unfold DM;cases hw:x.waiting
 ·grind
 ·exact⟨rfl,rfl,rfl⟩
def tV{l:Ledger}{label:Int}(h:(BQ l label).2.2=0):Bx l=true/\∃ a n,(BQ l label).2.1=MN l a/\(BQ l label).1=PZ l a n:=by grind[BQ]
def Yo{w:Ap}{i:Nat}{x:Bu}{label:Int}(h:JE none w)(hx:w.procs[i]?=some x)(hf:Kt w.Aa x)(hi:x.waiting=false->Idle w.Aa x)(hpt:x.waiting=true->∀ q∈w.Aa,(∀ a∈Ah x.Bk.expr,q.res.name≠a.name)->KF q x.proc (An x.AB.entries q.res.name))
 (h0:(BQ x.AB label).2.2=0):Z7 (AW (Fm w i x) i (Gu (DM x) (BQ x.AB label).1)) (DM x).proc (BQ x.AB label).2.1/\JE none (NJ w i x label):=by
 obtain⟨hv,a,n,e1,e2⟩:=tV h0;obtain⟨p1,p2,p3⟩:=Yr x;have hli:=Au hx;have rC:JE none (Fm w i x)/\(Fm w i x).procs[i]?=some (DM x)/\(∀ q∈(Fm w i x).Aa,KF q x.proc (An x.AB.entries q.res.name))/\(Fm w i x).Aa.map (·.res)=w.Aa.map (·.res):=by
  unfold Fm DM;cases hw:x.waiting
  ·exact⟨h,hx,hi hw,rfl⟩
  ·simp;obtain⟨_,g1,g2⟩:=E8 h hx hw;have hg:=h.FM i x hx (by simp) hw;have N2:=(Ou (Ah x.Bk.expr) w h.tab hg.k hg.fd).2.1.res;refine⟨g1,by grind[Ch],λq hq=>?_,N2⟩;grind
 obtain⟨c1,c2,c3,c4⟩:=rC;obtain⟨w1,iN⟩:∃ w1,w1=AW (Fm w i x) i (Gu (DM x) (BQ x.AB label).1):=⟨_,rfl⟩;have d1:JE (some i) w1:=by rw[iN];exact(c1.gb i).set' c2 rfl
 have d2:w1.Aa=(Fm w i x).Aa:=by rw[iN];rfl
 have d3:w1.procs[i]?=some (Gu (DM x) (BQ x.AB label).1):=by rw[iN];simp[AW,Au c2]
 obtain⟨g1,g2⟩:=TL (a:=a) hv (MN x.AB a) w1 d1.tab (by rw[d2];exact hf.res c4) (λq hq=>by
  rw[d2]at hq;exact⟨(c3 q hq).1,.inl (c3 q hq).2⟩) (λb hb=>by
  simp[MN]at hb;obtain⟨m,hm,rfl⟩:=hb;obtain⟨e,he,hn⟩:=(E5 _ _).1 hm;grind)
 unfold NJ;rw[<- iN,p1,e1];refine⟨g1,?_⟩;have d4:(Gu (DM x) (BQ x.AB label).1).proc=x.proc:=p1;exact JE.set (z:=Gu (DM x) (BQ x.AB label).1) (d1.step d3 (GW _ _ _) (d4▸g2)) (by grind[GW]) rfl (λe=>by grind[CA,Gu])
def WA{w:Ap}{i:Nat}{x:Bu}{name:Bs}(h:JE none w)(hx:w.procs[i]?=some x)(hw:x.waiting=false):XV (IC w i x name):=by
 rcases jb x.proc ⟨name,⟨0,0⟩⟩ h.tab with hl|hs
 ·refine .inr ⟨hl,by simpa [IC,AW,Da]using h.n,λz hz hzw=>?_⟩;simp[IC,AW,Da]at hz;rcases List.mem_or_eq_of_mem_set hz with hz|rfl
  ·exact h.reqs z hz hzw
  grind[CA]
 ·refine .inl ?_;unfold IC;exact JE.set (w:=Da w (BH w.Aa x.proc ⟨name,⟨0,0⟩⟩).1 (BH w.Aa x.proc ⟨name,⟨0,0⟩⟩).2.1) ((h.gb i).step hx rfl hs) hx rfl (λe=>by grind[CA])
def Mx(x:Bu)(n:Int):Bu:={ x with AB:=(E9 x.AB n).1 }
def Qv(w:Ap)(k:MS)(i:Nat)(x:Bu):Ap × Int :=
 if k.kind=2 then Ez w i x k.Bk
 else if k.kind=3 then (if x.waiting then (B3 (AW (Bb w i x) i (CA (CH x))),0) else (w,14))
 else if k.kind=4 then Fv w i x k.name
 else if k.kind=5 then (if x.waiting then (w,14) else if (E9 x.AB k.n).2=0 then (AW w i (CA (Mx x k.n)),0) else (w,(E9 x.AB k.n).2))
 else if k.kind=6 then Fx w i x k.n
 else if k.kind=8 then (if x.waiting then (w,14) else (Ud w i x,0))
 else (Ud w i x,0)
def NX(w:Ap)(k:MS):Ap × Int :=
 if k.kind<1\/9<k.kind then (w,1) else if k.kind=1 then F2 w k.proc k.n else if k.kind=9 then JH w k.n
 else match w.procs.findIdx? (λx=>decide (x.proc=k.proc)) with
 |none=>(w,10)
 |some i=>Qv w k i (w.procs.getD i x0)
def PF{w:Ap}{i:Nat}{x:Bu}(h:JE none w)(hx:w.procs[i]?=some x):JE none (NO w i x):=by
 have hs:=bQ x.proc h.tab;have hm:∀ (j:Nat) (y:Bu),(w.procs.eraseIdx i)[j]?=some y->∃ j',w.procs[j']?=some y/\j'≠i/\j'=if j<i then j else j+1:=λj y hj=>by grind
 refine⟨hs.tab,?_,λa b u v ha hb e=>?_,λj y hj _ hw=>?_⟩
 ·simp[NO,CL,Da,List.length_eraseIdx];have:=h.n;split<;>omega
 ·obtain⟨a',h1,_,h3⟩:=hm a u ha;obtain⟨b',k1,_,k3⟩:=hm b v hb;have:=h.uq a' b' u v h1 k1 e;rw[h3,k3]at this;split at this<;>split at this<;>omega
 ·obtain⟨j',h1,h2,_⟩:=hm j y hj;exact(h.FM j' y h1 (by simp) hw).step hs λe=>h2 (h.uq j' i y x h1 hx e)
def x6{t:List Queue}{p:Ac}(h:DI t):(Cy t p).2.length<=100000:=by
 have e:(Cy t p).2=O7 t p t.length:=by grind[Cy,EO,O7]
 rw[e];have:=Tu (p:=p) (Dx h).q t.length (Nat.le_refl _);have:=h.n;omega
def po(l:Ledger)(label:Int):(BQ l label).2.1.length<=1000:=by
 unfold BQ;split
 ·simp
 ·rename_i hv;have hl:l.entries.length<=72:=by simp_all[Bx]
  cases Oj l label with
  |none=>simp
  |some p =>
   obtain⟨a,n⟩:=p;simp only[MN,length_map];have:=PL (l.entries.drop a);simp at this;omega
def YO{l:List Bu}{p:Ac}{i:Nat}(h:l.findIdx? (λx=>decide (x.proc=p))=some i):∃ x,l[i]?=some x:=by
 obtain⟨hi,_⟩:=List.findIdx?_eq_some_iff_getElem.1 h;simp_all
def vI(w:Ap)(k:MS)(h:Fit w):Ad C0 173 [.ptr 63 0,.agg k.c] [(63,w.c)] (I (NX w k).2) [(63,(NX w k).1.c)]:=by
 have hp:=h.je.n;have hf:=Dx h.je.tab;have Y1:w.D1.length=0:=by rw[h.ev];rfl
 have hwc:=Ks w;refine Ad.go f173 ?_;unfold f173;refine gO ?_
 by_cases h1:k.kind<1
 ·have ht:NX w k=(w,1):=by simp[NX,h1]
  rw[ht];refine gS ?_;refine C8 ⟨[(0,0),(1,1)],[(63,63)],[]⟩ _ ?_ ?_
  ·exact gI
  ·exact gI
 by_cases h2:9<k.kind
 ·have ht:NX w k=(w,1):=by simp[NX,h2]
  rw[ht];refine gS ?_;refine C8 ⟨[(0,0),(1,1)],[(63,63)],[]⟩ _ ?_ ?_
  ·exact gI
  ·exact gI
 refine gS ?_
 by_cases h3:k.kind=1
 ·have ht:NX w k=F2 w k.proc k.n:=by simp[NX,h3]
  rw[ht];refine gS ?_;refine call2 ⟨⟨[(0,0),(1,1)],[(63,63)],[]⟩,[],[]⟩ (vZ w k.proc k.n (by omega)) (gO ?_);refine C8 ⟨[(0,0),(1,1)],[(63,63)],[]⟩ _ ?_ ?_
  ·exact gI
  ·exact gI
 have lH:(k.kind==1)=false:=by grind
 refine gS ?_
 by_cases h4:k.kind=9
 ·have ht:NX w k=JH w k.n:=by simp[NX,h4]
  rw[ht];refine gS ?_;refine call2 ⟨⟨[(0,0),(1,1)],[(63,63)],[]⟩,[],[]⟩ (v7 (JE none) JE.yF w k.n (λt=>⟨h.je.tab,h.je.n,h.je.uq,h.je.FM⟩) h.now.1 (by omega)) (gO ?_);refine C8 ⟨[(0,0),(1,1)],[(63,63)],[]⟩ _ ?_ ?_
  ·exact gI
  ·exact gI
 have h4':(k.kind==9)=false:=by grind
 refine gS ?_;refine Ay 7 [([],[0]),([],[33]),([],[34]),([],[35]),([],[36]),([],[3]),([],[38])] B6 (gO ?_);refine B4 [0] (Vd w.procs k.proc) gI rfl trivial ?_;cases gA:w.procs.findIdx? (λx=>decide (x.proc=k.proc)) with
 |none =>
  have ht:NX w k=(w,10):=by grind[NX]
  have hix:E4 w.procs k.proc = -1:=by grind[E4]
  rw[ht];refine gS ?_;refine C8 ⟨[(0,0),(1,1)],[(63,63)],[]⟩ _ ?_ ?_
  ·exact gI
  ·exact gI
 |some i =>
 obtain⟨x,hx⟩:=YO gA;have Ya:=mG hx;have hi:=Au hx;have hix:E4 w.procs k.proc=i:=by grind[E4]
 have ht:NX w k=Qv w k i x:=by grind[NX]
 rw[ht];simp only[go_sem,hix,eq_false (show ¬ (i:Int)<0 by omega),hx]
 by_cases k2:k.kind=2
 ·have IE:Qv w k i x=Ez w i x k.Bk:=by simp[Qv,k2]
  rw[IE];refine gS ?_;refine call2 ⟨⟨[(0,0),(1,1)],[(63,63)],[]⟩,[],[]⟩ (v8 XV XV.Gf w i x k.Bk hx hf (λa1 a2 a3=>by
   refine cN h.je hx (h.idle x Ya a1) (by simp_all[Hm]) (λa ha=>?_);obtain⟨n,_,hn,_⟩:=DF h.je.tab a3 ha;grind) hp (by omega)) ?_
  refine gO ?_;refine C8 ⟨[(0,0),(1,1)],[(63,63)],[]⟩ _ ?_ ?_
  ·exact gI
  ·exact gI
 have k2':(k.kind==2)=false:=by grind
 refine gS ?_
 by_cases k3:k.kind=3
 ·refine gS ?_;cases hw:x.waiting
  ·have IE:Qv w k i x=(w,14):=by grind[Qv]
   rw[IE];refine gO ?_;refine C8 ⟨[(0,0),(1,1)],[(63,63)],[]⟩ _ ?_ ?_
   ·exact gI
   ·exact gI
  have IE:Qv w k i x=(B3 (AW (Bb w i x) i (CA (CH x))),0):=by grind[Qv]
  rw[IE];obtain⟨s1,s2,_⟩:=E8 h.je hx hw;have Vt:(Bb w i x).procs[i]?=some (CH x):=by grind[Ch]
  have s3:=s2.next Vt;have s4:=LO (i:=i) s1;have s5:(AW (Bb w i x) i (CA (CH x))).D1.length=(Bb w i x).D1.length:=rfl;have s6:=Ks (AW (Bb w i x) i (CA (CH x)));have s7:=s3.n;refine gO ?_;refine call2 ⟨⟨[(0,0),(1,1)],[(63,63)],[]⟩,[],[]⟩ (aO w i x hx s1 (by omega)) (gO ?_);refine call2 ⟨⟨[(0,0),(1,1)],[(63,63)],[]⟩,[],[]⟩ (Ll (Bb w i x) i (CH x) Vt) (gO ?_);refine call2 ⟨⟨[(0,0),(1,1)],[(63,63)],[]⟩,[],[]⟩ (Na (JE none) JE.Gf _ s3 (by omega)) (gO ?_);refine C8 ⟨[(0,0),(1,1)],[(63,63)],[]⟩ _ ?_ ?_
  ·exact gI
  ·exact gI
 have k3':(k.kind==3)=false:=by grind
 refine gS ?_
 by_cases k4:k.kind=4
 ·have IE:Qv w k i x=Fv w i x k.name:=by simp[Qv,k4]
  rw[IE];refine gS ?_;refine call2 ⟨⟨[(0,0),(1,1)],[(63,63)],[]⟩,[],[]⟩ (wa XV XV.Gf w i x k.name hx hf (λa1=>WA h.je hx a1) hp (by omega)) (gO ?_);refine C8 ⟨[(0,0),(1,1)],[(63,63)],[]⟩ _ ?_ ?_
  ·exact gI
  ·exact gI
 have k4':(k.kind==4)=false:=by grind
 refine gS ?_
 by_cases k5:k.kind=5
 ·refine gS ?_;cases hw:x.waiting;rotate_left
  ·have IE:Qv w k i x=(w,14):=by grind[Qv]
   rw[IE];refine gO ?_;refine C8 ⟨[(0,0),(1,1)],[(63,63)],[]⟩ _ ?_ ?_
   ·exact gI
   ·exact gI
  refine gO ?_;refine Ep (st':=⟨[(5,I i),(3,.ptr 192 0),(0,.ptr 63 0)],[(192,k.c),(63,w.c)]⟩) (AT.Aq gI (by exact gC)) ?_;refine Kh 16 [([],[0]),([0],[84]),([0,1],[85]),([0,1,2],[86]),([0,1,2,3],[87]),([],[5]),([0,1,2,3,4,5],[88,89]),([0,1,2,3,4,5,6],[90]),([0,1,2,3,4,5,6,7],[91]),([],[3]),([9],[93]),([0,1,2,3,4,5,6,7,8,9,10],[92,94]),([0,1,2,3,4,5,6,7,8,9,10,11],[95]),([0,1,2,3,4,5,6,7,8,9,10,11,12],[83]),([0,1,2,3,4,5,6,7,8,9,10,11,12],[83]),([],[]),([0,1,2,3,4,5,6,7,8,9,10,11,12,13,15],[]),([0,1,2,3,4,5,6,7,8,9,10,11,12,13,14,15,16],[])] [14] [([],[83,7,96,5,3,0],let o0:OT:=.done;let o1:OT:=.pick [(17,o0)];let o2:OT:=.pick [(16,o1)];let o3:OT:=.pick [(14,o1)];let o4:OT:=.pick [(14,o2),(16,o3)];o4),([14],[7,96,97,5,3,0],let o0:OT:=.done;let o1:OT:=.pick [(17,o0)];let o2:OT:=.pick [(16,o1)];o2)] B6 (by kernel_rfl) ?_;simp only[go_sem,hx]
  first|(refine Ab (kN x.AB k.n) ?_)|(refine Ax (kN x.AB k.n) ?_)
  have dF:(E9 x.AB k.n).2≠0->Qv w k i x=(w,(E9 x.AB k.n).2):=λCZ=>by grind[Qv]
  have hs3:(E9 x.AB k.n).2=0->Qv w k i x=(AW w i (CA (Mx x k.n)),0):=λhe=>by grind[Qv]
  have hx5:(AW w i (Mx x k.n)).procs[i]?=some (Mx x k.n):=by simp[AW,hi]
  have hs4:AW (AW w i (Mx x k.n)) i (CA (Mx x k.n))=AW w i (CA (Mx x k.n)):=by simp[AW]
  refine gO ?_
  repeat'(with_reducible refine And.intro ?_ ?_)
  all_goals intro hc
  all_goals first
   |(have X6:(E9 x.AB k.n).2≠0:=by simpa using hc
     rw[dF X6];refine C8 ⟨[(0,0),(1,1)],[(63,63)],[]⟩ _ ?_ ?_
     ·exact gI
     ·exact gI
     done)
   | skip
  all_goals
   have X6:(E9 x.AB k.n).2=0:=by grind
   rw[hs3 X6];refine Ep (st':=⟨[(5,I i),(7,.ptr 448 0),(0,.ptr 63 0)],[(448,(E9 x.AB k.n).1.c),(63,w.c)]⟩) AK ?_;refine Ay 7 [([],[0]),([],[101]),([],[102]),([],[103]),([],[104]),([],[5]),([],[7])] B6 ?_;simp(disch:=omega)only[go_sem,gm,hx];refine call2 ⟨⟨[(0,0),(1,1)],[(63,63)],[]⟩,[],[]⟩ (Ll (AW w i (Mx x k.n)) i _ hx5) ?_ (hh:=?_);rotate_left
   ·simp(disch:=omega)only[go_sem,AW,Mx];exact .sl (by simp only[map_set];rfl)
   rw[hs4];refine gO ?_;refine C8 ⟨[(0,0),(1,1)],[(63,63)],[]⟩ _ ?_ ?_
   ·exact gI
   ·exact gI
 have k5':(k.kind==5)=false:=by grind
 refine gS ?_
 by_cases k6:k.kind=6
 ·have IE:Qv w k i x=Fx w i x k.n:=by simp[Qv,k6]
  rw[IE];refine gS ?_;refine call2 ⟨⟨[(0,0),(1,1)],[(63,63)],[]⟩,[],[]⟩ (wc (JE none) JE.Gf w i x k.n hx (λa1=>(E8 h.je hx a1).1) (λa1=>Yo h.je hx (h.fits x Ya) (h.idle x Ya) (h.wait x Ya) a1) (po _ _) hp (by omega)) (gO ?_);refine C8 ⟨[(0,0),(1,1)],[(63,63)],[]⟩ _ ?_ ?_
  ·exact gI
  ·exact gI
 have k6':(k.kind==6)=false:=by grind
 refine gS ?_;have hga:=PF h.je hx;have hrl:=x6 (p:=x.proc) h.je.tab
 by_cases k8:k.kind=8
 ·refine gS ?_;cases hw:x.waiting;rotate_left
  ·have IE:Qv w k i x=(w,14):=by grind[Qv]
   rw[IE];refine gO ?_;refine C8 ⟨[(0,0),(1,1)],[(63,63)],[]⟩ _ ?_ ?_
   ·exact gI
   ·exact gI
  have IE:Qv w k i x=(Ud w i x,0):=by grind[Qv]
  rw[IE];refine gO ?_;refine call2 ⟨⟨[(0,0),(1,1)],[(63,63)],[]⟩,[],[]⟩ (kO (JE none) JE.Gf w i x hx hp hf hga hrl (by omega)) (gO ?_);refine C8 ⟨[(0,0),(1,1)],[(63,63)],[]⟩ _ ?_ ?_
  ·exact gI
  ·exact gI
 have k7:k.kind=7:=by omega
 have IE:Qv w k i x=(Ud w i x,0):=by simp[Qv,k7]
 rw[IE];refine gS ?_;refine call2 ⟨⟨[(0,0),(1,1)],[(63,63)],[]⟩,[],[]⟩ (kO (JE none) JE.Gf w i x hx hp hf hga hrl (by omega)) (gO ?_);refine C8 ⟨[(0,0),(1,1)],[(63,63)],[]⟩ _ ?_ ?_
 ·exact gI
 ·exact gI
end Go.Rd
