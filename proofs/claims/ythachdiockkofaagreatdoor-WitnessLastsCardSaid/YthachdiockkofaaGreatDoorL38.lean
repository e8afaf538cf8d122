/- part 38 of the proof -/
import Derived.Test.YthachdiockkofaaGreatDoorL34
import Derived.Test.YthachdiockkofaaGreatDoorL37
set_option linter.all false
open Go Go.Abs Go.Proofs
set_option maxRecDepth 100000
namespace Go.Rd
set_option maxHeartbeats 8000000
open List (foldl_cons map_cons map_map mem_append mem_cons mem_filter mem_map)
open Bool (and_eq_true)
open Option (map_some)
def QV(ms:List Ab)(s:WS):WS:=ms.foldl Ci s
def NA:∀ (ms:List Ab) (s:WS),QV ms s=⟨s.Aa.map (DK ms),s.AE.filter fun n=>decide (n.proc∉ms)⟩
 |[],s=>by
  show s=_;have h1:(DK [])=id:=rfl;rw[h1,List.map_id,List.filter_eq_self.2 (fun _ _=>by simp)]
 | m::ms,s=>by
  show QV ms (Ci s m)=_;rw[NA ms];simp only[Ci,O2,map_map,List.filter_filter,WS.mk.injEq];refine⟨List.map_congr_left fun q _=>rfl,List.filter_congr fun n _=>?_⟩;simp only[mem_cons,not_or,Bool.decide_and,Bool.and_comm]
def SL:∀ (ms:List Ab) {s:WS},C3 s→∀ x,x∈Ap (QV ms s)↔x∈Ap s∧x∉ms
 |[],_,_,x=>by simp[QV]
 | m::ms,s,h,x=>by
  show x∈Ap (QV ms (Ci s m))↔_;rw[SL ms (Dz h m),Ku h];simp only[mem_cons,not_or,and_assoc]
def Ti{D:List Ab}:∀ (ms:List Ab) {s:WS},C3 s→(∀ m∈ms,m∉D)→Dn s D=Dn (QV ms s) D
 |[],_,_,_=>rfl
 | m::ms,s,h,hd=>by
  have h1:=bO (l:=D) h (f:=m) (by simpa [B2]using hd m (by simp));rw[← h1];exact Ti ms (Dz h m) fun x hx=>hd x (by simp[hx])
def RA{D ms:List Ab}{s:WS}(h:C3 s)(hd:∀ m∈ms,m∉D)(hall:∀ x∈Ap s,x∈D∨x∈ms):Dn s D=QV ms s:=by
 rw[Ti ms h hd];refine Wk fun p hp=>?_
 obtain⟨h1,h2⟩:=(SL ms h p).1 hp;simpa [B2]using (hall p h1).resolve_right h2
def EqS(x y:WS):Prop:=y.Aa.map er=x.Aa.map er∧y.AE=x.AE
def aD(q:Queue):Bp (er q)=Bp q:=by
 unfold Bp er BN;simp only[List.map_append,map_map];rfl
def cU(q:Queue)(p:Ab):(Aq (er q) p).isSome=(Aq q p).isSome:=by
 rw[Bool.eq_iff_iff,IN,IN];simp only[er,← List.map_append,mem_map];constructor
 ·rintro⟨_,⟨w,hw,rfl⟩,hp⟩;exact⟨w,hw,hp⟩
 ·rintro⟨w,hw,hp⟩;exact⟨_,⟨w,hw,rfl⟩,hp⟩
def Yc(l:List Queue):(l.map er).flatMap Bp=l.flatMap Bp:=by
 induction l with
 | nil=>rfl
 | cons q l ih=>simp only[map_cons,List.flatMap_cons,aD,ih]
def Vh(l:List Queue)(p:Ab)(name:Bs):Ch (l.map er) p name=Ch l p name:=by
 unfold Ch;generalize false=b
 induction l generalizing b with
 | nil=>rfl
 | cons q l ih =>
  simp only[map_cons,foldl_cons,cU];exact ih _
def EqS.procs{x y:WS}(h:EqS x y):Ap y=Ap x:=by
 unfold Ap Ay;rw[← Yc y.Aa,h.1,Yc,h.2]
def EqS.free{x y:WS}(h:EqS x y):Cb y=Cb x:=by
 unfold Cb;rw[h.procs];refine List.filter_congr fun p _=>?_
 unfold Dq;rw[h.2];cases x.AE.find? (fun n=>decide (n.proc=p)) with
 |none=>rfl
 |some n =>
  simp only;have:F7 y n=F7 x n:=by
   unfold F7;refine List.map_congr_left fun a _=>?_
   rw[← Vh y.Aa,h.1,Vh]
  rw[this]
def ofW(w:Am):WS:=⟨w.Aa,Ds w.procs⟩
def NR{w:Am}(h:CE w.Aa):C3 (ofW w):=h.val
def G3{w:Am}{n:Need}:n∈(ofW w).AE↔∃ x∈w.procs,x.waiting=true∧MV x=n:=by
 show n∈Ds w.procs↔_;unfold Ds;rw[mem_map];simp only[mem_filter,and_assoc]
def S9{e:Option Nat}{w:Am}(h:VE e w):(ofW w).AE.Pairwise fun a b=>Bc a.proc b.proc<0:=by
 show (Ds w.procs).Pairwise _;unfold Ds;rw[List.pairwise_map];have ho:=h.ord;rw[List.pairwise_map]at ho;exact ho.sublist List.filter_sublist
def Uk{w w':Am}(h:VE none w)(h':VE none w'){D:List Ab}(hD:∀ x:Pcs,x.proc∈D→(x∈w.procs↔x∈w'.procs)){P P':Need→Bool}(hP:∀ n∈(ofW w).AE,P n=true↔n.proc∈D)(hP':∀ n∈(ofW w').AE,P' n=true↔n.proc∈D):(ofW w').AE.filter P'=(ofW w).AE.filter P:=by
 refine Ur (R:=fun a b:Need=>Bc a.proc b.proc<0) (fun a=>by rw[Cj];omega) (fun a b h1 h2=>by have:=CN a.proc b.proc;omega) ((S9 h').sublist List.filter_sublist) ((S9 h).sublist List.filter_sublist) fun n=>?_
 rw[mem_filter,mem_filter];constructor
 ·rintro⟨h1,h2⟩;have h3:=(hP' n h1).1 h2;obtain⟨x,hx,hw,rfl⟩:=G3.1 h1;have h4:=G3.2 ⟨x,(hD x h3).2 hx,hw,rfl⟩;exact⟨h4,(hP _ h4).2 h3⟩
 ·rintro⟨h1,h2⟩;have h3:=(hP n h1).1 h2;obtain⟨x,hx,hw,rfl⟩:=G3.1 h1;have h4:=G3.2 ⟨x,(hD x h3).1 hx,hw,rfl⟩;exact⟨h4,(hP' _ h4).2 h3⟩
def Yw{w w':Am}(h:VE none w)(h':VE none w'){ms D:List Ab}(hr:Run ms w w')(hd:∀ m∈ms,m∉D):EqS (Dn (ofW w) D) (Dn (ofW w') D):=by
 have hg:=NR h.je.tab;have hg':=NR h'.je.tab;obtain⟨ex,hex⟩:∃ ex,ex=(Ap (ofW w)++Ap (ofW w')).filter fun p=>decide (p∉D):=⟨_,rfl⟩
 have hM:∀ m∈ms++ex,m∉D:=fun m hm=>by
  rcases mem_append.1 hm with hm|hm
  ·exact hd m hm
  ·rw[hex,mem_filter]at hm;simpa using hm.2
 have hcov:∀ x,x∈Ap (ofW w)∨x∈Ap (ofW w')→x∈D∨x∈ms++ex:=fun x hx=>by
  by_cases hxD:x∈D
  ·exact .inl hxD
  ·right;rw[hex,mem_append,mem_filter];exact .inr ⟨mem_append.2 hx,by simpa using hxD⟩
 rw[RA hg hM (fun x hx=>hcov x (.inl hx)),RA hg' hM (fun x hx=>hcov x (.inr hx)),NA,NA];refine⟨?_,Uk h h' (D:=D) (fun x hx=>?_) (fun n hn=>?_) (fun n hn=>?_)⟩
 ·show (w'.Aa.map (DK (ms++ex))).map er=(w.Aa.map (DK (ms++ex))).map er;refine List.ext_getElem? fun k=>?_
  simp only[gm];cases hk:w.Aa[k]? with
  |none =>
   have:w'.Aa.length≤k:=by rw[hr.off.len];exact List.getElem?_eq_none_iff.1 hk
   rw[List.getElem?_eq_none_iff.2 this]
  |some q =>
   obtain⟨q',h1,v1,_,_,c1⟩:=hr.off.each k q hk;have v0:=h.je.tab.val q (mG hk);rw[h1];simp only[map_some];rw[LU,LU,Nz ex (Fw ms v0) (Fw ms v1) c1]
 ·have hn:x.proc∉ms:=fun hm=>hd _ hm hx
  exact⟨fun hm=>hr.same x hm hn,fun hm=>hr.back x hm hn⟩
 ·simp only[zD];have hin:n.proc∈Ap (ofW w):=(FA _ _).2 (.inr ⟨n,hn,rfl⟩);exact⟨fun hnm=>(hcov _ (.inl hin)).resolve_right hnm,fun hnD hnm=>hM _ hnm hnD⟩
 ·simp only[zD];have hin:n.proc∈Ap (ofW w'):=(FA _ _).2 (.inr ⟨n,hn,rfl⟩);exact⟨fun hnm=>(hcov _ (.inr hin)).resolve_right hnm,fun hnD hnm=>hM _ hnm hnD⟩
structure Stuck(s:WS)(D:List Ab):Prop where
 free:Cb (Dn s D)=[]
 mem:∀ p,p∈Ap (Dn s D)↔p∈D
def XX{s:WS}(hv:Bj s=true)(hf:Few s):Stuck s (BP s):=by
 obtain⟨y,k,h,hy⟩:=UC _ s 0 (KZ.start hv hf) (Nat.le_refl _);obtain⟨h1,h2⟩:=h.fin hy;exact⟨by rw[h2];exact hy,fun p=>by rw[h2,h1]⟩
def Stuck.eq{s s':WS}{D:List Ab}(h:Stuck s D)(he:EqS (Dn s D) (Dn s' D)):Stuck s' D:=⟨he.free.trans h.free,fun p=>by rw[he.procs];exact h.mem p⟩
def Stuck.dead{s:WS}{D:List Ab}(hg:C3 s)(h:Stuck s D):∀ p∈D,p∈BP s:=fun p hp=>by
 refine Y0 hg D p ?_;rw[Lb (OB hg D) h.free];exact(h.mem p).2 hp
def Xd{s:WS}(hg:C3 s){p:Ab}(hp:p∈BP s):∃ n∈s.AE,n.proc=p:=by
 cases hf:s.AE.find? (fun n=>decide (n.proc=p)) with
 |some n=>exact⟨n,List.mem_of_find?_eq_some hf,by simpa using List.find?_some hf⟩
 |none =>
  exfalso;refine Mi hg (DS.2 ⟨Nq _ s hg (Nat.le_refl _) p hp,?_⟩) hp;unfold Dq;rw[hf]
def WH{p:Ab}{name:Bs}{l:List Queue}(h:∀ q∈l,q.res.name=name→Aq q p=none):Ch l p name=false:=by
 unfold Ch;have:∀ (l:List Queue),(∀ q∈l,q.res.name=name→Aq q p=none)→l.foldl (fun w q=>if q.res.name==name then (Aq q p).isSome else w) false=false:=by
  intro l
  induction l with
  | nil=>intro _;rfl
  | cons q l ih =>
   intro h;rw[foldl_cons];have e:(if q.res.name==name then (Aq q p).isSome else false)=false:=by
    split
    ·rename_i hn;rw[h q (by simp) (by simpa using hn)];rfl
    ·rfl
   rw[e];exact ih fun q' hq'=>h q' (by simp[hq'])
 exact this l h
def Tv{p:Ab}:∀ (ms:List Ab) {q:Queue},valid q=true→(Aq (DK ms q) p).isSome=true→(Aq q p).isSome=true
 |[],_,_,h=>h
 | m::ms,_,hv,h=>WJ hv (Tv ms (FU hv m) h)
def Za(ms:List Ab)(q:Queue):(DK ms q).res=q.res:=by
 unfold DK
 induction ms generalizing q with
 | nil=>rfl
 | cons m ms ih=>rw[foldl_cons,ih,O3]
def Xk{e:Option Nat}{w:Am}(h:VE e w){x:Pcs}(hf:Fine w.now w.Aa x)(hw:x.waiting=true){a:Atom}(ha:a∈Ag x.req.expr)(hg:Ji w.Aa x.proc a=true):∀ q∈w.Aa,q.res.name=a.name→Aq q x.proc=none:=fun q hq hn=>by
 have ht:=h.je.tab;obtain⟨r1,r2,_,_,r5⟩:=hf.wait hw;obtain⟨k,hk⟩:=List.getElem?_of_mem hq;have hfq:=Nv ht hk;rw[hn]at hfq;unfold Ji at hg;rw[hfq]at hg;simp only[show w.Aa.getD k q0=q by simp[List.getD,hk]]at hg;obtain⟨p1,p2⟩:=Uo hn.symm (Gm _) ha (r5 q hq);cases hc:q.res.covers (An x.led.entries q.res.name) a.amt
 ·rcases p2 hc with ⟨g,_⟩|g
  ·exact g
  ·rw[g,hc]at hg;cases hg
 ·exact(p1 hc).1
def Y9{e:Option Nat}{w:Am}(h:VE e w){x:Pcs}(hx:x∈w.procs)(hw:x.waiting=true):(ofW w).AE.find? (fun n=>decide (n.proc=x.proc))=some (MV x):=by
 have hm:MV x∈(ofW w).AE:=G3.2 ⟨x,hx,hw,rfl⟩;cases hf:(ofW w).AE.find? (fun n=>decide (n.proc=x.proc)) with
 |none =>
  rw[List.find?_eq_none]at hf;have:=hf _ hm;simp[MV]at this
 |some n =>
  have h1:=List.mem_of_find?_eq_some hf;have h2:n.proc=x.proc:=by simpa using List.find?_some hf
  obtain⟨y,hy,_,rfl⟩:=G3.1 h1;obtain⟨i,hi⟩:=List.getElem?_of_mem hx;obtain⟨j,hj⟩:=List.getElem?_of_mem hy;have:=h.je.uq j i y x hj hi h2;subst this;rw[hi]at hj;rw[Option.some.inj hj]
def ZT{w:Am}(h:VE none w){D:List Ab}(hs:Stuck (ofW w) D){x:Pcs}(hx:x∈w.procs)(hsat:HB w x=true):x.proc∉D:=fun hD=>by
 have hg:=NR h.je.tab;have hwt:=JT hsat;obtain⟨i,hi⟩:=List.getElem?_of_mem hx;have hf:=h.fine i x hi (by simp);have hpr:=(hs.mem x.proc).2 hD;have:x.proc∈Cb (Dn (ofW w) D):=by
  rw[DS];refine⟨hpr,?_⟩;obtain⟨ex,hex⟩:∃ ex,ex=(Ap (ofW w)).filter fun p=>decide (p∉D):=⟨_,rfl⟩
  have hM:∀ m∈ex,m∉D:=fun m hm=>by
   rw[hex,mem_filter]at hm;simpa using hm.2
  rw[RA hg hM (fun y hy=>by
   by_cases hyD:y∈D
   ·exact .inl hyD
   ·exact .inr (by rw[hex,mem_filter];exact⟨hy,by simpa using hyD⟩)),NA]
  unfold Dq;have e:((ofW w).AE.filter fun n=>decide (n.proc∉ex)).find? (fun n=>decide (n.proc=x.proc))=some (MV x):=by
   rw[Gn (fun n hn=>by
    simp only[zD]at hn ⊢;rw[hn];exact fun hm=>hM _ hm hD)]
   exact Y9 h hx hwt
  rw[e];simp only;simp only[HB,hwt,Bool.true_and]at hsat;refine PA (fun k hk=>?_) hsat;refine Mk (f:=Ji w.Aa x.proc) _ (fun a ha hga=>?_) k hk;have hoff:Ch w.Aa x.proc a.name=false:=WH (Xk h hf hwt ha hga);show (!Ch (w.Aa.map (DK ex)) x.proc a.name)=true;cases hwi:Ch (w.Aa.map (DK ex)) x.proc a.name
  ·rfl
  ·have:=N5 w.Aa (fun q hq=>⟨Za ex q,Tv ex (h.je.tab.val q hq)⟩) hwi;rw[hoff]at this;cases this
 rw[hs.free]at this;cases this
def Wq{D ms:List Ab}{w0 w:Am}(h0:VE none w0)(hs:Stuck (ofW w0) D)(h:VE none w)(hr:Run ms w0 w)(hd:∀ m∈ms,m∉D):∃ ms',Run ms' w0 (Bl w)∧∀ m∈ms',m∉D :=
 PN h0.je.tab (fun _ _ h1 hr1 hd1 _ hx hsat=>ZT h1 (hs.eq (Yw h0 h1 hr1 hd1)) hx hsat) _ ms w h hr hd
def cN{D ms:List Ab}{w0 w:Am}{k:Cmd}{i:Nat}{x:Pcs}(h0:VE none w0)(hs:Stuck (ofW w0) D)(h:VC w)(hr:Run ms w0 w)(hd:∀ m∈ms,m∉D)(hx:w.procs[i]?=some x)(hD:x.proc∈D→x.waiting=true)(hk:x.proc∈D→k.kind=2∨k.kind=4∨k.kind=5∨k.kind=8)(he:(doI w k i x).2=0) :
 ∃ ms',Run ms' w0 (doI w k i x).1∧∀ m∈ms',m∉D:=by
 have hi:=Aj hx;have t0:=h0.je.tab;have fin:∀ {w1:Am},x.proc∉D→Run [x.proc] w w1→∀ m∈ms++[x.proc],m∉D:=fun hn _ m hm=>by
  rcases mem_append.1 hm with hm|hm
  ·exact hd m hm
  ·rw[List.mem_singleton.1 hm];exact hn
 have set1:∀ {w1:Am},x.proc∉D→VE none w1→Run [x.proc] w w1→∃ ms',Run ms' w0 (Bl w1)∧∀ m∈ms',m∉D:=fun hn hv hr1 =>
  Wq h0 hs hv (hr.trans t0 hr1) (fin hn hr1)
 have idle:x.waiting=false→x.proc∉D:=fun hw hm=>by rw[hD hm]at hw;cases hw
 revert he;unfold doI;split
 ·unfold Dm;split
  ·intro h0;simp at h0
  rename_i hw;have hw:x.waiting=false:=by simpa using hw
  split
  ·rename_i hq;split
   ·rename_i hv;intro _;obtain⟨g1,_,g3,g4⟩:=WU h.ve hx hw hq hv;exact set1 (idle hw) g1 (run_set (y:=Gi w.now x k.req) hx rfl g3 g4)
   ·rename_i hv;intro h0;exact absurd h0 hv
  ·intro h0;simp at h0
 rename_i k2;split
 ·rename_i k3;split
  ·rename_i hw;intro _;have hn:x.proc∉D:=fun hm=>by have:=hk hm;omega
   obtain⟨g1,g2,_,_⟩:=Gs h.ve hx hw;have hp:(AH w i x).procs[i]?=some (Br x):=by rw[Bm];exact List.getElem?_set_self hi
   exact set1 hn (g1.next hp) (run_set (y:=BC (Br x)) hx rfl (by simp only[AF,Bm,List.set_set]) g2)
  ·intro h0;simp at h0
 rename_i k3;split
 ·unfold D3;split
  ·intro h0;simp at h0
  rename_i hw;have hw:x.waiting=false:=by simpa using hw
  split
  ·intro h0;simp at h0
  rename_i hz;intro _;obtain⟨g1,_,⟨y,g3,g4,_⟩,g6⟩:=T4 (name:=k.name) h.ve hx hw (WT (by simpa using hz));exact set1 (idle hw) g1 (run_set hx g4 g3 g6)
 rename_i k4;split
 ·split
  ·intro h0;simp at h0
  rename_i hw;have hw:x.waiting=false:=by simpa using hw
  split
  ·intro _;have hr1:Run [x.proc] w (AF w i (BC (IK x k.n))):=run_set (y:=BC (IK x k.n)) hx rfl rfl (.refl h.ve.je.tab);exact⟨_,hr.trans t0 hr1,fin (idle hw) hr1⟩
  ·rename_i hs';intro h0;exact absurd h0 hs'
 rename_i k5;split
 ·rename_i k6;unfold DT;split
  ·rename_i hu;intro _;have hn:x.proc∉D:=fun hm=>by have:=hk hm;omega
   obtain⟨g1,_,⟨y,g3,g4,_⟩,g6⟩:=TN h.ve hx hu;exact set1 hn g1 (run_set hx g4 g3 g6)
  ·rename_i hu;intro h0;exact absurd h0 hu
 rename_i k6;have hgone:x.proc∉D→∃ ms',Run ms' w0 (NC w i x)∧∀ m∈ms',m∉D:=fun hn=>by
  obtain⟨g1,_,g3,_⟩:=T6 h.ve hx;exact set1 hn g1 g3
 split
 ·split
  ·intro h0;simp at h0
  ·rename_i hw;intro _;exact hgone (idle (by simpa using hw))
 ·rename_i k8;intro _;exact hgone fun hm=>by have:=hk hm;omega
def cQ{D ms:List Ab}{w0 w:Am}{k:Cmd}(h0:VE none w0)(hs:Stuck (ofW w0) D)(hw0:∀ p∈D,∃ x∈w0.procs,x.proc=p∧x.waiting=true)(h:VC w)(hr:Run ms w0 w)(hd:∀ m∈ms,m∉D)(hk9:k.kind≠9)(hk:k.proc∈D→k.kind≠3∧k.kind≠6∧k.kind≠7)(he:(doW w k).2=0) :
 ∃ ms',Run ms' w0 (doW w k).1∧∀ m∈ms',m∉D:=by
 have hD:∀ x∈w.procs,x.proc∈D→x.waiting=true:=fun x hx hm=>by
  obtain⟨y,hy,hyp,hyw⟩:=hw0 _ hm;have hy':=hr.same y hy fun hmm=>hd _ hmm (hyp▸hm)
  obtain⟨i,hi⟩:=List.getElem?_of_mem hx;obtain⟨j,hj⟩:=List.getElem?_of_mem hy';have:=h.ve.je.uq i j x y hi hj hyp.symm;subst this;rw[hi]at hj;rw[Option.some.inj hj];exact hyw
 revert he;unfold doW;split
 ·intro h0;simp at h0
 rename_i hk1;split
 ·rename_i k1;intro he;obtain⟨g1,_,g3⟩:=Yp h.ve he;refine⟨_,hr.trans h0.je.tab g3,fun m hm=>?_⟩;rcases mem_append.1 hm with hm|hm
  ·exact hd m hm
  ·rw[List.mem_singleton.1 hm];intro hmD;obtain⟨y,hy,hyp,_⟩:=hw0 _ hmD;have hy':=hr.same y hy fun hmm=>hd _ hmm (hyp▸hmD)
   have hni:¬ 0≤DP w.procs k.proc:=fun hi=>by
    revert he;unfold EE;split
    ·intro h0;simp at h0
    intro h0;simp at h0
   exact MO hni (mem_map.2 ⟨y,hy',hyp⟩)
 rename_i k1;cases hf:w.procs.findIdx? (fun x=>decide (x.proc=k.proc)) with
 |none=>intro h0;simp at h0
 |some i =>
  obtain⟨hi,hp,_⟩:=List.findIdx?_eq_some_iff_getElem.1 hf;have hg:w.procs.getD i x0=w.procs[i]:=by simp[List.getD,gE hi]
  have hp:w.procs[i].proc=k.proc:=by simpa using hp
  simp only[hg];intro he;refine cN h0 hs h hr hd (gE hi) (hD _ (List.getElem_mem hi)) (fun hm=>?_) he;rw[hp]at hm;have:=hk hm;omega
def N7(c:Cen):Am:=⟨c.now,c.Aa,c.procs,[]⟩
def L5{c:Cen}(h:Cw c=true):ofM c=ofW (N7 c):=by simp only[ofM,h,if_true];rfl
def fk{c:Cen}(h:Cw c=true):Few (ofM c):=OX c (CV (FV h).ve.je.tab)
structure Later(c0:Cen)(c:Cen):Prop where
 ok:Cw c=true
 run:∃ ms,Run ms (N7 c0) (N7 c)∧∀ m∈ms,m∉BP (ofM c0)
def WC{c:Cen}(h:Cw c=true):Stuck (ofW (N7 c)) (BP (ofM c)):=by
 rw[L5 h];have hv:=J5 c;have hf:=fk h;rw[L5 h]at hv hf;exact XX hv hf
def Xe{c:Cen}(h:Cw c=true){p:Ab}(hp:p∈BP (ofM c)):∃ x∈c.procs,x.proc=p∧x.waiting=true:=by
 rw[L5 h]at hp;obtain⟨n,hn,hnp⟩:=Xd (NR (FV h).ve.je.tab) hp;obtain⟨x,hx,hw,rfl⟩:=G3.1 hn;exact⟨x,hx,hnp,hw⟩
def Later.start{c:Cen}(h:Cw c=true):Later c c:=⟨h,[],.refl (FV h).ve.je.tab,fun _ hm=>by cases hm⟩
def Later.step{c0 c:Cen}{k:Cmd}(hc:Cw c0=true)(h:Later c0 c)(hk9:k.kind≠9)(hk:k.proc∈BP (ofM c0)→k.kind≠3∧k.kind≠6∧k.kind≠7)(he:(doC c k).2.2=0):Later c0 (doC c k).1:=by
 obtain⟨ms,hr,hd⟩:=h.run;refine⟨ab h.ok he,?_⟩;have h1:(doW (N7 c) k).2=0:=by
  unfold doC at he;rw[if_pos h.ok]at he;split at he
  ·rename_i h1;exact h1
  ·rename_i h1;exact absurd he h1
 obtain⟨ms',g1,g2⟩:=cQ (FV hc).ve (WC hc) (fun p hp=>Xe hc hp) (FV h.ok) hr hd hk9 hk h1;refine⟨ms',?_,g2⟩;have e:(doC c k).1=⟨(doW (N7 c) k).1.now,(doW (N7 c) k).1.Aa,(doW (N7 c) k).1.procs⟩:=by
  unfold doC;rw[if_pos h.ok];show (if (doW (N7 c) k).2=0 then _ else _:Cen × List Ev × Int).1=_;rw[if_pos h1];rfl
 rw[e];exact⟨g1.off,g1.same,g1.back⟩
def Later.eqs{c0 c:Cen}(hc:Cw c0=true)(h:Later c0 c):EqS (Dn (ofM c0) (BP (ofM c0))) (Dn (ofM c) (BP (ofM c0))):=by
 obtain⟨ms,hr,hd⟩:=h.run;rw[L5 h.ok];have:=Yw (FV hc).ve (FV h.ok).ve hr hd;rw[L5 hc]at this ⊢;exact this
def Later.dead{c0 c:Cen}(hc:Cw c0=true)(h:Later c0 c){p:Ab}(hp:p∈BP (ofM c0)):p∈BP (ofM c):=by
 have hs:=WC hc;rw[← L5 hc]at hs;exact(hs.eq (h.eqs hc)).dead (Da (J5 c)) p hp
def EqS.symm{x y:WS}(h:EqS x y):EqS y x:=⟨h.1.symm,h.2.symm⟩
def RR.res{ms:List Ab}{t t':List Queue}(h:RR ms t t'):t'.map (·.res)=t.map (·.res):=by
 refine List.ext_getElem? fun k=>?_
 rw[gm,gm];cases hk:t[k]? with
 |none =>
  have:t'.length≤k:=by rw[h.len];exact List.getElem?_eq_none_iff.1 hk
  rw[List.getElem?_eq_none_iff.2 this]
 |some q =>
  obtain⟨q',h1,_,h2,_⟩:=h.each k q hk;rw[h1];simp only[map_some,h2]
def G6{w:Am}(h:VE none w):(Bl w).Aa.map (·.res)=w.Aa.map (·.res):=by
 obtain⟨ms,g,_⟩:=PQ h;exact g.off.res
def Zo{w:Am}{i:Nat}{x:Pcs}(h:VE none w)(hx:w.procs[i]?=some x)(hw:x.waiting=true):(DL w i x).Aa.map (·.res)=w.Aa.map (·.res) :=
 (Gs (h.note 4 x.proc) (i:=i) (x:=x) hx hw).2.1.res
def SV:∀ (n:Nat) (w:Am),VE none w→(HT n w).Aa.map (·.res)=w.Aa.map (·.res)
 | 0,_,_=>rfl
 | n+1,w,h=>by
  rcases H9 w with he|⟨k,x,he,hx,hwt⟩
  ·rw[EK he]
  ·rw[Iz he hx];obtain⟨g1,_⟩:=VF h hx hwt;rw[SV n _ (KC g1).1,G6 g1,Zo h hx hwt]
def cO{w:Am}{k:Cmd}{i:Nat}{x:Pcs}(h:VC w)(hx:w.procs[i]?=some x)(h0:(doI w k i x).2=0):(doI w k i x).1.Aa.map (·.res)=w.Aa.map (·.res):=by
 have hi:=Aj hx;revert h0;unfold doI;split
 ·unfold Dm;split
  ·intro _;rfl
  rename_i hw;split
  ·rename_i hr;split
   ·rename_i hv;intro _;obtain⟨g1,_,_,g4⟩:=WU h.ve hx (by simpa using hw) hr hv;exact(G6 g1).trans g4.res
   ·intro _;rfl
  ·intro _;rfl
 split
 ·split
  ·rename_i hw;intro _;obtain⟨g1,g2,_,_⟩:=Gs h.ve hx hw;have hp:(AH w i x).procs[i]?=some (Br x):=by rw[Bm];exact List.getElem?_set_self hi
   exact(G6 (g1.next hp)).trans g2.res
  ·intro _;rfl
 split
 ·unfold D3;split
  ·intro _;rfl
  rename_i hw;split
  ·intro _;rfl
  rename_i hz;intro _;obtain⟨g1,_,_,g4⟩:=T4 (name:=k.name) h.ve hx (by simpa using hw) (WT (by simpa using hz));exact(G6 g1).trans g4.res
 split
 ·split
  ·intro _;rfl
  ·split
   ·intro _;rfl
   ·intro _;rfl
 split
 ·unfold DT;split
  ·rename_i hu;intro _;obtain⟨g1,_,_,g4⟩:=TN h.ve hx hu;exact(G6 g1).trans g4.res
  ·intro _;rfl
 have hgone:(NC w i x).Aa.map (·.res)=w.Aa.map (·.res):=by
  obtain⟨g1,_,g3,_⟩:=T6 h.ve hx;exact(G6 g1).trans g3.off.res
 split
 ·split
  ·intro _;rfl
  ·intro _;exact hgone
 ·intro _;exact hgone
def cR{w:Am}{k:Cmd}(h:VC w)(h0:(doW w k).2=0):(doW w k).1.Aa.map (·.res)=w.Aa.map (·.res):=by
 revert h0;unfold doW;split
 ·intro _;rfl
 split
 ·intro _;unfold EE;split
  ·rfl
  split
  ·rfl
  split
  ·rfl
  rfl
 split
 ·intro h0;revert h0;unfold HD;split
  ·intro _;rfl
  split
  ·intro _;rfl
  rename_i h1 h2;intro _;simp only[Bool.or_eq_true,zD,not_or]at h1 h2;have hn:=h.ve.now;have hv:VE none { w with now:=w.now+k.n }:=by
   refine⟨⟨h.ve.je.tab,h.ve.je.n,h.ve.je.uq,h.ve.je.good⟩,h.ve.ord,h.ve.known,?_,fun j x hj hne=>?_⟩
   ·constructor
    ·show 0≤w.now+k.n;omega
    ·show w.now+k.n≤1073741824;omega
   ·have hf:=h.ve.fine j x hj hne;refine⟨hf.head,hf.fits,fun hw=>?_,hf.idle⟩;obtain⟨a,b,c,d,e⟩:=hf.wait hw;exact⟨a,b,c,by show x.since≤w.now+k.n;omega,e⟩
  exact SV _ _ hv
 cases hf:w.procs.findIdx? (fun x=>decide (x.proc=k.proc)) with
 |none=>intro _;rfl
 |some i =>
  obtain⟨hi,_,_⟩:=List.findIdx?_eq_some_iff_getElem.1 hf;have hx:w.procs[i]?=some (w.procs.getD i x0):=by simp[List.getD,gE hi]
  exact cO h hx
def cG{c:Cen}{k:Cmd}(h:Cw c=true)(h0:(doC c k).2.2=0):CB (doC c k).1.Aa=CB c.Aa:=by
 unfold doC at h0 ⊢;rw[if_pos h]at h0 ⊢;split at h0
 ·rename_i h1;rw[if_pos h1];exact cR (FV h) h1
 ·rename_i h1;exact absurd h0 h1
def dO{c:Cen}(k:Cmd)(h:Cw c=true):Cw (GP c k)=true∧CB (GP c k).Aa=CB c.Aa:=by
 unfold GP;split
 ·rename_i h0;exact⟨ab h h0,cG h h0⟩
 ·exact⟨h,rfl⟩
def bQ:∀ (ks:List Cmd) (c:Cen),Cw c=true→Cw (runM c ks)=true∧CB (runM c ks).Aa=CB c.Aa
 |[],_,h=>⟨h,rfl⟩
 | k::ks,c,h=>by
  obtain⟨h1,h2⟩:=dO k h;obtain⟨g1,g2⟩:=bQ ks (GP c k) h1;exact⟨g1,g2.trans h2⟩
def W2{l:List Res}(h:Hj l=true):l.length≤8∧(∀ r∈l,GO r=true)∧∀ i,i+1<l.length→BX (l.getD i r0).name (l.getD (i+1) r0).name=true:=by
 simp only[Hj,and_eq_true,zD,CM,It,Bool.or_eq_true]at h;refine⟨h.1,fun r hr=>?_,fun i hi=>?_⟩
 ·obtain⟨i,hi⟩:=List.getElem?_of_mem hr;exact(h.2 i r hi).1
 ·have hg:l[i+1]?=some l[i+1]:=gE hi;have:=(h.2 (i+1) _ hg).2;rw[show l.getD (i+1) r0=l[i+1] by simp[List.getD,hg]];rcases this with h1|h1
  ·omega
  ·simpa using h1
def XG{r:Res}(h:GO r=true):valid (Hv r)=true:=by
 have hs:r.shaped=true:=by simp only[GO,and_eq_true]at h;exact h.1.2
 rw[BE];refine⟨⟨h,(C7 _ _).2 ⟨hs,by simp[Hv],by simp[Hv],List.Pairwise.nil,by simp[Hv,Res.compat,hs,BF]⟩,(Bz _).2 ⟨by simp[Hv],List.Pairwise.nil,by simp[Hv]⟩,(Bt _).2 ⟨(Ct _).2 ⟨by simp[Hv],List.Pairwise.nil,by simp[Hv]⟩,by simp[Hv],by simp[Hv]⟩,by simp[Hv]⟩,fun w hw=>by simp[Bk,Hv]at hw⟩
def fH{l:List Res}(h:Hj l=true):Cw (NP l).1=true∧CB (NP l).1.Aa=l:=by
 obtain⟨h1,h2,h3⟩:=W2 h;have e:NP l=(⟨0,l.map Hv,[]⟩,0):=by simp[NP,MX,h]
 rw[e];have hpr:Ay (l.map Hv)=[]:=by
  cases hp:Ay (l.map Hv) with
  | nil=>rfl
  | cons p ps =>
   exfalso;have hm:p∈Ay (l.map Hv):=by rw[hp];simp
   obtain⟨q,hq,hi⟩:=(Dv _ _).1 hm;obtain⟨r,_,rfl⟩:=mem_map.1 hq;rcases hi with ⟨_,hm,_⟩|⟨_,hm,_⟩|⟨_,hm,_⟩<;>simp[Hv]at hm
 have ht:CE (l.map Hv):=by
  refine⟨by simpa using h1,fun q hq=>?_,fun i hi=>?_,by rw[hpr];simp⟩
  ·obtain⟨r,hr,rfl⟩:=mem_map.1 hq;exact XG (h2 r hr)
  ·have hi':i+1<l.length:=by simpa using hi
   have:=h3 i hi';have hg:∀ j,j<l.length→((l.map Hv).getD j q0).res=l.getD j r0:=fun j hj=>by
    simp[List.getD,gm,gE hj,Hv]
   rw[hg i (by omega),hg (i+1) hi'];exact this
 refine⟨?_,?_⟩
 ·simp only[Cw,(DU _).2 ht,hpr];simp[Ca]
 ·simp[CB,Function.comp_def,Hv]
def aa{h1 h2 h3 h4 u5 h5 u6 h6:Int}(a1:0≤h1∧h1<4)(a2:0≤h2∧h2<4)(a3:0≤h3∧h3<4)(a4:0≤h4∧h4<4)(b5:0≤u5∧u5<8)(a5:0≤h5∧h5<4)(b6:0≤u6∧u6<3)(a6:0≤h6∧h6<4) :
 Hj [⟨[97],1,1,h1⟩,⟨[98],1,1,h2⟩,⟨[99],1,1,h3⟩,⟨[100],1,1,h4⟩,⟨[112],2,1+u5,h5⟩,⟨[113],2,1+u6,h6⟩]=true:=by
 have hh:∀ h:Int,0≤h∧h<4→AI h 0 3=true:=fun h hh=>by simp[AI];omega
 have hl:∀ (n:Bs) (h:Int),BM n=true→0≤h∧h<4→GO ⟨n,1,1,h⟩=true:=fun n h hn hb=>by simp[GO,hn,hh h hb,Res.shaped]
 have hp:∀ (n:Bs) (u h:Int),BM n=true→1≤u∧u≤8→0≤h∧h<4→GO ⟨n,2,u,h⟩=true:=fun n u h hn hu hb=>by
  have:AI u 1 8=true:=by simp[AI];omega
  simp[GO,hn,hh h hb,Res.shaped,this]
 have n1:BM [97]=true:=kR;have n2:BM [98]=true:=kR;have n3:BM [99]=true:=kR;have n4:BM [100]=true:=kR;have n5:BM [112]=true:=kR;have n6:BM [113]=true:=kR;have l1:BX [97] [98]=true:=kR;have l2:BX [98] [99]=true:=kR;have l3:BX [99] [100]=true:=kR;have l4:BX [100] [112]=true:=kR;have l5:BX [112] [113]=true:=kR;simp only[Hj,and_eq_true,zD,CM,It];refine⟨by simp,fun i r hr=>?_⟩;rcases i with _|_|_|_|_|_|i
 ·cases hr;exact⟨hl _ _ n1 a1,rfl⟩
 ·cases hr;exact⟨hl _ _ n2 a2,by simp[l1]⟩
 ·cases hr;exact⟨hl _ _ n3 a3,by simp[l2]⟩
 ·cases hr;exact⟨hl _ _ n4 a4,by simp[l3]⟩
 ·cases hr;exact⟨hp _ _ _ n5 (by omega) a5,by simp[l4]⟩
 ·cases hr;exact⟨hp _ _ _ n6 (by omega) a6,by simp[l5]⟩
 ·simp at hr
def eV(l:List Int):Hj (Ck l 0).1=true :=
 aa (Cx l _ 4 (by omega)) (Cx l _ 4 (by omega)) (Cx l _ 4 (by omega)) (Cx l _ 4 (by omega)) (Cx l _ 8 (by omega)) (Cx l _ 4 (by omega)) (Cx l _ 3 (by omega)) (Cx l _ 4 (by omega))
def W4(l:List Int):Cw (Hk l)=true∧CB (Hk l).Aa=(Ck l 0).1:=by
 have h:=fH (eV l);obtain⟨g1,g2⟩:=bQ (FT l).2 _ h.1;exact⟨g1,g2.trans h.2⟩
end Go.Rd
