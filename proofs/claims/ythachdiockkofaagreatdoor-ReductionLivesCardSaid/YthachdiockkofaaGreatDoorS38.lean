/- part 38 of the proof -/
import Derived.Test.YthachdiockkofaaGreatDoorS37
set_option linter.all false
open Go Go.Abs Go.Proofs
set_option maxRecDepth 100000
namespace Go.Rd
set_option maxHeartbeats 8000000
open List (foldl_cons map_cons map_map mem_append mem_cons mem_filter mem_map mem_singleton)
open Bool (and_eq_true)
open Option (map_some)
def P3(ms:List Proc)(s:WS):WS:=ms.foldl BX s
theorem MT:∀ (ms:List Proc) (s:WS),P3 ms s=⟨s.queues.map (Dk ms),s.needs.filter fun n=>decide (n.proc∉ms)⟩
 |[],s=>by
  show s=_;have h1:(Dk [])=id:=rfl;rw[h1,List.map_id,List.filter_eq_self.2 (fun _ _=>by simp)]
 | m::ms,s=>by
  show P3 ms (BX s m)=_;rw[MT ms];simp only[BX,Od,map_map,List.filter_filter,WS.mk.injEq];refine⟨List.map_congr_left fun q _=>rfl,List.filter_congr fun n _=>?_⟩;simp only[mem_cons,not_or,Bool.decide_and,Bool.and_comm]
theorem RK:∀ (ms:List Proc) {s:WS},Ch s→∀ x,x∈Am (P3 ms s)↔x∈Am s∧x∉ms
 |[],_,_,x=>by simp[P3]
 | m::ms,s,h,x=>by
  show x∈Am (P3 ms (BX s m))↔_;rw[RK ms (CW h m),JV h];simp only[mem_cons,not_or,and_assoc]
theorem Sd{D:List Proc}:∀ (ms:List Proc) {s:WS},Ch s→(∀ m∈ms,m∉D)→Fa s D=Fa (P3 ms s) D
 |[],_,_,_=>rfl
 | m::ms,s,h,hd=>by
  have h1:=ZR (l:=D) h (f:=m) (by simpa [Br]using hd m (by simp));rw[← h1];exact Sd ms (CW h m) fun x hx=>hd x (by simp[hx])
theorem QF{D ms:List Proc}{s:WS}(h:Ch s)(hd:∀ m∈ms,m∉D)(hall:∀ x∈Am s,x∈D∨x∈ms):Fa s D=P3 ms s:=by
 rw[Sd ms h hd];refine U5 fun p hp=>?_
 obtain⟨h1,h2⟩:=(RK ms h p).1 hp;simpa [Br]using (hall p h1).resolve_right h2
def EqS(x y:WS):Prop:=y.queues.map er=x.queues.map er∧y.needs=x.needs
theorem Y2(q:Queue):A6 (er q)=A6 q:=by
 unfold A6 er BI;simp only[List.map_append,map_map];rfl
theorem aM(q:Queue)(p:Proc):(Aj (er q) p).isSome=(Aj q p).isSome:=by
 rw[Bool.eq_iff_iff,Jv,Jv];simp only[er,← List.map_append,mem_map];constructor
 ·rintro⟨_,⟨w,hw,rfl⟩,hp⟩;exact⟨w,hw,hp⟩
 ·rintro⟨w,hw,hp⟩;exact⟨_,⟨w,hw,rfl⟩,hp⟩
theorem WQ(l:List Queue):(l.map er).flatMap A6=l.flatMap A6:=by
 induction l with
 | nil=>rfl
 | cons q l ih=>simp only[map_cons,List.flatMap_cons,Y2,ih]
theorem T7(l:List Queue)(p:Proc)(name:Bs):BL (l.map er) p name=BL l p name:=by
 unfold BL;generalize false=b
 induction l generalizing b with
 | nil=>rfl
 | cons q l ih =>
  simp only[map_cons,foldl_cons,aM];exact ih _
theorem EqS.procs{x y:WS}(h:EqS x y):Am y=Am x:=by
 unfold Am Ar;rw[← WQ y.queues,h.1,WQ,h.2]
theorem EqS.free{x y:WS}(h:EqS x y):B3 y=B3 x:=by
 unfold B3;rw[h.procs];refine List.filter_congr fun p _=>?_
 unfold DB;rw[h.2];cases x.needs.find? (fun n=>decide (n.proc=p)) with
 |none=>rfl
 |some n =>
  simp only;have:G1 y n=G1 x n:=by
   unfold G1;refine List.map_congr_left fun a _=>?_
   rw[← T7 y.queues,h.1,T7]
  rw[this]
def ofW(w:Work):WS:=⟨w.queues,CZ w.procs⟩
theorem KW{w:Work}(h:Ck w.queues):Ch (ofW w):=h.val
theorem Fk{w:Work}{n:Need}:n∈(ofW w).needs↔∃ x∈w.procs,x.waiting=true∧KS x=n:=by
 show n∈CZ w.procs↔_;unfold CZ;rw[mem_map];simp only[mem_filter,and_assoc]
theorem R5{e:Option Nat}{w:Work}(h:VE e w):(ofW w).needs.Pairwise fun a b=>AT a.proc b.proc<0:=by
 show (CZ w.procs).Pairwise _;unfold CZ;rw[List.pairwise_map];have ho:=h.ord;rw[List.pairwise_map]at ho;exact ho.sublist List.filter_sublist
theorem Tb{w w':Work}(h:VE none w)(h':VE none w'){D:List Proc}(hD:∀ x:Pcs,x.proc∈D→(x∈w.procs↔x∈w'.procs)){P P':Need→Bool}(hP:∀ n∈(ofW w).needs,P n=true↔n.proc∈D)(hP':∀ n∈(ofW w').needs,P' n=true↔n.proc∈D):(ofW w').needs.filter P'=(ofW w).needs.filter P:=by
 refine Th (R:=fun a b:Need=>AT a.proc b.proc<0) (fun a=>by rw[BT];omega) (fun a b h1 h2=>by have:=Cs a.proc b.proc;omega) ((R5 h').sublist List.filter_sublist) ((R5 h).sublist List.filter_sublist) fun n=>?_
 rw[mem_filter,mem_filter];constructor
 ·rintro⟨h1,h2⟩;have h3:=(hP' n h1).1 h2;obtain⟨x,hx,hw,rfl⟩:=Fk.1 h1;have h4:=Fk.2 ⟨x,(hD x h3).2 hx,hw,rfl⟩;exact⟨h4,(hP _ h4).2 h3⟩
 ·rintro⟨h1,h2⟩;have h3:=(hP n h1).1 h2;obtain⟨x,hx,hw,rfl⟩:=Fk.1 h1;have h4:=Fk.2 ⟨x,(hD x h3).1 hx,hw,rfl⟩;exact⟨h4,(hP' _ h4).2 h3⟩
theorem To{w w':Work}(h:VE none w)(h':VE none w'){ms D:List Proc}(hr:Run ms w w')(hd:∀ m∈ms,m∉D):EqS (Fa (ofW w) D) (Fa (ofW w') D):=by
 have hg:=KW h.je.tab;have hg':=KW h'.je.tab;obtain⟨ex,hex⟩:∃ ex,ex=(Am (ofW w)++Am (ofW w')).filter fun p=>decide (p∉D):=⟨_,rfl⟩
 have hM:∀ m∈ms++ex,m∉D:=fun m hm=>by
  rcases mem_append.1 hm with hm|hm
  ·exact hd m hm
  ·rw[hex,mem_filter]at hm;simpa using hm.2
 have hcov:∀ x,x∈Am (ofW w)∨x∈Am (ofW w')→x∈D∨x∈ms++ex:=fun x hx=>by
  by_cases hxD:x∈D
  ·exact .inl hxD
  ·right;rw[hex,mem_append,mem_filter];exact .inr ⟨mem_append.2 hx,by simpa using hxD⟩
 rw[QF hg hM (fun x hx=>hcov x (.inl hx)),QF hg' hM (fun x hx=>hcov x (.inr hx)),MT,MT];refine⟨?_,Tb h h' (D:=D) (fun x hx=>?_) (fun n hn=>?_) (fun n hn=>?_)⟩
 ·show (w'.queues.map (Dk (ms++ex))).map er=(w.queues.map (Dk (ms++ex))).map er;refine List.ext_getElem? fun k=>?_
  simp only[gm];cases hk:w.queues[k]? with
  |none =>
   have:w'.queues.length≤k:=by rw[hr.off.len];exact List.getElem?_eq_none_iff.1 hk
   rw[List.getElem?_eq_none_iff.2 this]
  |some q =>
   obtain⟨q',h1,v1,_,_,c1⟩:=hr.off.each k q hk;have v0:=h.je.tab.val q (mG hk);rw[h1];simp only[map_some];rw[Lo,Lo,MS ex (E3 ms v0) (E3 ms v1) c1]
 ·have hn:x.proc∉ms:=fun hm=>hd _ hm hx
  exact⟨fun hm=>hr.same x hm hn,fun hm=>hr.back x hm hn⟩
 ·simp only[decide_eq_true_eq];have hin:n.proc∈Am (ofW w):=(E7 _ _).2 (.inr ⟨n,hn,rfl⟩);exact⟨fun hnm=>(hcov _ (.inl hin)).resolve_right hnm,fun hnD hnm=>hM _ hnm hnD⟩
 ·simp only[decide_eq_true_eq];have hin:n.proc∈Am (ofW w'):=(E7 _ _).2 (.inr ⟨n,hn,rfl⟩);exact⟨fun hnm=>(hcov _ (.inr hin)).resolve_right hnm,fun hnD hnm=>hM _ hnm hnD⟩
structure Stuck(s:WS)(D:List Proc):Prop where
 free:B3 (Fa s D)=[]
 mem:∀ p,p∈Am (Fa s D)↔p∈D
theorem Wz{s:WS}(hv:CB s=true)(hf:Few s):Stuck s (Bi s):=by
 obtain⟨y,k,h,hy⟩:=Xe _ s 0 (LI.start hv hf) (Nat.le_refl _);obtain⟨h1,h2⟩:=h.fin hy;exact⟨by rw[h2];exact hy,fun p=>by rw[h2,h1]⟩
theorem Stuck.eq{s s':WS}{D:List Proc}(h:Stuck s D)(he:EqS (Fa s D) (Fa s' D)):Stuck s' D:=⟨he.free.trans h.free,fun p=>by rw[he.procs];exact h.mem p⟩
theorem Stuck.dead{s:WS}{D:List Proc}(hg:Ch s)(h:Stuck s D):∀ p∈D,p∈Bi s:=fun p hp=>by
 refine XF hg D p ?_;rw[I0 (XR hg D) h.free];exact(h.mem p).2 hp
theorem VS{s:WS}(hg:Ch s){p:Proc}(hp:p∈Bi s):∃ n∈s.needs,n.proc=p:=by
 cases hf:s.needs.find? (fun n=>decide (n.proc=p)) with
 |some n=>exact⟨n,List.mem_of_find?_eq_some hf,by simpa using List.find?_some hf⟩
 |none =>
  exfalso;refine LL hg (Dv.2 ⟨MJ _ s hg (Nat.le_refl _) p hp,?_⟩) hp;unfold DB;rw[hf]
theorem Vo{p:Proc}{name:Bs}{l:List Queue}(h:∀ q∈l,q.res.name=name→Aj q p=none):BL l p name=false:=by
 unfold BL;have:∀ (l:List Queue),(∀ q∈l,q.res.name=name→Aj q p=none)→l.foldl (fun w q=>if q.res.name==name then (Aj q p).isSome else w) false=false:=by
  intro l
  induction l with
  | nil=>intro _;rfl
  | cons q l ih =>
   intro h;rw[foldl_cons];have e:(if q.res.name==name then (Aj q p).isSome else false)=false:=by
    split
    ·rename_i hn;rw[h q (by simp) (by simpa using hn)];rfl
    ·rfl
   rw[e];exact ih fun q' hq'=>h q' (by simp[hq'])
 exact this l h
theorem Sr{p:Proc}:∀ (ms:List Proc) {q:Queue},valid q=true→(Aj (Dk ms q) p).isSome=true→(Aj q p).isSome=true
 |[],_,_,h=>h
 | m::ms,_,hv,h=>Vq hv (Sr ms (Ft hv m) h)
theorem XM(ms:List Proc)(q:Queue):(Dk ms q).res=q.res:=by
 unfold Dk
 induction ms generalizing q with
 | nil=>rfl
 | cons m ms ih=>rw[foldl_cons,ih,Oe]
theorem VX{e:Option Nat}{w:Work}(h:VE e w){x:Pcs}(hf:Fine w.now w.queues x)(hw:x.waiting=true){a:Atom}(ha:a∈Ad x.req.expr)(hg:GA w.queues x.proc a=true):∀ q∈w.queues,q.res.name=a.name→Aj q x.proc=none:=fun q hq hn=>by
 have ht:=h.je.tab;obtain⟨r1,r2,_,_,r5⟩:=hf.wait hw;obtain⟨k,hk⟩:=List.getElem?_of_mem hq;have hfq:=MO ht hk;rw[hn]at hfq;unfold GA at hg;rw[hfq]at hg;simp only[show w.queues.getD k q0=q by simp[List.getD,hk]]at hg;obtain⟨p1,p2⟩:=Pq hn.symm (EY _) ha (r5 q hq);cases hc:q.res.covers (Ai x.led.entries q.res.name) a.amt
 ·rcases p2 hc with ⟨g,_⟩|g
  ·exact g
  ·rw[g,hc]at hg;cases hg
 ·exact(p1 hc).1
theorem WE{e:Option Nat}{w:Work}(h:VE e w){x:Pcs}(hf:Fine w.now w.queues x)(hw:x.waiting=true){a:Atom}(ha:a∈Ad x.req.expr)(hg:∀ q∈w.queues,q.res.name=a.name→Aj q x.proc=none):GA w.queues x.proc a=true:=by
 have ht:=h.je.tab;obtain⟨r1,r2,_,_,r5⟩:=hf.wait hw;obtain⟨k,q,f1,f2,f3,f4⟩:=Cq ht r2 ha;have hqm:=mG f2;have hwn:=hg q hqm f3;unfold GA;rw[f1];simp only[show w.queues.getD k q0=q by simp[List.getD,f2]];have hpart:=r5 q hqm;have key:∀ {az:List Atom},Im az→a∈az→Cc q x az=true→(q.res.covers (Ai x.led.entries q.res.name) a.amt=true→KF q x.proc (Ai x.led.entries q.res.name))∧(q.res.covers (Ai x.led.entries q.res.name) a.amt=false→Ak q.holds x.proc=CC q.res (Ai x.led.entries q.res.name) a.amt):=by
  intro az hu hm hp;refine⟨(Pq f3.symm hu hm hp).1,fun hc=>?_⟩
  induction az with
  | nil=>cases hm
  | cons b az ih =>
   have hu':=List.nodup_cons.1 hu;unfold Cc at hp
   by_cases e:b.name=q.res.name
   ·have hba:b=a:=by
     rcases mem_cons.1 hm with hm|hm
     ·exact hm.symm
     ·exact absurd (mem_map.2 ⟨a,hm,f3.symm.trans e.symm⟩) hu'.1
    subst hba;rw[if_neg (by simpa using e),if_neg (by simp[hc]),if_pos (by simp[hwn])]at hp;exact of_decide_eq_true hp
   ·rw[if_pos (by simpa using e)]at hp;rcases mem_cons.1 hm with rfl|hm
    ·exact absurd f3.symm e
    ·exact ih hu'.2 hm hp
 obtain⟨k1,k2⟩:=key (EY _) ha hpart;cases hc:q.res.covers (Ai x.led.entries q.res.name) a.amt
 ·rw[k2 hc];rcases Ln ht hf.fits hqm with hl|hl
  ·rw[hl]at hc ⊢;rw[Lu f4 hc,C2 f4 f4];rcases(BE f4).2 with ⟨m1,m2,_⟩|⟨m1,_⟩
   ·rw[if_pos m1];exact JI m2
   ·rw[if_neg m1];simp
  ·exact(JN hl f4 hc).2.2.2
 ·rw[(k1 hc).2];exact hc
theorem RE{e:Option Nat}{w:Work}(h:VE e w){x:Pcs}(hx:x∈w.procs)(hw:x.waiting=true):(ofW w).needs.find? (fun n=>decide (n.proc=x.proc))=some (KS x):=by
 have hm:KS x∈(ofW w).needs:=Fk.2 ⟨x,hx,hw,rfl⟩;cases hf:(ofW w).needs.find? (fun n=>decide (n.proc=x.proc)) with
 |none =>
  rw[List.find?_eq_none]at hf;have:=hf _ hm;simp[KS]at this
 |some n =>
  have h1:=List.mem_of_find?_eq_some hf;have h2:n.proc=x.proc:=by simpa using List.find?_some hf
  obtain⟨y,hy,_,rfl⟩:=Fk.1 h1;obtain⟨i,hi⟩:=List.getElem?_of_mem hx;obtain⟨j,hj⟩:=List.getElem?_of_mem hy;have:=h.je.uq j i y x hj hi h2;subst this;rw[hi]at hj;rw[Option.some.inj hj]
theorem Yt{w:Work}(h:VE none w){D:List Proc}(hs:Stuck (ofW w) D){x:Pcs}(hx:x∈w.procs)(hsat:GG w x=true):x.proc∉D:=fun hD=>by
 have hg:=KW h.je.tab;have hwt:=Jj hsat;obtain⟨i,hi⟩:=List.getElem?_of_mem hx;have hf:=h.fine i x hi (by simp);have hpr:=(hs.mem x.proc).2 hD;have:x.proc∈B3 (Fa (ofW w) D):=by
  rw[Dv];refine⟨hpr,?_⟩;obtain⟨ex,hex⟩:∃ ex,ex=(Am (ofW w)).filter fun p=>decide (p∉D):=⟨_,rfl⟩
  have hM:∀ m∈ex,m∉D:=fun m hm=>by
   rw[hex,mem_filter]at hm;simpa using hm.2
  rw[QF hg hM (fun y hy=>by
   by_cases hyD:y∈D
   ·exact .inl hyD
   ·exact .inr (by rw[hex,mem_filter];exact⟨hy,by simpa using hyD⟩)),MT]
  unfold DB;have e:((ofW w).needs.filter fun n=>decide (n.proc∉ex)).find? (fun n=>decide (n.proc=x.proc))=some (KS x):=by
   rw[FW (fun n hn=>by
    simp only[decide_eq_true_eq]at hn ⊢;rw[hn];exact fun hm=>hM _ hm hD)]
   exact RE h hx hwt
  rw[e];simp only;simp only[GG,hwt,Bool.true_and]at hsat;refine KJ (fun k hk=>?_) hsat;refine IP (f:=GA w.queues x.proc) _ (fun a ha hga=>?_) k hk;have hoff:BL w.queues x.proc a.name=false:=Vo (VX h hf hwt ha hga);show (!BL (w.queues.map (Dk ex)) x.proc a.name)=true;cases hwi:BL (w.queues.map (Dk ex)) x.proc a.name
  ·rfl
  ·have:=Nq w.queues (fun q hq=>⟨XM ex q,Sr ex (h.je.tab.val q hq)⟩) hwi;rw[hoff]at this;cases this
 rw[hs.free]at this;cases this
theorem Vb{D ms:List Proc}{w0 w:Work}(h0:VE none w0)(hs:Stuck (ofW w0) D)(h:VE none w)(hr:Run ms w0 w)(hd:∀ m∈ms,m∉D):∃ ms',Run ms' w0 (AQ w)∧∀ m∈ms',m∉D :=
 O1 h0.je.tab (fun _ _ h1 hr1 hd1 _ hx hsat=>Yt h1 (hs.eq (To h0 h1 hr1 hd1)) hx hsat) _ ms w h hr hd
theorem aF{D ms:List Proc}{w0 w:Work}{k:Cmd}{i:Nat}{x:Pcs}(h0:VE none w0)(hs:Stuck (ofW w0) D)(h:VC w)(hr:Run ms w0 w)(hd:∀ m∈ms,m∉D)(hx:w.procs[i]?=some x)(hD:x.proc∈D→x.waiting=true)(hk:x.proc∈D→k.kind=2∨k.kind=4∨k.kind=5∨k.kind=8)(he:(doI w k i x).2=0) :
 ∃ ms',Run ms' w0 (doI w k i x).1∧∀ m∈ms',m∉D:=by
 have hi:=Ae hx;have t0:=h0.je.tab;have fin:∀ {w1:Work},x.proc∉D→Run [x.proc] w w1→∀ m∈ms++[x.proc],m∉D:=fun hn _ m hm=>by
  rcases mem_append.1 hm with hm|hm
  ·exact hd m hm
  ·rw[mem_singleton.1 hm];exact hn
 have set1:∀ {w1:Work},x.proc∉D→VE none w1→Run [x.proc] w w1→∃ ms',Run ms' w0 (AQ w1)∧∀ m∈ms',m∉D:=fun hn hv hr1 =>
  Vb h0 hs hv (hr.trans t0 hr1) (fin hn hr1)
 have idle:x.waiting=false→x.proc∉D:=fun hw hm=>by rw[hD hm]at hw;cases hw
 revert he;unfold doI;split
 ·unfold CX;split
  ·intro h0;simp at h0
  rename_i hw;have hw:x.waiting=false:=by simpa using hw
  split
  ·rename_i hq;split
   ·rename_i hv;intro _;obtain⟨g1,_,g3,g4⟩:=Vx h.ve hx hw hq hv;exact set1 (idle hw) g1 (run_set (y:=FR w.now x k.req) hx rfl g3 g4)
   ·rename_i hv;intro h0;exact absurd h0 hv
  ·intro h0;simp at h0
 rename_i k2;split
 ·rename_i k3;split
  ·rename_i hw;intro _;have hn:x.proc∉D:=fun hm=>by have:=hk hm;omega
   obtain⟨g1,g2,_,_⟩:=F0 h.ve hx hw;have hp:(Au w i x).procs[i]?=some (A7 x):=by rw[AZ];exact List.getElem?_set_self hi
   exact set1 hn (g1.next hp) (run_set (y:=Bf (A7 x)) hx rfl (by simp only[At,AZ,List.set_set]) g2)
  ·intro h0;simp at h0
 rename_i k3;split
 ·unfold DE;split
  ·intro h0;simp at h0
  rename_i hw;have hw:x.waiting=false:=by simpa using hw
  split
  ·intro h0;simp at h0
  rename_i hz;intro _;obtain⟨g1,_,⟨y,g3,g4,_⟩,g6⟩:=SS (name:=k.name) h.ve hx hw (Vw (by simpa using hz));exact set1 (idle hw) g1 (run_set hx g4 g3 g6)
 rename_i k4;split
 ·split
  ·intro h0;simp at h0
  rename_i hw;have hw:x.waiting=false:=by simpa using hw
  split
  ·intro _;have hr1:Run [x.proc] w (At w i (Bf (Ih x k.n))):=run_set (y:=Bf (Ih x k.n)) hx rfl rfl (.refl h.ve.je.tab);exact⟨_,hr.trans t0 hr1,fin (idle hw) hr1⟩
  ·rename_i hs';intro h0;exact absurd h0 hs'
 rename_i k5;split
 ·rename_i k6;unfold Dw;split
  ·rename_i hu;intro _;have hn:x.proc∉D:=fun hm=>by have:=hk hm;omega
   obtain⟨g1,_,⟨y,g3,g4,_⟩,g6⟩:=SH h.ve hx hu;exact set1 hn g1 (run_set hx g4 g3 g6)
  ·rename_i hu;intro h0;exact absurd h0 hu
 rename_i k6;have hgone:x.proc∉D→∃ ms',Run ms' w0 (G0 w i x)∧∀ m∈ms',m∉D:=fun hn=>by
  obtain⟨g1,_,g3,_⟩:=Pk h.ve hx;exact set1 hn g1 g3
 split
 ·split
  ·intro h0;simp at h0
  ·rename_i hw;intro _;exact hgone (idle (by simpa using hw))
 ·rename_i k8;intro _;exact hgone fun hm=>by have:=hk hm;omega
theorem aI{D ms:List Proc}{w0 w:Work}{k:Cmd}(h0:VE none w0)(hs:Stuck (ofW w0) D)(hw0:∀ p∈D,∃ x∈w0.procs,x.proc=p∧x.waiting=true)(h:VC w)(hr:Run ms w0 w)(hd:∀ m∈ms,m∉D)(hk9:k.kind≠9)(hk:k.proc∈D→k.kind≠3∧k.kind≠6∧k.kind≠7)(he:(doW w k).2=0) :
 ∃ ms',Run ms' w0 (doW w k).1∧∀ m∈ms',m∉D:=by
 have hD:∀ x∈w.procs,x.proc∈D→x.waiting=true:=fun x hx hm=>by
  obtain⟨y,hy,hyp,hyw⟩:=hw0 _ hm;have hy':=hr.same y hy fun hmm=>hd _ hmm (hyp▸hm)
  obtain⟨i,hi⟩:=List.getElem?_of_mem hx;obtain⟨j,hj⟩:=List.getElem?_of_mem hy';have:=h.ve.je.uq i j x y hi hj hyp.symm;subst this;rw[hi]at hj;rw[Option.some.inj hj];exact hyw
 revert he;unfold doW;split
 ·intro h0;simp at h0
 rename_i hk1;split
 ·rename_i k1;intro he;obtain⟨g1,_,g3⟩:=W2 h.ve he;refine⟨_,hr.trans h0.je.tab g3,fun m hm=>?_⟩;rcases mem_append.1 hm with hm|hm
  ·exact hd m hm
  ·rw[mem_singleton.1 hm];intro hmD;obtain⟨y,hy,hyp,_⟩:=hw0 _ hmD;have hy':=hr.same y hy fun hmm=>hd _ hmm (hyp▸hmD)
   have hni:¬ 0≤CK w.procs k.proc:=fun hi=>by
    revert he;unfold D7;split
    ·intro h0;simp at h0
    intro h0;simp at h0
   exact Mg hni (mem_map.2 ⟨y,hy',hyp⟩)
 rename_i k1;cases hf:w.procs.findIdx? (fun x=>decide (x.proc=k.proc)) with
 |none=>intro h0;simp at h0
 |some i =>
  obtain⟨hi,hp,_⟩:=List.findIdx?_eq_some_iff_getElem.1 hf;have hg:w.procs.getD i x0=w.procs[i]:=by simp[List.getD,gE hi]
  have hp:w.procs[i].proc=k.proc:=by simpa using hp
  simp only[hg];intro he;refine aF h0 hs h hr hd (gE hi) (hD _ (List.getElem_mem hi)) (fun hm=>?_) he;rw[hp]at hm;have:=hk hm;omega
def CD(c:Cen):Work:=⟨c.now,c.queues,c.procs,[]⟩
theorem HA{c:Cen}(h:BD c=true):ofM c=ofW (CD c):=by simp only[ofM,h,if_true];rfl
theorem cM{c:Cen}(h:BD c=true):Few (ofM c):=Te c (Cm (Dy h).ve.je.tab)
structure Later(c0:Cen)(c:Cen):Prop where
 ok:BD c=true
 run:∃ ms,Run ms (CD c0) (CD c)∧∀ m∈ms,m∉Bi (ofM c0)
theorem QN{c:Cen}(h:BD c=true):Stuck (ofW (CD c)) (Bi (ofM c)):=by
 rw[HA h];have hv:=Ju c;have hf:=cM h;rw[HA h]at hv hf;exact Wz hv hf
theorem L6{c:Cen}(h:BD c=true){p:Proc}(hp:p∈Bi (ofM c)):∃ x∈c.procs,x.proc=p∧x.waiting=true:=by
 rw[HA h]at hp;obtain⟨n,hn,hnp⟩:=VS (KW (Dy h).ve.je.tab) hp;obtain⟨x,hx,hw,rfl⟩:=Fk.1 hn;exact⟨x,hx,hnp,hw⟩
theorem Later.start{c:Cen}(h:BD c=true):Later c c:=⟨h,[],.refl (Dy h).ve.je.tab,fun _ hm=>by cases hm⟩
theorem Later.step{c0 c:Cen}{k:Cmd}(hc:BD c0=true)(h:Later c0 c)(hk9:k.kind≠9)(hk:k.proc∈Bi (ofM c0)→k.kind≠3∧k.kind≠6∧k.kind≠7)(he:(doC c k).2.2=0):Later c0 (doC c k).1:=by
 obtain⟨ms,hr,hd⟩:=h.run;refine⟨VG h.ok he,?_⟩;have h1:(doW (CD c) k).2=0:=by
  unfold doC at he;rw[if_pos h.ok]at he;split at he
  ·rename_i h1;exact h1
  ·rename_i h1;exact absurd he h1
 obtain⟨ms',g1,g2⟩:=aI (Dy hc).ve (QN hc) (fun p hp=>L6 hc hp) (Dy h.ok) hr hd hk9 hk h1;refine⟨ms',?_,g2⟩;have e:(doC c k).1=⟨(doW (CD c) k).1.now,(doW (CD c) k).1.queues,(doW (CD c) k).1.procs⟩:=by
  unfold doC;rw[if_pos h.ok];show (if (doW (CD c) k).2=0 then _ else _:Cen × List Ev × Int).1=_;rw[if_pos h1];rfl
 rw[e];exact⟨g1.off,g1.same,g1.back⟩
theorem Later.eqs{c0 c:Cen}(hc:BD c0=true)(h:Later c0 c):EqS (Fa (ofM c0) (Bi (ofM c0))) (Fa (ofM c) (Bi (ofM c0))):=by
 obtain⟨ms,hr,hd⟩:=h.run;rw[HA h.ok];have:=To (Dy hc).ve (Dy h.ok).ve hr hd;rw[HA hc]at this ⊢;exact this
theorem Later.dead{c0 c:Cen}(hc:BD c0=true)(h:Later c0 c){p:Proc}(hp:p∈Bi (ofM c0)):p∈Bi (ofM c):=by
 have hs:=QN hc;rw[← HA hc]at hs;exact(hs.eq (h.eqs hc)).dead (CM (Ju c)) p hp
theorem Later.find{c0 c:Cen}(hc:BD c0=true)(h:Later c0 c){p:Proc}(hp:p∈Bi (ofM c0)):∃ x,LK c0 p=(x,true)∧LK c p=(x,true)∧x.waiting=true:=by
 obtain⟨x,hx,hxp,hxw⟩:=L6 hc hp;obtain⟨ms,hr,hd⟩:=h.run;have hx':x∈c.procs:=hr.same x hx fun hm=>hd _ hm (hxp▸hp)
 have key:∀ {c:Cen},BD c=true→x∈c.procs→LK c p=(x,true):=fun {c} hok hm=>by
  unfold LK;cases hf:c.procs.findIdx? (fun x=>decide (x.proc=p)) with
  |none =>
   rw[List.findIdx?_eq_none_iff]at hf;have:=hf x hm;simp[hxp]at this
  |some i =>
   obtain⟨hi,hpi,_⟩:=List.findIdx?_eq_some_iff_getElem.1 hf;obtain⟨j,hj⟩:=List.getElem?_of_mem hm;have hi':c.procs[i]?=some c.procs[i]:=gE hi;have hpi:c.procs[i].proc=p:=by simpa using hpi
   have:=(F3 hok).je.uq i j _ x hi' hj (hpi.trans hxp.symm);subst this;simp only[List.getD,hj,Option.getD_some]
 exact⟨x,key hc hx,key h.ok hx',hxw⟩
theorem T4(s:WS):Hv (Bi s):=by
 have:∀ (n:Nat) (s:WS),Hv (Nh n s).2:=by
  intro n
  induction n with
  | zero=>intro s;exact DT _
  | succ n ih =>
   intro s;simp only[Nh];split
   ·exact DT _
   ·exact ih _
 exact this _ s
theorem EqS.symm{x y:WS}(h:EqS x y):EqS y x:=⟨h.1.symm,h.2.symm⟩
theorem O0:∀ (n:Nat) (w:Work),(Cr n w).procs.map (·.proc)=w.procs.map (·.proc)
 | 0,_=>rfl
 | n+1,w=>by
  simp only[Cr];cases hs:Fq w with
  |none=>rfl
  |some i =>
   obtain⟨x,hx,_⟩:=EE hs;simp only[show w.procs.getD i x0=x by simp[List.getD,hx]];obtain⟨y,h1,_,h3⟩:=FL hx;rw[O0 n,h1];exact Ga hx h3
theorem YZ{c:Cen}{k:Cmd}{x:Pcs}(h:BD c=true)(hx:x∈c.procs)(hw:x.waiting=false)(hk:k.kind=8)(hp:k.proc=x.proc) :
 (doC c k).2.2=0∧BD (doC c k).1=true∧(doC c k).1.procs.length+1=c.procs.length∧Bi (ofM (doC c k).1)=Bi (ofM c):=by
 have hv:VC (CD c):=Dy h;obtain⟨i,hi⟩:=List.getElem?_of_mem hx;have hfi:c.procs.findIdx? (fun y=>decide (y.proc=k.proc))=some i:=by
  rw[List.findIdx?_eq_some_iff_getElem];refine⟨Ae hi,by simp[get_eq hi,hp],fun j hj=>?_⟩;have hlt:=Ae hi;simp only[decide_eq_true_eq];intro e;have:=hv.ve.je.uq j i _ x (gE (by show j<c.procs.length;omega)) hi (e.trans hp);omega
 have e1:doW (CD c) k=(G0 (CD c) i x,0):=by
  unfold doW;rw[if_neg (by omega),if_neg (by omega),if_neg (by omega)];simp only[CD,hfi,show c.procs.getD i x0=x by simp[List.getD,hi]];unfold doI;rw[if_neg (by omega),if_neg (by omega),if_neg (by omega),if_neg (by omega),if_neg (by omega),if_pos hk,if_neg (by simp[hw])]
 have e2:doC c k=(⟨(G0 (CD c) i x).now,(G0 (CD c) i x).queues,(G0 (CD c) i x).procs⟩,(G0 (CD c) i x).evs,0):=by
  unfold doC;rw[if_pos h];show (if (doW (CD c) k).2=0 then ((⟨(doW (CD c) k).1.now,(doW (CD c) k).1.queues,(doW (CD c) k).1.procs⟩:Cen),(doW (CD c) k).1.evs,(0:Int)) else (Ip,[],(doW (CD c) k).2))=_;rw[e1,if_pos rfl]
 have h0:(doC c k).2.2=0:=by rw[e2]
 have hok:=VG h h0;refine⟨h0,hok,?_,?_⟩
 ·rw[e2];show (AQ (Gm (CD c) i x)).procs.length+1=c.procs.length;rw[show (AQ (Gm (CD c) i x)).procs.length=(Gm (CD c) i x).procs.length from(IU _ _).1];show (c.procs.eraseIdx i).length+1=_;rw[List.length_eraseIdx,if_pos (Ae hi)];have:=Ae hi;omega
 ·refine JA (T4 _) (T4 _) fun p=>⟨fun hd=>?_,fun hd=>?_⟩
  ·obtain⟨g1,_,g3,g4⟩:=Pk hv.ve (i:=i) (x:=x) hi;obtain⟨ms,r1,r2,r3⟩:=K8 g1;have hr:Run ([x.proc]++ms) (CD c) (G0 (CD c) i x):=g3.trans hv.ve.je.tab r1;have hdis:∀ m∈[x.proc]++ms,m∉Bi (ofM (doC c k).1):=fun m hm hmd=>by
    obtain⟨y,hy,hyp,hyw⟩:=L6 hok hmd;rw[e2]at hy;rcases mem_append.1 hm with hm|hm
    ·have hm':y.proc∈(AQ (Gm (CD c) i x)).procs.map (·.proc):=mem_map.2 ⟨y,hy,rfl⟩;rw[show (AQ (Gm (CD c) i x)).procs.map (·.proc)=(Gm (CD c) i x).procs.map (·.proc) from O0 _ _]at hm';obtain⟨z,hz,hzp⟩:=mem_map.1 hm';exact g4 z hz (by rw[hzp,hyp,mem_singleton.1 hm])
    ·have:=r3 y hy (hyp▸hm);rw[this]at hyw;cases hyw
   have hs:=QN hok;have e3:ofW (CD (doC c k).1)=ofW (G0 (CD c) i x):=by rw[e2];rfl
   have hv2:VE none (G0 (CD c) i x):=(Ii g1).1;rw[e3]at hs;have:=hs.eq (To hv.ve hv2 hr hdis).symm;rw[HA h];exact this.dead (KW hv.ve.je.tab) p hd
  ·refine(Later.start h).step h (by omega) (fun _=>by omega) h0 |>.dead h hd
theorem YB{c:Cen}(h:BD c=true)(hall:∀ x∈c.procs,x.waiting=true):c.procs.map (·.proc)=Bi (ofM c):=by
 have hv:VC (CD c):=Dy h;have hg:Ch (ofM c):=CM (Ju c);have hmem:∀ p,p∈c.procs.map (·.proc)↔p∈Am (ofM c):=fun p=>by
  rw[HA h,E7];constructor
  ·intro hp;obtain⟨x,hx,rfl⟩:=mem_map.1 hp;exact .inr ⟨KS x,Fk.2 ⟨x,hx,hall x hx,rfl⟩,rfl⟩
  ·rintro(⟨q,hq,hp⟩|⟨n,hn,rfl⟩)
   ·exact hv.ve.known q hq p ((DJ q p).1 hp)
   ·obtain⟨x,hx,_,rfl⟩:=Fk.1 hn;exact mem_map.2 ⟨x,hx,rfl⟩
 have hfree:B3 (ofM c)=[]:=by
  cases hf:B3 (ofM c) with
  | nil=>rfl
  | cons p l =>
   exfalso;have hp:p∈B3 (ofM c):=by rw[hf];simp
   obtain⟨h1,h2⟩:=Dv.1 hp;obtain⟨x,hx,rfl⟩:=mem_map.1 ((hmem p).2 h1);have hwt:=hall x hx;obtain⟨i,hi⟩:=List.getElem?_of_mem hx;have hfi:=hv.ve.fine i x hi (by simp);rw[HA h]at h2;unfold DB at h2;rw[RE hv.ve hx hwt]at h2;simp only at h2;have hq:=HL.1 hv.quiet x hx;simp only[GG,hwt,Bool.true_and]at hq;have:EI x.req.expr (AU c.queues x.proc x.req.expr)=true:=by
    refine KJ (fun k hk=>?_) h2;refine IP (g:=GA c.queues x.proc) _ (fun a ha hga=>?_) k hk;refine WE hv.ve hfi hwt ha fun q hq' hn=>?_
    have hwi:BL c.queues x.proc a.name=false:=by
     have hga':(!BL c.queues x.proc a.name)=true:=hga;simpa using hga'
    cases hwq:Aj q x.proc with
    |none=>rfl
    |some b =>
     exfalso;have:BL c.queues x.proc a.name=true:=by
      have hfl:∀ (l:List Queue) (acc:Bool),(∀ q'∈l,q'.res.name=a.name→q'=q)→(q∈l∨acc=true)→l.foldl (fun w q=>if q.res.name==a.name then (Aj q x.proc).isSome else w) acc=true:=by
       intro l
       induction l with
       | nil=>intro acc _ hacc;exact hacc.resolve_left (by simp)
       | cons r l ih =>
        intro acc hu hacc;rw[foldl_cons];refine ih _ (fun q' hq''=>hu q' (by simp[hq''])) ?_
        by_cases e:r.res.name=a.name
        ·right;rw[if_pos (by simpa using e),hu r (by simp) e,hwq];rfl
        ·rw[if_neg (by simpa using e)];rcases hacc with hacc|hacc
         ·rcases mem_cons.1 hacc with rfl|hacc
          ·exact absurd hn e
          ·exact .inl hacc
         ·exact .inr hacc
      refine hfl c.queues false (fun q' hq'' hn'=>?_) (.inl hq');obtain⟨j,hj⟩:=List.getElem?_of_mem hq'';obtain⟨l,hl⟩:=List.getElem?_of_mem hq';have:=DZ hv.ve.je.tab hj hl (hn'.trans hn.symm);subst this;have hl':c.queues[j]?=some q:=hl;have hj':c.queues[j]?=some q':=hj;rw[hl']at hj';exact(Option.some.inj hj').symm
     rw[hwi]at this;cases this
   rw[show (CD c).queues=c.queues from rfl]at hq;rw[hq]at this;cases this
 rw[I0 hg hfree];exact JA hv.ve.ord (DT _) hmem
theorem QU.res{ms:List Proc}{t t':List Queue}(h:QU ms t t'):t'.map (·.res)=t.map (·.res):=by
 refine List.ext_getElem? fun k=>?_
 rw[gm,gm];cases hk:t[k]? with
 |none =>
  have:t'.length≤k:=by rw[h.len];exact List.getElem?_eq_none_iff.1 hk
  rw[List.getElem?_eq_none_iff.2 this]
 |some q =>
  obtain⟨q',h1,_,h2,_⟩:=h.each k q hk;rw[h1];simp only[map_some,h2]
theorem GI{w:Work}(h:VE none w):(AQ w).queues.map (·.res)=w.queues.map (·.res):=by
 obtain⟨ms,g,_⟩:=K8 h;exact g.off.res
theorem X0{w:Work}{i:Nat}{x:Pcs}(h:VE none w)(hx:w.procs[i]?=some x)(hw:x.waiting=true):(Dl w i x).queues.map (·.res)=w.queues.map (·.res) :=
 (F0 (h.note 4 x.proc) (i:=i) (x:=x) hx hw).2.1.res
theorem RS:∀ (n:Nat) (w:Work),VE none w→(Hs n w).queues.map (·.res)=w.queues.map (·.res)
 | 0,_,_=>rfl
 | n+1,w,h=>by
  rcases HD w with he|⟨k,x,he,hx,hwt⟩
  ·rw[Ec he]
  ·rw[H2 he hx];obtain⟨g1,_⟩:=Ur h hx hwt;rw[RS n _ (Ii g1).1,GI g1,X0 h hx hwt]
theorem aG{w:Work}{k:Cmd}{i:Nat}{x:Pcs}(h:VC w)(hx:w.procs[i]?=some x)(h0:(doI w k i x).2=0):(doI w k i x).1.queues.map (·.res)=w.queues.map (·.res):=by
 have hi:=Ae hx;revert h0;unfold doI;split
 ·unfold CX;split
  ·intro _;rfl
  rename_i hw;split
  ·rename_i hr;split
   ·rename_i hv;intro _;obtain⟨g1,_,_,g4⟩:=Vx h.ve hx (by simpa using hw) hr hv;exact(GI g1).trans g4.res
   ·intro _;rfl
  ·intro _;rfl
 split
 ·split
  ·rename_i hw;intro _;obtain⟨g1,g2,_,_⟩:=F0 h.ve hx hw;have hp:(Au w i x).procs[i]?=some (A7 x):=by rw[AZ];exact List.getElem?_set_self hi
   exact(GI (g1.next hp)).trans g2.res
  ·intro _;rfl
 split
 ·unfold DE;split
  ·intro _;rfl
  rename_i hw;split
  ·intro _;rfl
  rename_i hz;intro _;obtain⟨g1,_,_,g4⟩:=SS (name:=k.name) h.ve hx (by simpa using hw) (Vw (by simpa using hz));exact(GI g1).trans g4.res
 split
 ·split
  ·intro _;rfl
  ·split
   ·intro _;rfl
   ·intro _;rfl
 split
 ·unfold Dw;split
  ·rename_i hu;intro _;obtain⟨g1,_,_,g4⟩:=SH h.ve hx hu;exact(GI g1).trans g4.res
  ·intro _;rfl
 have hgone:(G0 w i x).queues.map (·.res)=w.queues.map (·.res):=by
  obtain⟨g1,_,g3,_⟩:=Pk h.ve hx;exact(GI g1).trans g3.off.res
 split
 ·split
  ·intro _;rfl
  ·intro _;exact hgone
 ·intro _;exact hgone
theorem aJ{w:Work}{k:Cmd}(h:VC w)(h0:(doW w k).2=0):(doW w k).1.queues.map (·.res)=w.queues.map (·.res):=by
 revert h0;unfold doW;split
 ·intro _;rfl
 split
 ·intro _;unfold D7;split
  ·rfl
  split
  ·rfl
  split
  ·rfl
  rfl
 split
 ·intro h0;revert h0;unfold He;split
  ·intro _;rfl
  split
  ·intro _;rfl
  rename_i h1 h2;intro _;simp only[Bool.or_eq_true,decide_eq_true_eq,not_or]at h1 h2;have hn:=h.ve.now;have hv:VE none { w with now:=w.now+k.n }:=by
   refine⟨⟨h.ve.je.tab,h.ve.je.n,h.ve.je.uq,h.ve.je.good⟩,h.ve.ord,h.ve.known,?_,fun j x hj hne=>?_⟩
   ·constructor
    ·show 0≤w.now+k.n;omega
    ·show w.now+k.n≤1073741824;omega
   ·have hf:=h.ve.fine j x hj hne;refine⟨hf.head,hf.fits,fun hw=>?_,hf.idle⟩;obtain⟨a,b,c,d,e⟩:=hf.wait hw;exact⟨a,b,c,by show x.since≤w.now+k.n;omega,e⟩
  exact RS _ _ hv
 cases hf:w.procs.findIdx? (fun x=>decide (x.proc=k.proc)) with
 |none=>intro _;rfl
 |some i =>
  obtain⟨hi,_,_⟩:=List.findIdx?_eq_some_iff_getElem.1 hf;have hx:w.procs[i]?=some (w.procs.getD i x0):=by simp[List.getD,gE hi]
  exact aG h hx
theorem aw{c:Cen}{k:Cmd}(h:BD c=true)(h0:(doC c k).2.2=0):B6 (doC c k).1.queues=B6 c.queues:=by
 unfold doC at h0 ⊢;rw[if_pos h]at h0 ⊢;split at h0
 ·rename_i h1;rw[if_pos h1];exact aJ (Dy h) h1
 ·rename_i h1;exact absurd h0 h1
theorem bF{c:Cen}(k:Cmd)(h:BD c=true):BD (Eu c k)=true∧B6 (Eu c k).queues=B6 c.queues:=by
 unfold Eu;split
 ·rename_i h0;exact⟨VG h h0,aw h h0⟩
 ·exact⟨h,rfl⟩
theorem ZT:∀ (ks:List Cmd) (c:Cen),BD c=true→BD (runM c ks)=true∧B6 (runM c ks).queues=B6 c.queues
 |[],_,h=>⟨h,rfl⟩
 | k::ks,c,h=>by
  obtain⟨h1,h2⟩:=bF k h;obtain⟨g1,g2⟩:=ZT ks (Eu c k) h1;exact⟨g1,g2.trans h2⟩
theorem VF{l:List Res}(h:GV l=true):l.length≤8∧(∀ r∈l,Gq r=true)∧∀ i,i+1<l.length→BF (l.getD i r0).name (l.getD (i+1) r0).name=true:=by
 simp only[GV,and_eq_true,decide_eq_true_eq,Cx,HW,Bool.or_eq_true]at h;refine⟨h.1,fun r hr=>?_,fun i hi=>?_⟩
 ·obtain⟨i,hi⟩:=List.getElem?_of_mem hr;exact(h.2 i r hi).1
 ·have hg:l[i+1]?=some l[i+1]:=gE hi;have:=(h.2 (i+1) _ hg).2;rw[show l.getD (i+1) r0=l[i+1] by simp[List.getD,hg]];rcases this with h1|h1
  ·omega
  ·simpa using h1
theorem Wi{r:Res}(h:Gq r=true):valid (G7 r)=true:=by
 have hs:r.shaped=true:=by simp only[Gq,and_eq_true]at h;exact h.1.2
 rw[Bm];refine⟨⟨h,(CJ _ _).2 ⟨hs,by simp[G7],by simp[G7],List.Pairwise.nil,by simp[G7,Res.compat,hs,Bh]⟩,(Bk _).2 ⟨by simp[G7],List.Pairwise.nil,by simp[G7]⟩,(A8 _).2 ⟨(B7 _).2 ⟨by simp[G7],List.Pairwise.nil,by simp[G7]⟩,by simp[G7],by simp[G7]⟩,by simp[G7]⟩,fun w hw=>by simp[AY,G7]at hw⟩
theorem c9{l:List Res}(h:GV l=true):BD (M7 l).1=true∧B6 (M7 l).1.queues=l:=by
 obtain⟨h1,h2,h3⟩:=VF h;have e:M7 l=(⟨0,l.map G7,[]⟩,0):=by simp[M7,Mn,h]
 rw[e];have hpr:Ar (l.map G7)=[]:=by
  cases hp:Ar (l.map G7) with
  | nil=>rfl
  | cons p ps =>
   exfalso;have hm:p∈Ar (l.map G7):=by rw[hp];simp
   obtain⟨q,hq,hi⟩:=(C4 _ _).1 hm;obtain⟨r,_,rfl⟩:=mem_map.1 hq;rcases hi with ⟨_,hm,_⟩|⟨_,hm,_⟩|⟨_,hm,_⟩<;>simp[G7]at hm
 have ht:Ck (l.map G7):=by
  refine⟨by simpa using h1,fun q hq=>?_,fun i hi=>?_,by rw[hpr];simp⟩
  ·obtain⟨r,hr,rfl⟩:=mem_map.1 hq;exact Wi (h2 r hr)
  ·have hi':i+1<l.length:=by simpa using hi
   have:=h3 i hi';have hg:∀ j,j<l.length→((l.map G7).getD j q0).res=l.getD j r0:=fun j hj=>by
    simp[List.getD,gm,gE hj,G7]
   rw[hg i (by omega),hg (i+1) hi'];exact this
 refine⟨?_,?_⟩
 ·simp only[BD,(Dx _).2 ht,hpr];simp[BO]
 ·simp[B6,Function.comp_def,G7]
theorem YK{h1 h2 h3 h4 u5 h5 u6 h6:Int}(a1:0≤h1∧h1<4)(a2:0≤h2∧h2<4)(a3:0≤h3∧h3<4)(a4:0≤h4∧h4<4)(b5:0≤u5∧u5<8)(a5:0≤h5∧h5<4)(b6:0≤u6∧u6<3)(a6:0≤h6∧h6<4) :
 GV [⟨[97],1,1,h1⟩,⟨[98],1,1,h2⟩,⟨[99],1,1,h3⟩,⟨[100],1,1,h4⟩,⟨[112],2,1+u5,h5⟩,⟨[113],2,1+u6,h6⟩]=true:=by
 have hh:∀ h:Int,0≤h∧h<4→between h 0 3=true:=fun h hh=>by simp[between];omega
 have hl:∀ (n:Bs) (h:Int),Bp n=true→0≤h∧h<4→Gq ⟨n,1,1,h⟩=true:=fun n h hn hb=>by simp[Gq,hn,hh h hb,Res.shaped]
 have hp:∀ (n:Bs) (u h:Int),Bp n=true→1≤u∧u≤8→0≤h∧h<4→Gq ⟨n,2,u,h⟩=true:=fun n u h hn hu hb=>by
  have:between u 1 8=true:=by simp[between];omega
  simp[Gq,hn,hh h hb,Res.shaped,this]
 have n1:Bp [97]=true:=by kernel_rfl
 have n2:Bp [98]=true:=by kernel_rfl
 have n3:Bp [99]=true:=by kernel_rfl
 have n4:Bp [100]=true:=by kernel_rfl
 have n5:Bp [112]=true:=by kernel_rfl
 have n6:Bp [113]=true:=by kernel_rfl
 have l1:BF [97] [98]=true:=by kernel_rfl
 have l2:BF [98] [99]=true:=by kernel_rfl
 have l3:BF [99] [100]=true:=by kernel_rfl
 have l4:BF [100] [112]=true:=by kernel_rfl
 have l5:BF [112] [113]=true:=by kernel_rfl
 simp only[GV,and_eq_true,decide_eq_true_eq,Cx,HW];refine⟨by simp,fun i r hr=>?_⟩;rcases i with _|_|_|_|_|_|i
 ·cases hr;exact⟨hl _ _ n1 a1,rfl⟩
 ·cases hr;exact⟨hl _ _ n2 a2,by simp[l1]⟩
 ·cases hr;exact⟨hl _ _ n3 a3,by simp[l2]⟩
 ·cases hr;exact⟨hl _ _ n4 a4,by simp[l3]⟩
 ·cases hr;exact⟨hp _ _ _ n5 (by omega) a5,by simp[l4]⟩
 ·cases hr;exact⟨hp _ _ _ n6 (by omega) a6,by simp[l5]⟩
 ·simp at hr
theorem cz(l:List Int):GV (BV l 0).1=true :=
 YK (Cb l _ 4 (by omega)) (Cb l _ 4 (by omega)) (Cb l _ 4 (by omega)) (Cb l _ 4 (by omega)) (Cb l _ 8 (by omega)) (Cb l _ 4 (by omega)) (Cb l _ 3 (by omega)) (Cb l _ 4 (by omega))
theorem PG(l:List Int):BD (F4 l)=true∧B6 (F4 l).queues=(BV l 0).1:=by
 have h:=c9 (cz l);obtain⟨g1,g2⟩:=ZT (Fs l).2 _ h.1;exact⟨g1,g2.trans h.2⟩
theorem VI{l:List Int}{cat:List Res}{a:Nat}(h:a<l.length):FU l cat a=(Dz l cat a).1::FU l cat (Dz l cat a).2:=by rw[FU,dif_pos h]
theorem Xx{l:List Int}{cat:List Res}{a:Nat}(h:l.length≤a):FU l cat a=[]:=by rw[FU,dif_neg (by omega)]
end Go.Rd
