/- part 20 of the proof -/
import Derived.Test.YthachdiockkofaaGreatDoorS18
set_option linter.all false
namespace Go.Abs
def Sl:List Nat→List (List Nat)
 |[]=>[[]]
 | f::F=>Sl F++(Sl F).map (f::·)
theorem OG(p:Nat→Bool):∀ F:List Nat,F.filter p∈Sl F
 |[]=>by simp[Sl]
 | f::F=>by
  have ih:=OG p F;simp only[List.filter_cons,Sl,List.mem_append,List.mem_map];split
  ·exact .inr ⟨_,ih,rfl⟩
  ·exact .inl ih
def YU(k:Nat)(F G:List Nat):List Nat:=(List.range k).filter fun j=>!F.contains j||G.contains j
def II(o:Oper):Bool:=match o.op with
 |.move _=>true
 |.extract _ _=>true
 |.nilCheck _=>true
 |.fieldAddr _ _ _=>true
 |.load _ _=>true
 |_=>false
def Xl(ops:Array Oper)(F:List Nat):Bool:=F.all fun f=>match ops[f]? with
 |some o=>II o
 |none=>false
def P5(X:Env)(objs:List (Nat × List AV)):List Oper→List (List Nat × List Nat)→Nat→List (Nat × List Nat × List Nat)→(St→Prop)→St→Prop
 |[],_,_,_,K,st=>K st
 |_::_,[],_,_,_,_=>False
 | o::os,(p,ts)::tab,i,cr,K,st=>JK X o ⟨restr st ts,objs⟩ st p cr fun e=>(II o=true→e.upd=[])∧o.dst.isSome=true∧P5 X objs os tab (i+1) (Hl i e cr) K ⟨(St.put o.dst e.x st).tmps,e.upd++st.objs⟩
theorem ZM(d:Option Nat)(x:AV)(st:St):(St.put d x st).objs=st.objs:=by cases d<;>rfl
theorem VU{X:Env}{o:Oper}{objs:List (Nat × List AV)}{r st:St}{p:List Nat}{i:Nat}{cr:List (Nat × List Nat × List Nat)}{K:List (Nat × List Nat × List Nat)→St→Prop}(hs:II o=true)(h:Hn X o objs r p i cr K st) :
 Hn X o objs r p i cr (fun c s=>K c s∧s.objs.length=st.objs.length) st:=by
 have key:∀ v:Option AV,Eo v p cr o.dst (K cr) st→Eo v p cr o.dst ((fun c s=>K c s∧s.objs.length=st.objs.length) cr) st:=fun v hv=>by
  cases v with
  |none=>exact hv
  |some x=>exact⟨hv.1,hv.2,by rw[ZM]⟩
 unfold II at hs;unfold Hn at h ⊢;split at hs
 ·rename_i a ho;rw[ho]at h ⊢;exact key _ h
 ·rename_i a b ho;rw[ho]at h ⊢;exact key _ h
 ·rename_i a ho;rw[ho]at h ⊢;exact key _ h
 ·rename_i a b c ho;rw[ho]at h ⊢;exact key _ h
 ·rename_i a b ho;rw[ho]at h ⊢;exact key _ h
 ·cases hs
theorem SR{X:Env}{all:Array Oper}{objs:List (Nat × List AV)}{K:St→Prop}:∀ (os:List Oper) (tab:List (List Nat × List Nat)) (i:Nat) (cr:List (Nat × List Nat × List Nat)) (st:St),(∀ o∈os,o.guard=none)→AM X all objs os tab i K cr st→P5 X objs os tab i cr K st
 |[],_,_,_,_,_,h=>h
 |_::_,[],_,_,_,_,h=>h
 | o::os,(p,ts)::tab,i,cr,st,hg,h=>by
  simp only[AM,hg o (by simp)]at h;obtain⟨hd,h⟩:=h;simp only[P5];cases hs:II o
  ·exact(NN rfl hd h).mono fun e he=>⟨(fun e=>by cases e),he.1,SR os tab (i+1) _ _ (fun o' ho'=>hg o' (by simp[ho'])) he.2⟩
  ·refine(NN rfl hd (VU hs h)).mono fun e he=>⟨fun _=>?_,he.1,SR os tab (i+1) _ _ (fun o' ho'=>hg o' (by simp[ho'])) he.2.1⟩
   have:=he.2.2;simp only[List.length_append]at this;exact List.eq_nil_of_length_eq_zero (by omega)
def closedIn(ops:Array Oper)(F G:List Nat):Bool:=G.all fun g=>(Bd ops g).all fun e=>!F.contains e||G.contains e
def Wk(ops:Array Oper)(k:Nat)(F:List Nat)(ss:List (List Nat × List Nat × OT)):Bool :=
 Lj ops&&Xl ops F&&(Sl F).all fun G=>!closedIn ops F G||ss.any fun s=>s.1==G&&okT ops (YU k F G) s.2.2&&s.2.1.all fun t=>!((F.filter fun f=>!G.contains f).filterMap (DO ops)).contains t
def wpS(X:Env)(ops:Array Oper)(K:St→Prop):List (List Nat × List Nat × OT)→St→Prop
 |[],_=>True
 |(_,keep,t)::ss,st=>wpT X ops K t ⟨restr st keep,st.objs⟩∧wpS X ops K ss st
theorem Xf{X:Env}{ops:Array Oper}{K:St→Prop}{st:St}{s:List Nat × List Nat × OT}:∀ {ss:List (List Nat × List Nat × OT)},wpS X ops K ss st→s∈ss→wpT X ops K s.2.2 ⟨restr st s.2.1,st.objs⟩
 |(G,keep,t)::ss,h,hm=>by
  simp only[wpS]at h;rcases List.mem_cons.1 hm with rfl|hm
  ·exact h.1
  ·exact Xf h.2 hm
section
variable {X:Env} {A:A0} {N:Nat} {g:Gh} {st0:St} {a:Act} {w:World} {ops:Array Oper} {k:Nat} {tab:List (List Nat × List Nat)} {res:Nat→Res} {D:Nat→Bool} {F:List Nat}
theorem UO{base:List (Nat × List AV)}:∀ n,(∀ j,j<n→D j=true∨(res j).upd=[])→obD res D base n=obD res (fun _=>true) base n
 | 0,_=>rfl
 | n+1,h=>by
  have ih:=UO (base:=base) n fun j hj=>h j (by omega)
  simp only[obD,ih,if_true];rcases h n (by omega) with h1|h1
  ·rw[h1];rfl
  ·rw[h1];split<;>rfl
theorem OJ{K:St→Prop}:∀ (os:List Oper) (tb:List (List Nat × List Nat)) (n:Nat) (cr:List (Nat × List Nat × List Nat)) (res:Nat→Res),(∀ j o,os[j]?=some o→ops[n+j]?=some o)→(∀ j q,tb[j]?=some q→tab[n+j]?=some q)→(∀ o∈os,o.guard=none) →
 Valid X ops tab st0 res n→Tu res n cr→(∀ j o,j<n→ops[j]?=some o→II o=true→(res j).upd=[])→P5 X st0.objs os tb n cr K (canon ops res st0 n) →
 ∃ res',Valid X ops tab st0 res' (n+os.length)∧(∀ j o,j<n+os.length→ops[j]?=some o→II o=true→(res' j).upd=[])∧K (canon ops res' st0 (n+os.length))
 |[],tb,n,cr,res,_,_,_,hv,_,hs,h=>⟨res,hv,hs,by simp only[P5]at h;simpa using h⟩
 |_::_,[],_,_,_,_,_,_,_,_,_,h=>by simp[P5]at h
 | o::os,(p,ts)::tb,n,cr,res,ho,ht,hg,hv,hc,hs,h=>by
  have ho0:ops[n]?=some o:=ho 0 o rfl;have ht0:tab[n]?=some (p,ts):=ht 0 (p,ts) rfl;have hp:Dc tab n=p:=by simp[Dc,List.getD,ht0]
  have hr:Ht tab n=ts:=by simp[Ht,List.getD,ht0]
  have hos:∀ j o',os[j]?=some o'→ops[n+1+j]?=some o':=fun j o' hj=>by
   have:=ho (j+1) o' (by simpa using hj)
   rwa [show n+(j+1)=n+1+j by omega]at this
  have htb:∀ j q,tb[j]?=some q→tab[n+1+j]?=some q:=fun j q hj=>by
   have:=ht (j+1) q (by simpa using hj)
   rwa [show n+(j+1)=n+1+j by omega]at this
  have hlen:n+(o::os).length=n+1+os.length:=by simp;omega
  rw[hlen];simp only[P5]at h;obtain⟨e,h1,h2,h3,h4,h5,h6,hu,hd,hf⟩:=h;refine OJ os tb (n+1) _ _ hos htb (fun o' ho'=>hg o' (by simp[ho'])) (hv.snoc e ho0 hd (.inl ⟨.inl (hg o (by simp)),by rw[hr];exact h1⟩) h2 h3 ⟨h4,h5⟩ (by rw[hp];exact hc.away h6)) (hc.snoc e) (fun j o' hj hjo hjs=>?_) (by rw[PF ho0 hd];exact hf);unfold EN;split
  ·rename_i hjn;subst hjn;rw[ho0]at hjo;have:=Option.some.inj hjo;subst this;exact hu hjs
  ·exact hs j o' (by omega) hjo hjs
theorem XK(hA:A.ext=X.ext)(hX:∀ s∈X.ext,s%64=63)(hN:Xi N ops)(hr:QV ops k tab F)(hv:Valid X (DN ops k) tab st0 res k)(hdst:∀ j,j<k→(DO (DN ops k) j).isSome=true){Q:Exit→Act→World→Prop}{K:St→Prop}(hQ:∀ g st a w,R X.C A N g st a w→K st→Q .normal a w)
 {ss:List (List Nat × List Nat × OT)} (hok:Wk ops k F ss=true) (hupd:∀ j o,j<k→(DN ops k)[j]?=some o→II o=true→(res j).upd=[]) (htail:wpS X ops K ss (canon (DN ops k) res st0 k)):∀ (fuel:Nat) (listed:Array Bool) (g:Gh) (a:Act) (w:World),listed.size=ops.size→unl listed≤fuel→Closed ops (dOf listed)→(∀ j,j<ops.size→dOf listed j=true→j<k) →
 R X.C A N g (stD (DN ops k) res st0 (dOf listed) k) a w→wpAny X.C.P .any ops Q fuel listed a w:=by
 have hk:=hr.le;have hN':∀ o∈DN ops k,∀ d,o.dst=some d→d<N:=fun o ho d hd=>by
  have:=hN.1 o (by simp only[DN,List.mem_toArray]at ho;simpa using List.mem_of_mem_take ho);simpa [Iq,hd]using this
 have low:∀ (fuel:Nat) (listed:Array Bool) (g:Gh) (a:Act) (w:World),listed.size=ops.size→unl listed≤fuel→Closed ops (dOf listed)→(∀ j,j<ops.size→dOf listed j=true→j<k)→(∀ j,j<k→j∉F→dOf listed j=true)→R X.C A N g (stD (DN ops k) res st0 (dOf listed) k) a w→wpAny X.C.P .any ops Q fuel listed a w:=by
  intro fuel listed g a w hs hu hc hlt hall hR;simp only[Wk,Bool.and_eq_true,List.all_eq_true]at hok;have h1:=hok.2 (F.filter (dOf listed)) (OG _ F);have hcl:closedIn ops F (F.filter (dOf listed))=true:=by
   unfold closedIn;rw[List.all_eq_true];intro g hg;rw[List.all_eq_true];intro e he;rw[List.mem_filter]at hg
   by_cases hF:e∈F
   ·have h5:=hc g (by have:=hr.small g hg.1;omega) hg.2 e he;simp[hF,h5]
   ·simp[hF]
  rw[hcl,Bool.not_true,Bool.false_or]at h1;simp only[List.any_eq_true,Bool.and_eq_true,List.all_eq_true,beq_iff_eq,Bool.not_eq_true']at h1;obtain⟨s,hsm,⟨hs1,hs2⟩,hs3⟩:=h1;have hw:=Xf htail hsm;have hobj:(canon (DN ops k) res st0 k).objs=(stD (DN ops k) res st0 (dOf listed) k).objs:=by
   refine(UO k fun j hj=>?_).symm
   by_cases hjF:j∈F
   ·right;have hm:=List.all_eq_true.1 hok.1.2 j hjF;cases ho:ops[j]? with
    |none=>rw[ho]at hm;cases hm
    |some o=>rw[ho]at hm;exact hupd j o hj (by rw[Pf hj];exact ho) hm
   ·exact .inl (hall j hj hjF)
  refine L1 hA hX hN hQ s.2.2 fuel (YU k F (F.filter (dOf listed))) listed g _ a w hs hu (fun j hj=>?_) hs2 hw (hR.le' (fun t x hx=>?_) fun s cs hs=>hobj▸hs)
  ·rw[Bool.eq_iff_iff];simp only[YU,List.contains_iff_mem,List.mem_filter,List.mem_range,Bool.or_eq_true,Bool.not_eq_true',← Bool.not_eq_true];constructor
   ·intro hd;refine⟨hlt j hj hd,?_⟩
    by_cases hjF:j∈F
    ·exact .inr ⟨hjF,hd⟩
    ·exact .inl hjF
   ·rintro⟨h1,h2|h2⟩
    ·exact hall j h1 h2
    ·exact h2.2
  ·obtain⟨h1,h2⟩:=KO hx;have h3:=hs3 t h1;simp only[stD,canon]at h2 ⊢;rw[← h2];refine Qj k fun j hj hdj=>?_
   cases hd:dOf listed j with
   | true=>rfl
   | false =>
    exfalso;have hjF:j∈F:=by
     apply Classical.byContradiction;intro hjF;rw[hall j hj hjF]at hd;cases hd
    have hm:t∈(F.filter fun f=>!(F.filter (dOf listed)).contains f).filterMap (DO ops):=by
     rw[List.mem_filterMap];refine⟨j,?_,by rw[← Pe hj];exact hdj⟩;rw[List.mem_filter];refine⟨hjF,?_⟩;simp[hd]
    have h4:((F.filter fun f=>!(F.filter (dOf listed)).contains f).filterMap (DO ops)).contains t=true:=by simpa using hm
    rw[h4]at h3;cases h3
 intro fuel
 induction fuel with
 | zero =>
  intro listed g a w hs hu hc hlt hR;exact low 0 listed g a w hs hu hc hlt (fun j hj _=>Hg (by omega) (by omega)) hR
 | succ fuel ih =>
  intro listed g a w hs hu hc hlt hR
  by_cases hall:∀ j,j<k→j∉F→dOf listed j=true
  ·exact low _ listed g a w hs hu hc hlt hall hR
  ·have hc2:Closed (DN ops k) (dOf listed):=fun i hi hD e he=>by
    have hik:i<k:=by have:(DN ops k).size=k:=by simp[DN];omega
                     omega
    rw[Lg hik]at he;exact hc i (by omega) hD e he
   have step:∀ i∈Region.ready .any ops listed,wpOp X.C.P ops Q i (wpAny X.C.P .any ops Q fuel (listed.setIfInBounds i true)) a w:=fun i hi=>by
    obtain⟨h1,h2,h3⟩:=(Bg hs).1 hi;have hp:=hr.closed hc i h1 h3;have hik:i<k:=by
     rcases Nat.lt_or_ge i k with h|h
     ·exact h
     ·exact(hall fun j hj hjF=>hp j ((hr.tail i h1 h j (by omega)).resolve_left hjF)).elim
    refine Vs hr hik (NP hA hX hN' hr.cut hv hdst hc2 hik h2 hp hR fun g' a' w' hR'=>?_);rw[← D9 (by omega)]at hR';refine ih _ g' a' w' (by simp[hs]) (by have:=HB (by omega:i<listed.size) h2;omega) (by rw[D9 (by omega)];exact JH hc h3) (fun j hj hD=>?_) hR';rw[D9 (by omega)]at hD;simp only[Hk]at hD;split at hD
    ·rename_i e;omega
    ·exact hlt j hj hD
   refine⟨fun h0=>?_,step⟩;have hex:∃ j,j<k∧dOf listed j=false:=by
    apply Classical.byContradiction;intro hno;refine hall fun j hj _=>?_
    cases hd:dOf listed j with
    | true=>rfl
    | false=>exact(hno ⟨j,hj,hd⟩).elim
   obtain⟨j,hj,hd⟩:=hex;obtain⟨i,_,hi⟩:=K4 hr hs j j (by omega) hd (Nat.le_refl _);rw[h0]at hi;cases hi
end
theorem FV{X:Env}{ops:List Oper}{K:St→Prop}{st:St}(k:Nat)(tab:List (List Nat × List Nat))(F:List Nat)(ss:List (List Nat × List Nat × OT))(hm:X.C.P.follows .mixedOrders=true)(hok:(Wn ops.toArray k tab F&&Wk ops.toArray k F ss)=true)
 (h:AM X ops.toArray st.objs (ops.take k) tab 0 (wpS X ops.toArray K ss) [] st):Kx X ops.toArray K st:=by
 intro A N g a w hA hN hX hR id Q hQ;rw[Bool.and_eq_true]at hok;have hr:=Wn.spec hok.1;have hk:=hr.le;have hsz:ops.toArray.size=ops.length:=by simp
 have hlen:(ops.take k).length=k:=by simp;omega
 have hN2:Xi N ops.toArray:=by
  refine⟨fun o ho=>?_,fun i hi e he=>?_⟩
  ·unfold Iq;cases hd:o.dst with
   |none=>rfl
   |some d=>simp;exact hN o ho d hd
  ·have:=hr.edge i hi e he;omega
 have hf:=SR _ _ _ _ _ (fun o ho=>hr.guard o (by simpa using List.mem_of_mem_take ho)) h;obtain⟨res,hv,hup,hK⟩:=OJ (X:=X) (st0:=st) (ops:=DN ops.toArray k) (tab:=tab) (ops.take k) tab 0 [] (fun _=>⟨.undef,[],[],[]⟩) (fun j o hj=>by simpa [DN]using hj) (fun j q hj=>by simpa using hj) (fun o ho=>hr.guard o (by simpa using List.mem_of_mem_take ho)) ⟨fun i hi=>by omega,fun i hi=>by omega,fun i hi=>by omega,fun i hi=>by omega,fun i j _ hj=>by omega⟩ (fun i hi=>by omega) (fun j o hj=>by omega) hf;rw[hlen,Nat.zero_add]at hup;rw[hlen,Nat.zero_add]at hv hK;have hdst:∀ j,j<k→(DO (DN ops.toArray k) j).isSome=true:=fun j hj=>by
  obtain⟨o,ho,hd,_⟩:=hv.op j hj;simpa [DO,ho]using hd
 refine wp_region_any hm (XK hA hX hN2 hr hv hdst hQ hok.2 hup hK ops.toArray.size (Array.replicate ops.toArray.size false) g a _ (by simp) (by simp[unl]) ?_ ?_ ?_)
 ·intro i hi hD;have:i<ops.length:=by simpa using hi
  simp[dOf,Array.getD,this]at hD
 ·intro j hj hD;have:j<ops.length:=by simpa using hj
  simp[dOf,Array.getD,this]at hD
 ·have e:stD (DN ops.toArray k) res st (dOf (Array.replicate ops.toArray.size false)) k=st:=by
   have hf:∀ j,j<k→dOf (Array.replicate ops.toArray.size false) j=false:=fun j hj=>by
    have:j<ops.length:=by omega
    simp[dOf,Array.getD,this]
   have h1:tmD (DO (DN ops.toArray k)) res (dOf (Array.replicate ops.toArray.size false)) st.tmps k=st.tmps:=by
    rw[Np (i:=0) k (by omega) fun j _ hj=>hf j hj];rfl
   have h2:∀ n,n≤k→obD res (dOf (Array.replicate ops.toArray.size false)) st.objs n=st.objs:=fun n=>by
    induction n with
    | zero=>intro _;rfl
    | succ n ih=>intro hn;simp only[obD,hf n (by omega),Bool.false_eq_true,if_false];exact ih (by omega)
   simp only[stD,h1,h2 k (Nat.le_refl _)]
  rw[e];exact hR.drew
theorem bJ(X:Env)(ops:Array Oper)(K:St→Prop)(st:St):wpS X ops K [] st=True:=nd rfl
theorem aa(X:Env)(ops:Array Oper)(K:St→Prop)(G keep:List Nat)(t:OT)(ss:List (List Nat × List Nat × OT))(st:St):wpS X ops K ((G,keep,t)::ss) st=(wpT X ops K t ⟨restr st keep,st.objs⟩∧wpS X ops K ss st):=nd rfl
attribute [go_sem] bJ aa
end Go.Abs
open Go Go.Abs Go.Proofs
set_option maxRecDepth 100000
namespace Go.Rd
set_option maxHeartbeats 8000000
open List (map_cons map_nil)
open Tryz
@[reducible] def Q7:AV:=.v (.slice none 0 0)
theorem f24_ok(l m:List Proc)(hl:l.length≤1000000)(hm:m.length≤1000000):Ac C0 24 [AD l,AD m] [] (B (decide (l=m))) []:=by
 refine Ac.go f24 ?_;unfold f24
 by_cases hn:l.length=m.length
 rotate_left
 ·have e1:((l.length:Int) !=m.length)=true:=by simp only[bne_iff_ne,ne_eq];omega
  have e2:l≠m:=fun h=>hn (by rw[h])
  simp(disch:=omega)only[go_sem,e1];refine Ap _ ?_;exact wb (by simp[e2])
 have e1:((l.length:Int) !=m.length)=false:=by simp[hn]
 simp(disch:=omega)only[go_sem,e1];refine Aa (α:=Nat) (fun i=>⟨[(5,I i),(0,AD l),(1,AD m)],[]⟩) (fun i=>i≤(l).length∧l.take i=m.take i) (fun i=>(l).length-i) 0 ⟨by omega,rfl⟩ ?_ ?_
 ·exact Ca
 rintro i ⟨hi,hP⟩ J hJ;refine gO ?_;refine ⟨fun hlt=>?_,fun hge=>?_⟩;rotate_left;have hil:i=(l).length:=by simp at hge;omega
 rotate_left;obtain⟨b,hb⟩:∃ b,(l)[i]?=some b:=⟨_,gE (by simp at hlt;omega)⟩;have hbm:=mG hb;have hlt2:i<(l).length:=by simp at hlt;omega
 refine Aq 8 [([],[0]),([],[5]),([],[17,18]),([],[19]),([],[1]),([],[5]),([],[21,22]),([],[23])] fol ?_;simp(disch:=omega)only[go_sem,gm,hb]
 ·obtain⟨c,hc⟩:∃ c,m[i]?=some c:=⟨_,gE (by omega)⟩;simp(disch:=omega)only[go_sem,gm,hb,hc]
  by_cases hbc:b=c
  ·simp(disch:=omega)only[go_sem,hbc,decide_true];refine hJ _ (i+1) ⟨by simp at hlt;omega,(by rw[List.take_add_one,List.take_add_one,hb,hc,hP,hbc])⟩ (by simp at hlt;omega) AK
  ·simp(disch:=omega)only[go_sem,hbc,decide_false];refine Ap _ ?_;refine wb ?_;have:l≠m:=fun h=>hbc (by rw[h,hc]at hb;simpa using hb.symm)
   simp[this]
 ·subst hil;rw[List.take_length,hn,List.take_length]at hP;refine Ap _ ?_;exact wb (by simp[hP])
def Z0(q:Queue):Bool:=decide (q.holds.length≤12)&&decide (q.convs.length≤12)&&decide (q.waits.length≤12)
def Z1(s:WS):Bool:=decide (s.queues.length≤12)&&decide (s.needs.length≤12)&&s.queues.all Z0
theorem Sh{s:WS}(h:Z1 s=true):Few s:=by
 simp only[Z1,Z0,Bool.and_eq_true,decide_eq_true_eq,List.all_eq_true]at h;refine⟨by omega,by omega,fun q hq=>?_⟩;have:=h.2 q hq;unfold BA Bq;omega
def O8(n m:Int):Int:=if m<1 then 0 else if n.tmod m<0 then n.tmod m+m else n.tmod m
theorem cY(n:Int):0≤O8 n 8∧O8 n 8<8:=by
 have h1:=Int.tmod_lt_of_pos n (show (0:Int)<8 by decide);have h2:-8<n.tmod 8:=by
  rw[Int.tmod_eq_emod];split<;>omega
 unfold O8;rw[if_neg (by decide)];split<;>omega
theorem eM(n:Int):Ac C0 51 [I n,I 8] [] (I (O8 n 8)) []:=by
 have z:((8:Int)=0)=False:=by simp
 have z2:((8:Int)<1)=False:=by simp
 have h1:=Int.tmod_lt_of_pos n (show (0:Int)<8 by decide);have h2:-8<n.tmod 8:=by
  rw[Int.tmod_eq_emod];split<;>omega
 refine Ac.go f51 ?_;unfold f51
 by_cases h:n.tmod 8<0
 ·have e:O8 n 8=n.tmod 8+8:=by simp[O8,h]
  have z3:(n.tmod 8<0)=True:=eq_true h;simp(disch:=omega)only[go_sem,z,z2,if_false,decide_false,z3,e];exact AH _
 ·have e:O8 n 8=n.tmod 8:=by simp[O8,h]
  have z3:(n.tmod 8<0)=False:=eq_false h;simp(disch:=omega)only[go_sem,z,z2,if_false,decide_false,z3,e];exact AH _
def Dd(n:Int):Proc:=⟨(O8 n 8).tmod 4,1,1+(O8 n 8).tdiv 4⟩
theorem f22_ok(n:Int):Ac C0 22 [I n] [] (.agg (Dd n).c) []:=by
 have z:((4:Int)=0)=False:=by simp
 have hm:=cY n;have hd:0≤(O8 n 8).tdiv 4∧(O8 n 8).tdiv 4≤2:=by
  rw[Int.tdiv_eq_ediv_of_nonneg hm.1];omega
 refine Ac.go f22 ?_;unfold f22;refine gO ?_;refine Ab (eM n) ?_;simp(disch:=omega)only[go_sem,z,if_false];refine Ap _ ?_;simp(disch:=omega)only[go_sem,Dd]
def wA:Amt:=⟨5,0⟩
def OU(name:Bs)(p q:Proc):Queue:=⟨⟨name,1,1,0⟩,[⟨p,wA⟩],[],[⟨q,wA,0,0⟩],0⟩
theorem f99_ok(name:Bs)(p q:Proc):Ac C0 99 [.v (.string (str name)),.agg p.c,.agg q.c] [] (.agg (OU name p q).c) []:=by
 refine Ac.go f99 ?_;unfold f99;simp(disch:=omega)only[go_sem];refine CT ⟨[],[],[896,1152]⟩ _ ?_;simp(disch:=omega)only[go_sem,OU,wA];exact .agg (Ah.AE (by simp(disch:=omega)only[go_sem,OU,wA,AB,Bt,map_cons,map_nil]))
def KR(p:Proc)(name:Bs):Need:=⟨p,.mk 0 ⟨name,wA⟩ [],0⟩
theorem f100_ok(p:Proc)(name:Bs):Ac C0 100 [.agg p.c,.v (.string (str name))] [] (.agg (KR p name).c) []:=by
 refine Ac.go f100 ?_;unfold f100;refine gO ?_;refine B0 _ ?_;simp(disch:=omega)only[go_sem,KR,wA];exact .agg (Ah.AE (by simp(disch:=omega)only[go_sem,KR,wA,Expr.k,Expr.atom,Expr.kids,map_nil]))
def FA:WS:=⟨[OU [97] (Dd 0) (Dd 1),OU [98] (Dd 1) (Dd 0)],[KR (Dd 0) [98],KR (Dd 1) [97]]⟩
theorem f53_ok:Ac C0 53 [] [] (.agg FA.c) []:=by
 refine Ac.go f53 ?_;unfold f53;refine gO ?_;refine Ab (f22_ok 0) ?_;refine gO ?_;refine Ab (f22_ok 1) ?_;refine gO ?_;refine Aq 12 [([],[1]),([],[2]),([],[5,6]),([],[2]),([],[1]),([2],[8,9]),([2,5],[7,10]),([],[1]),([2,5],[12]),([],[2]),([2,5,8],[14]),([2,5,8,10],[13,15])] fol ?_;refine gO ?_;refine Ao ⟨⟨[],[],[]⟩,[],[]⟩ (f99_ok [97] (Dd 0) (Dd 1)) (by simp(disch:=omega)only[go_sem];exact .eq rfl) rfl rfl trivial (.inl rfl) ?_;refine gO ?_;refine Ao ⟨⟨[],[],[]⟩,[],[]⟩ (f99_ok [98] (Dd 1) (Dd 0)) (by simp(disch:=omega)only[go_sem];exact .eq rfl) rfl rfl trivial (.inl rfl) ?_;simp(disch:=omega)only[go_sem,OU,wA,AB,Bt,map_cons,map_nil];refine Ao ⟨⟨[],[],[]⟩,[],[]⟩ (f100_ok (Dd 0) [98]) (by simp(disch:=omega)only[go_sem];exact .eq rfl) rfl rfl trivial (.inl rfl) ?_;simp(disch:=omega)only[go_sem]
 first
  |(refine Af (f100_ok (Dd 1) [97]) (by simp(disch:=omega)only[go_sem];exact .eq rfl) rfl ?_)
  |(refine Ao ⟨⟨[],[],[]⟩,[],[]⟩ (f100_ok (Dd 1) [97]) (by simp(disch:=omega)only[go_sem];exact .eq rfl) rfl rfl trivial (.inl rfl) ?_)
 simp(disch:=omega)only[go_sem,KR,wA,Expr.k,Expr.atom,Expr.kids,Gy,map_nil];refine B0 _ ?_;simp(disch:=omega)only[go_sem,FA,OU,KR,wA,Expr.k,Expr.atom,Expr.kids,Ay,Ho,AB,Bt,Gy,map_cons,map_nil];refine .agg (Ah.AE ?_);simp(disch:=omega)only[go_sem,FA,OU,KR,wA,Expr.k,Expr.atom,Expr.kids,Ay,Ho,AB,Bt,Gy,map_cons,map_nil]
def Kv:WS:=⟨FA.queues,FA.needs.take 1⟩
theorem TZ:Few FA∧Few Kv:=⟨Sh (by kernel_rfl),Sh (by kernel_rfl)⟩
theorem XC:CN FA=([],[Dd 0,Dd 1]):=by kernel_rfl
theorem VM:Mv FA (Dd 0)=([Dd 0,Dd 1],0):=by kernel_rfl
theorem VO:CN Kv=([Dd 1,Dd 0],[]):=by kernel_rfl
theorem TY:Tw Kv=[Dd 1]:=by kernel_rfl
theorem VN:bL FA (Dd 1)=true:=by kernel_rfl
theorem f16_ok:Ac C0 16 [] [] (B true) []:=by
 obtain⟨hs,ht⟩:=TZ;refine Ac.go f16 ?_;unfold f16;refine gO ?_;refine Ab f53_ok ?_;refine gO ?_;refine Ab (f19_ok FA hs) ?_;simp(disch:=omega)only[go_sem,XC];refine Aq 7 [([],[1]),([],[]),([1],[15,16]),([1,2],[17]),([1,2],[14]),([1,2],[14]),([1,2],[18])] fol ?_;simp(disch:=omega)only[go_sem]
 first|(refine Ab (f22_ok 0) ?_)|(refine Al (f22_ok 0) ?_)
 simp(disch:=omega)only[go_sem]
 first|(refine Ab (f21_ok FA (Dd 0) hs) ?_)|(refine Al (f21_ok FA (Dd 0) hs) ?_)
 simp(disch:=omega)only[go_sem,VM];have hn:FA.needs=[KR (Dd 0) [98],KR (Dd 1) [97]]:=rfl;have hnt:Kv.needs=[KR (Dd 0) [98]]:=rfl;have hq:Kv.queues=FA.queues:=rfl;simp(disch:=omega)only[go_sem,hn,Ho,map_cons,map_nil];refine Af (f19_ok Kv ht) (by simp(disch:=omega)only[go_sem,hnt,hq,Ho,map_cons,map_nil]) rfl ?_;simp(disch:=omega)only[go_sem,VO];refine Aq 27 [([],[2]),([],[29]),([],[30]),([],[31]),([],[3,32]),([],[33,32]),([],[34,32]),([],[32,35]),([],[36]),([],[5,37]),([],[38,37]),([],[37,39]),([],[40]),([],[4,41]),([],[42,41]),([],[43,41]),([],[41,44]),([],[45]),([],[6,46]),([],[47,46]),([],[48,46]),([],[46,49]),([],[50]),([],[6,51]),([],[52,51]),([],[53,51]),([],[51])] fol ?_;simp(disch:=omega)only[go_sem]
 first|(refine Ab (f22_ok 1) ?_)|(refine Al (f22_ok 1) ?_)
 simp(disch:=omega)only[go_sem,beq_self_eq_true,Bool.and_self]
 first
  |(refine Af (f36_ok Kv ht) (by simp(disch:=omega)only[go_sem,hnt,hq,Ho,map_cons,map_nil]) rfl ?_)
  |(refine Ao ⟨⟨[],[],[]⟩,[],[]⟩ (f36_ok Kv ht) (by simp(disch:=omega)only[go_sem,hnt,hq,Ho,map_cons,map_nil]) rfl rfl trivial (.inl rfl) ?_)
 simp(disch:=omega)only[go_sem,TY,map_cons,map_nil]
 first|(refine Ab f53_ok ?_)|(refine Al f53_ok ?_)
 simp(disch:=omega)only[go_sem]
 first|(refine Ab (f22_ok 1) ?_)|(refine Al (f22_ok 1) ?_)
 simp(disch:=omega)only[go_sem]
 first|(refine Ab (f35_ok FA (Dd 1) hs) ?_)|(refine Al (f35_ok FA (Dd 1) hs) ?_)
 simp(disch:=omega)only[go_sem,VN];exact AH _
end Go.Rd
namespace Go.Abs
open Go Go.ChangeShapes Go.WideShapes Go.RowKit
def Xg(P:Program)(N:Nat)(t:TypeId){α:Type}(e:α→List AV):Prop :=
 ∀ (H:Type) (enc:TypeId × Value→H) (w:World) (fuel:Nat) (cs:List Value) (x:DataW H × List MemPlace),fuel≤N→DataW.trod enc P w 0 (fun _=>true) true fuel t cs=some x →
  ∃ a,PRl (fun b=>b<w.heap.size) w (e a) cs
variable {P:Program} {t:TypeId}
theorem Xg.mono{N M:Nat}{α:Type}{e:α→List AV}(h:Xg P N t e)(hm:M≤N):Xg P M t e:=fun H enc w fuel cs x hf hx=>h H enc w fuel cs x (Nat.le_trans hf hm) hx
theorem Xg.map{N:Nat}{α β:Type}{e:α→List AV}{e':β→List AV}(h:Xg P N t e)(hf:∀ a,∃ b,e' b=e a):Xg P N t e':=fun H enc w fuel cs x hn hx=>by
 obtain⟨a,q⟩:=h H enc w fuel cs x hn hx;obtain⟨b,hb⟩:=hf a;exact⟨b,hb▸q⟩
theorem chunks{α:Type}(m:Nat):∀ (rows:List (List α)) (cs:List α),cs.length=rows.length*m→(∀ i r,rows[i]?=some r→(cs.drop (i*m)).take m=r)→cs=rows.flatten
 |[],cs,hl,_=>List.eq_nil_of_length_eq_zero (by simpa using hl)
 | r::rows,cs,hl,h=>by
  have h0:=h 0 r rfl;have:=chunks m rows (cs.drop m) (by simp only[List.length_cons,Nat.add_mul]at hl;rw[List.length_drop,hl];omega) fun i r' hr=>by
   have:=h (i+1) r' (by simpa using hr);rw[List.drop_drop]
   rwa [show m+i*m=(i+1)*m by rw[Nat.add_mul];omega]
  simp only[Nat.zero_mul,List.drop_zero]at h0;rw[List.flatten_cons,← this,← h0,List.take_append_drop]
theorem TI{H:Type}{enc:TypeId × Value→H}{w:World}{fuel n:Nat}{sp:Nat→Bool}{held:Bool}{base:Nat}{e:TypeId}{cs:List Value}{ds:List (DataW H)}{p:List MemPlace}{f:List (List Value)}
 (ht:P.underlying t=some (.array n e)) (hct:P.cellsOf t=n*P.cellsOf e) (h:DataW.trod enc P w base sp held fuel t cs=some (.agg ds,p)) (hl:ds.length=f.length)
 (hf:∀ (i:Nat) (d:DataW H) (c:List Value),ds[i]?=some d→f[i]?=some c→∀ fuel cs' p',DataW.trod enc P w base sp held fuel e cs'=some (d,p')→cs'=c):cs=f.flatten:=by
 obtain⟨xs,m,_,hx,hcl,hxl,hel⟩:=DataW.trod_array ht h;have hx1:ds=xs.map (·.1):=by
  have:=congrArg Prod.fst hx;simpa using this
 have hn:f.length=n:=by rw[← hl,hx1];simpa using hxl
 refine chunks _ f cs (by rw[hcl,hct,hn]) fun i c hc=>?_
 have hi:i<f.length:=by
  rcases Nat.lt_or_ge i f.length with h|h
  ·exact h
  ·rw[List.getElem?_eq_none h]at hc;cases hc
 have hxi:xs[i]?=some xs[i]:=List.getElem?_eq_getElem (by omega);have h1:=hel i (by omega);rw[hxi]at h1;refine hf i xs[i].1 c ?_ hc m _ xs[i].2 h1;rw[hx1,List.getElem?_map,hxi];rfl
theorem VA{H:Type}{enc:TypeId × Value→H}{w:World}{fuel:Nat}{sp:Nat→Bool}{held:Bool}{base:Nat}{cs:List Value}{b:Bool}{p:List MemPlace}(ht:P.underlying t=some .bool)
 (h:DataW.trod enc P w base sp held fuel t cs=some (.lit (.bool b),p)):cs=[.bool b]:=by
 obtain⟨n,rfl,h2⟩:=DataW.trod_bool ht h;simp at h2;rw[h2.1]
def fG{H:Type}(r:List Bool):DataW H:=.agg (r.map fun b=>.lit (.bool b))
def dt{H:Type}(rows:List (List Bool)):DataW H:=.agg (rows.map fG)
theorem Yv{H:Type}{enc:TypeId × Value→H}{w:World}{fuel n m:Nat}{sp:Nat→Bool}{held:Bool}{base:Nat}{e b:TypeId}{cs:List Value}{rows:List (List Bool)}{p:List MemPlace}
 (ht:P.underlying t=some (.array n e)) (he:P.underlying e=some (.array m b)) (hb:P.underlying b=some .bool) (h1:P.cellsOf b=1) (h2:P.cellsOf e=m) (h3:P.cellsOf t=n*m)
 (h:DataW.trod enc P w base sp held fuel t cs=some (dt rows,p)):cs=rows.flatten.map Value.bool:=by
 have key:∀ r:List Bool,∀ fuel cs' p',DataW.trod enc P w base sp held fuel e cs'=some (fG r,p')→cs'=r.map Value.bool:=fun r fuel cs' p' h'=>by
  have:=TI (f:=r.map fun b=>[Value.bool b]) he (by rw[h1,h2,Nat.mul_one]) h' (by simp) fun i d c hd hc fuel cs' p' hx=>by
   rw[List.getElem?_map]at hd hc;cases hr:r[i]? with
   |none=>rw[hr]at hd;cases hd
   |some v =>
    rw[hr]at hd hc;simp at hd hc;subst hd;subst hc;exact VA hb hx
  rw[this];clear h'  this
  induction r with
  | nil=>rfl
  | cons x r ih=>simp only[List.map_cons,List.flatten_cons,List.singleton_append,ih]
 have:=TI (f:=rows.map fun r=>r.map Value.bool) ht (by rw[h2,h3]) h (by simp) fun i d c hd hc fuel cs' p' hx=>by
  rw[List.getElem?_map]at hd hc;cases hr:rows[i]? with
  |none=>rw[hr]at hd;cases hd
  |some v =>
   rw[hr]at hd hc;simp at hd hc;subst hd;subst hc;exact key v _ _ _ hx
 rw[this,List.map_flatten]
theorem Zg{C:Ctx}{name:String}{g n m:Nat}{e b:TypeId}{rows:List (List Bool)}{rest:List (String × DataW Unit)}{W:World}(hC:∀ i cs,C.G i=some cs→i=g∧cs=(rows.flatten.map fun b=>AV.v (.bool b)))(hpos:0<rows.flatten.length)
 (hg:C.P.globalNamed name=some g) (hty:(C.P.globals[g]?).map (·.type)=some t)
 (ht:C.P.underlying t=some (.array n e)) (he:C.P.underlying e=some (.array m b)) (hb:C.P.underlying b=some .bool) (h1:C.P.cellsOf b=1) (h2:C.P.cellsOf e=m) (h3:C.P.cellsOf t=n*m)
 (h:laidMet C.P ((name,dt rows)::rest) W):Glob C (gh0 W) W:=by
 obtain⟨ps,⟨g',t',cs,fuel,p,q,hg',ht',hvar,hd,_,_⟩,_⟩:=h;obtain rfl:=Option.some.inj (hg.symm.trans hg');obtain rfl:=Option.some.inj (hty.symm.trans ht');have hcs:=Yv ht he hb h1 h2 h3 hd;have hcell:=World.var?_cell hg hvar;intro i xs hi;obtain⟨rfl,rfl⟩:=hC i xs hi;have hlen:cs.toList.length=rows.flatten.length:=by rw[hcs,List.length_map]
 have hsz:cs.size=rows.flatten.length:=by rw[← hlen,Array.length_toList]
 refine⟨by rw[List.length_map];exact hpos,?_,Qw (us:=cs.toList) ?_ ?_⟩
 ·have h0:=hcell 0;have:∃ v,cs[0]?=some v:=⟨cs[0]'(by omega),Array.getElem?_eq_getElem _⟩;obtain⟨v,hv⟩:=this;rw[hv]at h0;rw[Un];exact E6 h0
 ·rw[hcs];generalize rows.flatten=l
  induction l with
  | nil=>simp[PRl]
  | cons x l ih=>exact⟨⟨rfl,rfl⟩,ih⟩
 ·intro k hk;have:=hcell k;rw[Array.getElem?_toList,Nat.zero_add];rw[← this,add_lit,Nat.zero_add]
theorem Qf{C:Ctx}{f:Nat}{fn:Func}{s:ChangeSpec}(hs:s.vars=[]){apart fresh handsOn again:Bool}{α:Type}{e:α→List AV}{m:α→Nat}{Q:α→Prop}{tb:TypeId}{ts:List TypeId}
 (hp:fn.params.toList=ts) (ha:Args C.P ts e m Q) (hl:laidOutB C.P=true) (hr:(ts.all fun t=>C.P.readableRec t&&decide (t<C.P.types.size))=true) (hres:fn.resultTypes = #[tb]) (htb:C.P.underlying tb=some .bool)
 {H:Type} (enc:TypeId × Value→H) (W:World) (hG:Glob C (gh0 W) W) (base:Nat) (args:Array Value) (ds gs:List (DataW H)) (before:List MemPlace)
 (hval:∀ (j:Nat) t v,fn.params[j]?=some t→args[j]?=some v→Value.okWide C.P W .any base t v)
 (hW:DataW.Whole enc C.P fn.params.toList s.vars apart W args.toList ds gs before)
 (hfn:∀ ds:List (DataW H),ds.length=ts.length→(s.fn H ds).results=[.lit (.bool true)]∧(s.fn H ds).args=ds∧(s.fn H ds).vars=[])
 (hok:∀ a,Q a→m a≤Tt ds→Ac C f (e a) [] (.v (.bool true)) []) :
 Calls C.P f args W fun r W'=>∃ v,r=.returned v∧s.post enc C.P fn apart fresh handsOn again W args v W':=by
 replace hr:∀ t∈ts,C.P.readableRec t=true∧t<C.P.types.size:=by simpa using hr
 have hW':=hW;obtain⟨p,q,hA,hV,rfl,hfz,hnd⟩:=hW;rw[hs]at hV;obtain⟨rfl,rfl⟩:=trodVars_none hV;rw[hp]at hA;obtain⟨a,q1,q2,q3⟩:=ha H enc W base args.toList ds p (fun j t v hj hv=>hval j t v (by rw[← Array.getElem?_toList,hp];exact hj) (by simpa using hv)) hA;have hlen:∀ {ts:List TypeId} {vs:List Value} {ds:List (DataW H)} {ps:List MemPlace},DataW.TrodAll enc C.P W 0 (fun _=>true) true ts vs ds ps→ds.length=ts.length:=by
  intro ts
  induction ts with
  | nil=>intro vs ds ps h;obtain⟨_,rfl,_⟩:=trodAll_nil h;rfl
  | cons t ts ih =>
   intro vs ds ps h;obtain⟨v,vs,d,ds,p,q,rfl,rfl,rfl,h1,h2⟩:=trodAll_cons h;simp[ih h2]
 obtain⟨hf1,hf2,hf3⟩:=hfn ds (hlen hA);have key:=(hok a q1 q2).2 (gh0 W) W args.toList hG q3 (fun s cs h=>by cases h);rw[show args.toList.toArray=args by simp]at key;refine key.mono fun r W' ⟨u,g',hr1,hF,hy,_⟩=>?_
 subst hr1;simp only[VR]at hy;subst hy;have hb:Below W.heap.size W W':=⟨hF.os,hF.tape.1,hF.output,hF.size,fun k hk=>(hF.keep k hk (Or.inl (by show (gh0 W).own k=.ro;simp[gh0,hk]))).1⟩;have hlt:∀ x∈p++([]:List MemPlace),x.block<W.heap.size:=fun x hx=>hW'.lt x hx
 refine⟨_,rfl,Vy (pa:=p) (pv:=[]) hW' (fun b sp hd=>?_) (fun sp hsp=>?_) (fun _ _=>?_) rfl hb (ok_one hres rfl (okWide_bool_mk htb _))⟩
 ·simp only[List.append_nil,hf1];rw[hres];exact trodAll_mk1 (shut_bool htb _)
 ·simp only[List.append_nil,hf2];rw[hp];exact LW hl hr hA (fun x hx=>hb.same (hlt x (by simpa using hx))) (fun x hx=>hsp x (by simpa using hx))
 ·simp only[List.append_nil,hf3];rw[hs];rfl
end Go.Abs
open Go Go.Abs Go.Proofs
set_option maxRecDepth 100000
namespace Go.Rd
set_option maxHeartbeats 8000000
open List (length_map take_length)
open Tryz
structure Entry where
 name:Bs
 before:Amt
 after:Amt
structure Save where
 label:Int
 pos:Int
structure Ledger where
 entries:List Entry
 saves:List Save
structure Req where
 expr:Expr
 prio:Int
 limit:Int
structure Pcs where
 proc:Proc
 cost:Int
 led:Ledger
 waiting:Bool
 req:Req
 since:Int
 gen:Int
structure Cen where
 now:Int
 queues:List Queue
 procs:List Pcs
structure Cmd where
 kind:Int
 proc:Proc
 req:Req
 name:Bs
 n:Int
structure Ev where
 kind:Int
 proc:Proc
 name:Bs
 amt:Amt
structure Work where
 now:Int
 queues:List Queue
 procs:List Pcs
 evs:List Ev
def Entry.c(e:Entry):List AV:=[.v (.string (str e.name)),.v (.int .i64 e.before.mode),.v (.int .i64 e.before.units),.v (.int .i64 e.after.mode),.v (.int .i64 e.after.units)]
def Save.c(s:Save):List AV:=[.v (.int .i64 s.label),.v (.int .i64 s.pos)]
@[reducible] def DX(l:List Entry):AV:=.sl .no 5 (l.map Entry.c)
@[reducible] def Mr(l:List Save):AV:=.sl .no 2 (l.map Save.c)
def Ledger.c(l:Ledger):List AV:=[DX l.entries,Mr l.saves]
def Req.c(r:Req):List AV:=[.v (.int .i64 r.expr.k),.v (.string (str r.expr.atom.name)),.v (.int .i64 r.expr.atom.amt.mode),.v (.int .i64 r.expr.atom.amt.units),Gy r.expr.kids,.v (.int .i64 r.prio),.v (.int .i64 r.limit)]
def Pcs.c(p:Pcs):List AV:=[.v (.int .i64 p.proc.site),.v (.int .i64 p.proc.inc),.v (.int .i64 p.proc.num),.v (.int .i64 p.cost),DX p.led.entries,Mr p.led.saves,.v (.bool p.waiting),
 .v (.int .i64 p.req.expr.k),.v (.string (str p.req.expr.atom.name)),.v (.int .i64 p.req.expr.atom.amt.mode),.v (.int .i64 p.req.expr.atom.amt.units),Gy p.req.expr.kids,.v (.int .i64 p.req.prio),.v (.int .i64 p.req.limit),.v (.int .i64 p.since),.v (.int .i64 p.gen)]
@[reducible] def bw(l:List Pcs):AV:=.sl .no 16 (l.map Pcs.c)
def Cen.c(c:Cen):List AV:=[.v (.int .i64 c.now),Ay c.queues,bw c.procs]
def Cmd.c(k:Cmd):List AV:=[.v (.int .i64 k.kind),.v (.int .i64 k.proc.site),.v (.int .i64 k.proc.inc),.v (.int .i64 k.proc.num),.v (.int .i64 k.req.expr.k),.v (.string (str k.req.expr.atom.name)),.v (.int .i64 k.req.expr.atom.amt.mode),.v (.int .i64 k.req.expr.atom.amt.units),Gy k.req.expr.kids,.v (.int .i64 k.req.prio),.v (.int .i64 k.req.limit),.v (.string (str k.name)),.v (.int .i64 k.n)]
def Ev.c(e:Ev):List AV:=[.v (.int .i64 e.kind),.v (.int .i64 e.proc.site),.v (.int .i64 e.proc.inc),.v (.int .i64 e.proc.num),.v (.string (str e.name)),.v (.int .i64 e.amt.mode),.v (.int .i64 e.amt.units)]
@[reducible] def T8(l:List Ev):AV:=.sl .no 7 (l.map Ev.c)
def Work.c(w:Work):List AV:=[.v (.int .i64 w.now),Ay w.queues,.sl (.own 0 0) 16 (w.procs.map Pcs.c),.sl (.own 1 0) 7 (w.evs.map Ev.c)]
attribute [go_sem] Entry.c Save.c Ledger.c Req.c Pcs.c Cen.c Cmd.c Ev.c Work.c
@[go_sem] theorem bU{α:Type}(a:α):(∃ x,some a=some x)=True:=by simp
@[go_sem] theorem ea{α β:Type}(f:α→β)(l:List α)(i:Nat):(l.map f).take i=(l.take i).map f:=by simp
@[go_sem] theorem dG{α β:Type}(f:α→β)(l:List α)(i:Nat):(l.map f).drop i=(l.drop i).map f:=by simp
def Ai(l:List Entry)(n:Bs):Amt:=l.foldl (fun a e=>if e.name==n then e.after else a) ⟨0,0⟩
theorem DG{l:List Entry}{n:Bs}{i:Nat}{b:Entry}(hb:l[i]?=some b):Ai (l.take (i+1)) n=if b.name==n then b.after else Ai (l.take i) n:=by
 simp[Ai,List.take_add_one,hb,List.foldl_append]
theorem f190_ok(l:List Entry)(n:Bs):Ac C0 190 [DX l,.v (.string (str n))] [] (.agg (Ai l n).c) []:=by
 refine Ac.lens f190 fun hlen=>?_
 simp only[Fz,lens,length_map,and_true,true_and]at hlen;refine Ac.go f190 ?_;unfold f190;refine gO ?_;refine Aa (α:=Nat) (fun i=>⟨[(6,I i),(0,DX l),(1,.v (.string (str n))),(4,.ptr 256 0),(5,.ptr 320 0)],[(256,(⟨0,0⟩:Amt).c),(320,(Ai (l.take i) n).c)]⟩) (fun i=>i≤(l).length∧True) (fun i=>(l).length-i) 0 ⟨by omega,trivial⟩ ?_ ?_
 ·refine Imp.weak ?_ ?_
  all_goals(try simp(disch:=omega)only[go_sem])
  all_goals(try(repeat'(with_reducible apply And.intro)))
  all_goals(first|exact .AA (by omega)|exact .Az (by omega)|exact .sl (by simp[Ai])|exact .int (by simp[Ai])|exact .eq (by simp[Ai]))
 rintro i ⟨hi,hP⟩ J hJ;refine gO ?_;refine ⟨fun hlt=>?_,fun hge=>?_⟩;rotate_left;have hil:i=(l).length:=by simp at hge;omega
 rotate_left;obtain⟨b,hb⟩:∃ b,(l)[i]?=some b:=⟨_,gE (by simp at hlt;omega)⟩;have hbm:=mG hb;have hlt2:i<(l).length:=by simp at hlt;omega
 simp(disch:=omega)only[go_sem,gm,hb]
 ·refine⟨fun h=>?_,fun h=>?_⟩
  ·refine hJ _ (i+1) ⟨by simp at hlt;omega,trivial⟩ (by simp at hlt;omega) (Imp.weak ?_ ?_)
   all_goals(try simp(disch:=omega)only[go_sem])
   all_goals(try(repeat'(with_reducible apply And.intro)))
   all_goals(first|exact .AA (by omega)|exact .Az (by omega)|exact .sl (by simp[DG hb,h])|exact .int (by simp[DG hb,h])|exact .eq (by simp[DG hb,h]))
  ·refine hJ _ (i+1) ⟨by simp at hlt;omega,trivial⟩ (by simp at hlt;omega) (Imp.weak ?_ ?_)
   all_goals(try simp(disch:=omega)only[go_sem])
   all_goals(try(repeat'(with_reducible apply And.intro)))
   all_goals(first|exact .AA (by omega)|exact .Az (by omega)|exact .sl (by simp[DG hb,h])|exact .int (by simp[DG hb,h])|exact .eq (by simp[DG hb,h]))
 ·subst hil;simp(disch:=omega)only[go_sem,take_length];exact AH _
def I7(l:List Save)(lab:Int):Int:=match l.findIdx? (fun s=>s.label==lab) with|some i=>i|none=>-1
theorem f194_ok(l:List Save)(lab:Int):Ac C0 194 [Mr l,I lab] [] (I (I7 l lab)) []:=by
 refine Ac.lens f194 fun hlen=>?_
 simp only[Fz,lens,length_map,and_true,true_and]at hlen;refine Ac.go f194 ?_;unfold f194;refine gO ?_;refine Aa (α:=Nat) (fun i=>⟨[(5,I i),(0,Mr l),(1,I lab)],[]⟩) (fun i=>i≤(l).length∧(l.take i).find? (fun s=>s.label==lab)=none) (fun i=>(l).length-i) 0 ⟨by omega,rfl⟩ ?_ ?_
 ·exact Ca
 rintro i ⟨hi,hP⟩ J hJ;refine gO ?_;refine ⟨fun hlt=>?_,fun hge=>?_⟩;rotate_left;have hil:i=(l).length:=by simp at hge;omega
 rotate_left;obtain⟨b,hb⟩:∃ b,(l)[i]?=some b:=⟨_,gE (by simp at hlt;omega)⟩;have hbm:=mG hb;have hlt2:i<(l).length:=by simp at hlt;omega
 simp(disch:=omega)only[go_sem,gm,hb]
 ·refine⟨fun h=>?_,fun h=>?_⟩
  ·have e:=F9 hP b hb (by simpa using h);simp(disch:=omega)only[go_sem,e,I7];exact AH _
  ·refine hJ _ (i+1) ⟨by simp at hlt;omega,(by rw[BU hP hb];simp at h;simp[h])⟩ (by simp at hlt;omega) AK
 ·subst hil;rw[take_length]at hP;have e:l.findIdx? (fun s=>s.label==lab)=none:=by
   rw[List.findIdx?_eq_none_iff];rw[List.find?_eq_none]at hP;intro x hx;simpa using hP x hx
  simp(disch:=omega)only[go_sem,e,I7];exact AH _
def usable(a:Amt):Bool:=G4.fits a||Ha.fits a
def Da(a b:Amt):Bool:=if !usable b||decide (a=b) then false else if a.mode==0&&a.units==0 then true else if !usable a then false else if a.mode !=0 then AL b.mode a.mode else decide (a.units<b.units)
theorem Y7(a:Amt):Ac C0 274 [.agg a.c] [] (B (usable a)) []:=f274_ok a
theorem f248_ok(a b:Amt):Ac C0 248 [.agg a.c,.agg b.c] [] (B (Da a b)) []:=by
 refine Ac.go f248 ?_;unfold f248;refine gO ?_;refine Ab (Y7 b) ?_;cases h1:usable b
 ·simp(disch:=omega)only[go_sem];refine Ap _ ?_;exact wb (by simp[Da,h1])
 refine gO ?_;cases h2:decide (a=b);rotate_left
 ·simp(disch:=omega)only[go_sem,h2];refine Ap _ ?_;exact wb (by simp[Da,h1,h2])
 simp(disch:=omega)only[go_sem,h2];cases h3:(a.mode==0&&a.units==0);rotate_left
 ·simp(disch:=omega)only[go_sem,h3];refine Ap _ ?_;exact wb (by simp[Da,h1,h2,h3])
 simp(disch:=omega)only[go_sem,h3];refine Ab (Y7 a) ?_;cases h4:usable a
 ·simp(disch:=omega)only[go_sem];refine Ap _ ?_;exact wb (by simp[Da,h1,h2,h3,h4])
 refine gO ?_;cases h5:(a.mode !=0)
 ·simp(disch:=omega)only[go_sem,h5];refine Ap _ ?_;exact wb (by simp only[Da,h1,h2,h3,h4,h5];rfl)
 ·simp(disch:=omega)only[go_sem,h5];refine Ab (f287_ok b.mode a.mode) ?_;refine gO ?_;refine Ap _ ?_;exact wb (by simp only[Da,h1,h2,h3,h4,h5];rfl)
def Pb(a b:Int):Int:=match (List.range 5).find? (fun k=>AL ((k+1:Nat):Int) a&&AL ((k+1:Nat):Int) b) with|some k=>((k+1:Nat):Int)|none=>0
theorem f290_ok(a b:Int):Ac C0 290 [I a,I b] [] (I (Pb a b)) []:=by
 have hr:∀ i,i<5→(List.range 5)[i]?=some i:=fun i hi=>by rw[List.getElem?_range hi]
 refine Ac.go f290 ?_;unfold f290;refine gO ?_;refine Aa (α:=Nat) (fun i=>⟨[(5,I ((i+1:Nat):Int)),(0,I a),(1,I b)],[]⟩) (fun i=>i≤5∧((List.range 5).take i).find? (fun k=>AL ((k+1:Nat):Int) a&&AL ((k+1:Nat):Int) b)=none) (fun i=>5-i) 0 ⟨by omega,rfl⟩ AK ?_;rintro i ⟨hi,hP⟩ J hJ
 by_cases h5:i<5
 rotate_left
 ·have e5:i=5:=by omega
  subst e5;have e:Pb a b=0:=by unfold Pb;rw[show List.range 5=(List.range 5).take 5 from rfl,hP]
  simp(disch:=omega)only[go_sem,e];exact AH _
 have e1:((i:Int)+1≤5)=True:=eq_true (by omega);simp(disch:=omega)only[go_sem,e1];refine Ab (f287_ok ((i+1:Nat):Int) a) ?_;have st:(AL ((i+1:Nat):Int) a&&AL ((i+1:Nat):Int) b)=false→((List.range 5).take (i+1)).find? (fun k=>AL ((k+1:Nat):Int) a&&AL ((k+1:Nat):Int) b)=none:=fun h=>by
  rw[List.take_add_one,hr i h5,List.find?_append,hP];simp only[Option.toList,List.find?_cons,h,List.find?_nil,Option.none_or]
 cases h1:AL ((i+1:Nat):Int) a
 ·simp(disch:=omega)only[go_sem];exact hJ _ (i+1) ⟨by omega,st (by rw[h1];rfl)⟩ (by omega) AK
 refine gO ?_;refine Ab (f287_ok ((i+1:Nat):Int) b) ?_;cases h2:AL ((i+1:Nat):Int) b
 ·simp(disch:=omega)only[go_sem];exact hJ _ (i+1) ⟨by omega,st (by rw[h1,h2];rfl)⟩ (by omega) AK
 ·have e:Pb a b=((i+1:Nat):Int):=by
   unfold Pb;have:=Ix (f:=fun k=>AL ((k+1:Nat):Int) a&&AL ((k+1:Nat):Int) b) hP (hr i h5) (by rw[h1,h2];rfl);rw[this]
  simp(disch:=omega)only[go_sem,e];exact AH _
def CC(r:Res)(a b:Amt):Amt:=if !(r.permits a&&r.permits b) then ⟨0,0⟩ else if r.covers a b then a else if r.covers b a then b else ⟨Pb a.mode b.mode,0⟩
theorem f254_ok(r:Res)(a b:Amt):Ac C0 254 [.agg r.c,.agg a.c,.agg b.c] [] (.agg (CC r a b).c) []:=by
 refine Ac.go f254 ?_;unfold f254;refine gO ?_;refine Ab (f289_ok r a) ?_;cases h1:r.permits a
 ·have e:CC r a b=⟨0,0⟩:=by simp[CC,h1]
  simp(disch:=omega)only[go_sem,e];exact AH _
 refine gO ?_;refine Ab (f289_ok r b) ?_;cases h2:r.permits b
 ·have e:CC r a b=⟨0,0⟩:=by simp[CC,h2]
  simp(disch:=omega)only[go_sem,e];exact AH _
 refine gO ?_;refine Ab (f253_ok r a b) ?_;cases h3:r.covers a b;rotate_left
 ·have e:CC r a b=a:=by simp[CC,h1,h2,h3]
  simp(disch:=omega)only[go_sem,e];exact AH _
 refine gO ?_;refine Ab (f253_ok r b a) ?_;cases h4:r.covers b a;rotate_left
 ·have e:CC r a b=b:=by simp[CC,h1,h2,h3,h4]
  simp(disch:=omega)only[go_sem,e];exact AH _
 refine gO ?_;have e:CC r a b=⟨Pb a.mode b.mode,0⟩:=by simp[CC,h1,h2,h3,h4]
 rw[e];refine Ab (f290_ok a.mode b.mode) ?_;refine gO ?_;exact AH _
def r0:Res:=⟨[],0,0,0⟩
@[reducible] def EU(l:List Res):AV:=.sl .no 4 (l.map Res.c)
def OH(l:List Res)(n:Bs):Option Res:=l.find? fun r=>r.name==n
theorem f288_ok(l:List Res)(n:Bs):Ac C0 288 [EU l,.v (.string (str n))] [] (.tup [.agg ((OH l n).getD r0).c,B (OH l n).isSome]) []:=by
 refine Ac.lens f288 fun hlen=>?_
 simp only[Fz,lens,length_map,and_true,true_and]at hlen;refine Ac.go f288 ?_;unfold f288;refine gO ?_;refine Aa (α:=Nat) (fun i=>⟨[(6,I i),(0,EU l),(1,.v (.string (str n))),(4,.ptr 256 0)],[(256,r0.c)]⟩) (fun i=>i≤(l).length∧(l.take i).find? (fun r=>r.name==n)=none) (fun i=>(l).length-i) 0 ⟨by omega,rfl⟩ ?_ ?_
 ·refine Imp.weak ?_ ?_
  all_goals(try simp(disch:=omega)only[go_sem,r0])
  all_goals(try(repeat'(with_reducible apply And.intro)))
  all_goals(first|exact .AA (by omega)|exact .Az (by omega)|exact .sl (by simp[r0])|exact .int (by simp[r0])|exact .eq (by simp[r0]))
 rintro i ⟨hi,hP⟩ J hJ;refine gO ?_;refine ⟨fun hlt=>?_,fun hge=>?_⟩;rotate_left;have hil:i=(l).length:=by simp at hge;omega
 rotate_left;obtain⟨b,hb⟩:∃ b,(l)[i]?=some b:=⟨_,gE (by simp at hlt;omega)⟩;have hbm:=mG hb;have hlt2:i<(l).length:=by simp at hlt;omega
 simp(disch:=omega)only[go_sem,gm,hb]
 ·refine⟨fun h=>?_,fun h=>?_⟩
  ·have e:OH l n=some b:=Ix hP hb (by simpa using h);simp(disch:=omega)only[go_sem,e,gm,hb,Option.isSome_some,Option.getD_some];exact AH _
  ·refine hJ _ (i+1) ⟨by simp at hlt;omega,(by rw[BU hP hb];simp at h;simp[h])⟩ (by simp at hlt;omega) AK
 ·subst hil;rw[take_length]at hP;have e:OH l n=none:=hP;simp(disch:=omega)only[go_sem,e,Option.isSome_none,Option.getD_none,r0];exact AH _
def Kq(q:Queue)(p:Proc)(l:Amt):Prop:=((Aj q p).isSome=true→Ak q.holds p=l)∧(Ak q.holds p=l∨((Ak q.holds p).zero=false∧q.res.covers (Ak q.holds p) l=true))
theorem zero_eq{a:Amt}(h:a.zero=true):a=⟨0,0⟩:=by
 obtain⟨m,u⟩:=a;simp[Amt.zero]at h;simp[h]
theorem GW{r:Res}{a:Amt}(h:r.fits a=true):r.covers a ⟨0,0⟩=true:=by
 have hs:r.shaped=true:=by simp only[Res.fits,Bool.and_eq_true]at h;exact h.1
 have hz:(⟨0,0⟩:Amt).zero=true:=rfl;simp[Res.covers,Res.permits,hs,h,hz]
theorem XQ{l:List Hold}{p:Proc}{a:Amt}(ha:a.zero=false):Ak (BK l p a) p=a:=by
 unfold BK Ak;rw[ha];simp only[Bool.false_eq_true,if_false];rw[List.find?_append];have:((As l p).take (B8 (As l p) p)).find? (fun h=>decide (h.proc=p))=none:=by
  rw[List.find?_eq_none];intro x hx;have:=List.mem_of_mem_take hx;simp[As]at this;simpa using this.2
 rw[this];simp
theorem XP{l:List Hold}{p:Proc}:Ak (As l p) p=⟨0,0⟩:=by
 unfold Ak;have:(As l p).find? (fun h=>decide (h.proc=p))=none:=by
  rw[List.find?_eq_none];intro x hx;simp[As]at hx;simpa using hx.2
 rw[this]
theorem IN{l:List Hold}{p:Proc}{a:Amt}:Ak (BK l p a) p=a:=by
 cases h:a.zero
 ·exact XQ h
 ·rw[zero_eq h,FZ,XP]
theorem Ke{l:List Wait}{p p':Proc}(h:p'≠p):(AI l p).find? (fun w=>decide (w.proc=p'))=l.find? fun w=>decide (w.proc=p'):=by
 unfold AI;rw[FW];intro x hx;simp at hx ⊢;rw[hx];exact h
theorem P1{l:List Wait}{p:Proc}:(AI l p).find? (fun w=>decide (w.proc=p))=none:=by
 rw[List.find?_eq_none];intro x hx;simp[AI]at hx;simpa using hx.2
theorem EF{q:Queue}{p:Proc}:Aj q p=none↔∀ w,w∈q.convs++q.waits→w.proc≠p:=by
 unfold Aj;rw[Option.map_eq_none_iff,List.find?_eq_none];simp
theorem EB{q:Queue}{w:Wait}(h:AY q=some w):(∃ l,q.convs=w::l∧Cp q w = { q with holds:=BK q.holds w.proc w.amt,convs:=l })∨(q.convs=[]∧∃ l,q.waits=w::l∧Cp q w = { q with holds:=BK q.holds w.proc w.amt,waits:=l }):=by
 cases hc:q.convs with
 | cons w' l =>
  have hw':w'=w:=by simp[AY,hc]at h;exact h
  subst hw';exact .inl ⟨l,rfl,by unfold Cp;simp only[hc]⟩
 | nil =>
  cases hw:q.waits with
  | nil=>simp[AY,hc,hw]at h
  | cons w' l =>
   have hw':w'=w:=by simp[AY,hc,hw]at h;exact h
   subst hw';exact .inr ⟨rfl,l,rfl,by unfold Cp;simp only[hc,hw];rfl⟩
theorem Io{q:Queue}{w:Wait}{p:Proc}(h:AY q=some w)(hp:p≠w.proc):Aj (Cp q w) p=Aj q p:=by
 have hd:decide (w.proc=p)=false:=by simpa using Ne.symm hp
 rcases EB h with ⟨l,hc,e⟩|⟨hc,l,hw,e⟩
 ·rw[e];unfold Aj;simp only[hc,List.cons_append,List.find?_cons,hd]
 ·rw[e];unfold Aj;simp only[hc,hw,List.nil_append,List.find?_cons,hd]
theorem NT{q:Queue}{w:Wait}(h:AY q=some w):Aj q w.proc=some w.amt:=by
 rcases EB h with ⟨l,hc,e⟩|⟨hc,l,hw,e⟩
 ·unfold Aj;simp[hc]
 ·unfold Aj;simp[hc,hw]
theorem LX{q:Queue}{w:Wait}(hs:Sound q)(h:AY q=some w):Aj (Cp q w) w.proc=none:=by
 have hcv:=(Bk q).1 hs.convs;obtain⟨a,b,c⟩:=(A8 q).1 hs.waits;rw[B7]at a;rw[EF];rcases EB h with ⟨l,hc,e⟩|⟨hc,l,hw,e⟩
 ·rw[e];intro x hx;have hu:=hcv.2.1;rw[hc]at hu;have hu':=List.pairwise_cons.1 hu;simp only[List.mem_append]at hx;rcases hx with hx|hx
  ·exact fun e=>hu'.1 x hx e.symm
  ·have hh:=(hcv.2.2 w (by rw[hc];simp)).1;have hz:=(c x hx).2;intro e2;rw[e2,hh]at hz;cases hz
 ·rw[e];intro x hx;simp only[hc,List.nil_append]at hx;have hu:=a.2.1;rw[hw]at hu;exact fun e=>(List.pairwise_cons.1 hu).1 x hx e.symm
theorem eo{q:Queue}{w:Wait}{p:Proc}{l:Amt}(hs:Sound q)(h:AY q=some w)(hr:Es q.res q.holds w.proc w.amt=true)(hk:Kq q p l):Kq (Cp q w) p l:=by
 by_cases hp:p=w.proc
 ·subst hp;have hl:=hk.1 (by rw[NT h];rfl);have hf:=(Lz hr).1;have e:Ak (Cp q w).holds w.proc=w.amt:=by
   rcases EB h with ⟨l,hc,e⟩|⟨hc,l,hw,e⟩<;>rw[e]<;>exact IN
  refine⟨fun hh=>absurd hh (by rw[LX hs h];simp),.inr ?_⟩;rw[e,(Nb q w).1];refine⟨FN hf,?_⟩;rcases EB h with ⟨l',hc,_⟩|⟨hc,l',hw,_⟩
  ·have:=((Bk q).1 hs.convs).2.2 w (by rw[hc];simp);rw[← hl];exact this.2.2.1
  ·have:=((A8 q).1 hs.waits).2.2 w (by rw[hw];simp);rw[← hl,zero_eq this.2];exact GW hf
 ·have e:Ak (Cp q w).holds p=Ak q.holds p:=by
   rcases EB h with ⟨l,hc,e⟩|⟨hc,l,hw,e⟩<;>rw[e]<;>exact Ep hp
  unfold Kq at hk ⊢;rw[Io h hp,e,(Nb q w).1];exact hk
theorem ek{q:Queue}{p:Proc}{l:Amt}(hs:Sound q)(hk:Kq q p l):Kq (Bz q).1 p l :=
 (GM (P:=fun x=>Sound x∧Kq x p l) (fun _ _ h hh hr=>⟨Jp h.1 hh hr,eo h.1 hh hr h.2⟩) _ q rfl ⟨hs,hk⟩).1.2
theorem Ze{q:Queue}{p:Proc}(hw:Aj q p=none):Aj (Bz q).1 p=none∧Ak (Bz q).1.holds p=Ak q.holds p :=
 (GM (P:=fun x=>Aj x p=none∧Ak x.holds p=Ak q.holds p) (fun x w h hh hr=>by
  have hp:p≠w.proc:=fun e=>by rw[e,NT hh]at h;cases h.1
  refine⟨by rw[Io hh hp];exact h.1,?_⟩;rw[← h.2];rcases EB hh with ⟨l,hc,e⟩|⟨hc,l,hw,e⟩<;>rw[e]<;>exact Ep hp) _ q rfl ⟨hw,rfl⟩).1
theorem H7(g:Int):0≤KU g∧KU g≤1073741824:=by unfold KU;split<;>omega
theorem NJ{q:Queue}(h:Sound q):valid (El q)=true:=by
 rw[Bm];exact Sn (Si h) (H7 _)
theorem WN(q:Queue):(El q).res=q.res:=(Pd q).1
theorem YY{q:Queue}{p:Proc}{l:Amt}(hs:Sound q)(hk:Kq q p l):Kq (El q) p l:=ek hs hk
theorem T5{q:Queue}{p:Proc}(hw:Aj q p=none):Aj (El q) p=none∧Ak (El q).holds p=Ak q.holds p:=Ze hw
theorem NI(q:Queue)(x:Proc):inQ (El q) x↔inQ q x:=Zk q x
end Go.Rd
