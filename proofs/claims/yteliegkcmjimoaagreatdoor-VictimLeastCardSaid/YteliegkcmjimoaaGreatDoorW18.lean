/- part 18 of the proof -/
import Derived.Test.YteliegkcmjimoaaGreatDoorW17
set_option linter.all false
namespace Go.Abs
def ZT:List Nat->List (List Nat)
 |[]=>[[]]
 | f::F=>ZT F++(ZT F).map (f::·)
def T6(p:Nat->Bool):∀ F:List Nat,F.filter p∈ZT F
 |[]=>by simp[ZT]
 | f::F=>by
  have ih:=T6 p F;simp[List.filter_cons,ZT,List.mem_append,List.mem_map];grind
def qA(k:Nat)(F G:List Nat):List Nat:=(List.range k).filter λj=>!F.contains j||G.contains j
def Lw(o:Oper):Bool:=match o.op with
 |.move _=>true
 |.extract _ _=>true
 |.nilCheck _=>true
 |.fieldAddr _ _ _=>true
 |.load _ _=>true
 |_=>false
def mK(ops:Array Oper)(F:List Nat):Bool:=F.all λf=>match ops[f]? with
 |some o=>Lw o
 |none=>false
def Wz(X:Env)(Aj:List (Nat × List AV)):List Oper->List (List Nat × List Nat)->Nat->List (Nat × List Nat × List Nat)->(St->Prop)->St->Prop
 |[],_,_,_,K,st=>K st
 |_::_,[],_,_,_,_=>False
 | o::os,(p,ts)::tab,i,cr,K,st=>Nf X o ⟨restr st ts,Aj⟩ st p cr λe=>(Lw o=true->e.H3=[])/\o.dst.isSome=true/\Wz X Aj os tab (i+1) (JO i e cr) K ⟨(St.put o.dst e.x st).tmps,e.H3++st.Aj⟩
theorem tc(d:Option Nat)(x:AV)(st:St):(St.put d x st).Aj=st.Aj:=by cases d<;>rfl
def iu{X:Env}{o:Oper}{Aj:List (Nat × List AV)}{r st:St}{p:List Nat}{i:Nat}{cr:List (Nat × List Nat × List Nat)}{K:List (Nat × List Nat × List Nat)->St->Prop}(hs:Lw o=true)(h:JQ X o Aj r p i cr K st) :
 JQ X o Aj r p i cr (λc s=>K c s/\s.Aj.length=st.Aj.length) st:=by
 have key:∀ v:Option AV,FH v p cr o.dst (K cr) st->FH v p cr o.dst ((λc s=>K c s/\s.Aj.length=st.Aj.length) cr) st:=λv hv=>by
  cases v with
  |none=>exact hv
  |some x=>exact⟨hv.1,hv.2,by rw[tc]⟩
 grind[Lw,JQ]
def aZ{X:Env}{all:Array Oper}{Aj:List (Nat × List AV)}{K:St->Prop}:∀ (os:List Oper) (tab:List (List Nat × List Nat)) (i:Nat) (cr:List (Nat × List Nat × List Nat)) (st:St),(∀ o∈os,o.guard=none)->BB X all Aj os tab i K cr st->Wz X Aj os tab i cr K st
 |[],_,_,_,_,_,h=>h
 |_::_,[],_,_,_,_,h=>h
 | o::os,(p,ts)::tab,i,cr,st,hg,h=>by
  simp[BB,hg o (by simp)]at h;obtain⟨hd,h⟩:=h;simp[Wz];cases hs:Lw o
  ·exact(SS rfl hd h).mono λe he=>⟨(λe=>by cases e),he.1,aZ os tab (i+1) _ _ (λo' y7=>hg o' (by grind)) he.2⟩
  ·refine(SS rfl hd (iu hs h)).mono λe he=>⟨λ_=>?_,he.1,aZ os tab (i+1) _ _ (λo' y7=>hg o' (by grind)) he.2.1⟩
   simp_all
def closedIn(ops:Array Oper)(F G:List Nat):Bool:=G.all λg=>(BL ops g).all λe=>!F.contains e||G.contains e
def jo(ops:Array Oper)(k:Nat)(F:List Nat)(ss:List (List Nat × List Nat × OT)):Bool :=
 J7 ops&&mK ops F&&(ZT F).all λG=>!closedIn ops F G||ss.any λs=>s.1==G&&pS ops (qA k F G) s.2.2&&s.2.1.all λt=>!((F.filter λf=>!G.contains f).filterMap (FC ops)).contains t
def wpS(X:Env)(ops:Array Oper)(K:St->Prop):List (List Nat × List Nat × OT)->St->Prop
 |[],_=>True
 |(_,FD,t)::ss,st=>fZ X ops K t ⟨restr st FD,st.Aj⟩/\wpS X ops K ss st
def mC{X:Env}{ops:Array Oper}{K:St->Prop}{st:St}{s:List Nat × List Nat × OT}:∀ {ss:List (List Nat × List Nat × OT)},wpS X ops K ss st->s∈ss->fZ X ops K s.2.2 ⟨restr st s.2.1,st.Aj⟩
 |(G,FD,t)::ss,h,hm=>by
  simp[wpS]at h;rcases List.mem_cons.1 hm with rfl|hm
  ·grind
  ·exact mC h.2 hm
section
variable {X:Env} {A:A0} {N:Nat} {g:Gh} {st0:St} {a:Act} {w:World} {ops:Array Oper} {k:Nat} {tab:List (List Nat × List Nat)} {res:Nat->BE} {D:Nat->Bool} {F:List Nat}
def eO{base:List (Nat × List AV)}:∀ n,(∀ j,j<n->D j=true\/(res j).H3=[])->R5 res D base n=R5 res (λ_=>true) base n
 | 0,_=>rfl
 | n+1,h=>by
  have ih:=eO (base:=base) n λj hj=>h j (by omega)
  simp only[R5,ih,if_true];grind
def Ua{K:St->Prop}:∀ (os:List Oper) (tb:List (List Nat × List Nat)) (n:Nat) (cr:List (Nat × List Nat × List Nat)) (res:Nat->BE),(∀ j o,os[j]?=some o->ops[n+j]?=some o)->(∀ j q,tb[j]?=some q->tab[n+j]?=some q)->(∀ o∈os,o.guard=none) ->
 Valid X ops tab st0 res n->cq res n cr->(∀ j o,j<n->ops[j]?=some o->Lw o=true->(res j).H3=[])->Wz X st0.Aj os tb n cr K (canon ops res st0 n) ->
 ∃ res',Valid X ops tab st0 res' (n+os.length)/\(∀ j o,j<n+os.length->ops[j]?=some o->Lw o=true->(res' j).H3=[])/\K (canon ops res' st0 (n+os.length))
 |[],tb,n,cr,res,_,_,_,hv,_,hs,h=>⟨res,hv,hs,by grind[Wz]⟩
 |_::_,[],_,_,_,_,_,_,_,_,_,h=>by grind[Wz]
 | o::os,(p,ts)::tb,n,cr,res,ho,ht,hg,hv,hc,hs,h=>by
  have UD:ops[n]?=some o:=ho 0 o rfl;have ht0:tab[n]?=some (p,ts):=ht 0 (p,ts) rfl;have hp:Ey tab n=p:=by simp[Ey,List.getD,ht0]
  have hr:J4 tab n=ts:=by simp[J4,List.getD,ht0]
  have xj:∀ j o',os[j]?=some o'->ops[n+1+j]?=some o':=λj o' hj=>by
   have:=ho (j+1) o' (by simpa using hj)
   rwa [show n+(j+1)=n+1+j by omega]at this
  have mc:∀ j q,tb[j]?=some q->tab[n+1+j]?=some q:=λj q hj=>by
   have:=ht (j+1) q (by simpa using hj)
   rwa [show n+(j+1)=n+1+j by omega]at this
  have hlen:n+(o::os).length=n+1+os.length:=by simp;omega
  rw[hlen];simp only[Wz]at h;obtain⟨e,h1,h2,h3,h4,h5,h6,hu,hd,hf⟩:=h;refine Ua os tb (n+1) _ _ xj mc (λo' y7=>hg o' (by simp[y7])) (hv.snoc e UD hd (.inl ⟨.inl (hg o (by simp)),by rw[hr];exact h1⟩) h2 h3 ⟨h4,h5⟩ (by rw[hp];exact hc.away h6)) (hc.snoc e) (λj o' hj hjo hjs=>?_) (by rw[VV UD hd];exact hf);unfold Gg;split
  ·rename_i hjn;subst hjn;rw[UD]at hjo;have:=Option.some.inj hjo;subst this;exact hu hjs
  ·exact hs j o' (by omega) hjo hjs
def nA(hA:A.ext=X.ext)(hX:∀ s∈X.ext,s%32=31)(hN:gy N ops)(hr:XW ops k tab F)(hv:Valid X (Fb ops k) tab st0 res k)(N0:∀ j,j<k->(FC (Fb ops k) j).isSome=true){Q:Exit->Act->World->Prop}{K:St->Prop}(hQ:∀ g st a w,R X.C A N g st a w->K st->Q .normal a w)
 {ss:List (List Nat × List Nat × OT)} (CC:jo ops k F ss=true) (Al7:∀ j o,j<k->(Fb ops k)[j]?=some o->Lw o=true->(res j).H3=[]) (dH:wpS X ops K ss (canon (Fb ops k) res st0 k)):∀ (fuel:Nat) (Af:Array Bool) (g:Gh) (a:Act) (w:World),Af.size=ops.size->XU Af<=fuel->Closed ops (ES Af)->(∀ j,j<ops.size->ES Af j=true->j<k) ->
 R X.C A N g (Q1 (Fb ops k) res st0 (ES Af) k) a w->wpAny X.C.P .any ops Q fuel Af a w:=by
 have hk:=hr.le;have hN':∀ o∈Fb ops k,∀ d,o.dst=some d->d<N:=λo ho d hd=>by
  have:=hN.1 o (by grind[Fb]);grind[KS]
 have low:∀ (fuel:Nat) (Af:Array Bool) (g:Gh) (a:Act) (w:World),Af.size=ops.size->XU Af<=fuel->Closed ops (ES Af)->(∀ j,j<ops.size->ES Af j=true->j<k)->(∀ j,j<k->j∉F->ES Af j=true)->R X.C A N g (Q1 (Fb ops k) res st0 (ES Af) k) a w->wpAny X.C.P .any ops Q fuel Af a w:=by
  intro fuel Af g a w hs hu hc AP Ka hR;simp only[jo,Bool.and_eq_true,List.all_eq_true]at CC;have h1:=CC.2 (F.filter (ES Af)) (T6 _ F);have RN:closedIn ops F (F.filter (ES Af))=true:=by
   unfold closedIn;rw[List.all_eq_true];intro g hg;rw[List.all_eq_true];intro e he;rw[List.mem_filter]at hg
   by_cases hF:e∈F
   ·have h5:=hc g (by have:=hr.small g hg.1;omega) hg.2 e he;grind
   grind
  rw[RN,Bool.not_true,Bool.false_or]at h1;simp only[List.any_eq_true,Bool.and_eq_true,List.all_eq_true,beq_iff_eq,Bool.not_eq_true']at h1;obtain⟨s,rX,⟨bt,dF⟩,hs3⟩:=h1;have hw:=mC dH rX;have AhW:(canon (Fb ops k) res st0 k).Aj=(Q1 (Fb ops k) res st0 (ES Af) k).Aj:=by
   refine(eO k λj hj=>?_).symm
   by_cases rI:j∈F
   ·right;have hm:=List.all_eq_true.1 CC.1.2 j rI;grind[U7]
   grind
  refine Qo hA hX hN hQ s.2.2 fuel (qA k F (F.filter (ES Af))) Af g _ a w hs hu (λj hj=>?_) dF hw (hR.le' (λt x hx=>?_) λs cs hs=>AhW▸hs)
  ·rw[Bool.eq_iff_iff];simp[qA];grind
  ·obtain⟨h1,h2⟩:=OQ hx;have h3:=hs3 t h1;simp[Q1,canon]at h2 ⊢;rw[<- h2];refine W0 k λj hj hdj=>?_
   cases hd:ES Af j with
   | true=>rfl
   | false =>
    exfalso;have rI:j∈F:=by grind
    grind[ay]
 intro fuel
 induction fuel with
 | zero =>
  grind[Iv]
 | succ fuel ih =>
  intro Af g a w hs hu hc AP hR
  by_cases Ka:∀ j,j<k->j∉F->ES Af j=true
  ·grind
  ·have ba:Closed (Fb ops k) (ES Af):=λi hi hD e he=>by
    have gn:(Fb ops k).size=k:=by grind[Fb]
    have iG:i<k:=by omega
    rw[Pm iG]at he;exact hc i (by omega) hD e he
   have step:∀ i∈Region.ready .any ops Af,wpOp X.C.P ops Q i (wpAny X.C.P .any ops Q fuel (Af.setIfInBounds i true)) a w:=λi hi=>by
    obtain⟨h1,h2,h3⟩:=(Cj hs).1 hi;have hp:=hr.closed hc i h1 h3;have iG:i<k:=by
     rcases Nat.lt_or_ge i k with h|h
     ·exact h
     ·exact(Ka λj hj rI=>hp j ((hr.tail i h1 h j (by omega)).resolve_left rI)).elim
    refine fY hr iG (SU hA hX hN' hr.cut hv N0 ba iG h2 hp hR λg' a' w' WC=>?_);rw[<- Ff (by omega)]at WC;refine ih _ g' a' w' (by grind) (by grind[Jh]) (by grind[Ff,M1]) (λj hj hD=>?_) WC;rw[Ff (by omega)]at hD;grind[Jk]
   refine⟨λh0=>?_,step⟩;have hex:∃ j,j<k/\ES Af j=false:=by grind
   obtain⟨j,hj,hd⟩:=hex;obtain⟨i,_,hi⟩:=O6 hr hs j j (by omega) hd (Nat.le_refl _);grind
end
def Kh{X:Env}{ops:List Oper}{K:St->Prop}{st:St}(k:Nat)(tab:List (List Nat × List Nat))(F:List Nat)(ss:List (List Nat × List Nat × OT))(hm:X.C.P.follows .mixedOrders=true)(CC:(jt ops.toArray k tab F&&jo ops.toArray k F ss)=true)
 (h:BB X ops.toArray st.Aj (ops.take k) tab 0 (wpS X ops.toArray K ss) [] st):Lj X ops.toArray K st:=by
 intro A N g a w hA hN hX hR id Q hQ;rw[Bool.and_eq_true]at CC;have hr:=jt.spec CC.1;have hk:=hr.le;have Hb:ops.toArray.size=ops.length:=by simp
 have hlen:(ops.take k).length=k:=by grind
 have hN2:gy N ops.toArray:=by
  refine⟨λo ho=>?_,λi hi e he=>?_⟩
  ·grind[KS]
  ·have:=hr.UJ i hi e he;omega
 have hf:=aZ _ _ _ _ _ (λo ho=>hr.guard o (by grind)) h;obtain⟨res,hv,mr,hK⟩:=Ua (X:=X) (st0:=st) (ops:=Fb ops.toArray k) (tab:=tab) (ops.take k) tab 0 [] (λ_=>⟨.undef,[],[],[]⟩) (λj o hj=>by grind[Fb]) (λj q hj=>by grind) (λo ho=>hr.guard o (by grind)) ⟨λi hi=>by omega,λi hi=>by omega,λi hi=>by omega,λi hi=>by omega,λi j _ hj=>by omega⟩ (λi hi=>by omega) (λj o hj=>by omega) hf;rw[hlen,Nat.zero_add]at mr;rw[hlen,Nat.zero_add]at hv hK;have N0:∀ j,j<k->(FC (Fb ops.toArray k) j).isSome=true:=λj hj=>by
  obtain⟨o,ho,hd,_⟩:=hv.op j hj;grind[FC]
 refine wp_region_any hm (nA hA hX hN2 hr hv N0 hQ CC.2 mr hK ops.toArray.size (Array.replicate ops.toArray.size false) g a _ (by simp) (by simp[XU]) ?_ ?_ ?_)
 ·intro i hi hD;simp_all[ES]
 ·simp_all[ES]
 ·have e:Q1 (Fb ops.toArray k) res st (ES (Array.replicate ops.toArray.size false)) k=st:=by
   have hf:∀ j,j<k->ES (Array.replicate ops.toArray.size false) j=false:=λj hj=>by simp_all[ES,Array.getD]
   have h1:P2 (FC (Fb ops.toArray k)) res (ES (Array.replicate ops.toArray.size false)) st.tmps k=st.tmps:=by rw[Sm (i:=0) k (by omega) λj _ hj=>hf j hj];rfl
   have h2:∀ n,n<=k->R5 res (ES (Array.replicate ops.toArray.size false)) st.Aj n=st.Aj:=λn=>by
    induction n with
    | zero=>intro _;rfl
    | succ n ih=>intro hn;simp only[R5,hf n (by omega),Bool.false_eq_true,if_false];grind
   simp_all[Q1]
  rw[e];exact hR.drew
theorem yp(X:Env)(ops:Array Oper)(K:St->Prop)(st:St):wpS X ops K [] st=True:=nd rfl
theorem tZ(X:Env)(ops:Array Oper)(K:St->Prop)(G FD:List Nat)(t:OT)(ss:List (List Nat × List Nat × OT))(st:St):wpS X ops K ((G,FD,t)::ss) st=(fZ X ops K t ⟨restr st FD,st.Aj⟩/\wpS X ops K ss st):=nd rfl
attribute [go_sem] yp tZ
end Go.Abs
open Go Go.Abs Go.Proofs
set_option maxRecDepth 100000
namespace Go.Rd
set_option maxHeartbeats 8000000
open List (append_assoc map_append)
open Bool (and_eq_true)
open Tryz
@[reducible] def Mq:AV:=.v (.slice none 0 0)
theorem ij(s:WS)(p:Ac)(h:Iy s)(hg:BO s):Ad C0 63 [.agg s.c,.agg p.c] [] (.agg (BW s p).c) []:=by
 have dD:=h.nq;have Y4:=h.nn;refine Ad.go f63 ?_;unfold f63;refine gO ?_;refine AF (s.Aa) (λi=>⟨[(6,I i),(2,.ptr 128 0),(3,.ptr 192 0),(5,.ptr 320 0),(4,.ptr 256 0)],[(128,s.c),(192,p.c),(256,[Mq,Mq]),(320,[.sl (.own 2688 0) 8 (((s.Aa.take i).map λq=>Cd q p).map Queue.c),Mq])]⟩) (λi=>True) trivial ?_ ?_
 ·exact Ce
 rintro i ⟨hi,hP⟩ J hJ;refine gO ?_;refine Bo hi (λAP b hb Cg AX=>?_) λBa=>?_
 simp(disch:=omega)only[go_sem,hb]
 ·have ha:=h.aq b Cg;have hvb:=hg b Cg;have ID:i+1<=4294967296:=by omega
  have Aa1:min i s.Aa.length+1<=4294967296:=by omega
  have fin:∀ q,Cd b p=q->∀ st',AT ⟨C0,[]⟩ st' ⟨[(6,I (i+1:Nat)),(2,.ptr 128 0),(3,.ptr 192 0),(5,.ptr 320 0),(4,.ptr 256 0)],[(128,s.c),(192,p.c),(256,[Mq,Mq]),(320,[.sl (.own 2688 0) 8 (((s.Aa.take i).map λq=>Cd q p).map Queue.c++[q.c]),Mq])]⟩->J st':=λq hq st' h=>by
   refine hJ st' (i+1) ⟨by omega,trivial⟩ (by omega) ?_;have e:((s.Aa.take (i+1)).map λq=>Cd q p).map Queue.c=((s.Aa.take i).map λq=>Cd q p).map Queue.c++[q.c]:=by grind[List.take_add_one]
   rw[e];exact h
  clear hJ;refine Ab (Vc b p (by omega)) ?_;rw[yP hvb p];cases hp:Br (BU b) p
  ·refine gO ?_;refine fin b (by simp[Cd,hp]) _ (AT.Aq gI ?_);exact gI
  refine gO ?_;refine Ab (j7 b p ha) ?_;have e:Ge b p=(Ee (B8 b p),(Co (B8 b p)).2,0):=by grind[Ge]
  simp(disch:=omega)only[go_sem,e];refine fin { Ee (B8 b p) with gen:=b.gen } (by grind[Cd]) _ (AT.Aq gI ?_);exact gI
 subst Ba;rw[List.take_length];clear hJ;refine AF (s.Aw) (λi=>⟨[(11,I i),(2,.ptr 128 0),(3,.ptr 192 0),(5,.ptr 320 0),(4,.ptr 256 0)],[(128,s.c),(192,p.c),(256,[Mq,Mq]),(320,[.sl (.own 2688 0) 8 ((s.Aa.map λq=>Cd q p).map Queue.c),.sl (.own 4288 0) 9 ((E7 (s.Aw.take i) p).map Need.c)])]⟩) (λi=>True) trivial ?_ ?_
 ·exact Ce
 rintro i ⟨hi,hP⟩ J hJ;refine gO ?_;refine Bo hi (λAP b hb Cg AX=>?_) λBa=>?_
 refine Ay 7 [([],[2]),([],[51]),([],[11]),([],[52,53]),([],[54]),([],[55]),([],[3])] B6 ?_;simp(disch:=omega)only[go_sem,gm,hb]
 ·have ID:(E7 (s.Aw.take i) p).length+1<=4294967296:=by
   grind[E7]
  have e1:E7 (s.Aw.take (i+1)) p=if b.proc=p then E7 (s.Aw.take i) p else E7 (s.Aw.take i) p++[b]:=by grind[E7,List.take_add_one]
  by_cases CZ:b.proc=p
  ·rw[if_pos CZ]at e1;simp only[go_sem,CZ];refine hJ _ (i+1) ⟨by omega,trivial⟩ (by omega) (AT.Aq gI ?_);rw[e1];exact gI
  ·rw[if_neg CZ]at e1;simp only[go_sem,CZ];refine Wc (let o0:OT:=.done;let o1:OT:=.pick [(10,o0)];let o2:OT:=.pick [(9,o1)];let o3:OT:=.pick [(8,o2)];let o4:OT:=.pick [(7,o3)];let o5:OT:=.pick [(6,o4)];let o6:OT:=.pick [(5,o5)];let o7:OT:=.pick [(4,o6)];let o8:OT:=.pick [(3,o6)];let o9:OT:=.pick [(3,o7),(4,o8)];let gu:OT:=.pick [(2,o8)];let oL:OT:=.pick [(2,o9),(4,gu)];let xM:OT:=.pick [(1,o3)];let sN:OT:=.pick [(1,o4),(7,xM)];let Y3:OT:=.pick [(1,o5),(6,sN)];let zo:OT:=.pick [(1,o6),(5,Y3)];let Za:OT:=.pick [(1,o7),(4,zo)];let uJ:OT:=.pick [(1,o8),(3,zo)];let Zu:OT:=.pick [(1,o9),(3,Za),(4,uJ)];let zq:OT:=.pick [(1,gu),(2,uJ)];let oB:OT:=.pick [(1,oL),(2,Zu),(4,zq)];let zr:OT:=.pick [(0,xM)];let zt:OT:=.pick [(0,sN),(7,zr)];let zu:OT:=.pick [(0,Y3),(6,zt)];let Zy:OT:=.pick [(0,zo),(5,zu)];let ZH:OT:=.pick [(0,Za),(4,Zy)];let ab:OT:=.pick [(0,uJ),(3,Zy)];let oH:OT:=.pick [(0,Zu),(3,ZH),(4,ab)];let o28:OT:=.pick [(0,zq),(2,ab)];let oN:OT:=.pick [(0,oB),(2,oH),(4,o28)];oN) B6 (by kernel_rfl) ?_;simp(disch:=omega)only[go_sem,gm,hb];have step:∀ st',AT ⟨C0,[]⟩ st' ⟨[(11,I (i+1:Nat)),(2,.ptr 128 0),(3,.ptr 192 0),(5,.ptr 320 0),(4,.ptr 256 0)],[(128,s.c),(192,p.c),(256,[Mq,Mq]),(320,[.sl (.own 2688 0) 8 ((s.Aa.map λq=>Cd q p).map Queue.c),.sl (.own 4288 0) 9 ((E7 (s.Aw.take i) p).map Need.c++[b.c])])]⟩->J st':=λst' h=>by
    refine hJ st' (i+1) ⟨by omega,trivial⟩ (by omega) ?_;rw[e1,map_append];exact h
   clear hJ
   repeat'(with_reducible refine And.intro ?_ ?_)
   all_goals(refine step _ (AT.Aq ?_ ?_))
   all_goals(simp(disch:=omega)only[go_sem])
 ·subst Ba;refine gO ?_;refine CU ⟨[],[],[2688,4288]⟩ _ ?_;simp only[go_sem,BW];exact .eq (by simp)
def HF{s:WS}(hv:AI s=true):LQ s=BJ s:=by simp[LQ,hv]
def DW{s:WS}(hv:AI s=true):GS s=Ca s:=by simp[GS,hv]
def Wk(s:WS)(h:Iy s):Ad C0 26 [.agg s.c] [] (.BC [AL (GS s).1,AL (GS s).2]) []:=by
 refine Ad.go f26 ?_;unfold f26;refine gO ?_;refine Ab (SO s h) ?_;cases hv:AI s
 ·have e:GS s=([],[]):=by simp[GS,hv]
  refine gS ?_;exact Gw _
 rw[DW hv];refine gO ?_;refine Ab (ie s h) ?_;rw[HF hv];refine gO ?_;refine Ao (α:=WS × List Ac) (λx=>⟨[(5,AL (BJ x.1)),(4,.sl (.own 1344 0) 3 (x.2.map Ac.c)),(1,.ptr 64 0)],[(64,x.1.c)]⟩) (λx=>Iy x.1/\AI x.1=true/\x.2.length+(Ag x.1).length<=1000000/\x.2++(Ca x.1).1=(Ca s).1/\(Ca x.1).2=(Ca s).2) (λx=>(Ag x.1).length) (s,[]) ⟨h,hv,by grind[De],rfl,rfl⟩ ?_ ?_
 ·exact AT.Aq gI gI
 rintro⟨t,gs⟩ ⟨i1,i2,i3,i4,i5⟩ J hJ
 replace i1:Iy t:=i1
 replace i2:AI t=true:=i2
 replace i3:gs.length+(Ag t).length<=1000000:=i3
 replace i4:gs++(Ca t).1=(Ca s).1:=i4
 replace i5:(Ca t).2=(Ca s).2:=i5
 have ig:=Be i2;rw[Sc ig]at i4 i5;cases hf:BJ t with
 | nil =>
  rw[hf]at i4 i5;have e0:(0<((0:Nat):Int))=False:=by simp
  refine gO ?_;refine Ab (Ow t i1) (gO ?_);refine CU ⟨[],[],[1344]⟩ _ ?_;refine gO ?_;simp at i4 i5;exact .eq (by grind)
 | cons p l =>
  simp[hf]at i4 i5;have hm:p∈Ag t:=DS (by grind);have hd:=D9 ig hm;have e0:(0<(l.length:Int)+1)=True:=eq_true (by omega);have ID:gs.length+1<=4294967296:=by omega
  refine gS ?_;refine Ay 4 [([],[1]),([],[5]),([],[23]),([],[24])] B6 (gO ?_)
  first|(refine Ab (ij t p i1 ig) ?_)|(refine Ax (ij t p i1 ig) ?_)
  refine gO ?_;have rE:=Ln i1 p;have hval:=NH i2 p;refine Ab (ie (BW t p) rE) ?_;rw[HF hval];refine gO ?_;refine hJ _ (BW t p,gs++[p]) ⟨rE,hval,by grind,by grind,i5⟩ hd (AT.Aq ?_ ?_)
  ·refine gO ?_;exact .sl (by simp[Ac.c])
  ·exact gI
def tE(q:Queue):Bool:=decide (q.holds.length<=12)&&decide (q.As.length<=12)&&decide (q.waits.length<=12)
def tF(s:WS):Bool:=decide (s.Aa.length<=12)&&decide (s.Aw.length<=12)&&s.Aa.all tE
def ZM{s:WS}(h:tF s=true):Iy s:=by
 simp only[tF,tE,and_eq_true,decide_eq_true_eq,List.all_eq_true]at h;refine⟨by omega,by omega,λq hq=>?_⟩;have:=h.2 q hq;unfold BS B7;omega
def UU(n m:Int):Int:=if m<1 then 0 else if n.tmod m<0 then n.tmod m+m else n.tmod m
def AbT(n:Int):0<=UU n 8/\UU n 8<8:=by
 have h1:=Int.tmod_lt_of_pos n (show (0:Int)<8 by decide);have h2:-8<n.tmod 8:=by
  rw[Int.tmod_eq_emod];split<;>omega
 unfold UU;rw[if_neg (by decide)];split<;>omega
def Aef(n:Int):Ad C0 70 [I n,I 8] [] (I (UU n 8)) []:=by
 have z:((8:Int)=0)=False:=by simp
 have z2:((8:Int)<1)=False:=by simp
 have h1:=Int.tmod_lt_of_pos n (show (0:Int)<8 by decide);have h2:-8<n.tmod 8:=by
  rw[Int.tmod_eq_emod];split<;>omega
 refine Ad.go f70 ?_;unfold f70
 by_cases h:n.tmod 8<0
 ·have e:UU n 8=n.tmod 8+8:=by simp[UU,h]
  have z3:(n.tmod 8<0)=True:=eq_true h;simp(disch:=omega)only[go_sem,z,z2,if_false,decide_false,z3,e];exact AQ _
 ·have e:UU n 8=n.tmod 8:=by simp[UU,h]
  have z3:(n.tmod 8<0)=False:=eq_false h;simp(disch:=omega)only[go_sem,z,z2,if_false,decide_false,z3,e];exact AQ _
def B2(n:Int):Ac:=⟨(UU n 8).tmod 4,1,1+(UU n 8).tdiv 4⟩
def qU(n:Int):Ad C0 31 [I n] [] (.agg (B2 n).c) []:=by
 have z:((4:Int)=0)=False:=by simp
 have hm:=AbT n;have hd:0<=(UU n 8).tdiv 4/\(UU n 8).tdiv 4<=2:=by rw[Int.tdiv_eq_ediv_of_nonneg hm.1];omega
 refine Ad.go f31 ?_;unfold f31;refine gO ?_;refine Ab (Aef n) ?_;simp(disch:=omega)only[go_sem,z,if_false];refine Al _ ?_;simp(disch:=omega)only[go_sem,B2]
def wA:BR:=⟨5,0⟩
def Mk(name:Bs)(p q:Ac):Queue:=⟨⟨name,1,1,0⟩,[⟨p,wA⟩],[],[⟨q,wA,0,0⟩],0⟩
def Mp(p:Ac)(name:Bs):Need:=⟨p,.mk 0 ⟨name,wA⟩ [],0⟩
def G8:WS:=⟨[Mk [97] (B2 0) (B2 1),Mk [98] (B2 1) (B2 0)],[Mp (B2 0) [98],Mp (B2 1) [97]]⟩
def zX:WS:=⟨G8.Aa,G8.Aw.take 1⟩
def c8:Iy G8/\Iy zX:=⟨ZM (by kernel_rfl),ZM (by kernel_rfl)⟩
def Yj{s:WS}(h:Iy s):(LQ s).length<=20000:=by
 unfold LQ;split
 ·exact Nat.le_trans (List.length_filter_le _ _) (De h)
 ·simp
section
variable {α:Type}
def Eo(l:List α)(i j:Nat):List α:=match l[i]?,l[j]? with
 |some a,some b=>(l.set i b).set j a
 |_,_=>l
def Hl(lt:α->α->Bool)(l:List α)(i j:Nat):Bool:=match l[i]?,l[j]? with
 |some a,some b=>lt a b
 |_,_=>false
def bY(lt:α->α->Bool):Nat->Nat->List α->List α
 | 0,_,l=>l
 | f+1,j,l=>if j=0\/Hl lt l j ((j-1) / 2)=false then l else bY lt f ((j-1) / 2) (Eo l ((j-1) / 2) j)
def Ld(lt:α->α->Bool)(l:List α)(i n:Nat):Nat:=if 2*i+2<n/\Hl lt l (2*i+2) (2*i+1)=true then 2*i+2 else 2*i+1
def Fo(lt:α->α->Bool):Nat->Nat->Nat->List α->List α
 | 0,_,_,l=>l
 | f+1,i,n,l=>if n<=2*i+1\/Hl lt l (Ld lt l i n) i=false then l else Fo lt f (Ld lt l i n) n (Eo l i (Ld lt l i n))
def Xr(lt:α->α->Bool)(l:List α)(x:α):List α:=bY lt l.length l.length (l++[x])
def LL(lt:α->α->Bool)(l:List α):List α:=Fo lt (l.length-1) 0 (l.length-1) (Eo l 0 (l.length-1))
def Sl{l:List α}{i j:Nat}(hi:i<l.length)(hj:j<l.length)(k:Nat):(Eo l i j)[k]?=if k=j then l[i]? else if k=i then l[j]? else l[k]?:=by
 unfold Eo;grind
theorem EX(l:List α)(i j:Nat):(Eo l i j).length=l.length:=by grind[Eo]
def swap_perm{l:List α}{i j:Nat}(hi:i<l.length)(hj:j<l.length):(Eo l i j).Perm l:=by grind[Eo,List.set_set_perm]
theorem Mi{lt:α->α->Bool}{l:List α}{i j:Nat}{a b:α}(ha:l[i]?=some a)(hb:l[j]?=some b):Hl lt l i j=lt a b:=by grind[Hl]
variable {lt:α->α->Bool} (has:∀ a b,lt a b=true->lt b a=false) (Wa:∀ a b c,lt b a=false->lt c b=false->lt c a=false)
theorem Wb:∀ (f i n:Nat) (l:List α),(Fo lt f i n l).length=l.length
 | 0,_,_,_=>rfl
 | f+1,i,n,l=>by
  simp only[Fo];split
  ·rfl
  ·rw[Wb f,EX]
def mz:∀ (f j:Nat) (l:List α),j<l.length->(bY lt f j l).Perm l
 | 0,_,_,_=>.refl _
 | f+1,j,l,hj=>by
  simp only[bY];split
  ·exact .refl _
  ·have h1:=mz f ((j-1) / 2) (Eo l ((j-1) / 2) j) (by rw[EX];omega);exact h1.trans (swap_perm (by omega) hj)
theorem Zc(l:List α)(i n:Nat):(Ld lt l i n=2*i+2/\2*i+2<n/\Hl lt l (2*i+2) (2*i+1)=true)\/(Ld lt l i n=2*i+1/\(2*i+2<n->Hl lt l (2*i+2) (2*i+1)=false)):=by
 unfold Ld;grind
theorem RW{l:List α}{i n:Nat}(h:¬ n<=2*i+1):i<Ld lt l i n/\Ld lt l i n<n:=by grind[Zc]
def YA:∀ (f i n:Nat) (l:List α),n<=l.length->(Fo lt f i n l).Perm l/\∀ k,n<=k->(Fo lt f i n l)[k]?=l[k]?
 | 0,_,_,_,_=>⟨.refl _,λ_ _=>rfl⟩
 | f+1,i,n,l,hn=>by
  simp[Fo];split
  ·simp
  ·rename_i hc;simp only[not_or]at hc;obtain⟨k1,k2⟩:=RW (lt:=lt) (l:=l) hc.1;obtain⟨h1,h2⟩:=YA f (Ld lt l i n) n (Eo l i (Ld lt l i n)) (by grind[EX]);refine⟨h1.trans (swap_perm (by omega) (by omega)),λk hk=>?_⟩;rw[h2 k hk,Sl (by omega) (by omega),if_neg (by omega),if_neg (by omega)]
def cc(lt:α->α->Bool)(l:List α)(k p:Nat):Prop:=∀ a b,l[k]?=some a->l[p]?=some b->lt a b=false
def Heap(lt:α->α->Bool)(l:List α):Prop:=∀ k,0<k->cc lt l k ((k-1) / 2)
def get_some{l:List α}{i:Nat}(h:i<l.length):∃ a,l[i]?=some a:=⟨_,gE h⟩
include has Wa
def ym:∀ (f j:Nat) (l:List α),j<=f->j<l.length->(∀ k,0<k->k≠j->cc lt l k ((k-1) / 2))->(∀ k,0<k->(k-1) / 2=j->0<j->cc lt l k ((j-1) / 2))->Heap lt (bY lt f j l):=by
 intro f
 induction f with
 | zero=>intro j l hf _ h1 _ k hk;exact h1 k hk (by omega)
 | succ f ih =>
  intro j l hf hj h1 h2;simp[bY];split
  ·rename_i hc;intro k hk
   by_cases ck:k=j
   ·rcases hc with hc|hc
    ·omega
    ·subst ck;intro a b ha hb;grind[Mi]
   grind
  ·rename_i hc;simp at hc;obtain⟨hj0,hc⟩:=hc;generalize hp:(j-1) / 2=p at hc h2 ⊢;have hpj:p<j:=by omega
   obtain⟨a,ha⟩:=get_some hj;obtain⟨b,hb⟩:=get_some (l:=l) (i:=p) (by omega);rw[Mi ha hb]at hc;have dL:=has _ _ hc;have hg:=Sl (l:=l) (i:=p) (j:=j) (by omega) hj;have gp:(Eo l p j)[p]?=some a:=by rw[hg,if_neg (by omega),if_pos rfl,ha]
   have gj:(Eo l p j)[j]?=some b:=by rw[hg,if_pos rfl,hb]
   have gk:∀ k,k≠p->k≠j->(Eo l p j)[k]?=l[k]?:=λk k1 k2=>by grind
   refine ih p _ (by omega) (by grind) (λk hk xe=>?_) (λk hk xe uF=>?_)
   ·by_cases ck:k=j
    ·subst ck;rw[hp];intro x y hx hy;grind
    ·by_cases hpk:(k-1) / 2=j
     ·rw[hpk];intro x y hx hy;rw[gk k xe ck]at hx;rw[gj]at hy;injection hy with hy;subst hy
      exact h2 k hk hpk (by omega) x b hx hb
     ·by_cases hpp:(k-1) / 2=p
      ·rw[hpp];intro x y hx hy;rw[gk k xe ck]at hx;rw[gp]at hy;injection hy with hy;subst hy
       have:=h1 k hk ck x b hx (by grind);exact Wa a b x dL this
      ·intro x y hx hy;rw[gk k xe ck]at hx;rw[gk _ hpp hpk]at hy;exact h1 k hk ck x y hx hy
   ·have hq:(p-1) / 2<p:=by omega
    by_cases ck:k=j
    ·subst ck;intro x y hx hy;rw[gj]at hx;rw[gk _ (by omega) (by omega)]at hy;injection hx with hx;subst hx
     exact h1 p uF (by omega) b y hb hy
    ·intro x y hx hy;rw[gk k (by omega) ck]at hx;rw[gk _ (by omega) (by omega)]at hy;have e1:=h1 k hk ck x b hx (by grind);have e2:=h1 p uF (by omega) b y hb hy;exact Wa y b x e2 e1
def nt:∀ (f i n:Nat) (l:List α),n<=i+f->n<=l.length->(∀ k,0<k->k<n->(k-1) / 2≠i->cc lt l k ((k-1) / 2))->(∀ k,0<k->k<n->(k-1) / 2=i->0<i->cc lt l k ((i-1) / 2)) ->
 ∀ k,0<k->k<n->cc lt (Fo lt f i n l) k ((k-1) / 2):=by
 intro f
 induction f with
 | zero=>intro i n l hf _ h1 _ k hk X8;exact h1 k hk X8 (by omega)
 | succ f ih =>
  intro i n l hf hn h1 h2;simp[Fo]
  by_cases hle:n<=2*i+1
  ·grind
  ·obtain⟨k1,k2⟩:=RW (lt:=lt) (l:=l) hle;have hkc:=Zc (lt:=lt) l i n;generalize hj:Ld lt l i n=j at k1 k2 hkc ⊢;have hpj:(j-1) / 2=i:=by omega
   obtain⟨a,ha⟩:=get_some (l:=l) (i:=j) (by omega);obtain⟨b,hb⟩:=get_some (l:=l) (i:=i) (by omega);have Alw:∀ x,lt x x=false:=λx=>by grind
   have rX:∀ k,0<k->k<n->(k-1) / 2=i->cc lt l k j:=by
    intro k hk X8 yW x y hx hy;rw[ha]at hy;injection hy with hy;subst hy
    rcases hkc with ⟨e,e1,e2⟩|⟨e,e1⟩<;>grind[Mi]
   by_cases hc:Hl lt l j i=false
   ·rw[if_pos (.inr hc)];intro k hk X8
    by_cases yW:(k-1) / 2=i
    ·rw[yW];intro x y hx hy;rw[hb]at hy;injection hy with hy;subst hy
     rw[Mi ha hb]at hc;exact Wa b a x hc (rX k hk X8 yW x a hx ha)
    grind
   ·rw[if_neg (by grind)];have hc:lt a b=true:=by grind[Mi]
    have dL:=has _ _ hc;have hg:=Sl (l:=l) (i:=i) (j:=j) (by omega) (by omega);have gi:(Eo l i j)[i]?=some a:=by grind
    have gj:(Eo l i j)[j]?=some b:=by grind
    have gk:∀ k,k≠i->k≠j->(Eo l i j)[k]?=l[k]?:=λk k1 k2=>by grind
    refine ih j n _ (by omega) (by grind[EX]) (λk hk X8 ck=>?_) (λk hk X8 ck hj0=>?_)
    ·by_cases e1:k=j
     ·subst e1;rw[hpj];intro x y hx hy;grind
     ·by_cases e2:(k-1) / 2=i
      ·rw[e2];intro x y hx hy;rw[gk k (by omega) e1]at hx;rw[gi]at hy;injection hy with hy;subst hy
       exact rX k hk X8 e2 x a hx ha
      ·by_cases e3:k=i
       ·subst e3;intro x y hx hy;rw[gi]at hx;rw[gk _ (by omega) (by omega)]at hy;injection hx with hx;subst hx
        exact h2 j (by omega) k2 hpj (by omega) a y ha hy
       ·intro x y hx hy;rw[gk k e3 e1]at hx;rw[gk _ e2 ck]at hy;exact h1 k hk X8 e2 x y hx hy
    ·rw[hpj];intro x y hx hy;rw[gk k (by omega) (by omega)]at hx;rw[gi]at hy;injection hy with hy;subst hy
     exact h1 k hk X8 (by omega) x a hx (by grind)
theorem nV{l:List α}(h:Heap lt l){x:α}(hx:l[0]?=some x):∀ (k:Nat) (y:α),l[k]?=some y->lt y x=false:=by
 intro k
 induction k using Nat.strongRecOn with
 | ind k ih =>
  intro y hy
  by_cases hk:k=0
  ·grind
  ·have AP:(k-1) / 2<l.length:=by
    grind
   obtain⟨z,hz⟩:=get_some AP;exact Wa x z y (ih _ (by omega) z hz) (h k (by omega) y z hy hz)
def Tt{l:List α}(h:Heap lt l)(x:α):Heap lt (Xr lt l x)/\(Xr lt l x).Perm (x::l):=by
 have hl:l.length<(l++[x]).length:=by simp
 constructor
 ·refine ym has Wa _ _ _ (Nat.le_refl _) hl (λk hk X7 a b ha hb=>?_) (λk hk X7 _ a b ha _=>?_)
  ·have gn:k<l.length:=by
    grind
   rw[List.getElem?_append_left gn]at ha;rw[List.getElem?_append_left (by omega)]at hb;exact h k hk a b ha hb
  grind
 ·exact(mz _ _ _ hl).trans (List.perm_append_singleton x l)
def R8{l:List α}(h:Heap lt l){x:α}(hx:l[0]?=some x):(LL lt l)[l.length-1]?=some x/\Heap lt ((LL lt l).take (l.length-1))/\l.Perm (x::(LL lt l).take (l.length-1))/\(LL lt l).length=l.length/\∀ y∈l,lt y x=false:=by
 have hl:0<l.length:=by grind
 obtain⟨p1,p2⟩:=YA (lt:=lt) (l.length-1) 0 (l.length-1) (Eo l 0 (l.length-1)) (by grind[EX]);have hg:=Sl (l:=l) (i:=0) (j:=l.length-1) hl (by omega);have e1:(LL lt l)[l.length-1]?=some x:=by
  show (Fo _ _ _ _ _)[_]?=_;grind
 have e4:(LL lt l).length=l.length:=by
  show (Fo _ _ _ _ _).length=_;rw[Wb,EX]
 refine⟨e1,λk hk a b ha hb=>?_,?_,e4,λy hy=>?_⟩
 ·have gn:k<l.length-1:=by
   grind
  rw[List.getElem?_take,if_pos gn]at ha;rw[List.getElem?_take,if_pos (by omega)]at hb;refine nt has Wa (l.length-1) 0 (l.length-1) (Eo l 0 (l.length-1)) (by omega) (by grind) (λk hk X8 yW a b ha hb=>?_) (λk _ _ _ h0=>by omega) k hk gn a b ha hb;rw[hg,if_neg (by omega),if_neg (by omega)]at ha;rw[hg,if_neg (by omega),if_neg yW]at hb;exact h k hk a b ha hb
 ·have e2:LL lt l=(LL lt l).take (l.length-1)++[x]:=by
   grind[List.take_append_drop,List.drop_eq_getElem_cons]
  have e3:(LL lt l).Perm l:=p1.trans (swap_perm hl (by omega));refine e3.symm.trans ?_;grind[List.perm_append_singleton]
 grind[List.mem_iff_getElem?,nV]
end
structure Srch where
 n:Nat
 cost:Nat->Int
 gv:Nat->Ac
 tG:List Nat->Bool
def Bj(c:Nat->Int):List Nat->Int
 |[]=>0
 | i::s=>c i+Bj c s
def Le:List Nat->List Nat->Bool
 | i::s,j::t=>decide (i<j)||(decide (i=j)&&Le s t)
 |_,_=>false
def oy(c:Nat->Int)(S T:List Nat):Bool:=decide (Bj c S<Bj c T)||(decide (Bj c S=Bj c T)&&decide (S.length<T.length))
def cn(c:Nat->Int)(S T:List Nat):Bool:=oy c S T||(decide (Bj c S=Bj c T)&&decide (S.length=T.length)&&Le S T)
def isSet(P:Srch)(S:List Nat):Prop:=S.Pairwise (· < ·)/\(∀ i∈S,i<P.n)/\(S.map P.gv).Nodup
def pA(P:Srch)(S:List Nat):Prop:=isSet P S/\P.tG S=true
def JN(P:Srch):Option (List Nat)->Prop
 |none=>∀ S,¬ pA P S
 |some S=>pA P S/\∀ T,pA P T->cn P.cost T S=false
def again(P:Srch)(S:List Nat)(i:Nat):Bool:=S.any λk=>decide (P.gv k=P.gv i)
def prune(P:Srch)(S:List Nat):Option (List Nat)->Bool
 |none=>false
 |some B=>decide (Bj P.cost B<Bj P.cost S)||(decide (Bj P.cost S=Bj P.cost B)&&decide (B.length<=S.length))
def goN(P:Srch):Nat->List Nat->Option (List Nat)->Option (List Nat)
 | 0,_,b=>b
 | f+1,S,b=>goN P f S (if again P S (P.n-(f+1)) then b else if prune P (S++[P.n-(f+1)]) b then b else if P.tG (S++[P.n-(f+1)]) then some (S++[P.n-(f+1)]) else goN P f (S++[P.n-(f+1)]) b)
def N6(P:Srch)(f:Nat)(S:List Nat)(b:Option (List Nat)):Option (List Nat):=if prune P S b then b else if P.tG S then some S else goN P f S b
def best(P:Srch):Option (List Nat):=N6 P P.n [] none
theorem a8(P:Srch)(f:Nat)(S:List Nat)(b:Option (List Nat)):goN P (f+1) S b=goN P f S (if again P S (P.n-(f+1)) then b else N6 P f (S++[P.n-(f+1)]) b):=rfl
def H9(c:Nat->Int):∀ S T:List Nat,Bj c (S++T)=Bj c S+Bj c T
 |[],T=>by simp[Bj]
 | i::S,T=>by simp only[List.cons_append,Bj,H9 c S T];omega
theorem lV:∀ a b c:List Nat,a.length=b.length->b.length=c.length->Le b a=false->Le c b=false->Le c a=false
 |[],b,c,_,_,_,_=>by grind
 | x::a,[],c,h,_,_,_=>by grind
 | x::a,y::b,[],_,h,_,_=>by grind
 | x::a,y::b,z::c,h1,h2,h3,h4=>by
  simp only[Le,Bool.or_eq_false_iff,decide_eq_false_iff_not,Bool.and_eq_false_iff]at h3 h4 ⊢;refine⟨by omega,?_⟩
  by_cases hz:z=x
  ·have hy:y=x:=by omega
   right;rcases h3.2 with h|h
   ·exact absurd hy h
   rcases h4.2 with h'|h'
   ·exact absurd (by omega) h'
   exact lV a b c (by simpa using h1) (by simpa using h2) h h'
  ·exact .inl hz
theorem Ti:∀ a b:List Nat,a.length=b.length->Le a b=false->Le b a=false->a=b
 |[],[],_,_,_=>rfl
 |[],_::_,h,_,_=>by grind
 |_::_,[],h,_,_=>by grind
 | x::a,y::b,h,h1,h2=>by
  simp only[Le,Bool.or_eq_false_iff,decide_eq_false_iff_not,Bool.and_eq_false_iff]at h1 h2;have od:x=y:=by omega
  subst od;rcases h1.2 with h3|h3
  ·exact absurd rfl h3
  rcases h2.2 with h4|h4
  ·exact absurd rfl h4
  rw[Ti a b (by grind) h3 h4]
section
variable {c:Nat->Int} {S T U:List Nat}
theorem Vx:oy c S T=true↔Bj c S<Bj c T\/(Bj c S=Bj c T/\S.length<T.length):=by simp[oy]
theorem OR:oy c S T=false↔Bj c T<=Bj c S/\(Bj c S=Bj c T->T.length<=S.length):=by grind[oy]
theorem Nt:cn c S T=false↔oy c S T=false/\(Bj c S=Bj c T->S.length=T.length->Le S T=false):=by grind[cn]
def xF(h1:cn c T S=false)(h2:cn c U T=false):cn c U S=false:=by grind[Nt,OR,lV]
def oz(h1:cn c S T=false)(h2:cn c T S=false):S=T:=by grind[Nt,OR,Ti]
def AbS(h1:oy c S T=true)(h2:oy c U T=false):cn c U S=false:=by grind[OR,Nt]
end
def Yp{P:Srch}:∀ {r r':Option (List Nat)},JN P r->JN P r'->r=r'
 |none,none,_,_=>rfl
 |none,some S,h,h'=>absurd h'.1 (h S)
 |some S,none,h,h'=>absurd h.1 (h' S)
 |some S,some T,h,h'=>by rw[oz (h'.2 S h.1) (h.2 T h'.1)]
def Yv{P:Srch}(hc:∀ i,i<P.n->1<=P.cost i):∀ {S:List Nat},(∀ i∈S,i<P.n)->(S.length:Int)<=Bj P.cost S
 |[],_=>by simp[Bj]
 | i::S,h=>by
  have h1:=hc i (h i (by simp));have h2:=Yv hc (S:=S) λj hj=>h j (by grind)
  simp only[Bj,List.length_cons];omega
def aD{P:Srch}(hc:∀ i,i<P.n->1<=P.cost i){S R:List Nat}(h:isSet P (S++R)):Bj P.cost S+R.length<=Bj P.cost (S++R):=by
 rw[H9];have:=Yv hc (S:=R) λi hi=>h.2.1 i (by grind)
 omega
def jE{P:Srch}{S R:List Nat}(h:isSet P (S++R)):isSet P S :=
 ⟨h.1.sublist (List.sublist_append_left S R),λi hi=>h.2.1 i (by grind),h.2.2.sublist (by grind)⟩
def Ext(P:Srch)(i:Nat)(S T:List Nat):Prop:=isSet P T/\∃ R,T=S++R/\R≠[]/\∀ x∈R,i<=x
theorem LU{P:Srch}{S:List Nat}{i:Nat}:again P S i=true↔P.gv i∈S.map P.gv:=by simp[again]
theorem Ps{P:Srch}{i:Nat}{S T:List Nat}(h:Ext P i S T):(again P S i=false/\(∃ R,T=(S++[i])++R))\/Ext P (i+1) S T:=by
 obtain⟨hs,R,rfl,CZ,hR⟩:=h
 match R,CZ with
 | x::R,_ =>
  by_cases hx:x=i
  ·subst hx;left;refine⟨?_,R,by simp⟩;cases ha:again P S x with
   | false=>rfl
   | true =>
    have hm:=LU.1 ha;have hn:=hs.2.2;rw[map_append,List.nodup_append]at hn;exact absurd rfl (hn.2.2 _ hm _ (by simp))
  ·right;refine⟨hs,x::R,rfl,by simp,λy hy=>?_⟩;have Vt:=hR x (by simp);rcases List.mem_cons.1 hy with rfl|hy
   ·omega
   ·have hp:=(List.pairwise_append.1 hs.1).2.1;have:=(List.pairwise_cons.1 hp).1 y hy;omega
def Rs{P:Srch}{i:Nat}{S T:List Nat}(h:Ext P (i+1) S T):Ext P i S T:=by
 obtain⟨hs,R,rfl,CZ,hR⟩:=h;exact⟨hs,R,rfl,CZ,λx hx=>by grind⟩
def Vv:∀ (S R R':List Nat),Le (S++R) (S++R')=Le R R'
 |[],_,_=>rfl
 | i::S,R,R'=>by simp[Le,Vv S R R']
theorem vi{P:Srch}{i:Nat}{S T B:List Nat}(h:Ext P (i+1) S T)(hB:∃ R,B=(S++[i])++R):Le T B=false:=by
 obtain⟨hs,R,rfl,CZ,hR⟩:=h;obtain⟨R',rfl⟩:=hB;rw[append_assoc,Vv]
 match R,CZ with
 | x::R,_ =>
  have:=hR x (by simp);simp only[List.singleton_append,Le,Bool.or_eq_false_iff,decide_eq_false_iff_not,Bool.and_eq_false_iff];exact⟨by omega,.inl (by omega)⟩
theorem sL{P:Srch}{i:Nat}{S B:List Nat}(h:Ext P (i+1) S B)(hB:∃ R,B=(S++[i])++R):False:=by
 obtain⟨hs,R,rfl,CZ,hR⟩:=h;obtain⟨R',h'⟩:=hB;rw[append_assoc]at h';have:=List.append_cancel_left h';subst this;have:=hR i (by simp);omega
def ry{P:Srch}(hc:∀ i,i<P.n->1<=P.cost i):∀ (f:Nat),f<=P.n->∀ (S:List Nat) (b:Option (List Nat)),isSet P S->(∀ x∈S,x<P.n-f)->(∀ B,b=some B->isSet P B/\¬ Ext P (P.n-f) S B) ->
 (goN P f S b=b\/∃ B,goN P f S b=some B/\Ext P (P.n-f) S B/\P.tG B=true/\∀ B0,b=some B0->oy P.cost B B0=true) /\
 ∀ T,Ext P (P.n-f) S T->P.tG T=true->∃ B,goN P f S b=some B/\oy P.cost T B=false/\(Ext P (P.n-f) S B->cn P.cost T B=false):=by
 intro f
 induction f with
 | zero =>
  intro _ S b hS AP hb;refine⟨.inl rfl,λT ⟨hs,R,e,CZ,hR⟩ _=>?_⟩;subst e
  match R,CZ with
  | x::R,_ =>
   have h1:=hR x (by simp);have h2:=hs.2.1 x (by simp);omega
 | succ f ih =>
  intro hf S b hS AP hb;have e:P.n-f=P.n-(f+1)+1:=by omega
  rw[a8];generalize hi:P.n-(f+1)=i at AP hb e ⊢;rw[e]at ih;cases ha:again P S i with
  | true =>
   simp;have hx:∀ {T},Ext P i S T->Ext P (i+1) S T:=λh=>(Ps h).resolve_left λh=>by grind
   obtain⟨h1,h2⟩:=ih (by omega) S b hS (λx hx=>by grind) (λB hB=>⟨(hb B hB).1,λhE=>(hb B hB).2 (Rs hE)⟩);refine⟨h1.imp id fun⟨B,a,b,c⟩=>⟨B,a,Rs b,c⟩,λT hT hs=>?_⟩;grind
  | false =>
   simp;have Hf:i<P.n:=by omega
   have uo:isSet P (S++[i]):=by
    refine⟨List.pairwise_append.2 ⟨hS.1,by simp,λx hx y hy=>?_⟩,λx hx=>?_,?_⟩
    ·grind
    ·grind
    ·rw[map_append,List.nodup_append];refine⟨hS.2.2,by simp,λx hx y hy=>?_⟩;grind[LU]
   have JX:∀ {R},isSet P ((S++[i])++R)->∀ x∈R,i+1<=x:=λ{R} hs x hx=>by
    have hp:=hs.1;rw[append_assoc]at hp;have:=(List.pairwise_cons.1 ((List.pairwise_append.1 hp).2.1)).1 x hx;omega
   have w8:∀ B,b=some B->¬ ∃ R,B=(S++[i])++R:=λB hB ⟨R,he⟩=>(hb B hB).2 ⟨(hb B hB).1,i::R,by grind,by simp,λx hx=>by grind⟩
   have rL:∀ R:List Nat,((S++[i])++R).length=(S++[i]).length+R.length:=λR=>by grind
   -- the part behind S++[i]
   have sub:(N6 P f (S++[i]) b=b\/∃ B,N6 P f (S++[i]) b=some B/\(∃ R,B=(S++[i])++R)/\isSet P B/\P.tG B=true/\∀ B0,b=some B0->oy P.cost B B0=true) /\
    ∀ T,isSet P T->(∃ R,T=(S++[i])++R)->P.tG T=true->∃ B,N6 P f (S++[i]) b=some B/\oy P.cost T B=false/\((∃ R,B=(S++[i])++R)->cn P.cost T B=false):=by
    unfold N6;cases Vq:prune P (S++[i]) b with
    | true =>
     simp only[if_true];refine⟨.inl trivial,λT hT hR hs=>?_⟩
     match b,Vq,w8 with
     |some B,Vq,w8 =>
      refine⟨B,rfl,?_,λh=>absurd h (w8 B rfl)⟩;obtain⟨R,rfl⟩:=hR;have h1:=aD hc hT;have h2:=rL R;simp only[prune,Bool.or_eq_true,decide_eq_true_eq,and_eq_true]at Vq;rw[OR];omega
    | false =>
     simp only[Bool.false_eq_true,if_false];cases gr:P.tG (S++[i]) with
     | true =>
      simp only[if_true];refine⟨.inr ⟨_,rfl,⟨[],by simp⟩,uo,gr,λB0 hB0=>?_⟩,λT hT hR hs=>⟨_,rfl,?_⟩⟩
      ·grind[prune,Vx]
      ·obtain⟨R,rfl⟩:=hR;have h1:=aD hc hT;have hl:=rL R;have h2:oy P.cost ((S++[i])++R) (S++[i])=false:=by rw[OR];omega
       refine⟨h2,λ_=>?_⟩;rw[Nt];refine⟨h2,λ_ h=>?_⟩;have:R=[]:=List.eq_nil_of_length_eq_zero (by omega);subst this;have:=Vv (S++[i]) [] [];rw[List.append_nil]at this ⊢;rw[this];rfl
     | false =>
      simp only[Bool.false_eq_true,if_false];have JR:∀ {B},isSet P B->(∃ R,B=(S++[i])++R)->B≠S++[i]->Ext P (i+1) (S++[i]) B:=λ{B} hs ⟨R,he⟩ CZ=>⟨hs,R,he,λh=>CZ (by grind),λx hx=>JX (he▸hs) x hx⟩
      obtain⟨h1,h2⟩:=ih (by omega) (S++[i]) b uo (λx hx=>by grind) (λB hB=>⟨(hb B hB).1,λhE=>w8 B hB (by obtain⟨hs,R,he,_⟩:=hE;grind)⟩);refine⟨h1.imp id fun⟨B,a,⟨hs,R,he,_⟩,c,d⟩=>⟨B,a,⟨R,he⟩,hs,c,d⟩,λT hT hR hs=>?_⟩;have hTn:T≠S++[i]:=λh=>by grind
      obtain⟨B,a,b',c⟩:=h2 T (JR hT hR hTn) hs;refine⟨B,a,b',λhRB=>c ?_⟩;rcases h1 with h1|⟨B',h1,h3,_⟩<;>grind
   obtain⟨s1,s2⟩:=sub;generalize UL:N6 P f (S++[i]) b=b1 at s1 s2 ⊢;have hH:∀ B,b1=some B->isSet P B/\¬ Ext P (i+1) S B:=λB hB=>by
    rcases s1 with s1|⟨B',s1,s3,s4,_⟩
    ·rw[s1]at hB;exact⟨(hb B hB).1,λhE=>(hb B hB).2 (Rs hE)⟩
    grind[sL]
   obtain⟨h1,h2⟩:=ih (by omega) S b1 hS (λx hx=>by grind) hH;refine⟨?_,λT hT hs=>?_⟩
   ·rcases h1 with h1|⟨B,h1,h3,h4,h5⟩
    ·rw[h1];rcases s1 with s1|⟨B,s1,⟨R,s3⟩,s4,s5,s6⟩
     ·grind
     ·refine .inr ⟨B,s1,⟨s4,i::R,by grind,by simp,λx hx=>?_⟩,s5,s6⟩;grind
    ·refine .inr ⟨B,h1,Rs h3,h4,λB0 hB0=>?_⟩;rcases s1 with s1|⟨B',s1,_,_,_,s6⟩
     ·grind
     ·have e1:=h5 B' s1;have e2:=s6 B0 hB0;rw[Vx]at e1 e2 ⊢;omega
   ·rcases Ps hT with ⟨_,hR⟩|hT'
    ·obtain⟨B1,a,b',c⟩:=s2 T hT.1 hR hs;rcases h1 with h1|⟨B,h1,h3,h4,h5⟩
     ·grind[Ps]
     ·have:=AbS (h5 B1 a) b';exact⟨B,h1,(Nt.1 this).1,λ_=>this⟩
    ·obtain⟨B,a,b',c⟩:=h2 T hT' hs;refine⟨B,a,b',λhE=>?_⟩;grind[Ps,Nt,vi]
def U3{P:Srch}(hc:∀ i,i<P.n->1<=P.cost i):JN P (best P):=by
 have h0:isSet P []:=⟨.nil,(λ_ h=>by cases h),by simp⟩;unfold best N6;simp[prune];have Abt:∀ T,cn P.cost T []=true->isSet P T->False:=λT h hs=>by
  have:=aD hc (S:=[]) (R:=T) (by grind);simp at this;have e0:Bj P.cost []=0:=rfl;simp only[cn,Bool.or_eq_true,Vx,and_eq_true,decide_eq_true_eq]at h;rcases h with h|⟨⟨h1,h2⟩,h3⟩
  ·rcases h with h|⟨h,h'⟩
   ·omega
   ·simp at h'
  ·have:T=[]:=List.eq_nil_of_length_eq_zero h2;subst this;simp[Le]at h3
 cases gr:P.tG [] with
 | true =>
  simp;refine⟨⟨h0,gr⟩,λT hT=>?_⟩;cases h:cn P.cost T [] with
  | false=>rfl
  | true=>exact(Abt T h hT.1).elim
 | false =>
  simp;obtain⟨h1,h2⟩:=ry hc P.n (Nat.le_refl _) [] none h0 (λ_ h=>by cases h) (λ_ h=>by cases h);rw[Nat.sub_self]at h1 h2;have hE:∀ {T},pA P T->Ext P 0 [] T:=λ{T} hT=>⟨hT.1,T,rfl,(λh=>by subst h;have h2:=hT.2;rw[gr]at h2;cases h2),λ_ _=>Nat.zero_le _⟩
  rcases h1 with h1|⟨B,h1,h3,h4,_⟩
  ·rw[h1];intro S hS;obtain⟨B,a,_⟩:=h2 S (hE hS) hS.2;grind
  ·rw[h1];refine⟨⟨h3.1,h4⟩,λT hT=>?_⟩;obtain⟨B',a,_,c⟩:=h2 T (hE hT) hT.2;grind
end Go.Rd
