/- part 9 of the proof -/
import Derived.ChangeShapes
import Derived.OpenShut
import Derived.RowKit
import Derived.Below
import Derived.ChangeSame
import Derived.WideKeyArgs
import Derived.KernelRfl
import Derived.Test.YthachdiockkofaaGreatDoorProg
import Derived.Test.YthachdiockkofaaGreatDoorW08
set_option linter.all false
namespace Go.Abs
open Go Go.ChangeShapes Go.WideShapes Go.RowKit
mutual
def wgt{H:Type}:DataW H→Nat
 |.lit (.string b)=>b.length+1
 |.lit _=>1
 |.nil=>1
 |.ptr d=>wgt d+1
 |.slice a b=>TA a+TA b+1
 |.agg a=>TA a+1
 |.iface _ d=>wgt d+1
 |.map _=>1
 |.held _=>1
def TA{H:Type}:List (DataW H)→Nat
 |[]=>0
 | d::r=>wgt d+TA r
end
theorem QM{ro:Nat→Prop}{w:World}{ad:Addr}:∀ {xs:List AV} {us:List Value} {j:Nat},PRl ro w xs us→(∀ k,k<us.length→w.cell? (ad.add (j+k))=us[k]?)→PRc ro w xs ad j
 |[],[],_,_,_=>by simp[PRc]
 | x::xs,u::us,j,h,hc=>by
  simp only[PRc];refine⟨⟨u,by simpa using hc 0 (by simp),h.1⟩,QM h.2 fun k hk=>?_⟩;have:=hc (k+1) (by simp;omega);rw[show j+1+k=j+(k+1) by omega];simpa using this
 |[],_::_,_,h,_=>False.elim h
 |_::_,[],_,h,_=>False.elim h
def Cod(P:Program)(t:TypeId){α:Type}(e:α→List AV)(m:α→Nat)(Q:α→Prop):Prop :=
 ∀ (H:Type) (enc:TypeId × Value→H) (w:World) (fuel:Nat) (cs:List Value) (x:DataW H × List MemPlace),DataW.trod enc P w 0 (fun _=>true) true fuel t cs=some x →
  ∃ a,Q a∧m a≤wgt x.1∧PRl (fun b=>b<w.heap.size) w (e a) cs
variable {P:Program} {t:TypeId}
theorem WI{k:IntKind}(ht:P.underlying t=some (.int k)):Cod P t (fun n:Int=>[.v (.int k n)]) (fun _=>1) (fun n=>(Lit.int k n).wf=true):=by
 intro H enc w fuel cs x h;obtain⟨n,rfl,rfl,hw⟩:=DataW.trod_int ht h;exact⟨n,hw,by simp[wgt],⟨rfl,by simp[Value.oneCell']⟩,trivial⟩
theorem TG(a:Addr)(i j:Nat):(a.add i).add j=a.add (i+j):=Addr.add_add a i j
theorem No{ro:Nat→Prop}{w:World}{ad:Addr}{n:Nat}{α:Type}{e:α→List AV} :
 ∀ {xs:List α} {i:Nat},(∀ k x,xs[k]?=some x→∃ cs,w.cells? 0 (ad.add ((i+k)*n)) n=some cs∧PRl ro w (e x) cs)→PRe ro w (xs.map e) ad n i
 |[],_,_=>by simp[PRe]
 | x::xs,i,h=>by
  simp only[List.map_cons,PRe];obtain⟨cs,hcs,hp⟩:=h 0 x rfl;obtain⟨_,hl,hc⟩:=World.cells?_some hcs;refine⟨hp.length.trans hl,QM hp fun k hk=>?_,No fun k y hy=>?_⟩
  ·rw[← TG];exact hc k (by omega)
  ·have:=h (k+1) y (by simpa using hy)
   rwa [show i+1+k=i+(k+1) by omega]
theorem Vt{H:Type}:∀ {ds:List (DataW H)} {α:Type} {m:α→Nat} {xs:List α},xs.length=ds.length→(∀ (k:Nat) (x:α) (d:DataW H),xs[k]?=some x→ds[k]?=some d→m x≤wgt d)→(xs.map m).sum≤TA ds
 |[],_,_,[],_,_=>by simp
 | d::ds,α,m,x::xs,hl,h=>by
  simp only[List.map_cons,List.sum_cons,TA];have h0:=h 0 x d rfl rfl;have:=Vt (m:=m) (xs:=xs) (ds:=ds) (by simpa using hl) fun k y d hy hd=>h (k+1) y d (by simpa using hy) (by simpa using hd)
  omega
 |[],_,_,_::_,hl,_=>by simp at hl
 |_::_,_,_,[],hl,_=>by simp at hl
theorem pick{α β:Type}{q:Nat→β→Prop}{R:Nat→α→β→Prop}:∀ (n:Nat) (l:List β),l.length=n→(∀ i y,l[i]?=some y→∃ x,R i x y)→∃ xs:List α,xs.length=n∧∀ i x y,xs[i]?=some x→l[i]?=some y→R i x y:=by
 intro n
 induction n generalizing R with
 | zero=>intro l hl h;exact⟨[],rfl,fun i x y hx=>by simp at hx⟩
 | succ n ih =>
  intro l hl h;cases l with
  | nil=>simp at hl
  | cons y l =>
   obtain⟨x,hx⟩:=h 0 y rfl;obtain⟨xs,hxl,hxs⟩:=ih (R:=fun i=>R (i+1)) l (by simpa using hl) fun i y hy=>h (i+1) y (by simpa using hy)
   refine⟨x::xs,by simp[hxl],fun i a b ha hb=>?_⟩;cases i with
   | zero=>simp at ha hb;subst ha;subst hb;exact hx
   | succ i=>exact hxs i a b (by simpa using ha) (by simpa using hb)
theorem XC{el:TypeId}{α:Type}{e:α→List AV}{m:α→Nat}{Q:α→Prop}{n:Nat}(he:Cod P el e m Q)(ht:P.underlying t=some (.slice el))(hc:P.cellsOf el=n)(hn:0<n) :
 Cod P t (fun xs:List α=>[.sl .no n (xs.map e)]) (fun xs=>(xs.map m).sum+1) (fun xs=>∀ x∈xs,Q x):=by
 intro H enc w fuel cs x h;rcases DataW.trod_slice ht h with ⟨rfl,rfl⟩|⟨a,len,cap,elems,rest,k,rfl,rfl,rfl,_,hl,hm,hlen,hel,_,_⟩
 ·refine⟨[],by simp,by simp[wgt],?_,trivial⟩;simp only[List.map_nil,PR];exact⟨by simp,none,0,rfl,by simp,by simp,by simp,hn,Or.inl trivial⟩
 ·subst hlen;obtain⟨xs,hxl,hxs⟩:=pick (α:=α) (q:=fun _ _=>True) (R:=fun i x y=>Q x∧m x≤wgt y.1∧∃ cs,w.cells? 0 (a.add (i*n)) n=some cs∧PRl (fun b=>b<w.heap.size) w (e x) cs) elems.length elems rfl (by
   intro i y hy;have hi:i<elems.length:=by
    rcases Nat.lt_or_ge i elems.length with h|h
    ·exact h
    ·rw[List.getElem?_eq_none h]at hy;cases hy
   have:=hel i hi;rw[hy,hc,Option.bind_eq_some_iff]at this;obtain⟨cs,h1,h2⟩:=this;obtain⟨x,q1,q2,q3⟩:=he H enc w k cs y h2;exact⟨x,q1,q2,cs,h1,q3⟩)
  have hget:∀ i x,xs[i]?=some x→∃ y,elems[i]?=some y:=fun i x hx=>by
   have:i<elems.length:=by
    rcases Nat.lt_or_ge i xs.length with h|h
    ·omega
    ·rw[List.getElem?_eq_none h]at hx;cases hx
   exact⟨_,List.getElem?_eq_getElem this⟩
  refine⟨xs,fun x hx=>?_,?_,?_,trivial⟩
  ·obtain⟨i,hi⟩:=List.mem_iff_getElem?.1 hx;obtain⟨y,hy⟩:=hget i x hi;exact(hxs i x y hi hy).1
  ·simp only[wgt];have:=Vt (m:=m) (xs:=xs) (ds:=elems.map (·.1)) (by simp[hxl]) fun i x d hx hd=>by
    obtain⟨y,hy⟩:=hget i x hx;simp only[List.getElem?_map,hy,Option.map_some,Option.some.injEq]at hd;subst hd;exact(hxs i x y hx hy).2.1
   omega
  ·simp only[PR];refine⟨by simp,some a,cap,by simp[hxl],by simp[hxl,hl],hm,by simp,hn,?_⟩;cases xs with
   | nil=>exact Or.inl rfl
   | cons x xs =>
    refine Or.inr ⟨a,rfl,?_,No fun i x hx=>?_⟩
    ·obtain⟨y,hy⟩:=hget 0 x rfl;obtain⟨_,_,cs,h1,_⟩:=hxs 0 x y rfl hy;obtain⟨_,hl,hcell⟩:=World.cells?_some h1;have h0:=hcell 0 hn;cases cs with
     | nil=>simp at hl;omega
     | cons c cs=>exact(show (a.add (0*n+0)).block=a.block by simp[Addr.add])▸E6 (by rw[TG]at h0;simpa using h0)
    ·obtain⟨y,hy⟩:=hget i x hx;obtain⟨_,_,cs,h1,h2⟩:=hxs i x y hx hy;exact⟨cs,by simpa using h1,h2⟩
def gh0(w:World):Gh:=⟨fun b=>if b<w.heap.size then .ro else .other,fun _=>w.heap.size,fun _=>w.heap.size,fun _ _=>w.heap.size⟩
theorem Uu(w:World):BM (gh0 w)=fun b=>b<w.heap.size:=by
 funext b;simp only[BM,gh0];split<;>simp_all
def Arg(P:Program)(t:TypeId){α:Type}(e:α→AV)(m:α→Nat)(Q:α→Prop):Prop :=
 ∀ (H:Type) (enc:TypeId × Value→H) (w:World) (base:Nat) (v:Value) (d:DataW H) (ps:List MemPlace),Value.okWide P w .any base t v→DataW.Trod enc P w 0 (fun _=>true) true t v d ps →
  ∃ a,Q a∧m a≤wgt d∧VR (gh0 w) w (e a) v
theorem aK{k:IntKind}(ht:P.underlying t=some (.int k)):Arg P t (fun n:Int=>.v (.int k n)) (fun _=>1) (fun n=>(Lit.int k n).wf=true):=by
 intro H enc w base v d ps hv hd;obtain⟨n,rfl⟩:=okWide_int ht hv;obtain⟨fuel,hf⟩:=hd;obtain⟨a,h,hm,hp⟩:=WI ht H enc w fuel _ _ hf;simp[PRl,PR,Value.cells]at hp;obtain⟨rfl,_⟩:=hp;exact⟨n,h,hm,by simp[VR]⟩
theorem Xp{el:TypeId}{α:Type}{e:α→List AV}{m:α→Nat}{Q:α→Prop}{n:Nat}(he:Cod P el e m Q)(ht:P.underlying t=some (.slice el))(hc:P.cellsOf el=n)(hn:0<n) :
 Arg P t (fun xs:List α=>.sl .no n (xs.map e)) (fun xs=>(xs.map m).sum+1) (fun xs=>∀ x∈xs,Q x):=by
 intro H enc w base v d ps hv hd;obtain⟨a,len,cap,rfl⟩:=okWide_slice ht hv;obtain⟨fuel,hf⟩:=hd;obtain⟨xs,h,hm,hp⟩:=XC he ht hc hn H enc w fuel _ _ hf;simp only[PRl,Value.cells]at hp;refine⟨xs,h,hm,?_⟩;simp only[VR,Uu];exact hp.1
theorem Arg.map{α β:Type}{e:α→AV}{e':β→AV}{m:α→Nat}{m':β→Nat}{Q:α→Prop}{Q':β→Prop}(h:Arg P t e m Q)(hf:∀ a,Q a→∃ b,Q' b∧m' b≤m a∧e' b=e a):Arg P t e' m' Q':=by
 intro H enc w base v d ps hv hd;obtain⟨a,q1,q2,q3⟩:=h H enc w base v d ps hv hd;obtain⟨b,h1,h2,h3⟩:=hf a q1;exact⟨b,h1,Nat.le_trans h2 q2,h3▸q3⟩
def Args(P:Program):List TypeId→{α:Type}→(α→List AV)→(α→Nat)→(α→Prop)→Prop
 | ts,α,e,m,Q=>∀ (H:Type) (enc:TypeId × Value→H) (w:World) (base:Nat) (vs:List Value) (ds:List (DataW H)) (ps:List MemPlace),
  (∀ (j:Nat) t v,ts[j]?=some t→vs[j]?=some v→Value.okWide P w .any base t v)→DataW.TrodAll enc P w 0 (fun _=>true) true ts vs ds ps →
  ∃ a:α,Q a∧m a≤TA ds∧VRs (gh0 w) w (e a) vs
theorem ME:Args P [] (fun _:Unit=>[]) (fun _=>0) (fun _=>True):=by
 intro H enc w base vs ds ps hv h;obtain⟨rfl,rfl,rfl⟩:=trodAll_nil h;exact⟨(),trivial,by simp,by simp[VRs]⟩
theorem Gm{ts:List TypeId}{α β:Type}{e:α→AV}{m:α→Nat}{Q:α→Prop}{e':β→List AV}{m':β→Nat}{Q':β→Prop}(h:Arg P t e m Q)(hs:Args P ts e' m' Q') :
 Args P (t::ts) (fun x:α × β=>e x.1::e' x.2) (fun x=>m x.1+m' x.2) (fun x=>Q x.1∧Q' x.2):=by
 intro H enc w base vs ds ps hv hd;obtain⟨v,vs,d,ds,p,q,rfl,rfl,rfl,h1,h2⟩:=trodAll_cons hd;obtain⟨a,a1,a2,a3⟩:=h H enc w base v d p (hv 0 t v rfl rfl) h1;obtain⟨b,b1,b2,b3⟩:=hs H enc w base vs ds q (fun j t v hj hjv=>hv (j+1) t v (by simpa using hj) (by simpa using hjv)) h2;exact⟨(a,b),⟨a1,b1⟩,by simp only[TA];omega,by simp only[VRs];exact⟨a3,b3⟩⟩
theorem L1{H:Type}{enc:TypeId × Value→H}(hl:laidOutB P=true){W W':World}{sp':Nat→Bool}:∀ {ts:List TypeId} {vs:List Value} {ds:List (DataW H)} {ps:List MemPlace},
 (∀ t∈ts,P.readableRec t=true∧t<P.types.size)→DataW.TrodAll enc P W 0 (fun _=>true) true ts vs ds ps→(∀ p∈ps,W.sameAt W' p)→(∀ p∈ps,sp' p.block=true)→DataW.TrodAll enc P W' 0 sp' true ts vs ds ps
 |[],vs,ds,ps,_,h,_,_=>by
  obtain⟨rfl,rfl,rfl⟩:=trodAll_nil h;exact trodAll_mk0
 | t::ts,vs,ds,ps,hr,h,hs,hsp=>by
  obtain⟨v,vs,d,ds,p,q,rfl,rfl,rfl,h1,h2⟩:=trodAll_cons h;exact⟨p,q,WideElems.Trod_stays hl (hr t (by simp)).1 (hr t (by simp)).2 h1 (fun x hx=>hs x (by simp[hx])) (fun x hx=>hsp x (by simp[hx])),
   L1 hl (fun t ht=>hr t (by simp[ht])) h2 (fun x hx=>hs x (by simp[hx])) (fun x hx=>hsp x (by simp[hx])),rfl⟩
theorem VF{H:Type}{enc:TypeId × Value→H}{f:Func}{s:ChangeSpec}{apart fresh handsOn again:Bool}{W W':World}{args:Array Value}{v:Value}{ds gs:List (DataW H)}{before pa pv:List MemPlace}
 (hW:DataW.Whole enc P f.params.toList s.vars apart W args.toList ds gs before)
 (hres:∀ (b:Nat) (sp:Nat→Bool) (hd:Bool),DataW.TrodAll enc P W' b sp hd f.resultTypes.toList (v.resultList f.resultTypes.size) (s.fn H (ds++gs)).results [])
 (hargs:∀ sp:Nat→Bool,(∀ p∈before,sp p.block=true)→DataW.TrodAll enc P W' 0 sp true f.params.toList args.toList (s.fn H (ds++gs)).args pa)
 (hvars:∀ sp:Nat→Bool,(∀ p∈before,sp p.block=true)→DataW.TrodVars enc P W' sp s.vars (s.fn H (ds++gs)).vars pv)
 (hps:before=pa++pv) (hb:Below W.heap.size W W')
 (hok:∀ (j:Nat) (t:TypeId) (r:Value),f.resultTypes[j]?=some t→(v.resultList f.resultTypes.size)[j]?=some r→Value.okWide P W' .any 0 t r) :
 s.post enc P f apart fresh handsOn again W args v W':=by
 have hlt:∀ p∈before,p.block<W.heap.size:=fun p hp=>hW.lt p hp
 have hold:∀ p∈before,(fun b=>decide (b<W.heap.size)) p.block=true:=fun p hp=>by simpa using hlt p hp
 refine⟨ds,gs,before,[],pa,pv,hW,hres _ _ _,hargs _ hold,hvars _ hold,World.keptBut_mono (fun p hp=>⟨hp,?_⟩) (hb.frame (·∈before)),fun _=>?_⟩
 ·rw[hps,List.mem_append]at hp;exact Or.inr hp
 ·obtain⟨_,_,_,_,_,hz,hn⟩:=hW;refine⟨hok,_,_,([]++pa)++pv,⟨[]++pa,pv,trodAll_append (hargs _ (fun _ _=>rfl)) (hres _ _ _),hvars _ (fun _ _=>rfl),rfl,?_,?_⟩,?_⟩
  ·intro b off hp;have hin:MemPlace.cell b off∈before:=by rw[hps];simpa using hp
   rw[hb.frozen (hlt _ hin)];exact hz b off hin
  ·intro ha;have:=hn ha;rw[hps]at this;simpa using this
  ·intro p hp _;rw[hps];simpa using hp
end Go.Abs
namespace Go.Abs
inductive OT where
 | done
 | pick(l:List (Nat × OT))
mutual
def okT(ops:Array Oper)(dn:List Nat):OT→Bool
 |.done=>(List.range ops.size).all fun i=>dn.contains i
 |.pick l=>(List.range ops.size).any (fun i=>!dn.contains i&&(BA ops i).all fun e=>dn.contains e)&&(List.range ops.size).all (fun i=>dn.contains i||!((BA ops i).all fun e=>dn.contains e)||(R1 l).contains i)&&bt ops dn l
def bt(ops:Array Oper)(dn:List Nat):List (Nat × OT)→Bool
 |[]=>true
 |(i,t)::l=>okT ops (i::dn) t&&bt ops dn l
def R1:List (Nat × OT)→List Nat
 |[]=>[]
 |(i,_)::l=>i::R1 l
end
def Mq(ops:Array Oper)(i:Nat):List Oper:=match ops[i]? with
 |some o=>[o]
 |none=>[]
mutual
def wpT(X:Env)(ops:Array Oper)(K:St→Prop):OT→St→Prop
 |.done=>K
 |.pick l=>YE X ops K l
def YE(X:Env)(ops:Array Oper)(K:St→Prop):List (Nat × OT)→St→Prop
 |[]=>fun _=>True
 |(i,t)::l=>fun st=>A9 X ops (Mq ops i) (wpT X ops K t) st∧YE X ops K l st
end
section
variable {X:Env} {A:A0} {N:Nat} {ops:Array Oper}
def Xk(N:Nat)(ops:Array Oper):Prop:=(∀ o∈ops,Ic N o=true)∧∀ i,i<ops.size→∀ e∈BA ops i,e<ops.size
theorem MW(h:Xk N ops){i:Nat}(e:Nat)(he:e∈BA ops i)(hi:i<ops.size):e<ops.size:=h.2 i hi e he
theorem Nk(hA:A.ext=X.ext)(hX:∀ s∈X.ext,s%64=63){Q:Exit→Act→World→Prop}{K:St→Prop}{K':Act→World→Prop}{i:Nat}{o:Oper}(ho:ops[i]?=some o)(hk:∀ g' st' a' w',R X.C A N g' st' a' w'→K st'→K' a' w')
 {g:Gh} {st:St} {a:Act} {w:World} (hd:Ic N o=true) (h:Hl X ops o K st) (hR:R X.C A N g st a w):wpOp X.C.P ops Q i K' a w:=by
 unfold wpOp;simp only[ho];unfold Hl at h;split at h
 ·rename_i hg;have:Region.wanted o (yielded ops a.tmps)=true:=by simp[Region.wanted,hg]
  simp only[this,if_true];exact .inl (Lg hA hX hd h hR hk)
 ·rename_i j b hg;split at h
  ·rename_i b' hb;have hy:=JG hR hb
   by_cases he:b'=b
   ·have:Region.wanted o (yielded ops a.tmps)=true:=by simp[Region.wanted,hg,hy,he]
    simp only[this,if_true];have h1:=h.1 he;subst he;rw[HY hb]at h1;exact .inl (Lg hA hX hd h1 hR hk)
   ·have:Region.wanted o (yielded ops a.tmps)=false:=by simp[Region.wanted,hg,hy,he]
    simp only[this,Bool.false_eq_true,if_false];have hd':∀ k,o.dst=some k→k<N:=fun k hk=>by simp[Ic,hk]at hd;exact hd
    have h1:=h.2 he;have hbb:(!b)=b':=by cases b<;>cases b'<;>first|rfl|exact absurd rfl he
    rw[hbb,HY hb]at h1;exact hk g _ _ w (hR.put hd' PG) h1
  ·rename_i hb;have hy:=N6 hR hb;have:Region.wanted o (yielded ops a.tmps)=false:=by simp[Region.wanted,hg,hy]
   simp only[this,Bool.false_eq_true,if_false];have hd':∀ k,o.dst=some k→k<N:=fun k hk=>by simp[Ic,hk]at hd;exact hd
   exact hk g _ _ w (hR.put hd' PG) h
  ·cases h
mutual
theorem L5(hA:A.ext=X.ext)(hX:∀ s∈X.ext,s%64=63)(hN:Xk N ops){Q:Exit→Act→World→Prop}{K:St→Prop}(hQ:∀ g st a w,R X.C A N g st a w→K st→Q .normal a w) :
 ∀ (t:OT) (fuel:Nat) (dn:List Nat) (Af:Array Bool) (g:Gh) (st:St) (a:Act) (w:World),Af.size=ops.size→unl Af≤fuel→(∀ j,j<ops.size→dOf Af j=dn.contains j)→okT ops dn t=true→wpT X ops K t st→R X.C A N g st a w →
  wpAny X.C.P .any ops Q fuel Af a w
 |.done,fuel,dn,Af,g,st,a,w,hs,hu,hd,hok,h,hR=>by
  simp only[okT,List.all_eq_true,List.mem_range]at hok;have h0:Region.ready .any ops Af=[]:=by
   cases hrd:Region.ready .any ops Af with
   | nil=>rfl
   | cons j l =>
    have hj:j∈Region.ready .any ops Af:=by rw[hrd];simp
    have:=(BE hs).1 hj;rw[hd j this.1,hok j this.1]at this;simp at this
  simp only[wpT]at h;cases fuel with
  | zero=>exact⟨h0,hQ g st a w hR h⟩
  | succ fuel=>exact⟨fun _=>hQ g st a w hR h,fun j hj=>by rw[h0]at hj;cases hj⟩
 |.pick l,fuel,dn,Af,g,st,a,w,hs,hu,hd,hok,h,hR=>by
  simp only[okT,Bool.and_eq_true,List.all_eq_true,List.any_eq_true,List.mem_range]at hok;obtain⟨⟨⟨i,hi,hi1,hi2⟩,hok1⟩,hok2⟩:=hok;simp only[wpT]at h;have hmem:i∈Region.ready .any ops Af:=(BE hs).2 ⟨hi,by rw[hd i hi];simpa using hi1,fun e he=>by
   have h4:=hi2 e he;have hlt:=MW hN e he hi;rw[hd e hlt];exact h4⟩
  have hkey:∀ j∈Region.ready .any ops Af,j∈R1 l:=fun j hj=>by
   obtain⟨h1,h2,h3⟩:=(BE hs).1 hj;have:=hok1 j h1;rw[hd j h1]at h2;rw[h2]at this;have he:(BA ops j).all (fun e=>dn.contains e)=true:=List.all_eq_true.2 fun e he=>by
    have h4:=h3 e he;have hlt:=MW hN e he h1;rw[hd e hlt]at h4;exact h4
   rw[he]at this;simpa using this
  cases fuel with
  | zero =>
   obtain⟨h1,h2,_⟩:=(BE hs).1 hmem;rw[G4 (by omega) (by omega:i<Af.size)]at h2;cases h2
  | succ fuel =>
   refine⟨fun h0=>(by rw[h0]at hmem;cases hmem),fun j hj=>?_⟩;obtain⟨h1,h2,_⟩:=(BE hs).1 hj;exact OD hA hX hN hQ l fuel dn Af g st a w hs (by have:=Hz (by omega:j<Af.size) h2;omega) hd hok2 h hR j h1 h2 (hkey j hj)
theorem OD(hA:A.ext=X.ext)(hX:∀ s∈X.ext,s%64=63)(hN:Xk N ops){Q:Exit→Act→World→Prop}{K:St→Prop}(hQ:∀ g st a w,R X.C A N g st a w→K st→Q .normal a w) :
 ∀ (l:List (Nat × OT)) (fuel:Nat) (dn:List Nat) (Af:Array Bool) (g:Gh) (st:St) (a:Act) (w:World),Af.size=ops.size→unl Af≤fuel+1→(∀ j,j<ops.size→dOf Af j=dn.contains j)→bt ops dn l=true→YE X ops K l st→R X.C A N g st a w →
  ∀ j,j<ops.size→dOf Af j=false→j∈R1 l→wpOp X.C.P ops Q j (wpAny X.C.P .any ops Q fuel (Af.setIfInBounds j true)) a w
 |[],_,_,_,_,_,_,_,_,_,_,_,_,_,j,_,_,hm=>by simp[R1]at hm
 |(i,t)::l,fuel,dn,Af,g,st,a,w,hs,hu,hd,hok,h,hR,j,hj,hnd,hm=>by
  simp only[bt,Bool.and_eq_true]at hok;simp only[YE]at h
  by_cases hij:j=i
  ·subst hij;have ho:ops[j]?=some ops[j]:=Array.getElem?_eq_getElem hj;have h1:=h.1;simp only[Mq,ho,A9]at h1;refine Nk hA hX ho (fun g' st' a' w' hR' hK'=>?_) (hN.1 _ (Array.getElem_mem hj)) h1 hR;refine L5 hA hX hN hQ t fuel (j::dn) _ g' st' a' w' (by simp[hs]) (by have:=Hz (by omega:j<Af.size) hnd;omega) (fun q hq=>?_) hok.1 hK' hR';rw[Em (by omega)];simp only[G7,List.contains_cons]
   by_cases hqj:q=j
   ·subst hqj;simp
   ·simp[hqj,hd q hq]
  ·refine OD hA hX hN hQ l fuel dn Af g st a w hs hu hd hok.2 h.2 hR j hj hnd ?_;simp only[R1,List.mem_cons]at hm;rcases hm with hm|hm
   ·exact absurd hm hij
   ·exact hm
end
end
def Lj(ops:Array Oper):Bool:=(List.range ops.size).all fun i=>(BA ops i).all fun e=>decide (e<ops.size)
theorem MU{X:Env}{ops:Array Oper}{K:St→Prop}{st:St}(t:OT)(hm:X.C.P.follows .mixedOrders=true)(hok:(Lj ops&&okT ops [] t)=true)
 (h:wpT X ops K t st):IX X ops K st:=by
 intro A N g a w hA hN hX hR id Q hQ;simp only[Bool.and_eq_true]at hok;refine wp_region_any hm ?_;refine L5 hA hX (N:=N) (K:=K) ⟨fun o ho=>?_,fun i hi e he=>?_⟩ hQ t ops.size [] (Array.replicate ops.size false) g st a _ (by simp) (by simp[unl]) (fun j hj=>by simp[dOf,Array.getD,hj]) hok.2 h hR.drew
 ·unfold Ic;cases hd:o.dst with
  |none=>rfl
  |some d=>simp;exact hN o ho d hd
 ·have:=hok.1;simp only[Lj,List.all_eq_true,List.mem_range,decide_eq_true_eq]at this;exact this i hi e he
@[go_sem] theorem fS(X:Env)(ops:Array Oper)(K:St→Prop)(st:St):wpT X ops K .done st=K st:=by simp only[wpT]
@[go_sem] theorem gy(X:Env)(ops:Array Oper)(K:St→Prop)(i:Nat)(t:OT)(st:St):wpT X ops K (.pick [(i,t)]) st=A9 X ops (Mq ops i) (wpT X ops K t) st:=by simp only[wpT,YE,and_true]
@[go_sem] theorem gz(X:Env)(ops:Array Oper)(K:St→Prop)(i j:Nat)(t t':OT)(l:List (Nat × OT))(st:St):wpT X ops K (.pick ((i,t)::(j,t')::l)) st=(A9 X ops (Mq ops i) (wpT X ops K t) st∧wpT X ops K (.pick ((j,t')::l)) st):=by simp only[wpT,YE]
attribute [go_sem] Mq
end Go.Abs
open Go Go.Abs
namespace Go.Rd
abbrev Bs:=List UInt8
def str(l:Bs):ByteArray:=⟨l.toArray⟩
theorem aM(bs:ByteArray):∀ (n i:Nat) (r:List UInt8),bs.size-i=n→ByteArray.toList.loop bs i r=r.reverse++bs.data.toList.drop i:=by
 intro n
 induction n with
 | zero =>
  intro i r h;rw[ByteArray.toList.loop];have hs:bs.size=bs.data.size:=rfl;rw[if_neg (by omega),List.drop_eq_nil_of_le (by simp;omega)];simp
 | succ n ih =>
  intro i r h;rw[ByteArray.toList.loop];have hs:bs.size=bs.data.size:=rfl;rw[if_pos (by omega),ih (i+1) _ (by omega)];rw[List.drop_eq_getElem_cons (l:=bs.data.toList) (i:=i) (by simp;omega)];have:bs.get! i=bs.data.toList[i]'(by simp;omega):=by
   show bs.data[i]! = _;rw[getElem!_pos bs.data i (by omega)];simp
  simp[this]
theorem Ry(l:List UInt8):(⟨l.toArray⟩:ByteArray).toList=l:=by
 unfold ByteArray.toList;rw[aM _ _ 0 [] rfl];simp
theorem aj(l:Bs):(str l).size=l.length:=rfl
theorem QZ(l:Bs):(str l).toList=l:=Ry l
structure Ae where
 site:Int
 inc:Int
 num:Int
 deriving DecidableEq
structure Amt where
 mode:Int
 AA:Int
 deriving DecidableEq
structure AO where
 proc:Ae
 amt:Amt
 deriving DecidableEq
structure AS where
 proc:Ae
 amt:Amt
 prio:Int
 Df:Int
 deriving DecidableEq
structure Res where
 name:Bs
 kind:Int
 AA:Int
 home:Int
 deriving DecidableEq
structure Queue where
 res:Res
 holds:List AO
 An:List AS
 waits:List AS
 gen:Int
 deriving DecidableEq
structure Atom where
 name:Bs
 amt:Amt
 deriving DecidableEq
inductive Expr where
 | mk(k:Int)(atom:Atom)(kids:List Expr)
structure Need where
 proc:Ae
 expr:Expr
 gen:Int
structure WS where
 Aa:List Queue
 Ao:List Need
def Ae.c(p:Ae):List AV:=[.v (.int .i64 p.site),.v (.int .i64 p.inc),.v (.int .i64 p.num)]
def Amt.c(a:Amt):List AV:=[.v (.int .i64 a.mode),.v (.int .i64 a.AA)]
def AO.c(h:AO):List AV:=[.v (.int .i64 h.proc.site),.v (.int .i64 h.proc.inc),.v (.int .i64 h.proc.num),.v (.int .i64 h.amt.mode),.v (.int .i64 h.amt.AA)]
def AS.c(h:AS):List AV:=[.v (.int .i64 h.proc.site),.v (.int .i64 h.proc.inc),.v (.int .i64 h.proc.num),.v (.int .i64 h.amt.mode),.v (.int .i64 h.amt.AA),.v (.int .i64 h.prio),.v (.int .i64 h.Df)]
def Res.c(r:Res):List AV:=[.v (.string (str r.name)),.v (.int .i64 r.kind),.v (.int .i64 r.AA),.v (.int .i64 r.home)]
@[reducible] def AH(l:List AO):AV:=.sl .no 5 (l.map AO.c)
@[reducible] def A7(l:List AS):AV:=.sl .no 7 (l.map AS.c)
@[reducible] def Ax(l:List Ae):AV:=.sl .no 3 (l.map Ae.c)
@[reducible] def OE(l:List Amt):AV:=.sl .no 2 (l.map Amt.c)
def Queue.c(q:Queue):List AV:=[.v (.string (str q.res.name)),.v (.int .i64 q.res.kind),.v (.int .i64 q.res.AA),.v (.int .i64 q.res.home),AH q.holds,A7 q.An,A7 q.waits,.v (.int .i64 q.gen)]
@[reducible] def Ay(l:List Queue):AV:=.sl .no 8 (l.map Queue.c)
def Atom.c(a:Atom):List AV:=[.v (.string (str a.name)),.v (.int .i64 a.amt.mode),.v (.int .i64 a.amt.AA)]
@[reducible] def Bv(l:List Atom):AV:=.sl .no 3 (l.map Atom.c)
def Expr.k:Expr→Int
 |.mk k _ _=>k
def Expr.atom:Expr→Atom
 |.mk _ a _=>a
def Expr.kids:Expr→List Expr
 |.mk _ _ l=>l
mutual
def Expr.W1:List Expr→List (List AV)
 |[]=>[]
 | e::l=>Expr.c e::Expr.W1 l
def Expr.c:Expr→List AV
 |.mk k a l=>[.v (.int .i64 k),.v (.string (str a.name)),.v (.int .i64 a.amt.mode),.v (.int .i64 a.amt.AA),.sl .no 5 (Expr.W1 l)]
end
theorem R3:∀ l,Expr.W1 l=l.map Expr.c
 |[]=>rfl
 | e::l=>by simp[Expr.W1,R3 l]
@[reducible] def EJ(l:List Expr):AV:=.sl .no 5 (l.map Expr.c)
theorem Expr.By(e:Expr):e.c=[.v (.int .i64 e.k),.v (.string (str e.atom.name)),.v (.int .i64 e.atom.amt.mode),.v (.int .i64 e.atom.amt.AA),EJ e.kids]:=by
 cases e with
 | mk k a l=>simp[Expr.c,Expr.k,Expr.atom,Expr.kids,R3]
def Need.c(n:Need):List AV:=[.v (.int .i64 n.proc.site),.v (.int .i64 n.proc.inc),.v (.int .i64 n.proc.num),.v (.int .i64 n.expr.k),.v (.string (str n.expr.atom.name)),.v (.int .i64 n.expr.atom.amt.mode),.v (.int .i64 n.expr.atom.amt.AA),EJ n.expr.kids,.v (.int .i64 n.gen)]
@[reducible] def DU(l:List Need):AV:=.sl .no 9 (l.map Need.c)
def WS.c(s:WS):List AV:=[Ay s.Aa,DU s.Ao]
attribute [go_sem] Ae.c Amt.c AO.c AS.c Res.c Queue.c Atom.c Expr.By Need.c WS.c aj QZ Ry
@[go_sem] theorem gH(k:IntKind)(n:Int):(Value.int k n).oneCell'=true:=rfl
@[go_sem] theorem gh(b:Bool):(Value.bool b).oneCell'=true:=rfl
@[go_sem] theorem gJ(s:ByteArray):(Value.string s).oneCell'=true:=rfl
@[go_sem] theorem il(a:Option Addr)(n m:Nat):(Value.slice a n m).oneCell'=true:=rfl
@[reducible] def I(n:Int):AV:=.v (.int .i64 n)
@[reducible] def B(b:Bool):AV:=.v (.bool b)
end Go.Rd
namespace Go.Abs
mutual
def lens:AV→Prop
 |.sl _ _ es=>es.length≤9223372036854775807
 |.agg cs=>D9 cs
 |_=>True
def D9:List AV→Prop
 |[]=>True
 | c::cs=>lens c∧D9 cs
end
mutual
theorem VR.lens{g:Gh}{w:World}:∀ (x:AV) (u:Value),VR g w x u→lens x
 |.sl (.own r lo) n es,u,h=>by
  simp only[VR,Cq]at h;simp only[Abs.lens];rcases h.2 with ⟨_,h2⟩|⟨_,h2,_⟩|⟨cap,cur,T,_,h2,h3,_⟩
  ·subst h2;simp
  ·subst h2;simp
  ·simp only[maxLen]at h3;omega
 |.sl .no n es,u,h=>by
  simp only[VR,PR]at h;simp only[Abs.lens];obtain⟨_,a,cap,_,h2,h3,_⟩:=h;simp only[maxLen]at h3;omega
 |.sl .full n es,u,h=>by
  simp only[VR,PR]at h;simp only[Abs.lens];obtain⟨_,a,cap,_,h2,h3,_⟩:=h;simp only[maxLen]at h3;omega
 |.agg cs,u,h=>by
  simp only[VR]at h;simp only[Abs.lens];obtain⟨us,_,h⟩:=h;exact VRs.lens cs us.toList h
 |.undef,_,_=>by simp[Abs.lens]
 |.v _,_,_=>by simp[Abs.lens]
 |.tup _,_,_=>by simp[Abs.lens]
 |.ptr _ _,_,_=>by simp[Abs.lens]
 |.ep _ _ _ _,_,_=>by simp[Abs.lens]
 |.fn _ _,_,_=>by simp[Abs.lens]
 |.mv _ _,_,_=>by simp[Abs.lens]
 |.mp _,_,_=>by simp[Abs.lens]
 |.ifc _ _,_,_=>by simp[Abs.lens]
 |.hnd _ _ _ _ _ _ _,_,_=>by simp[Abs.lens]
 |.mem _ _,_,_=>by simp[Abs.lens]
theorem VRs.lens{g:Gh}{w:World}:∀ (xs:List AV) (us:List Value),VRs g w xs us→D9 xs
 |[],_,_=>by simp[Abs.D9]
 | c::cs,[],h=>by simp[VRs]at h
 | c::cs,u::us,h=>by
  simp only[VRs]at h;simp only[Abs.D9];exact⟨VR.lens c u h.1,VRs.lens cs us h.2⟩
end
theorem Ad.assume{C:Ctx}{f:Nat}{fn:Func}{c:Code}{xs:List AV}{o o':List (Nat × List AV)}{y:AV}(hf:C.P.funcs[f]?=some fn)(hname:(fn.name=="runtime.NumGoroutine")=false)(hb:fn.body=some c)
 (h:D9 xs→Ad C f xs o y o'):Ad C f xs o y o' :=
 ⟨⟨fn,c,hf,hname,hb⟩,fun g w us hg hv ho=>(h (VRs.lens xs us hv)).2 g w us hg hv ho⟩
end Go.Abs
namespace Go.Abs
theorem Ad.go{C:Ctx}{f:Nat}{xs:List AV}{o o':List (Nat × List AV)}{y:AV}(fn:Func)(h:wpA ⟨C,names o,[]⟩ (fn.body.getD .skip) (Rp ⟨C,names o,[]⟩ fn.results.toList y o') ⟨Pe 0 xs,o⟩)
 (hf:C.P.funcs[f]?=some fn:=by kernel_rfl) (hname:(fn.name=="runtime.NumGoroutine")=false:=by kernel_rfl) (hb:fn.body=some (fn.body.getD .skip):=by kernel_rfl)
 (hok:E1 fn.ntmps (fn.body.getD .skip)=true:=by kernel_rfl) (hargs:Nat.ble xs.length fn.ntmps=true:=by kernel_rfl) (hext:∀ s∈names o,s%64=63:=by simp[names]):Ad C f xs o y o' :=
 Ad.intro hf hname hb hok (Nat.le_of_ble_eq_true hargs) hext h
theorem FnP.go{C:Ctx}{f:Nat}{xs:List AV}{o:List (Nat × List AV)}{S:AV→List (Nat × List AV)→Prop}(fn:Func)(h:wpA ⟨C,names o,[]⟩ (fn.body.getD .skip) (de ⟨C,names o,[]⟩ fn.results.toList S) ⟨Pe 0 xs,o⟩)
 (hf:C.P.funcs[f]?=some fn:=by kernel_rfl) (hname:(fn.name=="runtime.NumGoroutine")=false:=by kernel_rfl) (hb:fn.body=some (fn.body.getD .skip):=by kernel_rfl)
 (hok:E1 fn.ntmps (fn.body.getD .skip)=true:=by kernel_rfl) (hargs:Nat.ble xs.length fn.ntmps=true:=by kernel_rfl) (hext:∀ s∈names o,s%64=63:=by simp[names]):FnP C f xs o S :=
 FnP.intro hf hname hb hok (Nat.le_of_ble_eq_true hargs) hext h
theorem Ad.lens{C:Ctx}{f:Nat}{xs:List AV}{o o':List (Nat × List AV)}{y:AV}(fn:Func)(h:D9 xs→Ad C f xs o y o')
 (hf:C.P.funcs[f]?=some fn:=by kernel_rfl) (hname:(fn.name=="runtime.NumGoroutine")=false:=by kernel_rfl) (hb:fn.body=some (fn.body.getD .skip):=by kernel_rfl):Ad C f xs o y o' :=
 Ad.assume hf hname hb h
section
variable {X:Env} {d:Option Nat} {fid:Nat} {xs xs':List AV} {K:St→Prop} {st st':St} {y y':AV} {ob ob':List (Nat × List AV)}
theorem Cf{rs:List ResultVar}(ρ:Rn)(xs:List AV)(h4:BW ((pack xs).ren ρ) y)(h1:C6 X.C st rs=some xs:=by(try simp(disch:=omega)only[go_sem,C6,IJ])<;>rfl)(h2:ρ.OK:=by exact⟨rfl,rfl⟩)(h3:∀ s∈X.ext,lk s ρ.m=some s:=by simp):Rp X rs y [] .ret st :=
 Bc ρ xs h1 h2 h3 h4 trivial
theorem B8{rs:List ResultVar}(xs:List AV)(h4:BW ((pack xs).ren ⟨[],[],[]⟩) y)(h1:C6 X.C st rs=some xs:=by(try simp(disch:=omega)only[go_sem,C6,IJ])<;>rfl)(h3:∀ s∈X.ext,lk s []=some s:=by simp):Rp X rs y [] .ret st :=
 Bc ⟨[],[],[]⟩ xs h1 ⟨rfl,rfl⟩ h3 h4 trivial
theorem Ci{rs:List ResultVar}(ρ:Rn)(xs:List AV)(h4:BW ((pack xs).ren ρ) y)(h5:FR (K5 ρ st) ob')(h1:C6 X.C st rs=some xs:=by(try simp(disch:=omega)only[go_sem,C6,IJ])<;>rfl)(h2:ρ.OK:=by exact⟨rfl,rfl⟩)(h3:∀ s∈X.ext,lk s ρ.m=some s:=by simp[lk,names]):Rp X rs y ob' .ret st :=
 Bc ρ xs h1 h2 h3 h4 h5
theorem Ac(hok:Ad X.C fid xs' [] y [])(hk:K (st.put d y'))(hx:Aj (EY ⟨[],[],[]⟩ xs) xs':=by simp(disch:=omega)only[go_sem])(hy:y.ren ⟨[],[],[]⟩=y':=by rfl):AY X d fid xs K st :=
 Ai hok hx hy hk
theorem Ar{Al:List (Nat × List AV)}{p:List Nat}{i:Nat}{cr:List (Nat × List Nat × List Nat)}{K:List (Nat × List Nat × List Nat)→St→Prop}(hok:Ad X.C fid xs' [] y [])
 (h:KB (rngs (Way.back ⟨⟨[],[],[]⟩,[],[]⟩).l) (rngs []) st.tmps∧Ft (rngs (Way.back ⟨⟨[],[],[]⟩,[],[]⟩).l) (rngs []) st.Al∧away cr p ⟨y.ren (Way.back ⟨⟨[],[],[]⟩,[],[]⟩),rngs (Way.back ⟨⟨[],[],[]⟩,[],[]⟩).l,rngs [],Ee (Way.back ⟨⟨[],[],[]⟩,[],[]⟩) []⟩ ∧
  K (G8 i ⟨y.ren (Way.back ⟨⟨[],[],[]⟩,[],[]⟩),rngs (Way.back ⟨⟨[],[],[]⟩,[],[]⟩).l,rngs [],Ee (Way.back ⟨⟨[],[],[]⟩,[],[]⟩) []⟩ cr) ⟨(St.put d (y.ren (Way.back ⟨⟨[],[],[]⟩,[],[]⟩)) st).tmps,Ee (Way.back ⟨⟨[],[],[]⟩,[],[]⟩) []++st.Al⟩)
 (hx:Aj (EY ⟨[],[],[]⟩ xs) xs':=by simp(disch:=omega)only[go_sem]):AW X d fid xs Al p i cr K st :=
 Aw ⟨⟨[],[],[]⟩,[],[]⟩ hok hx rfl rfl trivial (.inl rfl) h
theorem AR(ht:IS st st'.tmps:=by simp(disch:=omega)only[go_sem])(ho:FR st st'.Al:=by simp(disch:=omega)only[go_sem]):Imp X st st':=Imp.Am ht ho
theorem call2(v:Way)(hok:Ad X.C fid xs' ob y ob')(hk:K ((st.app (rngs v.back.l) (rngs v.fm) (rngs v.back.m) (Ee v.back ob')).put d (y.ren v.back)))
 (hx:Aj (EY v.ρ xs) xs':=by simp(disch:=omega)only[go_sem]) (hh:TD v st ob:=by simp(disch:=omega)only[go_sem]) (hv:G5 v ob=true:=by rfl) (hfl:v.ρ.bs=[]∨(Flat (y.ren v.back)∧Ie (Ee v.back ob')):=by exact .inl rfl):AY X d fid xs K st :=
 Bn v hok hx hv hh hfl hk
end
def ao:List (List Nat × List Nat)→List (List Nat × List Nat)→Bool
 |[],_=>true
 |_::_,[]=>false
 |(p,ts)::t,(q,us)::u=>p.all (fun j=>q.contains j)&&ts==us&&ao t u
def eN(ops:Array Oper)(t l:List (List Nat × List Nat))(i:Nat):List (List Nat × List Nat):=l++[((List.range i).filter (fun j=>(BA ops i).any fun e=>j==e||(Dx l e).contains j),(t.getD i ([],[])).2)]
def Zc(ops:Array Oper)(t:List (List Nat × List Nat)):Nat→List (List Nat × List Nat)
 | 0=>[]
 | i+1=>eN ops t (Zc ops t i) i
theorem MH{p q:List Nat}(h:∀ j∈p,j∈q){r:Res}:∀ {cr:List (Nat × List Nat × List Nat)},away cr p r→away cr q r
 |[],_=>trivial
 |(i,S,T)::l,ha=>⟨ha.1.imp (h i) id,MH h ha.2⟩
theorem Lr{X:Env}{all:Array Oper}{Al:List (Nat × List AV)}{K:St→Prop}:∀ (os:List Oper) (t u:List (List Nat × List Nat)) (i:Nat) (cr:List (Nat × List Nat × List Nat)) (st:St),ao t u=true→E4 X all Al os t i cr K st→E4 X all Al os u i cr K st
 |[],_,_,_,_,_,_,h=>by simpa [E4]using h
 |_::_,[],_,_,_,_,_,h=>by simp[E4]at h
 |_::_,_::_,[],_,_,_,hs,_=>by simp[ao]at hs
 | o::os,(p,ts)::t,(q,us)::u,i,cr,st,hs,h=>by
  simp only[ao,Bool.and_eq_true,List.all_eq_true,beq_iff_eq]at hs;obtain⟨⟨h1,rfl⟩,h2⟩:=hs;have hpq:∀ j∈p,j∈q:=fun j hj=>by simpa using h1 j hj
  have run:∀ st:St,(JF X o ⟨restr st ts,Al⟩ st p cr fun e=>o.dst.isSome=true∧E4 X all Al os t (i+1) (G8 i e cr) K ⟨(St.put o.dst e.x st).tmps,e.FL++st.Al⟩)→JF X o ⟨restr st ts,Al⟩ st q cr fun e=>o.dst.isSome=true∧E4 X all Al os u (i+1) (G8 i e cr) K ⟨(St.put o.dst e.x st).tmps,e.FL++st.Al⟩:=fun st h=>by
   obtain⟨e,a,b,c,d,f,g,k⟩:=h;exact⟨e,a,b,c,d,f,MH hpq g,k.1,Lr os t u _ _ _ h2 k.2⟩
  simp only[E4]at h ⊢;split at h
  ·exact run st h
  ·split at h
   ·exact⟨fun he=>run _ (h.1 he),fun he=>⟨(h.2 he).1,MH hpq (h.2 he).2.1,Lr os t u _ _ _ h2 (h.2 he).2.2⟩⟩
   ·exact⟨h.1,MH hpq h.2.1,Lr os t u _ _ _ h2 h.2.2⟩
   ·exact h.elim
theorem Aq{X:Env}{ops:List Oper}{K:St→Prop}{st:St}(k:Nat)(t:List (List Nat × List Nat))(hm:X.C.P.follows .mixedOrders=true)(h:A8 X ops.toArray st.Al (ops.take k) t 0 (A9 X ops.toArray (ops.drop k) K) [] st)
 (hok:(ao t (Zc ops.toArray t ops.length)&&Sq ops.toArray k (Zc ops.toArray t ops.length))=true:=by kernel_rfl):IX X ops.toArray K st:=by
 rw[Bool.and_eq_true]at hok;exact VV k _ hm hok.2 (by simpa using Lr _ _ _ _ _ _ hok.1 (GS _ _ _ _ _ h))
theorem gI{p:Prop}(h:p:=by simp(disch:=omega)only[go_sem]):p:=h
theorem gO{p q:Prop}(h:q)(e:p=q:=by conv=>lhs;simp(disch:=omega)only[go_sem]):p:=e▸h
section
variable {X:Env} {st st':St} {y:AV} {rs:List ResultVar}
theorem AE(xs:List AV)(h1:C6 X.C st rs=some xs:=by(try simp(disch:=omega)only[go_sem,C6,IJ])<;>rfl)(h4:BW ((pack xs).ren ⟨[],[],[]⟩) y:=by simp(disch:=omega)only[go_sem])(h3:∀ s∈X.ext,lk s []=some s:=by simp):Rp X rs y [] .ret st:=B8 xs h4 h1 h3
theorem Ap(xs:List AV){q:Prop}(h4:q)(h1:C6 X.C st rs=some xs:=by(try simp(disch:=omega)only[go_sem,C6,IJ])<;>rfl)(e:BW ((pack xs).ren ⟨[],[],[]⟩) y=q:=by conv=>lhs;simp(disch:=omega)only[go_sem])(h3:∀ s∈X.ext,lk s []=some s:=by simp):Rp X rs y [] .ret st:=B8 xs (e▸h4) h1 h3
theorem EL(xs:List AV)(h1:C6 X.C st rs=some xs:=by(try simp(disch:=omega)only[go_sem,C6,IJ])<;>rfl) (h4:BW ((pack xs).ren ⟨[],[],[]⟩) y:=by
 refine gO ?_;refine .tup (Aj.AM ?_);simp(disch:=omega)only[go_sem]
 repeat'(with_reducible apply And.intro)
 all_goals(first|exact .Az (by omega)|exact .agg (Aj.AM (by simp(disch:=omega)only[go_sem])))) (h3:∀ s∈X.ext,lk s []=some s:=by simp):Rp X rs y [] .ret st:=B8 xs h4 h1 h3
theorem BB (h:IS st st'.tmps∧FR st st'.Al:=by
 refine⟨?_,?_⟩
 all_goals(try simp(disch:=omega)only[go_sem])
 all_goals(try(repeat'(with_reducible apply And.intro)))
 all_goals(first|exact .AG (by omega)|exact .Az (by omega)|exact .sl (by simp[])|exact .int (by simp[])|exact .eq (by simp[]))):Imp X st st':=Imp.Am h.1 h.2
end
theorem gm{α β:Type}(f:α→β)(l:List α)(i:Nat):(l.map f)[i]?=l[i]?.map f:=List.getElem?_map
theorem gE{α:Type}{l:List α}{i:Nat}(h:i<l.length):l[i]?=some l[i]:=List.getElem?_eq_getElem h
theorem mG{α:Type}{l:List α}{i:Nat}{a:α}(h:l[i]?=some a):a∈l:=List.mem_of_getElem? h
theorem kR{p:Prop}(h:p:=by kernel_rfl):p:=h
end Go.Abs
open Go Go.Abs Go.Proofs
set_option maxRecDepth 100000
namespace Go.Rd
set_option maxHeartbeats 8000000
open Tryz
attribute [go_sem] if_pos wrap64 Int.natCast_add
theorem fol:prog.follows .mixedOrders=true:=kR
@[go_sem] theorem F.sz1:BJ prog 1=some 1∧AZ prog 1=some false∧zeroOf prog 1=some [.nilFunc]:=⟨kR,kR,kR⟩
@[go_sem] theorem F.sz3:BJ prog 3=some 1∧AZ prog 3=some false∧zeroOf prog 3=some [.int .i64 0]∧Us prog 3=some .i64∧AI prog 3=false:=⟨kR,kR,kR,kR,kR⟩
@[go_sem] theorem F.i63:WZ prog 3=true:=kR
@[go_sem] theorem F.sz4:BJ prog 4=some 1∧AZ prog 4=some false∧zeroOf prog 4=some [.bool false]:=⟨kR,kR,kR⟩
@[go_sem] theorem F.sz9:BJ prog 9=some 1∧AZ prog 9=some false∧zeroOf prog 9=some [.string (str [])]∧JW prog 9=true:=⟨kR,kR,kR,kR⟩
@[go_sem] theorem F.iO:BJ prog 22=some 1∧AZ prog 22=some false∧Au prog 22=some (3,1)∧Bg prog 22=some (3,1,8)∧AI prog 22=true:=⟨kR,kR,kR,kR,kR⟩
@[go_sem] theorem F.iP:BJ prog 25=some 1∧AZ prog 25=some false∧Au prog 25=some (102,8)∧Bg prog 25=some (102,8,120)∧AI prog 25=true:=⟨kR,kR,kR,kR,kR⟩
@[go_sem] theorem F.iQ:BJ prog 26=some 1∧AZ prog 26=some false∧Au prog 26=some (110,9)∧Bg prog 26=some (110,9,96)∧AI prog 26=true:=⟨kR,kR,kR,kR,kR⟩
@[go_sem] theorem F.iR:BJ prog 28=some 2∧AZ prog 28=some true∧zeroOf prog 28=some [.slice none 0 0,.slice none 0 0]∧sized prog 28=true∧A1 prog 28 0=some 0∧placeOf prog 28 0=some (0,1)∧A1 prog 28 1=some 1∧placeOf prog 28 1=some (1,1):=⟨kR,kR,kR,kR,kR,kR,kR,kR⟩
@[go_sem] theorem F.iS:BJ prog 31=some 1∧AZ prog 31=some false∧Au prog 31=some (38,3)∧Bg prog 31=some (38,3,24)∧AI prog 31=true:=⟨kR,kR,kR,kR,kR⟩
@[go_sem] theorem F.gS:BJ prog 38=some 3:=kR
@[go_sem] theorem F.gA:AZ prog 38=some true:=kR
@[go_sem] theorem F.jl:zeroOf prog 38=some [.int .i64 0,.int .i64 0,.int .i64 0]∧sized prog 38=true∧A1 prog 38 0=some 0∧placeOf prog 38 0=some (0,1)∧A1 prog 38 1=some 1∧placeOf prog 38 1=some (1,1)∧A1 prog 38 2=some 2∧placeOf prog 38 2=some (2,1)∧structEq prog 38=some [1,1,1]:=⟨kR,kR,kR,kR,kR,kR,kR,kR,kR⟩
@[go_sem] theorem F.iT:BJ prog 42=some 1∧AZ prog 42=some false∧Au prog 42=some (62,16)∧Bg prog 42=some (62,16,184)∧AI prog 42=true:=⟨kR,kR,kR,kR,kR⟩
@[go_sem] theorem F.iU:BJ prog 44=some 3∧AZ prog 44=some true∧zeroOf prog 44=some [.int .i64 0,.slice none 0 0,.slice none 0 0]∧sized prog 44=true∧A1 prog 44 0=some 0∧A1 prog 44 1=some 1∧placeOf prog 44 1=some (1,1)∧A1 prog 44 2=some 2:=⟨kR,kR,kR,kR,kR,kR,kR,kR⟩
@[go_sem] theorem F.iV:BJ prog 48=some 1∧AZ prog 48=some false∧Au prog 48=some (239,5)∧Bg prog 48=some (239,5,48)∧AI prog 48=true:=⟨kR,kR,kR,kR,kR⟩
@[go_sem] theorem F.iW:BJ prog 49=some 1∧AZ prog 49=some false∧Au prog 49=some (245,2)∧Bg prog 49=some (245,2,16)∧AI prog 49=true:=⟨kR,kR,kR,kR,kR⟩
@[go_sem] theorem F.iX:BJ prog 51=some 2∧AZ prog 51=some true∧zeroOf prog 51=some [.slice none 0 0,.slice none 0 0]∧sized prog 51=true∧A1 prog 51 0=some 0∧placeOf prog 51 0=some (0,1)∧A1 prog 51 1=some 1∧placeOf prog 51 1=some (1,1):=⟨kR,kR,kR,kR,kR,kR,kR,kR⟩
@[go_sem] theorem F.iY:BJ prog 53=some 2∧AZ prog 53=some true∧zeroOf prog 53=some [.int .i64 0,.int .i64 0]∧sized prog 53=true∧A1 prog 53 0=some 0∧placeOf prog 53 0=some (0,1)∧A1 prog 53 1=some 1∧placeOf prog 53 1=some (1,1)∧structEq prog 53=some [1,1]:=⟨kR,kR,kR,kR,kR,kR,kR,kR,kR⟩
@[go_sem] theorem F.iZ:BJ prog 55=some 3∧AZ prog 55=some true∧zeroOf prog 55=some [.string (str []),.int .i64 0,.int .i64 0]∧sized prog 55=true∧A1 prog 55 0=some 0∧placeOf prog 55 0=some (0,1)∧A1 prog 55 1=some 1∧placeOf prog 55 1=some (1,2)∧structEq prog 55=some [2,1,1]:=⟨kR,kR,kR,kR,kR,kR,kR,kR,kR⟩
@[go_sem] theorem F.ja:BJ prog 56=some 1∧AZ prog 56=some false∧Au prog 56=some (58,5)∧Bg prog 56=some (58,5,64)∧AI prog 56=true:=⟨kR,kR,kR,kR,kR⟩
@[go_sem] theorem F.jb:BJ prog 58=some 5∧AZ prog 58=some true∧zeroOf prog 58=some [.int .i64 0,.string (str []),.int .i64 0,.int .i64 0,.slice none 0 0]∧sized prog 58=true∧A1 prog 58 0=some 0∧placeOf prog 58 0=some (0,1)∧A1 prog 58 1=some 1∧placeOf prog 58 1=some (1,3)∧A1 prog 58 2=some 4:=⟨kR,kR,kR,kR,kR,kR,kR,kR,kR⟩
@[go_sem] theorem F.jc:BJ prog 60=some 7∧AZ prog 60=some true∧zeroOf prog 60=some [.int .i64 0,.string (str []),.int .i64 0,.int .i64 0,.slice none 0 0,.int .i64 0,.int .i64 0]∧sized prog 60=true∧A1 prog 60 0=some 0∧A1 prog 60 1=some 5∧placeOf prog 60 1=some (5,1)∧A1 prog 60 2=some 6:=⟨kR,kR,kR,kR,kR,kR,kR,kR⟩
@[go_sem] theorem F.jd:BJ prog 62=some 16∧AZ prog 62=some true∧zeroOf prog 62=some [.int .i64 0,.int .i64 0,.int .i64 0,.int .i64 0,.slice none 0 0,.slice none 0 0,.bool false,.int .i64 0,.string (str []),.int .i64 0,.int .i64 0,.slice none 0 0,.int .i64 0,.int .i64 0,.int .i64 0,.int .i64 0]∧sized prog 62=true∧A1 prog 62 0=some 0∧placeOf prog 62 0=some (0,3)∧A1 prog 62 1=some 3∧placeOf prog 62 1=some (3,1)∧A1 prog 62 2=some 4∧A1 prog 62 3=some 6∧A1 prog 62 4=some 7∧A1 prog 62 5=some 14:=⟨kR,kR,kR,kR,kR,kR,kR,kR,kR,kR,kR,kR⟩
@[go_sem] theorem F.gK:A1 prog 62 6=some 15:=kR
@[go_sem] theorem F.jf:BJ prog 67=some 1∧AZ prog 67=some false∧Bg prog 67=some (289,7,64)∧AI prog 67=true:=⟨kR,kR,kR,kR⟩
@[go_sem] theorem F.jg:BJ prog 71=some 13∧AZ prog 71=some true∧zeroOf prog 71=some [.int .i64 0,.int .i64 0,.int .i64 0,.int .i64 0,.int .i64 0,.string (str []),.int .i64 0,.int .i64 0,.slice none 0 0,.int .i64 0,.int .i64 0,.string (str []),.int .i64 0]∧sized prog 71=true∧A1 prog 71 0=some 0∧placeOf prog 71 0=some (0,1)∧A1 prog 71 1=some 1∧placeOf prog 71 1=some (1,3)∧A1 prog 71 2=some 4∧A1 prog 71 3=some 11∧A1 prog 71 4=some 12∧placeOf prog 71 4=some (12,1):=⟨kR,kR,kR,kR,kR,kR,kR,kR,kR,kR,kR,kR⟩
@[go_sem] theorem F.iL:AZ prog 81=some true∧zeroOf prog 81=some [.slice none 0 0,.int .i64 0]∧sized prog 81=true∧A1 prog 81 0=some 0∧placeOf prog 81 0=some (0,1)∧A1 prog 81 1=some 1:=⟨kR,kR,kR,kR,kR,kR⟩
@[go_sem] theorem F.jh:BJ prog 86=some 1∧AZ prog 86=some false∧Au prog 86=some (107,6)∧Bg prog 86=some (107,6,72)∧AI prog 86=true:=⟨kR,kR,kR,kR,kR⟩
@[go_sem] theorem F.ji:BJ prog 88=some 4∧AZ prog 88=some true∧zeroOf prog 88=some [.slice none 0 0,.slice none 0 0,.slice none 0 0,.slice none 0 0]∧sized prog 88=true∧A1 prog 88 0=some 0∧placeOf prog 88 0=some (0,2)∧A1 prog 88 1=some 2∧placeOf prog 88 1=some (2,1)∧A1 prog 88 2=some 3:=⟨kR,kR,kR,kR,kR,kR,kR,kR,kR⟩
@[go_sem] theorem F.iM:Au prog 96=some (98,4)∧Bg prog 96=some (98,4,40)∧AI prog 96=true:=⟨kR,kR,kR⟩
@[go_sem] theorem F.jj:BJ prog 98=some 4∧AZ prog 98=some true∧zeroOf prog 98=some [.string (str []),.int .i64 0,.int .i64 0,.int .i64 0]∧sized prog 98=true∧A1 prog 98 0=some 0∧placeOf prog 98 0=some (0,1)∧A1 prog 98 1=some 1∧placeOf prog 98 1=some (1,1)∧A1 prog 98 2=some 2∧placeOf prog 98 2=some (2,1)∧A1 prog 98 3=some 3∧placeOf prog 98 3=some (3,1):=⟨kR,kR,kR,kR,kR,kR,kR,kR,kR,kR,kR,kR⟩
@[go_sem] theorem F.iN:structEq prog 98=some [2,1,1,1]:=kR
@[go_sem] theorem F.jk:BJ prog 99=some 1∧AZ prog 99=some false∧Au prog 99=some (178,5)∧Bg prog 99=some (178,5,40)∧AI prog 99=true:=⟨kR,kR,kR,kR,kR⟩
@[go_sem] theorem F.iq:BJ prog 100=some 1∧AZ prog 100=some false∧zeroOf prog 100=some [.slice none 0 0]∧Au prog 100=some (181,7)∧Bg prog 100=some (181,7,56)∧AI prog 100=true:=⟨kR,kR,kR,kR,kR,kR⟩
@[go_sem] theorem F.ir:BJ prog 102=some 8∧AZ prog 102=some true∧zeroOf prog 102=some [.string (str []),.int .i64 0,.int .i64 0,.int .i64 0,.slice none 0 0,.slice none 0 0,.slice none 0 0,.int .i64 0]∧sized prog 102=true∧A1 prog 102 0=some 0∧placeOf prog 102 0=some (0,4)∧A1 prog 102 1=some 4∧placeOf prog 102 1=some (4,1)∧A1 prog 102 2=some 5∧A1 prog 102 3=some 6∧placeOf prog 102 3=some (6,1)∧A1 prog 102 4=some 7:=⟨kR,kR,kR,kR,kR,kR,kR,kR,kR,kR,kR,kR⟩
@[go_sem] theorem F.iw:BJ prog 107=some 6∧AZ prog 107=some true∧zeroOf prog 107=some [.int .i64 0,.int .i64 0,.int .i64 0,.string (str []),.int .i64 0,.slice none 0 0]∧sized prog 107=true∧A1 prog 107 0=some 0∧placeOf prog 107 0=some (0,3)∧A1 prog 107 1=some 3∧placeOf prog 107 1=some (3,1)∧A1 prog 107 2=some 4∧A1 prog 107 3=some 5:=⟨kR,kR,kR,kR,kR,kR,kR,kR,kR,kR⟩
@[go_sem] theorem F.iy:BJ prog 110=some 9∧AZ prog 110=some true∧zeroOf prog 110=some [.int .i64 0,.int .i64 0,.int .i64 0,.int .i64 0,.string (str []),.int .i64 0,.int .i64 0,.slice none 0 0,.int .i64 0]∧sized prog 110=true∧A1 prog 110 0=some 0∧placeOf prog 110 0=some (0,3)∧A1 prog 110 1=some 3∧placeOf prog 110 1=some (3,5)∧A1 prog 110 2=some 8∧placeOf prog 110 2=some (8,1):=⟨kR,kR,kR,kR,kR,kR,kR,kR,kR,kR⟩
@[go_sem] theorem F.gZ:Au prog 117=some (71,13)∧Bg prog 117=some (71,13,136)∧AI prog 117=true:=⟨kR,kR,kR⟩
@[go_sem] theorem F.gV:AZ prog 128=some true∧zeroOf prog 128=some [.int .i64 0,.slice none 0 0,.slice none 0 0,.slice none 0 0]∧sized prog 128=true∧A1 prog 128 0=some 0∧placeOf prog 128 0=some (0,3)∧A1 prog 128 1=some 3:=⟨kR,kR,kR,kR,kR,kR⟩
@[go_sem] theorem F.ck:ZB prog 137=some (139,true,[1,1,1,2],4):=kR
@[go_sem] theorem F.iz:BJ prog 139=some 4∧AZ prog 139=some true∧zeroOf prog 139=some [.int .i64 0,.int .i64 0,.int .i64 0,.string (str [])]∧sized prog 139=true∧placeOf prog 139 0=some (0,3)∧placeOf prog 139 1=some (3,1):=⟨kR,kR,kR,kR,kR,kR⟩
@[go_sem] theorem F.iA:BJ prog 143=some 1∧AZ prog 143=some false∧Au prog 143=some (4,1)∧Bg prog 143=some (4,1,1)∧AI prog 143=true:=⟨kR,kR,kR,kR,kR⟩
@[go_sem] theorem F.iB:BJ prog 144=some 1∧AZ prog 144=some false∧zeroOf prog 144=some [.slice none 0 0]∧Au prog 144=some (55,3)∧Bg prog 144=some (55,3,32)∧AI prog 144=true:=⟨kR,kR,kR,kR,kR,kR⟩
@[go_sem] theorem F.iC:BJ prog 163=some 3∧AZ prog 163=some true∧zeroOf prog 163=some [.int .i64 0,.int .i64 0,.int .i64 0]∧Au prog 163=none∧Dp prog 163=some (3,1)∧Pv prog 163=some (3,1,false)∧sized prog 163=true∧placeOf prog 163 0=some (0,1)∧placeOf prog 163 1=some (1,1)∧placeOf prog 163 2=some (2,1):=⟨kR,kR,kR,kR,kR,kR,kR,kR,kR,kR⟩
@[go_sem] theorem F.iD:BJ prog 178=some 5∧AZ prog 178=some true∧zeroOf prog 178=some [.int .i64 0,.int .i64 0,.int .i64 0,.int .i64 0,.int .i64 0]∧sized prog 178=true∧A1 prog 178 0=some 0∧placeOf prog 178 0=some (0,3)∧A1 prog 178 1=some 3∧placeOf prog 178 1=some (3,2)∧structEq prog 178=some [1,1,1,1,1]:=⟨kR,kR,kR,kR,kR,kR,kR,kR,kR⟩
@[go_sem] theorem F.iE:BJ prog 181=some 7∧AZ prog 181=some true∧zeroOf prog 181=some [.int .i64 0,.int .i64 0,.int .i64 0,.int .i64 0,.int .i64 0,.int .i64 0,.int .i64 0]∧sized prog 181=true∧A1 prog 181 0=some 0∧placeOf prog 181 0=some (0,3)∧A1 prog 181 1=some 3∧placeOf prog 181 1=some (3,2)∧A1 prog 181 2=some 5∧placeOf prog 181 2=some (5,1)∧A1 prog 181 3=some 6∧structEq prog 181=some [1,1,1,1,1,1,1]:=⟨kR,kR,kR,kR,kR,kR,kR,kR,kR,kR,kR,kR⟩
@[go_sem] theorem F.hM:Au prog 194=some (199,3)∧Bg prog 194=some (199,3,24)∧AI prog 194=true:=⟨kR,kR,kR⟩
@[go_sem] theorem F.iF:BJ prog 196=some 1∧AZ prog 196=some false:=⟨kR,kR⟩
@[go_sem] theorem F.iG:BJ prog 197=some 1∧AZ prog 197=some false:=⟨kR,kR⟩
@[go_sem] theorem F.iH:BJ prog 199=some 3∧AZ prog 199=some true∧zeroOf prog 199=some [.int .i64 0,.nilFunc,.nilFunc]∧sized prog 199=true∧A1 prog 199 0=some 0∧placeOf prog 199 0=some (0,1)∧A1 prog 199 1=some 1∧placeOf prog 199 1=some (1,1)∧A1 prog 199 2=some 2∧placeOf prog 199 2=some (2,1):=⟨kR,kR,kR,kR,kR,kR,kR,kR,kR,kR⟩
@[go_sem] theorem F.hY:Au prog 216=some (9,1)∧Bg prog 216=some (9,1,16)∧AI prog 216=true:=⟨kR,kR,kR⟩
@[go_sem] theorem F.iI:BJ prog 239=some 5∧AZ prog 239=some true∧zeroOf prog 239=some [.string (str []),.int .i64 0,.int .i64 0,.int .i64 0,.int .i64 0]∧sized prog 239=true∧A1 prog 239 0=some 0∧placeOf prog 239 0=some (0,1)∧A1 prog 239 1=some 1∧placeOf prog 239 1=some (1,2)∧A1 prog 239 2=some 3∧placeOf prog 239 2=some (3,2):=⟨kR,kR,kR,kR,kR,kR,kR,kR,kR,kR⟩
@[go_sem] theorem F.iJ:BJ prog 245=some 2∧AZ prog 245=some true∧zeroOf prog 245=some [.int .i64 0,.int .i64 0]∧sized prog 245=true∧A1 prog 245 0=some 0∧placeOf prog 245 0=some (0,1)∧A1 prog 245 1=some 1∧placeOf prog 245 1=some (1,1):=⟨kR,kR,kR,kR,kR,kR,kR,kR⟩
@[go_sem] theorem F.gW:AZ prog 263=some true∧zeroOf prog 263=some [.slice none 0 0,.slice none 0 0]∧sized prog 263=true∧A1 prog 263 0=some 0∧placeOf prog 263 0=some (0,1)∧A1 prog 263 1=some 1∧placeOf prog 263 1=some (1,1):=⟨kR,kR,kR,kR,kR,kR,kR⟩
@[go_sem] theorem F.ik:Us prog 270=some .u64:=kR
@[go_sem] theorem F.gX:AZ prog 289=some true∧zeroOf prog 289=some [.int .i64 0,.int .i64 0,.int .i64 0,.int .i64 0,.string (str []),.int .i64 0,.int .i64 0]∧sized prog 289=true∧placeOf prog 289 0=some (0,1)∧placeOf prog 289 1=some (1,3)∧placeOf prog 289 2=some (4,1)∧placeOf prog 289 3=some (5,2):=⟨kR,kR,kR,kR,kR,kR,kR⟩
@[go_sem] theorem F.hZ:Au prog 297=some (1,1)∧Bg prog 297=some (1,1,8)∧AI prog 297=true:=⟨kR,kR,kR⟩
@[go_sem] theorem F.ia:Au prog 301=some (53,2)∧Bg prog 301=some (53,2,16)∧AI prog 301=true:=⟨kR,kR,kR⟩
@[go_sem] theorem F.ib:Au prog 327=some (100,1)∧Bg prog 327=some (100,1,24)∧AI prog 327=true:=⟨kR,kR,kR⟩
@[go_sem] theorem F.iK:BJ prog 329=some 6∧AZ prog 329=some true∧zeroOf prog 329=some [.bool false,.bool false,.bool false,.bool false,.bool false,.bool false]∧Au prog 329=none∧Dp prog 329=some (6,1)∧Pv prog 329=some (6,1,false):=⟨kR,kR,kR,kR,kR,kR⟩
@[go_sem] theorem F.ic:Au prog 336=none∧Dp prog 336=some (5,1):=⟨kR,kR⟩
@[go_sem] theorem F.ie:Au prog 337=none∧Dp prog 337=some (5,5):=⟨kR,kR⟩
end Go.Rd
