/- part 9 of the proof -/
import Derived.ChangeShapes
import Derived.OpenShut
import Derived.RowKit
import Derived.Below
import Derived.ChangeSame
import Derived.WideKeyArgs
import Derived.KernelRfl
import Derived.Test.YthachdiockkofaaGreatDoorProg
import Derived.Test.YthachdiockkofaaGreatDoorS08
set_option linter.all false
namespace Go.Abs
open Go Go.ChangeShapes Go.WideShapes Go.RowKit
mutual
def wgt{H:Type}:DataW H→Nat
 |.lit (.string b)=>b.length+1
 |.lit _=>1
 |.nil=>1
 |.ptr d=>wgt d+1
 |.slice a b=>Tt a+Tt b+1
 |.agg a=>Tt a+1
 |.iface _ d=>wgt d+1
 |.map _=>1
 |.held _=>1
def Tt{H:Type}:List (DataW H)→Nat
 |[]=>0
 | d::r=>wgt d+Tt r
end
theorem Qw{ro:Nat→Prop}{w:World}{ad:Addr}:∀ {xs:List AV} {us:List Value} {j:Nat},PRl ro w xs us→(∀ k,k<us.length→w.cell? (ad.add (j+k))=us[k]?)→PRc ro w xs ad j
 |[],[],_,_,_=>by simp[PRc]
 | x::xs,u::us,j,h,hc=>by
  simp only[PRc];refine⟨⟨u,by simpa using hc 0 (by simp),h.1⟩,Qw h.2 fun k hk=>?_⟩;have:=hc (k+1) (by simp;omega);rw[show j+1+k=j+(k+1) by omega];simpa using this
 |[],_::_,_,h,_=>False.elim h
 |_::_,[],_,h,_=>False.elim h
def Cod(P:Program)(t:TypeId){α:Type}(e:α→List AV)(m:α→Nat)(Q:α→Prop):Prop :=
 ∀ (H:Type) (enc:TypeId × Value→H) (w:World) (fuel:Nat) (cs:List Value) (x:DataW H × List MemPlace),DataW.trod enc P w 0 (fun _=>true) true fuel t cs=some x →
  ∃ a,Q a∧m a≤wgt x.1∧PRl (fun b=>b<w.heap.size) w (e a) cs
variable {P:Program} {t:TypeId}
theorem ax{k:IntKind}(ht:P.underlying t=some (.int k)):Cod P t (fun n:Int=>[.v (.int k n)]) (fun _=>1) (fun n=>(Lit.int k n).wf=true):=by
 intro H enc w fuel cs x h;obtain⟨n,rfl,rfl,hw⟩:=DataW.trod_int ht h;exact⟨n,hw,by simp[wgt],⟨rfl,by simp[Value.oneCell']⟩,trivial⟩
theorem TA(a:Addr)(i j:Nat):(a.add i).add j=a.add (i+j):=Addr.add_add a i j
theorem Nc{ro:Nat→Prop}{w:World}{ad:Addr}{n:Nat}{α:Type}{e:α→List AV} :
 ∀ {xs:List α} {i:Nat},(∀ k x,xs[k]?=some x→∃ cs,w.cells? 0 (ad.add ((i+k)*n)) n=some cs∧PRl ro w (e x) cs)→PRe ro w (xs.map e) ad n i
 |[],_,_=>by simp[PRe]
 | x::xs,i,h=>by
  simp only[List.map_cons,PRe];obtain⟨cs,hcs,hp⟩:=h 0 x rfl;obtain⟨_,hl,hc⟩:=World.cells?_some hcs;refine⟨hp.length.trans hl,Qw hp fun k hk=>?_,Nc fun k y hy=>?_⟩
  ·rw[← TA];exact hc k (by omega)
  ·have:=h (k+1) y (by simpa using hy)
   rwa [show i+1+k=i+(k+1) by omega]
theorem Vr{H:Type}:∀ {ds:List (DataW H)} {α:Type} {m:α→Nat} {xs:List α},xs.length=ds.length→(∀ (k:Nat) (x:α) (d:DataW H),xs[k]?=some x→ds[k]?=some d→m x≤wgt d)→(xs.map m).sum≤Tt ds
 |[],_,_,[],_,_=>by simp
 | d::ds,α,m,x::xs,hl,h=>by
  simp only[List.map_cons,List.sum_cons,Tt];have h0:=h 0 x d rfl rfl;have:=Vr (m:=m) (xs:=xs) (ds:=ds) (by simpa using hl) fun k y d hy hd=>h (k+1) y d (by simpa using hy) (by simpa using hd)
  omega
 |[],_,_,_::_,hl,_=>by simp at hl
 |_::_,_,_,[],hl,_=>by simp at hl
theorem pick{α β:Type}{q:Nat→β→Prop}{R:Nat→α→β→Prop}:∀ (n:Nat) (l:List β),l.length=n→(∀ i y,l[i]?=some y→∃ x,R i x y)→∃ xs:List α,xs.length=n∧∀ i x y,xs[i]?=some x→l[i]?=some y→R i x y:=by
 intro n
 induction n generalizing R with
 | zero=>intro l hl h;exact⟨[],rfl,fun i x y hx=>by simp at hx⟩
 | succ n ih =>
  intro l hl h;cases l with
  | nil=>simp at hl
  | cons y l =>
   obtain⟨x,hx⟩:=h 0 y rfl;obtain⟨xs,hxl,hxs⟩:=ih (R:=fun i=>R (i+1)) l (by simpa using hl) fun i y hy=>h (i+1) y (by simpa using hy)
   refine⟨x::xs,by simp[hxl],fun i a b ha hb=>?_⟩;cases i with
   | zero=>simp at ha hb;subst ha;subst hb;exact hx
   | succ i=>exact hxs i a b (by simpa using ha) (by simpa using hb)
theorem Xz{el:TypeId}{α:Type}{e:α→List AV}{m:α→Nat}{Q:α→Prop}{n:Nat}(he:Cod P el e m Q)(ht:P.underlying t=some (.slice el))(hc:P.cellsOf el=n)(hn:0<n) :
 Cod P t (fun xs:List α=>[.sl .no n (xs.map e)]) (fun xs=>(xs.map m).sum+1) (fun xs=>∀ x∈xs,Q x):=by
 intro H enc w fuel cs x h;rcases DataW.trod_slice ht h with ⟨rfl,rfl⟩|⟨a,len,cap,elems,rest,k,rfl,rfl,rfl,_,hl,hm,hlen,hel,_,_⟩
 ·refine⟨[],by simp,by simp[wgt],?_,trivial⟩;simp only[List.map_nil,PR];exact⟨by simp,none,0,rfl,by simp,by simp,by simp,hn,Or.inl trivial⟩
 ·subst hlen;obtain⟨xs,hxl,hxs⟩:=pick (α:=α) (q:=fun _ _=>True) (R:=fun i x y=>Q x∧m x≤wgt y.1∧∃ cs,w.cells? 0 (a.add (i*n)) n=some cs∧PRl (fun b=>b<w.heap.size) w (e x) cs) elems.length elems rfl (by
   intro i y hy;have hi:i<elems.length:=by
    rcases Nat.lt_or_ge i elems.length with h|h
    ·exact h
    ·rw[List.getElem?_eq_none h]at hy;cases hy
   have:=hel i hi;rw[hy,hc,Option.bind_eq_some_iff]at this;obtain⟨cs,h1,h2⟩:=this;obtain⟨x,q1,q2,q3⟩:=he H enc w k cs y h2;exact⟨x,q1,q2,cs,h1,q3⟩)
  have hget:∀ i x,xs[i]?=some x→∃ y,elems[i]?=some y:=fun i x hx=>by
   have:i<elems.length:=by
    rcases Nat.lt_or_ge i xs.length with h|h
    ·omega
    ·rw[List.getElem?_eq_none h]at hx;cases hx
   exact⟨_,List.getElem?_eq_getElem this⟩
  refine⟨xs,fun x hx=>?_,?_,?_,trivial⟩
  ·obtain⟨i,hi⟩:=List.mem_iff_getElem?.1 hx;obtain⟨y,hy⟩:=hget i x hi;exact(hxs i x y hi hy).1
  ·simp only[wgt];have:=Vr (m:=m) (xs:=xs) (ds:=elems.map (·.1)) (by simp[hxl]) fun i x d hx hd=>by
    obtain⟨y,hy⟩:=hget i x hx;simp only[List.getElem?_map,hy,Option.map_some,Option.some.injEq]at hd;subst hd;exact(hxs i x y hx hy).2.1
   omega
  ·simp only[PR];refine⟨by simp,some a,cap,by simp[hxl],by simp[hxl,hl],hm,by simp,hn,?_⟩;cases xs with
   | nil=>exact Or.inl rfl
   | cons x xs =>
    refine Or.inr ⟨a,rfl,?_,Nc fun i x hx=>?_⟩
    ·obtain⟨y,hy⟩:=hget 0 x rfl;obtain⟨_,_,cs,h1,_⟩:=hxs 0 x y rfl hy;obtain⟨_,hl,hcell⟩:=World.cells?_some h1;have h0:=hcell 0 hn;cases cs with
     | nil=>simp at hl;omega
     | cons c cs=>exact(show (a.add (0*n+0)).block=a.block by simp[Addr.add])▸E6 (by rw[TA]at h0;simpa using h0)
    ·obtain⟨y,hy⟩:=hget i x hx;obtain⟨_,_,cs,h1,h2⟩:=hxs i x y hx hy;exact⟨cs,by simpa using h1,h2⟩
def gh0(w:World):Gh:=⟨fun b=>if b<w.heap.size then .ro else .other,fun _=>w.heap.size,fun _=>w.heap.size,fun _ _=>w.heap.size⟩
theorem Un(w:World):Bl (gh0 w)=fun b=>b<w.heap.size:=by
 funext b;simp only[Bl,gh0];split<;>simp_all
def Arg(P:Program)(t:TypeId){α:Type}(e:α→AV)(m:α→Nat)(Q:α→Prop):Prop :=
 ∀ (H:Type) (enc:TypeId × Value→H) (w:World) (base:Nat) (v:Value) (d:DataW H) (ps:List MemPlace),Value.okWide P w .any base t v→DataW.Trod enc P w 0 (fun _=>true) true t v d ps →
  ∃ a,Q a∧m a≤wgt d∧VR (gh0 w) w (e a) v
theorem Xm{el:TypeId}{α:Type}{e:α→List AV}{m:α→Nat}{Q:α→Prop}{n:Nat}(he:Cod P el e m Q)(ht:P.underlying t=some (.slice el))(hc:P.cellsOf el=n)(hn:0<n) :
 Arg P t (fun xs:List α=>.sl .no n (xs.map e)) (fun xs=>(xs.map m).sum+1) (fun xs=>∀ x∈xs,Q x):=by
 intro H enc w base v d ps hv hd;obtain⟨a,len,cap,rfl⟩:=okWide_slice ht hv;obtain⟨fuel,hf⟩:=hd;obtain⟨xs,h,hm,hp⟩:=Xz he ht hc hn H enc w fuel _ _ hf;simp only[PRl,Value.cells]at hp;refine⟨xs,h,hm,?_⟩;simp only[VR,Un];exact hp.1
theorem Arg.map{α β:Type}{e:α→AV}{e':β→AV}{m:α→Nat}{m':β→Nat}{Q:α→Prop}{Q':β→Prop}(h:Arg P t e m Q)(hf:∀ a,Q a→∃ b,Q' b∧m' b≤m a∧e' b=e a):Arg P t e' m' Q':=by
 intro H enc w base v d ps hv hd;obtain⟨a,q1,q2,q3⟩:=h H enc w base v d ps hv hd;obtain⟨b,h1,h2,h3⟩:=hf a q1;exact⟨b,h1,Nat.le_trans h2 q2,h3▸q3⟩
def Args(P:Program):List TypeId→{α:Type}→(α→List AV)→(α→Nat)→(α→Prop)→Prop
 | ts,α,e,m,Q=>∀ (H:Type) (enc:TypeId × Value→H) (w:World) (base:Nat) (vs:List Value) (ds:List (DataW H)) (ps:List MemPlace),
  (∀ (j:Nat) t v,ts[j]?=some t→vs[j]?=some v→Value.okWide P w .any base t v)→DataW.TrodAll enc P w 0 (fun _=>true) true ts vs ds ps →
  ∃ a:α,Q a∧m a≤Tt ds∧VRs (gh0 w) w (e a) vs
theorem TG:Args P [] (fun _:Unit=>[]) (fun _=>0) (fun _=>True):=by
 intro H enc w base vs ds ps hv h;obtain⟨rfl,rfl,rfl⟩:=trodAll_nil h;exact⟨(),trivial,by simp,by simp[VRs]⟩
theorem Nv{ts:List TypeId}{α β:Type}{e:α→AV}{m:α→Nat}{Q:α→Prop}{e':β→List AV}{m':β→Nat}{Q':β→Prop}(h:Arg P t e m Q)(hs:Args P ts e' m' Q') :
 Args P (t::ts) (fun x:α × β=>e x.1::e' x.2) (fun x=>m x.1+m' x.2) (fun x=>Q x.1∧Q' x.2):=by
 intro H enc w base vs ds ps hv hd;obtain⟨v,vs,d,ds,p,q,rfl,rfl,rfl,h1,h2⟩:=trodAll_cons hd;obtain⟨a,a1,a2,a3⟩:=h H enc w base v d p (hv 0 t v rfl rfl) h1;obtain⟨b,b1,b2,b3⟩:=hs H enc w base vs ds q (fun j t v hj hjv=>hv (j+1) t v (by simpa using hj) (by simpa using hjv)) h2;exact⟨(a,b),⟨a1,b1⟩,by simp only[Tt];omega,by simp only[VRs];exact⟨a3,b3⟩⟩
theorem LW{H:Type}{enc:TypeId × Value→H}(hl:laidOutB P=true){W W':World}{sp':Nat→Bool}:∀ {ts:List TypeId} {vs:List Value} {ds:List (DataW H)} {ps:List MemPlace},
 (∀ t∈ts,P.readableRec t=true∧t<P.types.size)→DataW.TrodAll enc P W 0 (fun _=>true) true ts vs ds ps→(∀ p∈ps,W.sameAt W' p)→(∀ p∈ps,sp' p.block=true)→DataW.TrodAll enc P W' 0 sp' true ts vs ds ps
 |[],vs,ds,ps,_,h,_,_=>by
  obtain⟨rfl,rfl,rfl⟩:=trodAll_nil h;exact trodAll_mk0
 | t::ts,vs,ds,ps,hr,h,hs,hsp=>by
  obtain⟨v,vs,d,ds,p,q,rfl,rfl,rfl,h1,h2⟩:=trodAll_cons h;exact⟨p,q,WideElems.Trod_stays hl (hr t (by simp)).1 (hr t (by simp)).2 h1 (fun x hx=>hs x (by simp[hx])) (fun x hx=>hsp x (by simp[hx])),
   LW hl (fun t ht=>hr t (by simp[ht])) h2 (fun x hx=>hs x (by simp[hx])) (fun x hx=>hsp x (by simp[hx])),rfl⟩
theorem Vy{H:Type}{enc:TypeId × Value→H}{f:Func}{s:ChangeSpec}{apart fresh handsOn again:Bool}{W W':World}{args:Array Value}{v:Value}{ds gs:List (DataW H)}{before pa pv:List MemPlace}
 (hW:DataW.Whole enc P f.params.toList s.vars apart W args.toList ds gs before)
 (hres:∀ (b:Nat) (sp:Nat→Bool) (hd:Bool),DataW.TrodAll enc P W' b sp hd f.resultTypes.toList (v.resultList f.resultTypes.size) (s.fn H (ds++gs)).results [])
 (hargs:∀ sp:Nat→Bool,(∀ p∈before,sp p.block=true)→DataW.TrodAll enc P W' 0 sp true f.params.toList args.toList (s.fn H (ds++gs)).args pa)
 (hvars:∀ sp:Nat→Bool,(∀ p∈before,sp p.block=true)→DataW.TrodVars enc P W' sp s.vars (s.fn H (ds++gs)).vars pv)
 (hps:before=pa++pv) (hb:Below W.heap.size W W')
 (hok:∀ (j:Nat) (t:TypeId) (r:Value),f.resultTypes[j]?=some t→(v.resultList f.resultTypes.size)[j]?=some r→Value.okWide P W' .any 0 t r) :
 s.post enc P f apart fresh handsOn again W args v W':=by
 have hlt:∀ p∈before,p.block<W.heap.size:=fun p hp=>hW.lt p hp
 have hold:∀ p∈before,(fun b=>decide (b<W.heap.size)) p.block=true:=fun p hp=>by simpa using hlt p hp
 refine⟨ds,gs,before,[],pa,pv,hW,hres _ _ _,hargs _ hold,hvars _ hold,World.keptBut_mono (fun p hp=>⟨hp,?_⟩) (hb.frame (·∈before)),fun _=>?_⟩
 ·rw[hps,List.mem_append]at hp;exact Or.inr hp
 ·obtain⟨_,_,_,_,_,hz,hn⟩:=hW;refine⟨hok,_,_,([]++pa)++pv,⟨[]++pa,pv,trodAll_append (hargs _ (fun _ _=>rfl)) (hres _ _ _),hvars _ (fun _ _=>rfl),rfl,?_,?_⟩,?_⟩
  ·intro b off hp;have hin:MemPlace.cell b off∈before:=by rw[hps];simpa using hp
   rw[hb.frozen (hlt _ hin)];exact hz b off hin
  ·intro ha;have:=hn ha;rw[hps]at this;simpa using this
  ·intro p hp _;rw[hps];simpa using hp
end Go.Abs
namespace Go.Abs
inductive OT where
 | done
 | pick(l:List (Nat × OT))
mutual
def okT(ops:Array Oper)(dn:List Nat):OT→Bool
 |.done=>(List.range ops.size).all fun i=>dn.contains i
 |.pick l=>(List.range ops.size).any (fun i=>!dn.contains i&&(Bd ops i).all fun e=>dn.contains e)&&(List.range ops.size).all (fun i=>dn.contains i||!((Bd ops i).all fun e=>dn.contains e)||(RO l).contains i)&&bg ops dn l
def bg(ops:Array Oper)(dn:List Nat):List (Nat × OT)→Bool
 |[]=>true
 |(i,t)::l=>okT ops (i::dn) t&&bg ops dn l
def RO:List (Nat × OT)→List Nat
 |[]=>[]
 |(i,_)::l=>i::RO l
end
def Mp(ops:Array Oper)(i:Nat):List Oper:=match ops[i]? with
 |some o=>[o]
 |none=>[]
mutual
def wpT(X:Env)(ops:Array Oper)(K:St→Prop):OT→St→Prop
 |.done=>K
 |.pick l=>Yy X ops K l
def Yy(X:Env)(ops:Array Oper)(K:St→Prop):List (Nat × OT)→St→Prop
 |[]=>fun _=>True
 |(i,t)::l=>fun st=>AW X ops (Mp ops i) (wpT X ops K t) st∧Yy X ops K l st
end
section
variable {X:Env} {A:A0} {N:Nat} {ops:Array Oper}
def Xi(N:Nat)(ops:Array Oper):Prop:=(∀ o∈ops,Iq N o=true)∧∀ i,i<ops.size→∀ e∈Bd ops i,e<ops.size
theorem MK(h:Xi N ops){i:Nat}(e:Nat)(he:e∈Bd ops i)(hi:i<ops.size):e<ops.size:=h.2 i hi e he
theorem M9(hA:A.ext=X.ext)(hX:∀ s∈X.ext,s%64=63){Q:Exit→Act→World→Prop}{K:St→Prop}{K':Act→World→Prop}{i:Nat}{o:Oper}(ho:ops[i]?=some o)(hk:∀ g' st' a' w',R X.C A N g' st' a' w'→K st'→K' a' w')
 {g:Gh} {st:St} {a:Act} {w:World} (hd:Iq N o=true) (h:H9 X ops o K st) (hR:R X.C A N g st a w):wpOp X.C.P ops Q i K' a w:=by
 unfold wpOp;simp only[ho];unfold H9 at h;split at h
 ·rename_i hg;have:Region.wanted o (yielded ops a.tmps)=true:=by simp[Region.wanted,hg]
  simp only[this,if_true];exact .inl (Lh hA hX hd h hR hk)
 ·rename_i j b hg;split at h
  ·rename_i b' hb;have hy:=JL hR hb
   by_cases he:b'=b
   ·have:Region.wanted o (yielded ops a.tmps)=true:=by simp[Region.wanted,hg,hy,he]
    simp only[this,if_true];have h1:=h.1 he;subst he;rw[H3 hb]at h1;exact .inl (Lh hA hX hd h1 hR hk)
   ·have:Region.wanted o (yielded ops a.tmps)=false:=by simp[Region.wanted,hg,hy,he]
    simp only[this,Bool.false_eq_true,if_false];have hd':∀ k,o.dst=some k→k<N:=fun k hk=>by simp[Iq,hk]at hd;exact hd
    have h1:=h.2 he;have hbb:(!b)=b':=by cases b<;>cases b'<;>first|rfl|exact absurd rfl he
    rw[hbb,H3 hb]at h1;exact hk g _ _ w (hR.put hd' Pw) h1
  ·rename_i hb;have hy:=NS hR hb;have:Region.wanted o (yielded ops a.tmps)=false:=by simp[Region.wanted,hg,hy]
   simp only[this,Bool.false_eq_true,if_false];have hd':∀ k,o.dst=some k→k<N:=fun k hk=>by simp[Iq,hk]at hd;exact hd
   exact hk g _ _ w (hR.put hd' Pw) h
  ·cases h
mutual
theorem L1(hA:A.ext=X.ext)(hX:∀ s∈X.ext,s%64=63)(hN:Xi N ops){Q:Exit→Act→World→Prop}{K:St→Prop}(hQ:∀ g st a w,R X.C A N g st a w→K st→Q .normal a w) :
 ∀ (t:OT) (fuel:Nat) (dn:List Nat) (listed:Array Bool) (g:Gh) (st:St) (a:Act) (w:World),listed.size=ops.size→unl listed≤fuel→(∀ j,j<ops.size→dOf listed j=dn.contains j)→okT ops dn t=true→wpT X ops K t st→R X.C A N g st a w →
  wpAny X.C.P .any ops Q fuel listed a w
 |.done,fuel,dn,listed,g,st,a,w,hs,hu,hd,hok,h,hR=>by
  simp only[okT,List.all_eq_true,List.mem_range]at hok;have h0:Region.ready .any ops listed=[]:=by
   cases hrd:Region.ready .any ops listed with
   | nil=>rfl
   | cons j l =>
    have hj:j∈Region.ready .any ops listed:=by rw[hrd];simp
    have:=(Bg hs).1 hj;rw[hd j this.1,hok j this.1]at this;simp at this
  simp only[wpT]at h;cases fuel with
  | zero=>exact⟨h0,hQ g st a w hR h⟩
  | succ fuel=>exact⟨fun _=>hQ g st a w hR h,fun j hj=>by rw[h0]at hj;cases hj⟩
 |.pick l,fuel,dn,listed,g,st,a,w,hs,hu,hd,hok,h,hR=>by
  simp only[okT,Bool.and_eq_true,List.all_eq_true,List.any_eq_true,List.mem_range]at hok;obtain⟨⟨⟨i,hi,hi1,hi2⟩,hok1⟩,hok2⟩:=hok;simp only[wpT]at h;have hmem:i∈Region.ready .any ops listed:=(Bg hs).2 ⟨hi,by rw[hd i hi];simpa using hi1,fun e he=>by
   have h4:=hi2 e he;have hlt:=MK hN e he hi;rw[hd e hlt];exact h4⟩
  have hkey:∀ j∈Region.ready .any ops listed,j∈RO l:=fun j hj=>by
   obtain⟨h1,h2,h3⟩:=(Bg hs).1 hj;have:=hok1 j h1;rw[hd j h1]at h2;rw[h2]at this;have he:(Bd ops j).all (fun e=>dn.contains e)=true:=List.all_eq_true.2 fun e he=>by
    have h4:=h3 e he;have hlt:=MK hN e he h1;rw[hd e hlt]at h4;exact h4
   rw[he]at this;simpa using this
  cases fuel with
  | zero =>
   obtain⟨h1,h2,_⟩:=(Bg hs).1 hmem;rw[Hg (by omega) (by omega:i<listed.size)]at h2;cases h2
  | succ fuel =>
   refine⟨fun h0=>(by rw[h0]at hmem;cases hmem),fun j hj=>?_⟩;obtain⟨h1,h2,_⟩:=(Bg hs).1 hj;exact On hA hX hN hQ l fuel dn listed g st a w hs (by have:=HB (by omega:j<listed.size) h2;omega) hd hok2 h hR j h1 h2 (hkey j hj)
theorem On(hA:A.ext=X.ext)(hX:∀ s∈X.ext,s%64=63)(hN:Xi N ops){Q:Exit→Act→World→Prop}{K:St→Prop}(hQ:∀ g st a w,R X.C A N g st a w→K st→Q .normal a w) :
 ∀ (l:List (Nat × OT)) (fuel:Nat) (dn:List Nat) (listed:Array Bool) (g:Gh) (st:St) (a:Act) (w:World),listed.size=ops.size→unl listed≤fuel+1→(∀ j,j<ops.size→dOf listed j=dn.contains j)→bg ops dn l=true→Yy X ops K l st→R X.C A N g st a w →
  ∀ j,j<ops.size→dOf listed j=false→j∈RO l→wpOp X.C.P ops Q j (wpAny X.C.P .any ops Q fuel (listed.setIfInBounds j true)) a w
 |[],_,_,_,_,_,_,_,_,_,_,_,_,_,j,_,_,hm=>by simp[RO]at hm
 |(i,t)::l,fuel,dn,listed,g,st,a,w,hs,hu,hd,hok,h,hR,j,hj,hnd,hm=>by
  simp only[bg,Bool.and_eq_true]at hok;simp only[Yy]at h
  by_cases hij:j=i
  ·subst hij;have ho:ops[j]?=some ops[j]:=Array.getElem?_eq_getElem hj;have h1:=h.1;simp only[Mp,ho,AW]at h1;refine M9 hA hX ho (fun g' st' a' w' hR' hK'=>?_) (hN.1 _ (Array.getElem_mem hj)) h1 hR;refine L1 hA hX hN hQ t fuel (j::dn) _ g' st' a' w' (by simp[hs]) (by have:=HB (by omega:j<listed.size) hnd;omega) (fun q hq=>?_) hok.1 hK' hR';rw[D9 (by omega)];simp only[Hk,List.contains_cons]
   by_cases hqj:q=j
   ·subst hqj;simp
   ·simp[hqj,hd q hq]
  ·refine On hA hX hN hQ l fuel dn listed g st a w hs hu hd hok.2 h.2 hR j hj hnd ?_;simp only[RO,List.mem_cons]at hm;rcases hm with hm|hm
   ·exact absurd hm hij
   ·exact hm
end
end
def Lj(ops:Array Oper):Bool:=(List.range ops.size).all fun i=>(Bd ops i).all fun e=>decide (e<ops.size)
theorem YV{X:Env}{ops:Array Oper}{K:St→Prop}{st:St}(t:OT)(hm:X.C.P.follows .mixedOrders=true)(hok:(Lj ops&&okT ops [] t)=true)
 (h:wpT X ops K t st):Kx X ops K st:=by
 intro A N g a w hA hN hX hR id Q hQ;simp only[Bool.and_eq_true]at hok;refine wp_region_any hm ?_;refine L1 hA hX (N:=N) (K:=K) ⟨fun o ho=>?_,fun i hi e he=>?_⟩ hQ t ops.size [] (Array.replicate ops.size false) g st a _ (by simp) (by simp[unl]) (fun j hj=>by simp[dOf,Array.getD,hj]) hok.2 h hR.drew
 ·unfold Iq;cases hd:o.dst with
  |none=>rfl
  |some d=>simp;exact hN o ho d hd
 ·have:=hok.1;simp only[Lj,List.all_eq_true,List.mem_range,decide_eq_true_eq]at this;exact this i hi e he
@[go_sem] theorem fT(X:Env)(ops:Array Oper)(K:St→Prop)(st:St):wpT X ops K .done st=K st:=by simp only[wpT]
@[go_sem] theorem gA(X:Env)(ops:Array Oper)(K:St→Prop)(i:Nat)(t:OT)(st:St):wpT X ops K (.pick [(i,t)]) st=AW X ops (Mp ops i) (wpT X ops K t) st:=by simp only[wpT,Yy,and_true]
@[go_sem] theorem gB(X:Env)(ops:Array Oper)(K:St→Prop)(i j:Nat)(t t':OT)(l:List (Nat × OT))(st:St):wpT X ops K (.pick ((i,t)::(j,t')::l)) st=(AW X ops (Mp ops i) (wpT X ops K t) st∧wpT X ops K (.pick ((j,t')::l)) st):=by simp only[wpT,Yy]
attribute [go_sem] Mp
end Go.Abs
open Go Go.Abs
namespace Go.Rd
abbrev Bs:=List UInt8
def str(l:Bs):ByteArray:=⟨l.toArray⟩
theorem ar(bs:ByteArray):∀ (n i:Nat) (r:List UInt8),bs.size-i=n→ByteArray.toList.loop bs i r=r.reverse++bs.data.toList.drop i:=by
 intro n
 induction n with
 | zero =>
  intro i r h;rw[ByteArray.toList.loop];have hs:bs.size=bs.data.size:=rfl;rw[if_neg (by omega),List.drop_eq_nil_of_le (by simp;omega)];simp
 | succ n ih =>
  intro i r h;rw[ByteArray.toList.loop];have hs:bs.size=bs.data.size:=rfl;rw[if_pos (by omega),ih (i+1) _ (by omega)];rw[List.drop_eq_getElem_cons (l:=bs.data.toList) (i:=i) (by simp;omega)];have:bs.get! i=bs.data.toList[i]'(by simp;omega):=by
   show bs.data[i]! = _;rw[getElem!_pos bs.data i (by omega)];simp
  simp[this]
theorem Rk(l:List UInt8):(⟨l.toArray⟩:ByteArray).toList=l:=by
 unfold ByteArray.toList;rw[ar _ _ 0 [] rfl];simp
theorem Z4(l:Bs):(str l).size=l.length:=rfl
theorem Wy(l:Bs):(str l).toList=l:=Rk l
structure Proc where
 site:Int
 inc:Int
 num:Int
 deriving DecidableEq
structure Amt where
 mode:Int
 units:Int
 deriving DecidableEq
structure Hold where
 proc:Proc
 amt:Amt
 deriving DecidableEq
structure Wait where
 proc:Proc
 amt:Amt
 prio:Int
 passed:Int
 deriving DecidableEq
structure Res where
 name:Bs
 kind:Int
 units:Int
 home:Int
 deriving DecidableEq
structure Queue where
 res:Res
 holds:List Hold
 convs:List Wait
 waits:List Wait
 gen:Int
 deriving DecidableEq
structure Atom where
 name:Bs
 amt:Amt
 deriving DecidableEq
inductive Expr where
 | mk(k:Int)(atom:Atom)(kids:List Expr)
structure Need where
 proc:Proc
 expr:Expr
 gen:Int
structure WS where
 queues:List Queue
 needs:List Need
def Proc.c(p:Proc):List AV:=[.v (.int .i64 p.site),.v (.int .i64 p.inc),.v (.int .i64 p.num)]
def Amt.c(a:Amt):List AV:=[.v (.int .i64 a.mode),.v (.int .i64 a.units)]
def Hold.c(h:Hold):List AV:=[.v (.int .i64 h.proc.site),.v (.int .i64 h.proc.inc),.v (.int .i64 h.proc.num),.v (.int .i64 h.amt.mode),.v (.int .i64 h.amt.units)]
def Wait.c(h:Wait):List AV:=[.v (.int .i64 h.proc.site),.v (.int .i64 h.proc.inc),.v (.int .i64 h.proc.num),.v (.int .i64 h.amt.mode),.v (.int .i64 h.amt.units),.v (.int .i64 h.prio),.v (.int .i64 h.passed)]
def Res.c(r:Res):List AV:=[.v (.string (str r.name)),.v (.int .i64 r.kind),.v (.int .i64 r.units),.v (.int .i64 r.home)]
@[reducible] def AB(l:List Hold):AV:=.sl .no 5 (l.map Hold.c)
@[reducible] def Bt(l:List Wait):AV:=.sl .no 7 (l.map Wait.c)
@[reducible] def AD(l:List Proc):AV:=.sl .no 3 (l.map Proc.c)
@[reducible] def Oo(l:List Amt):AV:=.sl .no 2 (l.map Amt.c)
def Queue.c(q:Queue):List AV:=[.v (.string (str q.res.name)),.v (.int .i64 q.res.kind),.v (.int .i64 q.res.units),.v (.int .i64 q.res.home),AB q.holds,Bt q.convs,Bt q.waits,.v (.int .i64 q.gen)]
@[reducible] def Ay(l:List Queue):AV:=.sl .no 8 (l.map Queue.c)
def Atom.c(a:Atom):List AV:=[.v (.string (str a.name)),.v (.int .i64 a.amt.mode),.v (.int .i64 a.amt.units)]
@[reducible] def Bn(l:List Atom):AV:=.sl .no 3 (l.map Atom.c)
def Expr.k:Expr→Int
 |.mk k _ _=>k
def Expr.atom:Expr→Atom
 |.mk _ a _=>a
def Expr.kids:Expr→List Expr
 |.mk _ _ l=>l
mutual
def Expr.WW:List Expr→List (List AV)
 |[]=>[]
 | e::l=>Expr.c e::Expr.WW l
def Expr.c:Expr→List AV
 |.mk k a l=>[.v (.int .i64 k),.v (.string (str a.name)),.v (.int .i64 a.amt.mode),.v (.int .i64 a.amt.units),.sl .no 5 (Expr.WW l)]
end
theorem RQ:∀ l,Expr.WW l=l.map Expr.c
 |[]=>rfl
 | e::l=>by simp[Expr.WW,RQ l]
@[reducible] def Gy(l:List Expr):AV:=.sl .no 5 (l.map Expr.c)
theorem Expr.FF(e:Expr):e.c=[.v (.int .i64 e.k),.v (.string (str e.atom.name)),.v (.int .i64 e.atom.amt.mode),.v (.int .i64 e.atom.amt.units),Gy e.kids]:=by
 cases e with
 | mk k a l=>simp[Expr.c,Expr.k,Expr.atom,Expr.kids,RQ]
def Need.c(n:Need):List AV:=[.v (.int .i64 n.proc.site),.v (.int .i64 n.proc.inc),.v (.int .i64 n.proc.num),.v (.int .i64 n.expr.k),.v (.string (str n.expr.atom.name)),.v (.int .i64 n.expr.atom.amt.mode),.v (.int .i64 n.expr.atom.amt.units),Gy n.expr.kids,.v (.int .i64 n.gen)]
@[reducible] def Ho(l:List Need):AV:=.sl .no 9 (l.map Need.c)
def WS.c(s:WS):List AV:=[Ay s.queues,Ho s.needs]
attribute [go_sem] Proc.c Amt.c Hold.c Wait.c Res.c Queue.c Atom.c Expr.FF Need.c WS.c Z4 Wy Rk
@[go_sem] theorem gJ(k:IntKind)(n:Int):(Value.int k n).oneCell'=true:=rfl
@[go_sem] theorem gj(b:Bool):(Value.bool b).oneCell'=true:=rfl
@[go_sem] theorem gK(s:ByteArray):(Value.string s).oneCell'=true:=rfl
@[go_sem] theorem ik(a:Option Addr)(n m:Nat):(Value.slice a n m).oneCell'=true:=rfl
@[reducible] def I(n:Int):AV:=.v (.int .i64 n)
@[reducible] def B(b:Bool):AV:=.v (.bool b)
end Go.Rd
namespace Go.Abs
mutual
def lens:AV→Prop
 |.sl _ _ es=>es.length≤9223372036854775807
 |.agg cs=>Fz cs
 |_=>True
def Fz:List AV→Prop
 |[]=>True
 | c::cs=>lens c∧Fz cs
end
mutual
theorem VR.lens{g:Gh}{w:World}:∀ (x:AV) (u:Value),VR g w x u→lens x
 |.sl (.own r lo) n es,u,h=>by
  simp only[VR,Ci]at h;simp only[Abs.lens];rcases h.2 with ⟨_,h2⟩|⟨_,h2,_⟩|⟨cap,cur,T,_,h2,h3,_⟩
  ·subst h2;simp
  ·subst h2;simp
  ·simp only[maxLen]at h3;omega
 |.sl .no n es,u,h=>by
  simp only[VR,PR]at h;simp only[Abs.lens];obtain⟨_,a,cap,_,h2,h3,_⟩:=h;simp only[maxLen]at h3;omega
 |.sl .full n es,u,h=>by
  simp only[VR,PR]at h;simp only[Abs.lens];obtain⟨_,a,cap,_,h2,h3,_⟩:=h;simp only[maxLen]at h3;omega
 |.agg cs,u,h=>by
  simp only[VR]at h;simp only[Abs.lens];obtain⟨us,_,h⟩:=h;exact VRs.lens cs us.toList h
 |.undef,_,_=>by simp[Abs.lens]
 |.v _,_,_=>by simp[Abs.lens]
 |.tup _,_,_=>by simp[Abs.lens]
 |.ptr _ _,_,_=>by simp[Abs.lens]
 |.ep _ _ _ _,_,_=>by simp[Abs.lens]
 |.fn _ _,_,_=>by simp[Abs.lens]
 |.mv _ _,_,_=>by simp[Abs.lens]
 |.mp _,_,_=>by simp[Abs.lens]
 |.ifc _ _,_,_=>by simp[Abs.lens]
 |.hnd _ _ _ _ _ _ _,_,_=>by simp[Abs.lens]
 |.mem _ _,_,_=>by simp[Abs.lens]
theorem VRs.lens{g:Gh}{w:World}:∀ (xs:List AV) (us:List Value),VRs g w xs us→Fz xs
 |[],_,_=>by simp[Abs.Fz]
 | c::cs,[],h=>by simp[VRs]at h
 | c::cs,u::us,h=>by
  simp only[VRs]at h;simp only[Abs.Fz];exact⟨VR.lens c u h.1,VRs.lens cs us h.2⟩
end
theorem Ac.assume{C:Ctx}{f:Nat}{fn:Func}{c:Code}{xs:List AV}{o o':List (Nat × List AV)}{y:AV}(hf:C.P.funcs[f]?=some fn)(hname:(fn.name=="runtime.NumGoroutine")=false)(hb:fn.body=some c)
 (h:Fz xs→Ac C f xs o y o'):Ac C f xs o y o' :=
 ⟨⟨fn,c,hf,hname,hb⟩,fun g w us hg hv ho=>(h (VRs.lens xs us hv)).2 g w us hg hv ho⟩
end Go.Abs
namespace Go.Abs
theorem Ac.go{C:Ctx}{f:Nat}{xs:List AV}{o o':List (Nat × List AV)}{y:AV}(fn:Func)(h:wpA ⟨C,names o,[]⟩ (fn.body.getD .skip) (Rb ⟨C,names o,[]⟩ fn.results.toList y o') ⟨O5 0 xs,o⟩)
 (hf:C.P.funcs[f]?=some fn:=by kernel_rfl) (hname:(fn.name=="runtime.NumGoroutine")=false:=by kernel_rfl) (hb:fn.body=some (fn.body.getD .skip):=by kernel_rfl)
 (hok:EZ fn.ntmps (fn.body.getD .skip)=true:=by kernel_rfl) (hargs:Nat.ble xs.length fn.ntmps=true:=by kernel_rfl) (hext:∀ s∈names o,s%64=63:=by simp[names]):Ac C f xs o y o' :=
 Ac.intro hf hname hb hok (Nat.le_of_ble_eq_true hargs) hext h
theorem FnP.go{C:Ctx}{f:Nat}{xs:List AV}{o:List (Nat × List AV)}{S:AV→List (Nat × List AV)→Prop}(fn:Func)(h:wpA ⟨C,names o,[]⟩ (fn.body.getD .skip) (dh ⟨C,names o,[]⟩ fn.results.toList S) ⟨O5 0 xs,o⟩)
 (hf:C.P.funcs[f]?=some fn:=by kernel_rfl) (hname:(fn.name=="runtime.NumGoroutine")=false:=by kernel_rfl) (hb:fn.body=some (fn.body.getD .skip):=by kernel_rfl)
 (hok:EZ fn.ntmps (fn.body.getD .skip)=true:=by kernel_rfl) (hargs:Nat.ble xs.length fn.ntmps=true:=by kernel_rfl) (hext:∀ s∈names o,s%64=63:=by simp[names]):FnP C f xs o S :=
 FnP.intro hf hname hb hok (Nat.le_of_ble_eq_true hargs) hext h
theorem Ac.lens{C:Ctx}{f:Nat}{xs:List AV}{o o':List (Nat × List AV)}{y:AV}(fn:Func)(h:Fz xs→Ac C f xs o y o')
 (hf:C.P.funcs[f]?=some fn:=by kernel_rfl) (hname:(fn.name=="runtime.NumGoroutine")=false:=by kernel_rfl) (hb:fn.body=some (fn.body.getD .skip):=by kernel_rfl):Ac C f xs o y o' :=
 Ac.assume hf hname hb h
section
variable {X:Env} {d:Option Nat} {fid:Nat} {xs xs':List AV} {K:St→Prop} {st st':St} {y y':AV} {ob ob':List (Nat × List AV)}
theorem CT{rs:List ResultVar}(ρ:Rn)(xs:List AV)(h4:BC ((pack xs).ren ρ) y)(h1:Dm X.C st rs=some xs:=by(try simp(disch:=omega)only[go_sem,Dm,K7])<;>rfl)(h2:ρ.OK:=by exact⟨rfl,rfl⟩)(h3:∀ s∈X.ext,lk s ρ.m=some s:=by simp):Rb X rs y [] .ret st :=
 A1 ρ xs h1 h2 h3 h4 trivial
theorem B0{rs:List ResultVar}(xs:List AV)(h4:BC ((pack xs).ren ⟨[],[],[]⟩) y)(h1:Dm X.C st rs=some xs:=by(try simp(disch:=omega)only[go_sem,Dm,K7])<;>rfl)(h3:∀ s∈X.ext,lk s []=some s:=by simp):Rb X rs y [] .ret st :=
 A1 ⟨[],[],[]⟩ xs h1 ⟨rfl,rfl⟩ h3 h4 trivial
theorem B1{rs:List ResultVar}(ρ:Rn)(xs:List AV)(h4:BC ((pack xs).ren ρ) y)(h5:F1 (K6 ρ st) ob')(h1:Dm X.C st rs=some xs:=by(try simp(disch:=omega)only[go_sem,Dm,K7])<;>rfl)(h2:ρ.OK:=by exact⟨rfl,rfl⟩)(h3:∀ s∈X.ext,lk s ρ.m=some s:=by simp[lk,names]):Rb X rs y ob' .ret st :=
 A1 ρ xs h1 h2 h3 h4 h5
theorem Ab(hok:Ac X.C fid xs' [] y [])(hk:K (st.put d y'))(hx:Ah (EW ⟨[],[],[]⟩ xs) xs':=by simp(disch:=omega)only[go_sem])(hy:y.ren ⟨[],[],[]⟩=y':=by rfl):AG X d fid xs K st :=
 Af hok hx hy hk
theorem Al{objs:List (Nat × List AV)}{p:List Nat}{i:Nat}{cr:List (Nat × List Nat × List Nat)}{K:List (Nat × List Nat × List Nat)→St→Prop}(hok:Ac X.C fid xs' [] y [])
 (h:KB (rngs (Way.back ⟨⟨[],[],[]⟩,[],[]⟩).l) (rngs []) st.tmps∧FB (rngs (Way.back ⟨⟨[],[],[]⟩,[],[]⟩).l) (rngs []) st.objs∧away cr p ⟨y.ren (Way.back ⟨⟨[],[],[]⟩,[],[]⟩),rngs (Way.back ⟨⟨[],[],[]⟩,[],[]⟩).l,rngs [],D5 (Way.back ⟨⟨[],[],[]⟩,[],[]⟩) []⟩ ∧
  K (Hl i ⟨y.ren (Way.back ⟨⟨[],[],[]⟩,[],[]⟩),rngs (Way.back ⟨⟨[],[],[]⟩,[],[]⟩).l,rngs [],D5 (Way.back ⟨⟨[],[],[]⟩,[],[]⟩) []⟩ cr) ⟨(St.put d (y.ren (Way.back ⟨⟨[],[],[]⟩,[],[]⟩)) st).tmps,D5 (Way.back ⟨⟨[],[],[]⟩,[],[]⟩) []++st.objs⟩)
 (hx:Ah (EW ⟨[],[],[]⟩ xs) xs':=by simp(disch:=omega)only[go_sem]):AF X d fid xs objs p i cr K st :=
 Ao ⟨⟨[],[],[]⟩,[],[]⟩ hok hx rfl rfl trivial (.inl rfl) h
theorem AK(ht:IY st st'.tmps:=by simp(disch:=omega)only[go_sem])(ho:F1 st st'.objs:=by simp(disch:=omega)only[go_sem]):Imp X st st':=Imp.weak ht ho
theorem call2(v:Way)(hok:Ac X.C fid xs' ob y ob')(hk:K ((st.app (rngs v.back.l) (rngs v.fm) (rngs v.back.m) (D5 v.back ob')).put d (y.ren v.back)))
 (hx:Ah (EW v.ρ xs) xs':=by simp(disch:=omega)only[go_sem]) (hh:Tx v st ob:=by simp(disch:=omega)only[go_sem]) (hv:Hh v ob=true:=by rfl) (hfl:v.ρ.bs=[]∨(Flat (y.ren v.back)∧Ir (D5 v.back ob')):=by exact .inl rfl):AG X d fid xs K st :=
 Be v hok hx hv hh hfl hk
end
def Z6:List (List Nat × List Nat)→List (List Nat × List Nat)→Bool
 |[],_=>true
 |_::_,[]=>false
 |(p,ts)::t,(q,us)::u=>p.all (fun j=>q.contains j)&&ts==us&&Z6 t u
def eN(ops:Array Oper)(t l:List (List Nat × List Nat))(i:Nat):List (List Nat × List Nat):=l++[((List.range i).filter (fun j=>(Bd ops i).any fun e=>j==e||(Dc l e).contains j),(t.getD i ([],[])).2)]
def Y8(ops:Array Oper)(t:List (List Nat × List Nat)):Nat→List (List Nat × List Nat)
 | 0=>[]
 | i+1=>eN ops t (Y8 ops t i) i
theorem MB{p q:List Nat}(h:∀ j∈p,j∈q){r:Res}:∀ {cr:List (Nat × List Nat × List Nat)},away cr p r→away cr q r
 |[],_=>trivial
 |(i,S,T)::l,ha=>⟨ha.1.imp (h i) id,MB h ha.2⟩
theorem Lp{X:Env}{all:Array Oper}{objs:List (Nat × List AV)}{K:St→Prop}:∀ (os:List Oper) (t u:List (List Nat × List Nat)) (i:Nat) (cr:List (Nat × List Nat × List Nat)) (st:St),Z6 t u=true→E4 X all objs os t i cr K st→E4 X all objs os u i cr K st
 |[],_,_,_,_,_,_,h=>by simpa [E4]using h
 |_::_,[],_,_,_,_,_,h=>by simp[E4]at h
 |_::_,_::_,[],_,_,_,hs,_=>by simp[Z6]at hs
 | o::os,(p,ts)::t,(q,us)::u,i,cr,st,hs,h=>by
  simp only[Z6,Bool.and_eq_true,List.all_eq_true,beq_iff_eq]at hs;obtain⟨⟨h1,rfl⟩,h2⟩:=hs;have hpq:∀ j∈p,j∈q:=fun j hj=>by simpa using h1 j hj
  have run:∀ st:St,(JK X o ⟨restr st ts,objs⟩ st p cr fun e=>o.dst.isSome=true∧E4 X all objs os t (i+1) (Hl i e cr) K ⟨(St.put o.dst e.x st).tmps,e.upd++st.objs⟩)→JK X o ⟨restr st ts,objs⟩ st q cr fun e=>o.dst.isSome=true∧E4 X all objs os u (i+1) (Hl i e cr) K ⟨(St.put o.dst e.x st).tmps,e.upd++st.objs⟩:=fun st h=>by
   obtain⟨e,a,b,c,d,f,g,k⟩:=h;exact⟨e,a,b,c,d,f,MB hpq g,k.1,Lp os t u _ _ _ h2 k.2⟩
  simp only[E4]at h ⊢;split at h
  ·exact run st h
  ·split at h
   ·exact⟨fun he=>run _ (h.1 he),fun he=>⟨(h.2 he).1,MB hpq (h.2 he).2.1,Lp os t u _ _ _ h2 (h.2 he).2.2⟩⟩
   ·exact⟨h.1,MB hpq h.2.1,Lp os t u _ _ _ h2 h.2.2⟩
   ·exact h.elim
theorem Aq{X:Env}{ops:List Oper}{K:St→Prop}{st:St}(k:Nat)(t:List (List Nat × List Nat))(hm:X.C.P.follows .mixedOrders=true)(h:AM X ops.toArray st.objs (ops.take k) t 0 (AW X ops.toArray (ops.drop k) K) [] st)
 (hok:(Z6 t (Y8 ops.toArray t ops.length)&&Sc ops.toArray k (Y8 ops.toArray t ops.length))=true:=by kernel_rfl):Kx X ops.toArray K st:=by
 rw[Bool.and_eq_true]at hok;exact VT k _ hm hok.2 (by simpa using Lp _ _ _ _ _ _ hok.1 (GZ _ _ _ _ _ h))
theorem gI{p:Prop}(h:p:=by simp(disch:=omega)only[go_sem]):p:=h
theorem gO{p q:Prop}(h:q)(e:p=q:=by conv=>lhs;simp(disch:=omega)only[go_sem]):p:=e▸h
section
variable {X:Env} {st st':St} {y:AV} {rs:List ResultVar}
theorem AH(xs:List AV)(h1:Dm X.C st rs=some xs:=by(try simp(disch:=omega)only[go_sem,Dm,K7])<;>rfl)(h4:BC ((pack xs).ren ⟨[],[],[]⟩) y:=by simp(disch:=omega)only[go_sem])(h3:∀ s∈X.ext,lk s []=some s:=by simp):Rb X rs y [] .ret st:=B0 xs h4 h1 h3
theorem Ap(xs:List AV){q:Prop}(h4:q)(h1:Dm X.C st rs=some xs:=by(try simp(disch:=omega)only[go_sem,Dm,K7])<;>rfl)(e:BC ((pack xs).ren ⟨[],[],[]⟩) y=q:=by conv=>lhs;simp(disch:=omega)only[go_sem])(h3:∀ s∈X.ext,lk s []=some s:=by simp):Rb X rs y [] .ret st:=B0 xs (e▸h4) h1 h3
theorem Fb(xs:List AV)(h1:Dm X.C st rs=some xs:=by(try simp(disch:=omega)only[go_sem,Dm,K7])<;>rfl) (h4:BC ((pack xs).ren ⟨[],[],[]⟩) y:=by
 refine gO ?_;refine .tup (Ah.AE ?_);simp(disch:=omega)only[go_sem]
 repeat'(with_reducible apply And.intro)
 all_goals(first|exact .Az (by omega)|exact .agg (Ah.AE (by simp(disch:=omega)only[go_sem])))) (h3:∀ s∈X.ext,lk s []=some s:=by simp):Rb X rs y [] .ret st:=B0 xs h4 h1 h3
theorem Ca (h:IY st st'.tmps∧F1 st st'.objs:=by
 refine⟨?_,?_⟩
 all_goals(try simp(disch:=omega)only[go_sem])
 all_goals(try(repeat'(with_reducible apply And.intro)))
 all_goals(first|exact .AA (by omega)|exact .Az (by omega)|exact .sl (by simp[])|exact .int (by simp[])|exact .eq (by simp[]))):Imp X st st':=Imp.weak h.1 h.2
end
theorem gm{α β:Type}(f:α→β)(l:List α)(i:Nat):(l.map f)[i]?=l[i]?.map f:=List.getElem?_map
theorem gE{α:Type}{l:List α}{i:Nat}(h:i<l.length):l[i]?=some l[i]:=List.getElem?_eq_getElem h
theorem mG{α:Type}{l:List α}{i:Nat}{a:α}(h:l[i]?=some a):a∈l:=List.mem_of_getElem? h
end Go.Abs
open Go Go.Abs Go.Proofs
set_option maxRecDepth 100000
namespace Go.Rd
set_option maxHeartbeats 8000000
open Tryz
attribute [go_sem] if_pos wrap64 Int.natCast_add
theorem fol:prog.follows .mixedOrders=true:=by kernel_rfl
@[go_sem] theorem F.sz1:BB prog 1=some 1∧AR prog 1=some false∧zeroOf prog 1=some [.nilFunc]:=⟨by kernel_rfl,by kernel_rfl,by kernel_rfl⟩
@[go_sem] theorem F.sz3:BB prog 3=some 1∧AR prog 3=some false∧zeroOf prog 3=some [.int .i64 0]∧Ul prog 3=some .i64∧Av prog 3=false:=⟨by kernel_rfl,by kernel_rfl,by kernel_rfl,by kernel_rfl,by kernel_rfl⟩
@[go_sem] theorem F.i63:WV prog 3=true:=by kernel_rfl
@[go_sem] theorem F.sz4:BB prog 4=some 1∧AR prog 4=some false∧zeroOf prog 4=some [.bool false]:=⟨by kernel_rfl,by kernel_rfl,by kernel_rfl⟩
@[go_sem] theorem F.sz9:BB prog 9=some 1∧AR prog 9=some false∧zeroOf prog 9=some [.string (str [])]∧J5 prog 9=true:=⟨by kernel_rfl,by kernel_rfl,by kernel_rfl,by kernel_rfl⟩
@[go_sem] theorem F.iH:BB prog 22=some 1∧AR prog 22=some false∧An prog 22=some (3,1)∧A2 prog 22=some (3,1,8)∧Av prog 22=true:=⟨by kernel_rfl,by kernel_rfl,by kernel_rfl,by kernel_rfl,by kernel_rfl⟩
@[go_sem] theorem F.iI:BB prog 25=some 1∧AR prog 25=some false∧An prog 25=some (102,8)∧A2 prog 25=some (102,8,120)∧Av prog 25=true:=⟨by kernel_rfl,by kernel_rfl,by kernel_rfl,by kernel_rfl,by kernel_rfl⟩
@[go_sem] theorem F.iJ:BB prog 26=some 1∧AR prog 26=some false∧An prog 26=some (110,9)∧A2 prog 26=some (110,9,96)∧Av prog 26=true:=⟨by kernel_rfl,by kernel_rfl,by kernel_rfl,by kernel_rfl,by kernel_rfl⟩
@[go_sem] theorem F.iK:BB prog 28=some 2∧AR prog 28=some true∧zeroOf prog 28=some [.slice none 0 0,.slice none 0 0]∧sized prog 28=true∧AS prog 28 0=some 0∧placeOf prog 28 0=some (0,1)∧AS prog 28 1=some 1∧placeOf prog 28 1=some (1,1):=⟨by kernel_rfl,by kernel_rfl,by kernel_rfl,by kernel_rfl,by kernel_rfl,by kernel_rfl,by kernel_rfl,by kernel_rfl⟩
@[go_sem] theorem F.iF:An prog 31=some (38,3)∧A2 prog 31=some (38,3,24)∧Av prog 31=true:=⟨by kernel_rfl,by kernel_rfl,by kernel_rfl⟩
@[go_sem] theorem F.gT:BB prog 38=some 3:=by kernel_rfl
@[go_sem] theorem F.gC:AR prog 38=some true:=by kernel_rfl
@[go_sem] theorem F.ja:zeroOf prog 38=some [.int .i64 0,.int .i64 0,.int .i64 0]∧sized prog 38=true∧AS prog 38 0=some 0∧placeOf prog 38 0=some (0,1)∧AS prog 38 1=some 1∧placeOf prog 38 1=some (1,1)∧AS prog 38 2=some 2∧placeOf prog 38 2=some (2,1)∧structEq prog 38=some [1,1,1]:=⟨by kernel_rfl,by kernel_rfl,by kernel_rfl,by kernel_rfl,by kernel_rfl,by kernel_rfl,by kernel_rfl,by kernel_rfl,by kernel_rfl⟩
@[go_sem] theorem F.iL:BB prog 42=some 1∧AR prog 42=some false∧An prog 42=some (62,16)∧A2 prog 42=some (62,16,184)∧Av prog 42=true:=⟨by kernel_rfl,by kernel_rfl,by kernel_rfl,by kernel_rfl,by kernel_rfl⟩
@[go_sem] theorem F.iM:BB prog 44=some 3∧AR prog 44=some true∧zeroOf prog 44=some [.int .i64 0,.slice none 0 0,.slice none 0 0]∧sized prog 44=true∧AS prog 44 0=some 0∧AS prog 44 1=some 1∧placeOf prog 44 1=some (1,1)∧AS prog 44 2=some 2:=⟨by kernel_rfl,by kernel_rfl,by kernel_rfl,by kernel_rfl,by kernel_rfl,by kernel_rfl,by kernel_rfl,by kernel_rfl⟩
@[go_sem] theorem F.iN:BB prog 48=some 1∧AR prog 48=some false∧An prog 48=some (239,5)∧A2 prog 48=some (239,5,48)∧Av prog 48=true:=⟨by kernel_rfl,by kernel_rfl,by kernel_rfl,by kernel_rfl,by kernel_rfl⟩
@[go_sem] theorem F.iO:BB prog 49=some 1∧AR prog 49=some false∧An prog 49=some (245,2)∧A2 prog 49=some (245,2,16)∧Av prog 49=true:=⟨by kernel_rfl,by kernel_rfl,by kernel_rfl,by kernel_rfl,by kernel_rfl⟩
@[go_sem] theorem F.iP:BB prog 51=some 2∧AR prog 51=some true∧zeroOf prog 51=some [.slice none 0 0,.slice none 0 0]∧sized prog 51=true∧AS prog 51 0=some 0∧placeOf prog 51 0=some (0,1)∧AS prog 51 1=some 1∧placeOf prog 51 1=some (1,1):=⟨by kernel_rfl,by kernel_rfl,by kernel_rfl,by kernel_rfl,by kernel_rfl,by kernel_rfl,by kernel_rfl,by kernel_rfl⟩
@[go_sem] theorem F.iQ:BB prog 53=some 2∧AR prog 53=some true∧zeroOf prog 53=some [.int .i64 0,.int .i64 0]∧sized prog 53=true∧AS prog 53 0=some 0∧placeOf prog 53 0=some (0,1)∧AS prog 53 1=some 1∧placeOf prog 53 1=some (1,1)∧structEq prog 53=some [1,1]:=⟨by kernel_rfl,by kernel_rfl,by kernel_rfl,by kernel_rfl,by kernel_rfl,by kernel_rfl,by kernel_rfl,by kernel_rfl,by kernel_rfl⟩
@[go_sem] theorem F.iR:BB prog 55=some 3∧AR prog 55=some true∧zeroOf prog 55=some [.string (str []),.int .i64 0,.int .i64 0]∧sized prog 55=true∧AS prog 55 0=some 0∧placeOf prog 55 0=some (0,1)∧AS prog 55 1=some 1∧placeOf prog 55 1=some (1,2)∧structEq prog 55=some [2,1,1]:=⟨by kernel_rfl,by kernel_rfl,by kernel_rfl,by kernel_rfl,by kernel_rfl,by kernel_rfl,by kernel_rfl,by kernel_rfl,by kernel_rfl⟩
@[go_sem] theorem F.iS:BB prog 56=some 1∧AR prog 56=some false∧An prog 56=some (58,5)∧A2 prog 56=some (58,5,64)∧Av prog 56=true:=⟨by kernel_rfl,by kernel_rfl,by kernel_rfl,by kernel_rfl,by kernel_rfl⟩
@[go_sem] theorem F.iT:BB prog 58=some 5∧AR prog 58=some true∧zeroOf prog 58=some [.int .i64 0,.string (str []),.int .i64 0,.int .i64 0,.slice none 0 0]∧sized prog 58=true∧AS prog 58 0=some 0∧placeOf prog 58 0=some (0,1)∧AS prog 58 1=some 1∧placeOf prog 58 1=some (1,3)∧AS prog 58 2=some 4:=⟨by kernel_rfl,by kernel_rfl,by kernel_rfl,by kernel_rfl,by kernel_rfl,by kernel_rfl,by kernel_rfl,by kernel_rfl,by kernel_rfl⟩
@[go_sem] theorem F.iU:BB prog 60=some 7∧AR prog 60=some true∧zeroOf prog 60=some [.int .i64 0,.string (str []),.int .i64 0,.int .i64 0,.slice none 0 0,.int .i64 0,.int .i64 0]∧sized prog 60=true∧AS prog 60 0=some 0∧AS prog 60 1=some 5∧placeOf prog 60 1=some (5,1)∧AS prog 60 2=some 6:=⟨by kernel_rfl,by kernel_rfl,by kernel_rfl,by kernel_rfl,by kernel_rfl,by kernel_rfl,by kernel_rfl,by kernel_rfl⟩
@[go_sem] theorem F.iV:BB prog 62=some 16∧AR prog 62=some true∧zeroOf prog 62=some [.int .i64 0,.int .i64 0,.int .i64 0,.int .i64 0,.slice none 0 0,.slice none 0 0,.bool false,.int .i64 0,.string (str []),.int .i64 0,.int .i64 0,.slice none 0 0,.int .i64 0,.int .i64 0,.int .i64 0,.int .i64 0]∧sized prog 62=true∧AS prog 62 0=some 0∧placeOf prog 62 0=some (0,3)∧AS prog 62 1=some 3∧placeOf prog 62 1=some (3,1)∧AS prog 62 2=some 4∧AS prog 62 3=some 6∧AS prog 62 4=some 7∧AS prog 62 5=some 14:=⟨by kernel_rfl,by kernel_rfl,by kernel_rfl,by kernel_rfl,by kernel_rfl,by kernel_rfl,by kernel_rfl,by kernel_rfl,by kernel_rfl,by kernel_rfl,by kernel_rfl,by kernel_rfl⟩
@[go_sem] theorem F.gL:AS prog 62 6=some 15:=by kernel_rfl
@[go_sem] theorem F.iW:BB prog 67=some 1∧AR prog 67=some false∧A2 prog 67=some (289,7,64)∧Av prog 67=true:=⟨by kernel_rfl,by kernel_rfl,by kernel_rfl,by kernel_rfl⟩
@[go_sem] theorem F.iX:BB prog 71=some 13∧AR prog 71=some true∧zeroOf prog 71=some [.int .i64 0,.int .i64 0,.int .i64 0,.int .i64 0,.int .i64 0,.string (str []),.int .i64 0,.int .i64 0,.slice none 0 0,.int .i64 0,.int .i64 0,.string (str []),.int .i64 0]∧sized prog 71=true∧AS prog 71 0=some 0∧placeOf prog 71 0=some (0,1)∧AS prog 71 1=some 1∧placeOf prog 71 1=some (1,3)∧AS prog 71 2=some 4∧AS prog 71 3=some 11∧AS prog 71 4=some 12∧placeOf prog 71 4=some (12,1):=⟨by kernel_rfl,by kernel_rfl,by kernel_rfl,by kernel_rfl,by kernel_rfl,by kernel_rfl,by kernel_rfl,by kernel_rfl,by kernel_rfl,by kernel_rfl,by kernel_rfl,by kernel_rfl⟩
@[go_sem] theorem F.iE:AR prog 81=some true∧zeroOf prog 81=some [.slice none 0 0,.int .i64 0]∧sized prog 81=true∧AS prog 81 0=some 0∧placeOf prog 81 0=some (0,1)∧AS prog 81 1=some 1:=⟨by kernel_rfl,by kernel_rfl,by kernel_rfl,by kernel_rfl,by kernel_rfl,by kernel_rfl⟩
@[go_sem] theorem F.iG:An prog 96=some (98,4)∧A2 prog 96=some (98,4,40)∧Av prog 96=true:=⟨by kernel_rfl,by kernel_rfl,by kernel_rfl⟩
@[go_sem] theorem F.iY:BB prog 98=some 4∧AR prog 98=some true∧zeroOf prog 98=some [.string (str []),.int .i64 0,.int .i64 0,.int .i64 0]∧sized prog 98=true∧AS prog 98 0=some 0∧placeOf prog 98 0=some (0,1)∧AS prog 98 1=some 1∧placeOf prog 98 1=some (1,1)∧AS prog 98 2=some 2∧placeOf prog 98 2=some (2,1)∧AS prog 98 3=some 3∧placeOf prog 98 3=some (3,1):=⟨by kernel_rfl,by kernel_rfl,by kernel_rfl,by kernel_rfl,by kernel_rfl,by kernel_rfl,by kernel_rfl,by kernel_rfl,by kernel_rfl,by kernel_rfl,by kernel_rfl,by kernel_rfl⟩
@[go_sem] theorem F.iZ:BB prog 99=some 1∧AR prog 99=some false∧An prog 99=some (178,5)∧A2 prog 99=some (178,5,40)∧Av prog 99=true:=⟨by kernel_rfl,by kernel_rfl,by kernel_rfl,by kernel_rfl,by kernel_rfl⟩
@[go_sem] theorem F.il:BB prog 100=some 1∧AR prog 100=some false∧zeroOf prog 100=some [.slice none 0 0]∧An prog 100=some (181,7)∧A2 prog 100=some (181,7,56)∧Av prog 100=true:=⟨by kernel_rfl,by kernel_rfl,by kernel_rfl,by kernel_rfl,by kernel_rfl,by kernel_rfl⟩
@[go_sem] theorem F.im:BB prog 102=some 8∧AR prog 102=some true∧zeroOf prog 102=some [.string (str []),.int .i64 0,.int .i64 0,.int .i64 0,.slice none 0 0,.slice none 0 0,.slice none 0 0,.int .i64 0]∧sized prog 102=true∧AS prog 102 0=some 0∧placeOf prog 102 0=some (0,4)∧AS prog 102 1=some 4∧placeOf prog 102 1=some (4,1)∧AS prog 102 2=some 5∧AS prog 102 3=some 6∧placeOf prog 102 3=some (6,1)∧AS prog 102 4=some 7:=⟨by kernel_rfl,by kernel_rfl,by kernel_rfl,by kernel_rfl,by kernel_rfl,by kernel_rfl,by kernel_rfl,by kernel_rfl,by kernel_rfl,by kernel_rfl,by kernel_rfl,by kernel_rfl⟩
@[go_sem] theorem F.iq:BB prog 110=some 9∧AR prog 110=some true∧zeroOf prog 110=some [.int .i64 0,.int .i64 0,.int .i64 0,.int .i64 0,.string (str []),.int .i64 0,.int .i64 0,.slice none 0 0,.int .i64 0]∧sized prog 110=true∧AS prog 110 0=some 0∧placeOf prog 110 0=some (0,3)∧AS prog 110 1=some 3∧placeOf prog 110 1=some (3,5)∧AS prog 110 2=some 8∧placeOf prog 110 2=some (8,1):=⟨by kernel_rfl,by kernel_rfl,by kernel_rfl,by kernel_rfl,by kernel_rfl,by kernel_rfl,by kernel_rfl,by kernel_rfl,by kernel_rfl,by kernel_rfl⟩
@[go_sem] theorem F.gZ:An prog 117=some (71,13)∧A2 prog 117=some (71,13,136)∧Av prog 117=true:=⟨by kernel_rfl,by kernel_rfl,by kernel_rfl⟩
@[go_sem] theorem F.gV:AR prog 128=some true∧zeroOf prog 128=some [.int .i64 0,.slice none 0 0,.slice none 0 0,.slice none 0 0]∧sized prog 128=true∧AS prog 128 0=some 0∧placeOf prog 128 0=some (0,3)∧AS prog 128 1=some 3:=⟨by kernel_rfl,by kernel_rfl,by kernel_rfl,by kernel_rfl,by kernel_rfl,by kernel_rfl⟩
@[go_sem] theorem F.ir:BB prog 143=some 1∧AR prog 143=some false∧An prog 143=some (4,1)∧A2 prog 143=some (4,1,1)∧Av prog 143=true:=⟨by kernel_rfl,by kernel_rfl,by kernel_rfl,by kernel_rfl,by kernel_rfl⟩
@[go_sem] theorem F.iw:BB prog 144=some 1∧AR prog 144=some false∧zeroOf prog 144=some [.slice none 0 0]∧An prog 144=some (55,3)∧A2 prog 144=some (55,3,32)∧Av prog 144=true:=⟨by kernel_rfl,by kernel_rfl,by kernel_rfl,by kernel_rfl,by kernel_rfl,by kernel_rfl⟩
@[go_sem] theorem F.iy:BB prog 163=some 3∧AR prog 163=some true∧zeroOf prog 163=some [.int .i64 0,.int .i64 0,.int .i64 0]∧An prog 163=none∧C3 prog 163=some (3,1)∧Pj prog 163=some (3,1,false)∧sized prog 163=true∧placeOf prog 163 0=some (0,1)∧placeOf prog 163 1=some (1,1)∧placeOf prog 163 2=some (2,1):=⟨by kernel_rfl,by kernel_rfl,by kernel_rfl,by kernel_rfl,by kernel_rfl,by kernel_rfl,by kernel_rfl,by kernel_rfl,by kernel_rfl,by kernel_rfl⟩
@[go_sem] theorem F.iz:BB prog 178=some 5∧AR prog 178=some true∧zeroOf prog 178=some [.int .i64 0,.int .i64 0,.int .i64 0,.int .i64 0,.int .i64 0]∧sized prog 178=true∧AS prog 178 0=some 0∧placeOf prog 178 0=some (0,3)∧AS prog 178 1=some 3∧placeOf prog 178 1=some (3,2):=⟨by kernel_rfl,by kernel_rfl,by kernel_rfl,by kernel_rfl,by kernel_rfl,by kernel_rfl,by kernel_rfl,by kernel_rfl⟩
@[go_sem] theorem F.iA:BB prog 181=some 7∧AR prog 181=some true∧zeroOf prog 181=some [.int .i64 0,.int .i64 0,.int .i64 0,.int .i64 0,.int .i64 0,.int .i64 0,.int .i64 0]∧sized prog 181=true∧AS prog 181 0=some 0∧placeOf prog 181 0=some (0,3)∧AS prog 181 1=some 3∧placeOf prog 181 1=some (3,2)∧AS prog 181 2=some 5∧placeOf prog 181 2=some (5,1)∧AS prog 181 3=some 6:=⟨by kernel_rfl,by kernel_rfl,by kernel_rfl,by kernel_rfl,by kernel_rfl,by kernel_rfl,by kernel_rfl,by kernel_rfl,by kernel_rfl,by kernel_rfl,by kernel_rfl⟩
@[go_sem] theorem F.hY:An prog 216=some (9,1)∧A2 prog 216=some (9,1,16)∧Av prog 216=true:=⟨by kernel_rfl,by kernel_rfl,by kernel_rfl⟩
@[go_sem] theorem F.iB:BB prog 239=some 5∧AR prog 239=some true∧zeroOf prog 239=some [.string (str []),.int .i64 0,.int .i64 0,.int .i64 0,.int .i64 0]∧sized prog 239=true∧AS prog 239 0=some 0∧placeOf prog 239 0=some (0,1)∧AS prog 239 1=some 1∧placeOf prog 239 1=some (1,2)∧AS prog 239 2=some 3∧placeOf prog 239 2=some (3,2):=⟨by kernel_rfl,by kernel_rfl,by kernel_rfl,by kernel_rfl,by kernel_rfl,by kernel_rfl,by kernel_rfl,by kernel_rfl,by kernel_rfl,by kernel_rfl⟩
@[go_sem] theorem F.iC:BB prog 245=some 2∧AR prog 245=some true∧zeroOf prog 245=some [.int .i64 0,.int .i64 0]∧sized prog 245=true∧AS prog 245 0=some 0∧placeOf prog 245 0=some (0,1)∧AS prog 245 1=some 1∧placeOf prog 245 1=some (1,1):=⟨by kernel_rfl,by kernel_rfl,by kernel_rfl,by kernel_rfl,by kernel_rfl,by kernel_rfl,by kernel_rfl,by kernel_rfl⟩
@[go_sem] theorem F.gW:AR prog 263=some true∧zeroOf prog 263=some [.slice none 0 0,.slice none 0 0]∧sized prog 263=true∧AS prog 263 0=some 0∧placeOf prog 263 0=some (0,1)∧AS prog 263 1=some 1∧placeOf prog 263 1=some (1,1):=⟨by kernel_rfl,by kernel_rfl,by kernel_rfl,by kernel_rfl,by kernel_rfl,by kernel_rfl,by kernel_rfl⟩
@[go_sem] theorem F.ij:Ul prog 270=some .u64:=by kernel_rfl
@[go_sem] theorem F.gX:AR prog 289=some true∧zeroOf prog 289=some [.int .i64 0,.int .i64 0,.int .i64 0,.int .i64 0,.string (str []),.int .i64 0,.int .i64 0]∧sized prog 289=true∧placeOf prog 289 0=some (0,1)∧placeOf prog 289 1=some (1,3)∧placeOf prog 289 2=some (4,1)∧placeOf prog 289 3=some (5,2):=⟨by kernel_rfl,by kernel_rfl,by kernel_rfl,by kernel_rfl,by kernel_rfl,by kernel_rfl,by kernel_rfl⟩
@[go_sem] theorem F.hZ:An prog 297=some (1,1)∧A2 prog 297=some (1,1,8)∧Av prog 297=true:=⟨by kernel_rfl,by kernel_rfl,by kernel_rfl⟩
@[go_sem] theorem F.ia:An prog 301=some (53,2)∧A2 prog 301=some (53,2,16)∧Av prog 301=true:=⟨by kernel_rfl,by kernel_rfl,by kernel_rfl⟩
@[go_sem] theorem F.ib:An prog 327=some (100,1)∧A2 prog 327=some (100,1,24)∧Av prog 327=true:=⟨by kernel_rfl,by kernel_rfl,by kernel_rfl⟩
@[go_sem] theorem F.iD:BB prog 329=some 6∧AR prog 329=some true∧zeroOf prog 329=some [.bool false,.bool false,.bool false,.bool false,.bool false,.bool false]∧An prog 329=none∧C3 prog 329=some (6,1)∧Pj prog 329=some (6,1,false):=⟨by kernel_rfl,by kernel_rfl,by kernel_rfl,by kernel_rfl,by kernel_rfl,by kernel_rfl⟩
@[go_sem] theorem F.ic:An prog 336=none∧C3 prog 336=some (5,1):=⟨by kernel_rfl,by kernel_rfl⟩
@[go_sem] theorem F.ie:An prog 337=none∧C3 prog 337=some (5,5):=⟨by kernel_rfl,by kernel_rfl⟩
end Go.Rd
