/- part 9 of the proof -/
import Derived.ChangeShapes
import Derived.OpenShut
import Derived.RowKit
import Derived.Below
import Derived.ChangeSame
import Derived.WideKeyArgs
import Derived.KernelRfl
import Derived.Test.YthachdiockkofaaGreatDoorProg
import Derived.Test.YthachdiockkofaaGreatDoorL08
set_option linter.all false
namespace Go.Abs
open Go Go.ChangeShapes Go.WideShapes Go.RowKit
mutual
def wgt{H:Type}:DataW H→Nat
 |.lit (.string b)=>b.length+1
 |.lit _=>1
 |.nil=>1
 |.ptr d=>wgt d+1
 |.slice a b=>UD a+UD b+1
 |.agg a=>UD a+1
 |.iface _ d=>wgt d+1
 |.map _=>1
 |.held _=>1
def UD{H:Type}:List (DataW H)→Nat
 |[]=>0
 | d::r=>wgt d+UD r
end
def Rr{ro:Nat→Prop}{w:World}{ad:Addr}:∀ {xs:List AV} {us:List Value} {j:Nat},PRl ro w xs us→(∀ k,k<us.length→w.cell? (ad.add (j+k))=us[k]?)→PRc ro w xs ad j
 |[],[],_,_,_=>by simp[PRc]
 | x::xs,u::us,j,h,hc=>by
  simp only[PRc];refine⟨⟨u,by simpa using hc 0 (by simp),h.1⟩,Rr h.2 fun k hk=>?_⟩;have:=hc (k+1) (by simp;omega);rw[show j+1+k=j+(k+1) by omega];simpa using this
 |[],_::_,_,h,_=>False.elim h
 |_::_,[],_,h,_=>False.elim h
def Cod(P:Program)(t:TypeId){α:Type}(e:α→List AV)(m:α→Nat)(Q:α→Prop):Prop :=
 ∀ (H:Type) (enc:TypeId × Value→H) (w:World) (fuel:Nat) (cs:List Value) (x:DataW H × List MemPlace),DataW.trod enc P w 0 (fun _=>true) true fuel t cs=some x →
  ∃ a,Q a∧m a≤wgt x.1∧PRl (fun b=>b<w.heap.size) w (e a) cs
variable {P:Program} {t:TypeId}
def cH{k:IntKind}(ht:P.underlying t=some (.int k)):Cod P t (fun n:Int=>[.v (.int k n)]) (fun _=>1) (fun n=>(Lit.int k n).wf=true):=by
 intro H enc w fuel cs x h;obtain⟨n,rfl,rfl,hw⟩:=DataW.trod_int ht h;exact⟨n,hw,by simp[wgt],⟨rfl,by simp[Value.oneCell']⟩,trivial⟩
def UJ(a:Addr)(i j:Nat):(a.add i).add j=a.add (i+j):=Addr.add_add a i j
def NV{ro:Nat→Prop}{w:World}{ad:Addr}{n:Nat}{α:Type}{e:α→List AV} :
 ∀ {xs:List α} {i:Nat},(∀ k x,xs[k]?=some x→∃ cs,w.cells? 0 (ad.add ((i+k)*n)) n=some cs∧PRl ro w (e x) cs)→PRe ro w (xs.map e) ad n i
 |[],_,_=>by simp[PRe]
 | x::xs,i,h=>by
  simp only[List.map_cons,PRe];obtain⟨cs,hcs,hp⟩:=h 0 x rfl;obtain⟨_,hl,hc⟩:=World.cells?_some hcs;refine⟨hp.length.trans hl,Rr hp fun k hk=>?_,NV fun k y hy=>?_⟩
  ·rw[← UJ];exact hc k (by omega)
  ·have:=h (k+1) y (by simpa using hy)
   rwa [show i+1+k=i+(k+1) by omega]
def WK{H:Type}:∀ {ds:List (DataW H)} {α:Type} {m:α→Nat} {xs:List α},xs.length=ds.length→(∀ (k:Nat) (x:α) (d:DataW H),xs[k]?=some x→ds[k]?=some d→m x≤wgt d)→(xs.map m).sum≤UD ds
 |[],_,_,[],_,_=>by simp
 | d::ds,α,m,x::xs,hl,h=>by
  simp only[List.map_cons,List.sum_cons,UD];have h0:=h 0 x d rfl rfl;have:=WK (m:=m) (xs:=xs) (ds:=ds) (by simpa using hl) fun k y d hy hd=>h (k+1) y d (by simpa using hy) (by simpa using hd)
  omega
 |[],_,_,_::_,hl,_=>by simp at hl
 |_::_,_,_,[],hl,_=>by simp at hl
def pick{α β:Type}{q:Nat→β→Prop}{R:Nat→α→β→Prop}:∀ (n:Nat) (l:List β),l.length=n→(∀ i y,l[i]?=some y→∃ x,R i x y)→∃ xs:List α,xs.length=n∧∀ i x y,xs[i]?=some x→l[i]?=some y→R i x y:=by
 intro n
 induction n generalizing R with
 | zero=>intro l hl h;exact⟨[],rfl,fun i x y hx=>by simp at hx⟩
 | succ n ih =>
  intro l hl h;cases l with
  | nil=>simp at hl
  | cons y l =>
   obtain⟨x,hx⟩:=h 0 y rfl;obtain⟨xs,hxl,hxs⟩:=ih (R:=fun i=>R (i+1)) l (by simpa using hl) fun i y hy=>h (i+1) y (by simpa using hy)
   refine⟨x::xs,by simp[hxl],fun i a b ha hb=>?_⟩;cases i with
   | zero=>simp at ha hb;subst ha;subst hb;exact hx
   | succ i=>exact hxs i a b (by simpa using ha) (by simpa using hb)
def YU{el:TypeId}{α:Type}{e:α→List AV}{m:α→Nat}{Q:α→Prop}{n:Nat}(he:Cod P el e m Q)(ht:P.underlying t=some (.slice el))(hc:P.cellsOf el=n)(hn:0<n) :
 Cod P t (fun xs:List α=>[.sl .no n (xs.map e)]) (fun xs=>(xs.map m).sum+1) (fun xs=>∀ x∈xs,Q x):=by
 intro H enc w fuel cs x h;rcases DataW.trod_slice ht h with ⟨rfl,rfl⟩|⟨a,len,cap,elems,rest,k,rfl,rfl,rfl,_,hl,hm,hlen,hel,_,_⟩
 ·refine⟨[],by simp,by simp[wgt],?_,trivial⟩;simp only[List.map_nil,PR];exact⟨by simp,none,0,rfl,by simp,by simp,by simp,hn,Or.inl trivial⟩
 ·subst hlen;obtain⟨xs,hxl,hxs⟩:=pick (α:=α) (q:=fun _ _=>True) (R:=fun i x y=>Q x∧m x≤wgt y.1∧∃ cs,w.cells? 0 (a.add (i*n)) n=some cs∧PRl (fun b=>b<w.heap.size) w (e x) cs) elems.length elems rfl (by
   intro i y hy;have hi:i<elems.length:=by
    rcases Nat.lt_or_ge i elems.length with h|h
    ·exact h
    ·rw[List.getElem?_eq_none h]at hy;cases hy
   have:=hel i hi;rw[hy,hc,Option.bind_eq_some_iff]at this;obtain⟨cs,h1,h2⟩:=this;obtain⟨x,q1,q2,q3⟩:=he H enc w k cs y h2;exact⟨x,q1,q2,cs,h1,q3⟩)
  have hget:∀ i x,xs[i]?=some x→∃ y,elems[i]?=some y:=fun i x hx=>by
   have:i<elems.length:=by
    rcases Nat.lt_or_ge i xs.length with h|h
    ·omega
    ·rw[List.getElem?_eq_none h]at hx;cases hx
   exact⟨_,List.getElem?_eq_getElem this⟩
  refine⟨xs,fun x hx=>?_,?_,?_,trivial⟩
  ·obtain⟨i,hi⟩:=List.mem_iff_getElem?.1 hx;obtain⟨y,hy⟩:=hget i x hi;exact(hxs i x y hi hy).1
  ·simp only[wgt];have:=WK (m:=m) (xs:=xs) (ds:=elems.map (·.1)) (by simp[hxl]) fun i x d hx hd=>by
    obtain⟨y,hy⟩:=hget i x hx;simp only[List.getElem?_map,hy,Option.map_some,Option.some.injEq]at hd;subst hd;exact(hxs i x y hx hy).2.1
   omega
  ·simp only[PR];refine⟨by simp,some a,cap,by simp[hxl],by simp[hxl,hl],hm,by simp,hn,?_⟩;cases xs with
   | nil=>exact Or.inl rfl
   | cons x xs =>
    refine Or.inr ⟨a,rfl,?_,NV fun i x hx=>?_⟩
    ·obtain⟨y,hy⟩:=hget 0 x rfl;obtain⟨_,_,cs,h1,_⟩:=hxs 0 x y rfl hy;obtain⟨_,hl,hcell⟩:=World.cells?_some h1;have h0:=hcell 0 hn;cases cs with
     | nil=>simp at hl;omega
     | cons c cs=>exact(show (a.add (0*n+0)).block=a.block by simp[Addr.add])▸Fz (by rw[UJ]at h0;simpa using h0)
    ·obtain⟨y,hy⟩:=hget i x hx;obtain⟨_,_,cs,h1,h2⟩:=hxs i x y hx hy;exact⟨cs,by simpa using h1,h2⟩
def gh0(w:World):Gh:=⟨fun b=>if b<w.heap.size then .ro else .other,fun _=>w.heap.size,fun _=>w.heap.size,fun _ _=>w.heap.size⟩
def Vw(w:World):BJ (gh0 w)=fun b=>b<w.heap.size:=by
 funext b;simp only[BJ,gh0];split<;>simp_all
def Arg(P:Program)(t:TypeId){α:Type}(e:α→AV)(m:α→Nat)(Q:α→Prop):Prop :=
 ∀ (H:Type) (enc:TypeId × Value→H) (w:World) (base:Nat) (v:Value) (d:DataW H) (ps:List MemPlace),Value.okWide P w .any base t v→DataW.Trod enc P w 0 (fun _=>true) true t v d ps →
  ∃ a,Q a∧m a≤wgt d∧VR (gh0 w) w (e a) v
def YH{el:TypeId}{α:Type}{e:α→List AV}{m:α→Nat}{Q:α→Prop}{n:Nat}(he:Cod P el e m Q)(ht:P.underlying t=some (.slice el))(hc:P.cellsOf el=n)(hn:0<n) :
 Arg P t (fun xs:List α=>.sl .no n (xs.map e)) (fun xs=>(xs.map m).sum+1) (fun xs=>∀ x∈xs,Q x):=by
 intro H enc w base v d ps hv hd;obtain⟨a,len,cap,rfl⟩:=okWide_slice ht hv;obtain⟨fuel,hf⟩:=hd;obtain⟨xs,h,hm,hp⟩:=YU he ht hc hn H enc w fuel _ _ hf;simp only[PRl,Value.cells]at hp;refine⟨xs,h,hm,?_⟩;simp only[VR,Vw];exact hp.1
def Arg.map{α β:Type}{e:α→AV}{e':β→AV}{m:α→Nat}{m':β→Nat}{Q:α→Prop}{Q':β→Prop}(h:Arg P t e m Q)(hf:∀ a,Q a→∃ b,Q' b∧m' b≤m a∧e' b=e a):Arg P t e' m' Q':=by
 intro H enc w base v d ps hv hd;obtain⟨a,q1,q2,q3⟩:=h H enc w base v d ps hv hd;obtain⟨b,h1,h2,h3⟩:=hf a q1;exact⟨b,h1,Nat.le_trans h2 q2,h3▸q3⟩
def Args(P:Program):List TypeId→{α:Type}→(α→List AV)→(α→Nat)→(α→Prop)→Prop
 | ts,α,e,m,Q=>∀ (H:Type) (enc:TypeId × Value→H) (w:World) (base:Nat) (vs:List Value) (ds:List (DataW H)) (ps:List MemPlace),
  (∀ (j:Nat) t v,ts[j]?=some t→vs[j]?=some v→Value.okWide P w .any base t v)→DataW.TrodAll enc P w 0 (fun _=>true) true ts vs ds ps →
  ∃ a:α,Q a∧m a≤UD ds∧VRs (gh0 w) w (e a) vs
def Z2:Args P [] (fun _:Unit=>[]) (fun _=>0) (fun _=>True):=by
 intro H enc w base vs ds ps hv h;obtain⟨rfl,rfl,rfl⟩:=trodAll_nil h;exact⟨(),trivial,by simp,by simp[VRs]⟩
def Sg{ts:List TypeId}{α β:Type}{e:α→AV}{m:α→Nat}{Q:α→Prop}{e':β→List AV}{m':β→Nat}{Q':β→Prop}(h:Arg P t e m Q)(hs:Args P ts e' m' Q') :
 Args P (t::ts) (fun x:α × β=>e x.1::e' x.2) (fun x=>m x.1+m' x.2) (fun x=>Q x.1∧Q' x.2):=by
 intro H enc w base vs ds ps hv hd;obtain⟨v,vs,d,ds,p,q,rfl,rfl,rfl,h1,h2⟩:=trodAll_cons hd;obtain⟨a,a1,a2,a3⟩:=h H enc w base v d p (hv 0 t v rfl rfl) h1;obtain⟨b,b1,b2,b3⟩:=hs H enc w base vs ds q (fun j t v hj hjv=>hv (j+1) t v (by simpa using hj) (by simpa using hjv)) h2;exact⟨(a,b),⟨a1,b1⟩,by simp only[UD];omega,by simp only[VRs];exact⟨a3,b3⟩⟩
def Mu{H:Type}{enc:TypeId × Value→H}(hl:laidOutB P=true){W W':World}{sp':Nat→Bool}:∀ {ts:List TypeId} {vs:List Value} {ds:List (DataW H)} {ps:List MemPlace},
 (∀ t∈ts,P.readableRec t=true∧t<P.types.size)→DataW.TrodAll enc P W 0 (fun _=>true) true ts vs ds ps→(∀ p∈ps,W.sameAt W' p)→(∀ p∈ps,sp' p.block=true)→DataW.TrodAll enc P W' 0 sp' true ts vs ds ps
 |[],vs,ds,ps,_,h,_,_=>by
  obtain⟨rfl,rfl,rfl⟩:=trodAll_nil h;exact trodAll_mk0
 | t::ts,vs,ds,ps,hr,h,hs,hsp=>by
  obtain⟨v,vs,d,ds,p,q,rfl,rfl,rfl,h1,h2⟩:=trodAll_cons h;exact⟨p,q,WideElems.Trod_stays hl (hr t (by simp)).1 (hr t (by simp)).2 h1 (fun x hx=>hs x (by simp[hx])) (fun x hx=>hsp x (by simp[hx])),
   Mu hl (fun t ht=>hr t (by simp[ht])) h2 (fun x hx=>hs x (by simp[hx])) (fun x hx=>hsp x (by simp[hx])),rfl⟩
def WV{H:Type}{enc:TypeId × Value→H}{f:Func}{s:ChangeSpec}{apart fresh handsOn again:Bool}{W W':World}{args:Array Value}{v:Value}{ds gs:List (DataW H)}{before pa pv:List MemPlace}
 (hW:DataW.Whole enc P f.params.toList s.vars apart W args.toList ds gs before)
 (hres:∀ (b:Nat) (sp:Nat→Bool) (hd:Bool),DataW.TrodAll enc P W' b sp hd f.resultTypes.toList (v.resultList f.resultTypes.size) (s.fn H (ds++gs)).results [])
 (hargs:∀ sp:Nat→Bool,(∀ p∈before,sp p.block=true)→DataW.TrodAll enc P W' 0 sp true f.params.toList args.toList (s.fn H (ds++gs)).args pa)
 (hvars:∀ sp:Nat→Bool,(∀ p∈before,sp p.block=true)→DataW.TrodVars enc P W' sp s.vars (s.fn H (ds++gs)).vars pv)
 (hps:before=pa++pv) (hb:Below W.heap.size W W')
 (hok:∀ (j:Nat) (t:TypeId) (r:Value),f.resultTypes[j]?=some t→(v.resultList f.resultTypes.size)[j]?=some r→Value.okWide P W' .any 0 t r) :
 s.post enc P f apart fresh handsOn again W args v W':=by
 have hlt:∀ p∈before,p.block<W.heap.size:=fun p hp=>hW.lt p hp
 have hold:∀ p∈before,(fun b=>decide (b<W.heap.size)) p.block=true:=fun p hp=>by simpa using hlt p hp
 refine⟨ds,gs,before,[],pa,pv,hW,hres _ _ _,hargs _ hold,hvars _ hold,World.keptBut_mono (fun p hp=>⟨hp,?_⟩) (hb.frame (·∈before)),fun _=>?_⟩
 ·rw[hps,List.mem_append]at hp;exact Or.inr hp
 ·obtain⟨_,_,_,_,_,hz,hn⟩:=hW;refine⟨hok,_,_,([]++pa)++pv,⟨[]++pa,pv,trodAll_append (hargs _ (fun _ _=>rfl)) (hres _ _ _),hvars _ (fun _ _=>rfl),rfl,?_,?_⟩,?_⟩
  ·intro b off hp;have hin:MemPlace.cell b off∈before:=by rw[hps];simpa using hp
   rw[hb.frozen (hlt _ hin)];exact hz b off hin
  ·intro ha;have:=hn ha;rw[hps]at this;simpa using this
  ·intro p hp _;rw[hps];simpa using hp
end Go.Abs
namespace Go.Abs
inductive OT where
 | done
 | pick(l:List (Nat × OT))
mutual
def okT(ops:Array Oper)(dn:List Nat):OT→Bool
 |.done=>(List.range ops.size).all fun i=>dn.contains i
 |.pick l=>(List.range ops.size).any (fun i=>!dn.contains i&&(BA ops i).all fun e=>dn.contains e)&&(List.range ops.size).all (fun i=>dn.contains i||!((BA ops i).all fun e=>dn.contains e)||(SP l).contains i)&&dv ops dn l
def dv(ops:Array Oper)(dn:List Nat):List (Nat × OT)→Bool
 |[]=>true
 |(i,t)::l=>okT ops (i::dn) t&&dv ops dn l
def SP:List (Nat × OT)→List Nat
 |[]=>[]
 |(i,_)::l=>i::SP l
end
def MZ(ops:Array Oper)(i:Nat):List Oper:=match ops[i]? with
 |some o=>[o]
 |none=>[]
mutual
def wpT(X:Env)(ops:Array Oper)(K:St→Prop):OT→St→Prop
 |.done=>K
 |.pick l=>ZX X ops K l
def ZX(X:Env)(ops:Array Oper)(K:St→Prop):List (Nat × OT)→St→Prop
 |[]=>fun _=>True
 |(i,t)::l=>fun st=>Ba X ops (MZ ops i) (wpT X ops K t) st∧ZX X ops K l st
end
section
variable {X:Env} {A:A0} {N:Nat} {ops:Array Oper}
def YD(N:Nat)(ops:Array Oper):Prop:=(∀ o∈ops,IS N o=true)∧∀ i,i<ops.size→∀ e∈BA ops i,e<ops.size
def Nr(h:YD N ops){i:Nat}(e:Nat)(he:e∈BA ops i)(hi:i<ops.size):e<ops.size:=h.2 i hi e he
def NS(hA:A.ext=X.ext)(hX:∀ s∈X.ext,s%64=63){Q:Exit→Act→World→Prop}{K:St→Prop}{K':Act→World→Prop}{i:Nat}{o:Oper}(ho:ops[i]?=some o)(hk:∀ g' st' a' w',R X.C A N g' st' a' w'→K st'→K' a' w')
 {g:Gh} {st:St} {a:Act} {w:World} (hd:IS N o=true) (h:HU X ops o K st) (hR:R X.C A N g st a w):wpOp X.C.P ops Q i K' a w:=by
 unfold wpOp;simp only[ho];unfold HU at h;split at h
 ·rename_i hg;have:Region.wanted o (yielded ops a.tmps)=true:=by simp[Region.wanted,hg]
  simp only[this,if_true];exact .inl (LN hA hX hd h hR hk)
 ·rename_i j b hg;split at h
  ·rename_i b' hb;have hy:=Kk hR hb
   by_cases he:b'=b
   ·have:Region.wanted o (yielded ops a.tmps)=true:=by simp[Region.wanted,hg,hy,he]
    simp only[this,if_true];have h1:=h.1 he;subst he;rw[IA hb]at h1;exact .inl (LN hA hX hd h1 hR hk)
   ·have:Region.wanted o (yielded ops a.tmps)=false:=by simp[Region.wanted,hg,hy,he]
    simp only[this,Bool.false_eq_true,if_false];have hd':∀ k,o.dst=some k→k<N:=fun k hk=>by simp[IS,hk]at hd;exact hd
    have h1:=h.2 he;have hbb:(!b)=b':=by cases b<;>cases b'<;>first|rfl|exact absurd rfl he
    rw[hbb,IA hb]at h1;exact hk g _ _ w (hR.put hd' Ql) h1
  ·rename_i hb;have hy:=OD hR hb;have:Region.wanted o (yielded ops a.tmps)=false:=by simp[Region.wanted,hg,hy]
   simp only[this,Bool.false_eq_true,if_false];have hd':∀ k,o.dst=some k→k<N:=fun k hk=>by simp[IS,hk]at hd;exact hd
   exact hk g _ _ w (hR.put hd' Ql) h
  ·cases h
mutual
def MA(hA:A.ext=X.ext)(hX:∀ s∈X.ext,s%64=63)(hN:YD N ops){Q:Exit→Act→World→Prop}{K:St→Prop}(hQ:∀ g st a w,R X.C A N g st a w→K st→Q .normal a w) :
 ∀ (t:OT) (fuel:Nat) (dn:List Nat) (Af:Array Bool) (g:Gh) (st:St) (a:Act) (w:World),Af.size=ops.size→unl Af≤fuel→(∀ j,j<ops.size→dOf Af j=dn.contains j)→okT ops dn t=true→wpT X ops K t st→R X.C A N g st a w →
  wpAny X.C.P .any ops Q fuel Af a w
 |.done,fuel,dn,Af,g,st,a,w,hs,hu,hd,hok,h,hR=>by
  simp only[okT,List.all_eq_true,List.mem_range]at hok;have h0:Region.ready .any ops Af=[]:=by
   cases hrd:Region.ready .any ops Af with
   | nil=>rfl
   | cons j l =>
    have hj:j∈Region.ready .any ops Af:=by rw[hrd];simp
    have:=(BD hs).1 hj;rw[hd j this.1,hok j this.1]at this;simp at this
  simp only[wpT]at h;cases fuel with
  | zero=>exact⟨h0,hQ g st a w hR h⟩
  | succ fuel=>exact⟨fun _=>hQ g st a w hR h,fun j hj=>by rw[h0]at hj;cases hj⟩
 |.pick l,fuel,dn,Af,g,st,a,w,hs,hu,hd,hok,h,hR=>by
  simp only[okT,Bool.and_eq_true,List.all_eq_true,List.any_eq_true,List.mem_range]at hok;obtain⟨⟨⟨i,hi,hi1,hi2⟩,hok1⟩,hok2⟩:=hok;simp only[wpT]at h;have hmem:i∈Region.ready .any ops Af:=(BD hs).2 ⟨hi,by rw[hd i hi];simpa using hi1,fun e he=>by
   have h4:=hi2 e he;have hlt:=Nr hN e he hi;rw[hd e hlt];exact h4⟩
  have hkey:∀ j∈Region.ready .any ops Af,j∈SP l:=fun j hj=>by
   obtain⟨h1,h2,h3⟩:=(BD hs).1 hj;have:=hok1 j h1;rw[hd j h1]at h2;rw[h2]at this;have he:(BA ops j).all (fun e=>dn.contains e)=true:=List.all_eq_true.2 fun e he=>by
    have h4:=h3 e he;have hlt:=Nr hN e he h1;rw[hd e hlt]at h4;exact h4
   rw[he]at this;simpa using this
  cases fuel with
  | zero =>
   obtain⟨h1,h2,_⟩:=(BD hs).1 hmem;rw[HF (by omega) (by omega:i<Af.size)]at h2;cases h2
  | succ fuel =>
   refine⟨fun h0=>(by rw[h0]at hmem;cases hmem),fun j hj=>?_⟩;obtain⟨h1,h2,_⟩:=(BD hs).1 hj;exact Pc hA hX hN hQ l fuel dn Af g st a w hs (by have:=H7 (by omega:j<Af.size) h2;omega) hd hok2 h hR j h1 h2 (hkey j hj)
def Pc(hA:A.ext=X.ext)(hX:∀ s∈X.ext,s%64=63)(hN:YD N ops){Q:Exit→Act→World→Prop}{K:St→Prop}(hQ:∀ g st a w,R X.C A N g st a w→K st→Q .normal a w) :
 ∀ (l:List (Nat × OT)) (fuel:Nat) (dn:List Nat) (Af:Array Bool) (g:Gh) (st:St) (a:Act) (w:World),Af.size=ops.size→unl Af≤fuel+1→(∀ j,j<ops.size→dOf Af j=dn.contains j)→dv ops dn l=true→ZX X ops K l st→R X.C A N g st a w →
  ∀ j,j<ops.size→dOf Af j=false→j∈SP l→wpOp X.C.P ops Q j (wpAny X.C.P .any ops Q fuel (Af.setIfInBounds j true)) a w
 |[],_,_,_,_,_,_,_,_,_,_,_,_,_,j,_,_,hm=>by simp[SP]at hm
 |(i,t)::l,fuel,dn,Af,g,st,a,w,hs,hu,hd,hok,h,hR,j,hj,hnd,hm=>by
  simp only[dv,Bool.and_eq_true]at hok;simp only[ZX]at h
  by_cases hij:j=i
  ·subst hij;have ho:ops[j]?=some ops[j]:=Array.getElem?_eq_getElem hj;have h1:=h.1;simp only[MZ,ho,Ba]at h1;refine NS hA hX ho (fun g' st' a' w' hR' hK'=>?_) (hN.1 _ (Array.getElem_mem hj)) h1 hR;refine MA hA hX hN hQ t fuel (j::dn) _ g' st' a' w' (by simp[hs]) (by have:=H7 (by omega:j<Af.size) hnd;omega) (fun q hq=>?_) hok.1 hK' hR';rw[EH (by omega)];simp only[HJ,List.contains_cons]
   by_cases hqj:q=j
   ·subst hqj;simp
   ·simp[hqj,hd q hq]
  ·refine Pc hA hX hN hQ l fuel dn Af g st a w hs hu hd hok.2 h.2 hR j hj hnd ?_;simp only[SP,List.mem_cons]at hm;rcases hm with hm|hm
   ·exact absurd hm hij
   ·exact hm
end
end
def LP(ops:Array Oper):Bool:=(List.range ops.size).all fun i=>(BA ops i).all fun e=>decide (e<ops.size)
def Vd{X:Env}{ops:Array Oper}{K:St→Prop}{st:St}(t:OT)(hm:X.C.P.follows .mixedOrders=true)(hok:(LP ops&&okT ops [] t)=true)
 (h:wpT X ops K t st):Ju X ops K st:=by
 intro A N g a w hA hN hX hR id Q hQ;simp only[Bool.and_eq_true]at hok;refine wp_region_any hm ?_;refine MA hA hX (N:=N) (K:=K) ⟨fun o ho=>?_,fun i hi e he=>?_⟩ hQ t ops.size [] (Array.replicate ops.size false) g st a _ (by simp) (by simp[unl]) (fun j hj=>by simp[dOf,Array.getD,hj]) hok.2 h hR.drew
 ·unfold IS;cases hd:o.dst with
  |none=>rfl
  |some d=>simp;exact hN o ho d hd
 ·have:=hok.1;simp only[LP,List.all_eq_true,List.mem_range,decide_eq_true_eq]at this;exact this i hi e he
@[go_sem] theorem jy(X:Env)(ops:Array Oper)(K:St→Prop)(st:St):wpT X ops K .done st=K st:=by simp only[wpT]
@[go_sem] theorem jX(X:Env)(ops:Array Oper)(K:St→Prop)(i:Nat)(t:OT)(st:St):wpT X ops K (.pick [(i,t)]) st=Ba X ops (MZ ops i) (wpT X ops K t) st:=by simp only[wpT,ZX,and_true]
@[go_sem] theorem jY(X:Env)(ops:Array Oper)(K:St→Prop)(i j:Nat)(t t':OT)(l:List (Nat × OT))(st:St):wpT X ops K (.pick ((i,t)::(j,t')::l)) st=(Ba X ops (MZ ops i) (wpT X ops K t) st∧wpT X ops K (.pick ((j,t')::l)) st):=by simp only[wpT,ZX]
attribute [go_sem] MZ
end Go.Abs
open Go Go.Abs
namespace Go.Rd
abbrev Bs:=List UInt8
def str(l:Bs):ByteArray:=⟨l.toArray⟩
def cD(bs:ByteArray):∀ (n i:Nat) (r:List UInt8),bs.size-i=n→ByteArray.toList.loop bs i r=r.reverse++bs.data.toList.drop i:=by
 intro n
 induction n with
 | zero =>
  intro i r h;rw[ByteArray.toList.loop];have hs:bs.size=bs.data.size:=rfl;rw[if_neg (by omega),List.drop_eq_nil_of_le (by simp;omega)];simp
 | succ n ih =>
  intro i r h;rw[ByteArray.toList.loop];have hs:bs.size=bs.data.size:=rfl;rw[if_pos (by omega),ih (i+1) _ (by omega)];rw[List.drop_eq_getElem_cons (l:=bs.data.toList) (i:=i) (by simp;omega)];have:bs.get! i=bs.data.toList[i]'(by simp;omega):=by
   show bs.data[i]! = _;rw[getElem!_pos bs.data i (by omega)];simp
  simp[this]
def Si(l:List UInt8):(⟨l.toArray⟩:ByteArray).toList=l:=by
 unfold ByteArray.toList;rw[cD _ _ 0 [] rfl];simp
def b9(l:Bs):(str l).size=l.length:=rfl
def RI(l:Bs):(str l).toList=l:=Si l
structure Ab where
 site:Int
 inc:Int
 num:Int
 deriving DecidableEq
structure Amt where
 mode:Int
 Ax:Int
 deriving DecidableEq
structure AK where
 proc:Ab
 amt:Amt
 deriving DecidableEq
structure AP where
 proc:Ab
 amt:Amt
 prio:Int
 CQ:Int
 deriving DecidableEq
structure Res where
 name:Bs
 kind:Int
 Ax:Int
 home:Int
 deriving DecidableEq
structure Queue where
 res:Res
 holds:List AK
 Ao:List AP
 waits:List AP
 gen:Int
 deriving DecidableEq
structure Atom where
 name:Bs
 amt:Amt
 deriving DecidableEq
inductive Expr where
 | mk(k:Int)(atom:Atom)(kids:List Expr)
structure Need where
 proc:Ab
 expr:Expr
 gen:Int
structure WS where
 Aa:List Queue
 AE:List Need
def Ab.c(p:Ab):List AV:=[.v (.int .i64 p.site),.v (.int .i64 p.inc),.v (.int .i64 p.num)]
def Amt.c(a:Amt):List AV:=[.v (.int .i64 a.mode),.v (.int .i64 a.Ax)]
def AK.c(h:AK):List AV:=[.v (.int .i64 h.proc.site),.v (.int .i64 h.proc.inc),.v (.int .i64 h.proc.num),.v (.int .i64 h.amt.mode),.v (.int .i64 h.amt.Ax)]
def AP.c(h:AP):List AV:=[.v (.int .i64 h.proc.site),.v (.int .i64 h.proc.inc),.v (.int .i64 h.proc.num),.v (.int .i64 h.amt.mode),.v (.int .i64 h.amt.Ax),.v (.int .i64 h.prio),.v (.int .i64 h.CQ)]
def Res.c(r:Res):List AV:=[.v (.string (str r.name)),.v (.int .i64 r.kind),.v (.int .i64 r.Ax),.v (.int .i64 r.home)]
@[reducible] def AL(l:List AK):AV:=.sl .no 5 (l.map AK.c)
@[reducible] def Be(l:List AP):AV:=.sl .no 7 (l.map AP.c)
@[reducible] def AX(l:List Ab):AV:=.sl .no 3 (l.map Ab.c)
@[reducible] def Pd(l:List Amt):AV:=.sl .no 2 (l.map Amt.c)
def Queue.c(q:Queue):List AV:=[.v (.string (str q.res.name)),.v (.int .i64 q.res.kind),.v (.int .i64 q.res.Ax),.v (.int .i64 q.res.home),AL q.holds,Be q.Ao,Be q.waits,.v (.int .i64 q.gen)]
@[reducible] def AB(l:List Queue):AV:=.sl .no 8 (l.map Queue.c)
def Atom.c(a:Atom):List AV:=[.v (.string (str a.name)),.v (.int .i64 a.amt.mode),.v (.int .i64 a.amt.Ax)]
@[reducible] def BB(l:List Atom):AV:=.sl .no 3 (l.map Atom.c)
def Expr.k:Expr→Int
 |.mk k _ _=>k
def Expr.atom:Expr→Atom
 |.mk _ a _=>a
def Expr.kids:Expr→List Expr
 |.mk _ _ l=>l
mutual
def Expr.Yi:List Expr→List (List AV)
 |[]=>[]
 | e::l=>Expr.c e::Expr.Yi l
def Expr.c:Expr→List AV
 |.mk k a l=>[.v (.int .i64 k),.v (.string (str a.name)),.v (.int .i64 a.amt.mode),.v (.int .i64 a.amt.Ax),.sl .no 5 (Expr.Yi l)]
end
def SR:∀ l,Expr.Yi l=l.map Expr.c
 |[]=>rfl
 | e::l=>by simp[Expr.Yi,SR l]
@[reducible] def Fa(l:List Expr):AV:=.sl .no 5 (l.map Expr.c)
def Expr.BV(e:Expr):e.c=[.v (.int .i64 e.k),.v (.string (str e.atom.name)),.v (.int .i64 e.atom.amt.mode),.v (.int .i64 e.atom.amt.Ax),Fa e.kids]:=by
 cases e with
 | mk k a l=>simp[Expr.c,Expr.k,Expr.atom,Expr.kids,SR]
def Need.c(n:Need):List AV:=[.v (.int .i64 n.proc.site),.v (.int .i64 n.proc.inc),.v (.int .i64 n.proc.num),.v (.int .i64 n.expr.k),.v (.string (str n.expr.atom.name)),.v (.int .i64 n.expr.atom.amt.mode),.v (.int .i64 n.expr.atom.amt.Ax),Fa n.expr.kids,.v (.int .i64 n.gen)]
@[reducible] def Fe(l:List Need):AV:=.sl .no 9 (l.map Need.c)
def WS.c(s:WS):List AV:=[AB s.Aa,Fe s.AE]
attribute [go_sem] Ab.c Amt.c AK.c AP.c Res.c Queue.c Atom.c Expr.BV Need.c WS.c b9 RI Si
@[go_sem] theorem j9(k:IntKind)(n:Int):(Value.int k n).oneCell'=true:=rfl
@[go_sem] theorem jL(b:Bool):(Value.bool b).oneCell'=true:=rfl
@[go_sem] theorem kb(s:ByteArray):(Value.string s).oneCell'=true:=rfl
@[go_sem] theorem kM(a:Option Addr)(n m:Nat):(Value.slice a n m).oneCell'=true:=rfl
@[reducible] def I(n:Int):AV:=.v (.int .i64 n)
@[reducible] def B(b:Bool):AV:=.v (.bool b)
end Go.Rd
namespace Go.Abs
mutual
def lens:AV→Prop
 |.sl _ _ es=>es.length≤9223372036854775807
 |.agg cs=>ED cs
 |_=>True
def ED:List AV→Prop
 |[]=>True
 | c::cs=>lens c∧ED cs
end
mutual
def VR.lens{g:Gh}{w:World}:∀ (x:AV) (u:Value),VR g w x u→lens x
 |.sl (.own r lo) n es,u,h=>by
  simp only[VR,CC]at h;simp only[Abs.lens];rcases h.2 with ⟨_,h2⟩|⟨_,h2,_⟩|⟨cap,cur,T,_,h2,h3,_⟩
  ·subst h2;simp
  ·subst h2;simp
  ·simp only[maxLen]at h3;omega
 |.sl .no n es,u,h=>by
  simp only[VR,PR]at h;simp only[Abs.lens];obtain⟨_,a,cap,_,h2,h3,_⟩:=h;simp only[maxLen]at h3;omega
 |.sl .full n es,u,h=>by
  simp only[VR,PR]at h;simp only[Abs.lens];obtain⟨_,a,cap,_,h2,h3,_⟩:=h;simp only[maxLen]at h3;omega
 |.agg cs,u,h=>by
  simp only[VR]at h;simp only[Abs.lens];obtain⟨us,_,h⟩:=h;exact VRs.lens cs us.toList h
 |.undef,_,_=>by simp[Abs.lens]
 |.v _,_,_=>by simp[Abs.lens]
 |.tup _,_,_=>by simp[Abs.lens]
 |.ptr _ _,_,_=>by simp[Abs.lens]
 |.ep _ _ _ _,_,_=>by simp[Abs.lens]
 |.fn _ _,_,_=>by simp[Abs.lens]
 |.mv _ _,_,_=>by simp[Abs.lens]
 |.mp _,_,_=>by simp[Abs.lens]
 |.ifc _ _,_,_=>by simp[Abs.lens]
 |.hnd _ _ _ _ _ _ _,_,_=>by simp[Abs.lens]
 |.mem _ _,_,_=>by simp[Abs.lens]
def VRs.lens{g:Gh}{w:World}:∀ (xs:List AV) (us:List Value),VRs g w xs us→ED xs
 |[],_,_=>by simp[Abs.ED]
 | c::cs,[],h=>by simp[VRs]at h
 | c::cs,u::us,h=>by
  simp only[VRs]at h;simp only[Abs.ED];exact⟨VR.lens c u h.1,VRs.lens cs us h.2⟩
end
def Ad.assume{C:Ctx}{f:Nat}{fn:Func}{c:Code}{xs:List AV}{o o':List (Nat × List AV)}{y:AV}(hf:C.P.funcs[f]?=some fn)(hname:(fn.name=="runtime.NumGoroutine")=false)(hb:fn.body=some c)
 (h:ED xs→Ad C f xs o y o'):Ad C f xs o y o' :=
 ⟨⟨fn,c,hf,hname,hb⟩,fun g w us hg hv ho=>(h (VRs.lens xs us hv)).2 g w us hg hv ho⟩
end Go.Abs
namespace Go.Abs
def Ad.go{C:Ctx}{f:Nat}{xs:List AV}{o o':List (Nat × List AV)}{y:AV}(fn:Func)(h:wpA ⟨C,names o,[]⟩ (fn.body.getD .skip) (R9 ⟨C,names o,[]⟩ fn.results.toList y o') ⟨PU 0 xs,o⟩)
 (hf:C.P.funcs[f]?=some fn:=by kernel_rfl) (hname:(fn.name=="runtime.NumGoroutine")=false:=by kernel_rfl) (hb:fn.body=some (fn.body.getD .skip):=by kernel_rfl)
 (hok:Ft fn.ntmps (fn.body.getD .skip)=true:=by kernel_rfl) (hargs:Nat.ble xs.length fn.ntmps=true:=by kernel_rfl) (hext:∀ s∈names o,s%64=63:=by simp[names]):Ad C f xs o y o' :=
 Ad.intro hf hname hb hok (Nat.le_of_ble_eq_true hargs) hext h
def FnP.go{C:Ctx}{f:Nat}{xs:List AV}{o:List (Nat × List AV)}{S:AV→List (Nat × List AV)→Prop}(fn:Func)(h:wpA ⟨C,names o,[]⟩ (fn.body.getD .skip) (fQ ⟨C,names o,[]⟩ fn.results.toList S) ⟨PU 0 xs,o⟩)
 (hf:C.P.funcs[f]?=some fn:=by kernel_rfl) (hname:(fn.name=="runtime.NumGoroutine")=false:=by kernel_rfl) (hb:fn.body=some (fn.body.getD .skip):=by kernel_rfl)
 (hok:Ft fn.ntmps (fn.body.getD .skip)=true:=by kernel_rfl) (hargs:Nat.ble xs.length fn.ntmps=true:=by kernel_rfl) (hext:∀ s∈names o,s%64=63:=by simp[names]):FnP C f xs o S :=
 FnP.intro hf hname hb hok (Nat.le_of_ble_eq_true hargs) hext h
def Ad.lens{C:Ctx}{f:Nat}{xs:List AV}{o o':List (Nat × List AV)}{y:AV}(fn:Func)(h:ED xs→Ad C f xs o y o')
 (hf:C.P.funcs[f]?=some fn:=by kernel_rfl) (hname:(fn.name=="runtime.NumGoroutine")=false:=by kernel_rfl) (hb:fn.body=some (fn.body.getD .skip):=by kernel_rfl):Ad C f xs o y o' :=
 Ad.assume hf hname hb h
section
variable {X:Env} {d:Option Nat} {fid:Nat} {xs xs':List AV} {K:St→Prop} {st st':St} {y y':AV} {ob ob':List (Nat × List AV)}
def CL{rs:List ResultVar}(ρ:Rn)(xs:List AV)(h4:BZ ((pack xs).ren ρ) y)(h1:Dp X.C st rs=some xs:=by(try simp(disch:=omega)only[go_sem,Dp,JQ])<;>rfl)(h2:ρ.OK:=by exact⟨rfl,rfl⟩)(h3:∀ s∈X.ext,lk s ρ.m=some s:=by simp):R9 X rs y [] .ret st :=
 Bd ρ xs h1 h2 h3 h4 trivial
def Cn{rs:List ResultVar}(xs:List AV)(h4:BZ ((pack xs).ren ⟨[],[],[]⟩) y)(h1:Dp X.C st rs=some xs:=by(try simp(disch:=omega)only[go_sem,Dp,JQ])<;>rfl)(h3:∀ s∈X.ext,lk s []=some s:=by simp):R9 X rs y [] .ret st :=
 Bd ⟨[],[],[]⟩ xs h1 ⟨rfl,rfl⟩ h3 h4 trivial
def Cp{rs:List ResultVar}(ρ:Rn)(xs:List AV)(h4:BZ ((pack xs).ren ρ) y)(h5:Gt (LF ρ st) ob')(h1:Dp X.C st rs=some xs:=by(try simp(disch:=omega)only[go_sem,Dp,JQ])<;>rfl)(h2:ρ.OK:=by exact⟨rfl,rfl⟩)(h3:∀ s∈X.ext,lk s ρ.m=some s:=by simp[lk,names]):R9 X rs y ob' .ret st :=
 Bd ρ xs h1 h2 h3 h4 h5
def Ae(hok:Ad X.C fid xs' [] y [])(hk:K (st.put d y'))(hx:Ai (Fq ⟨[],[],[]⟩ xs) xs':=by simp(disch:=omega)only[go_sem])(hy:y.ren ⟨[],[],[]⟩=y':=by rfl):AW X d fid xs K st :=
 Ah hok hx hy hk
def Av{Al:List (Nat × List AV)}{p:List Nat}{i:Nat}{cr:List (Nat × List Nat × List Nat)}{K:List (Nat × List Nat × List Nat)→St→Prop}(hok:Ad X.C fid xs' [] y [])
 (h:Lh (rngs (Way.back ⟨⟨[],[],[]⟩,[],[]⟩).l) (rngs []) st.tmps∧F1 (rngs (Way.back ⟨⟨[],[],[]⟩,[],[]⟩).l) (rngs []) st.Al∧away cr p ⟨y.ren (Way.back ⟨⟨[],[],[]⟩,[],[]⟩),rngs (Way.back ⟨⟨[],[],[]⟩,[],[]⟩).l,rngs [],Ey (Way.back ⟨⟨[],[],[]⟩,[],[]⟩) []⟩ ∧
  K (HL i ⟨y.ren (Way.back ⟨⟨[],[],[]⟩,[],[]⟩),rngs (Way.back ⟨⟨[],[],[]⟩,[],[]⟩).l,rngs [],Ey (Way.back ⟨⟨[],[],[]⟩,[],[]⟩) []⟩ cr) ⟨(St.put d (y.ren (Way.back ⟨⟨[],[],[]⟩,[],[]⟩)) st).tmps,Ey (Way.back ⟨⟨[],[],[]⟩,[],[]⟩) []++st.Al⟩)
 (hx:Ai (Fq ⟨[],[],[]⟩ xs) xs':=by simp(disch:=omega)only[go_sem]):AU X d fid xs Al p i cr K st :=
 Az ⟨⟨[],[],[]⟩,[],[]⟩ hok hx rfl rfl trivial (.inl rfl) h
def AT(ht:Jp st st'.tmps:=by simp(disch:=omega)only[go_sem])(ho:Gt st st'.Al:=by simp(disch:=omega)only[go_sem]):Imp X st st':=Imp.Ar ht ho
def call2(v:Way)(hok:Ad X.C fid xs' ob y ob')(hk:K ((st.app (rngs v.back.l) (rngs v.fm) (rngs v.back.m) (Ey v.back ob')).put d (y.ren v.back)))
 (hx:Ai (Fq v.ρ xs) xs':=by simp(disch:=omega)only[go_sem]) (hh:UG v st ob:=by simp(disch:=omega)only[go_sem]) (hv:HG v ob=true:=by rfl) (hfl:v.ρ.bs=[]∨(Flat (y.ren v.back)∧IT (Ey v.back ob')):=by exact .inl rfl):AW X d fid xs K st :=
 Bq v hok hx hv hh hfl hk
end
def cb:List (List Nat × List Nat)→List (List Nat × List Nat)→Bool
 |[],_=>true
 |_::_,[]=>false
 |(p,ts)::t,(q,us)::u=>p.all (fun j=>q.contains j)&&ts==us&&cb t u
def iw(ops:Array Oper)(t l:List (List Nat × List Nat))(i:Nat):List (List Nat × List Nat):=l++[((List.range i).filter (fun j=>(BA ops i).any fun e=>j==e||(DD l e).contains j),(t.getD i ([],[])).2)]
def aK(ops:Array Oper)(t:List (List Nat × List Nat)):Nat→List (List Nat × List Nat)
 | 0=>[]
 | i+1=>iw ops t (aK ops t i) i
def Ng{p q:List Nat}(h:∀ j∈p,j∈q){r:Res}:∀ {cr:List (Nat × List Nat × List Nat)},away cr p r→away cr q r
 |[],_=>trivial
 |(i,S,T)::l,ha=>⟨ha.1.imp (h i) id,Ng h ha.2⟩
def LV{X:Env}{all:Array Oper}{Al:List (Nat × List AV)}{K:St→Prop}:∀ (os:List Oper) (t u:List (List Nat × List Nat)) (i:Nat) (cr:List (Nat × List Nat × List Nat)) (st:St),cb t u=true→Fx X all Al os t i cr K st→Fx X all Al os u i cr K st
 |[],_,_,_,_,_,_,h=>by simpa [Fx]using h
 |_::_,[],_,_,_,_,_,h=>by simp[Fx]at h
 |_::_,_::_,[],_,_,_,hs,_=>by simp[cb]at hs
 | o::os,(p,ts)::t,(q,us)::u,i,cr,st,hs,h=>by
  simp only[cb,Bool.and_eq_true,List.all_eq_true,beq_iff_eq]at hs;obtain⟨⟨h1,rfl⟩,h2⟩:=hs;have hpq:∀ j∈p,j∈q:=fun j hj=>by simpa using h1 j hj
  have run:∀ st:St,(Kj X o ⟨restr st ts,Al⟩ st p cr fun e=>o.dst.isSome=true∧Fx X all Al os t (i+1) (HL i e cr) K ⟨(St.put o.dst e.x st).tmps,e.Gk++st.Al⟩)→Kj X o ⟨restr st ts,Al⟩ st q cr fun e=>o.dst.isSome=true∧Fx X all Al os u (i+1) (HL i e cr) K ⟨(St.put o.dst e.x st).tmps,e.Gk++st.Al⟩:=fun st h=>by
   obtain⟨e,a,b,c,d,f,g,k⟩:=h;exact⟨e,a,b,c,d,f,Ng hpq g,k.1,LV os t u _ _ _ h2 k.2⟩
  simp only[Fx]at h ⊢;split at h
  ·exact run st h
  ·split at h
   ·exact⟨fun he=>run _ (h.1 he),fun he=>⟨(h.2 he).1,Ng hpq (h.2 he).2.1,LV os t u _ _ _ h2 (h.2 he).2.2⟩⟩
   ·exact⟨h.1,Ng hpq h.2.1,LV os t u _ _ _ h2 h.2.2⟩
   ·exact h.elim
def Aw{X:Env}{ops:List Oper}{K:St→Prop}{st:St}(k:Nat)(t:List (List Nat × List Nat))(hm:X.C.P.follows .mixedOrders=true)(h:A6 X ops.toArray st.Al (ops.take k) t 0 (Ba X ops.toArray (ops.drop k) K) [] st)
 (hok:(cb t (aK ops.toArray t ops.length)&&Th ops.toArray k (aK ops.toArray t ops.length))=true:=by kernel_rfl):Ju X ops.toArray K st:=by
 rw[Bool.and_eq_true]at hok;exact Xf k _ hm hok.2 (by simpa using LV _ _ _ _ _ _ hok.1 (Hp _ _ _ _ _ h))
def gI{p:Prop}(h:p:=by simp(disch:=omega)only[go_sem]):p:=h
def gO{p q:Prop}(h:q)(e:p=q:=by conv=>lhs;simp(disch:=omega)only[go_sem]):p:=e▸h
section
variable {X:Env} {st st':St} {y:AV} {rs:List ResultVar}
def AQ(xs:List AV)(h1:Dp X.C st rs=some xs:=by(try simp(disch:=omega)only[go_sem,Dp,JQ])<;>rfl)(h4:BZ ((pack xs).ren ⟨[],[],[]⟩) y:=by simp(disch:=omega)only[go_sem])(h3:∀ s∈X.ext,lk s []=some s:=by simp):R9 X rs y [] .ret st:=Cn xs h4 h1 h3
def As(xs:List AV){q:Prop}(h4:q)(h1:Dp X.C st rs=some xs:=by(try simp(disch:=omega)only[go_sem,Dp,JQ])<;>rfl)(e:BZ ((pack xs).ren ⟨[],[],[]⟩) y=q:=by conv=>lhs;simp(disch:=omega)only[go_sem])(h3:∀ s∈X.ext,lk s []=some s:=by simp):R9 X rs y [] .ret st:=Cn xs (e▸h4) h1 h3
def FQ(xs:List AV)(h1:Dp X.C st rs=some xs:=by(try simp(disch:=omega)only[go_sem,Dp,JQ])<;>rfl) (h4:BZ ((pack xs).ren ⟨[],[],[]⟩) y:=by
 refine gO ?_;refine .tup (Ai.AR ?_);simp(disch:=omega)only[go_sem]
 repeat'(with_reducible apply And.intro)
 all_goals(first|exact .AJ (by omega)|exact .agg (Ai.AR (by simp(disch:=omega)only[go_sem])))) (h3:∀ s∈X.ext,lk s []=some s:=by simp):R9 X rs y [] .ret st:=Cn xs h4 h1 h3
def B0 (h:Jp st st'.tmps∧Gt st st'.Al:=by
 refine⟨?_,?_⟩
 all_goals(try simp(disch:=omega)only[go_sem])
 all_goals(try(repeat'(with_reducible apply And.intro)))
 all_goals(first|exact .AO (by omega)|exact .AJ (by omega)|exact .sl (by simp[])|exact .int (by simp[])|exact .eq (by simp[]))):Imp X st st':=Imp.Ar h.1 h.2
end
def gm{α β:Type}(f:α→β)(l:List α)(i:Nat):(l.map f)[i]?=l[i]?.map f:=List.getElem?_map
def gE{α:Type}{l:List α}{i:Nat}(h:i<l.length):l[i]?=some l[i]:=List.getElem?_eq_getElem h
def mG{α:Type}{l:List α}{i:Nat}{a:α}(h:l[i]?=some a):a∈l:=List.mem_of_getElem? h
def kR{p:Prop}(h:p:=by kernel_rfl):p:=h
theorem zD{p:Prop}[Decidable p]:(decide p=true)=p:=decide_eq_true_eq
theorem zO{α:Type _}(a b:α):(some a=some b)=(a=b):=Option.some.injEq a b
theorem zM{α β:Type _}{f:α→β}{x:Option α}{b:β}(h:x.map f=some b):∃ a,x=some a∧f a=b:=Option.map_eq_some_iff.1 h
theorem zT:(!true)=false:=rfl
theorem zF:(!false)=true:=rfl
def gR{α:Type}{l:List α}{i:Nat}{P Q:Prop}(hi:i≤l.length)(h1:∀ b,l[i]?=some b→b∈l→i<l.length→P)(h2:i=l.length→Q):(decide ((i:Int)<(l.length:Int))=true→P)∧(decide ((i:Int)<(l.length:Int))=false→Q):=by
 refine⟨fun h=>?_,fun h=>?_⟩
 ·have hl:i<l.length:=by simpa using h
  exact h1 _ (List.getElem?_eq_getElem hl) (List.getElem_mem hl) hl
 ·have hn:¬ i<l.length:=by simpa using h
  exact h2 (by omega)
def tA{α:Type}{l:List α}{i:Nat}:l.take (i+1)=l.take i++l[i]?.toList:=List.take_add_one
def tL{α:Type}{l:List α}:l.take l.length=l:=List.take_length
end Go.Abs
open Go Go.Abs Go.Proofs
set_option maxRecDepth 100000
namespace Go.Rd
set_option maxHeartbeats 8000000
open Tryz
attribute [go_sem] if_pos wrap64 Int.natCast_add
def fol:prog.follows .mixedOrders=true:=kR
@[go_sem] theorem F.sz1:BH prog 1=some 1∧AY prog 1=some false∧zeroOf prog 1=some [.nilFunc]:=⟨kR,kR,kR⟩
@[go_sem] theorem F.sz3:BH prog 3=some 1∧AY prog 3=some false∧zeroOf prog 3=some [.int .i64 0]∧Vu prog 3=some .i64∧AD prog 3=false:=⟨kR,kR,kR,kR,kR⟩
@[go_sem] theorem F.i63:Yg prog 3=true:=kR
@[go_sem] theorem F.sz4:BH prog 4=some 1∧AY prog 4=some false∧zeroOf prog 4=some [.bool false]:=⟨kR,kR,kR⟩
@[go_sem] theorem F.sz9:BH prog 9=some 1∧AY prog 9=some false∧zeroOf prog 9=some [.string (str [])]∧KG prog 9=true:=⟨kR,kR,kR,kR⟩
@[go_sem] theorem F.lp:BH prog 22=some 1∧AY prog 22=some false∧Au prog 22=some (3,1)∧Bg prog 22=some (3,1,8)∧AD prog 22=true:=⟨kR,kR,kR,kR,kR⟩
@[go_sem] theorem F.lq:BH prog 25=some 1∧AY prog 25=some false∧Au prog 25=some (102,8)∧Bg prog 25=some (102,8,120)∧AD prog 25=true:=⟨kR,kR,kR,kR,kR⟩
@[go_sem] theorem F.lr:BH prog 26=some 1∧AY prog 26=some false∧Au prog 26=some (110,9)∧Bg prog 26=some (110,9,96)∧AD prog 26=true:=⟨kR,kR,kR,kR,kR⟩
@[go_sem] theorem F.lz:BH prog 28=some 2∧AY prog 28=some true∧zeroOf prog 28=some [.slice none 0 0,.slice none 0 0]∧sized prog 28=true∧A1 prog 28 0=some 0∧placeOf prog 28 0=some (0,1)∧A1 prog 28 1=some 1∧placeOf prog 28 1=some (1,1):=⟨kR,kR,kR,kR,kR,kR,kR,kR⟩
@[go_sem] theorem F.lA:BH prog 31=some 1∧AY prog 31=some false∧Au prog 31=some (38,3)∧Bg prog 31=some (38,3,24)∧AD prog 31=true:=⟨kR,kR,kR,kR,kR⟩
@[go_sem] theorem F.kr:BH prog 38=some 3:=kR
@[go_sem] theorem F.jZ:AY prog 38=some true:=kR
@[go_sem] theorem F.lS:zeroOf prog 38=some [.int .i64 0,.int .i64 0,.int .i64 0]∧sized prog 38=true∧A1 prog 38 0=some 0∧placeOf prog 38 0=some (0,1)∧A1 prog 38 1=some 1∧placeOf prog 38 1=some (1,1)∧A1 prog 38 2=some 2∧placeOf prog 38 2=some (2,1)∧structEq prog 38=some [1,1,1]:=⟨kR,kR,kR,kR,kR,kR,kR,kR,kR⟩
@[go_sem] theorem F.lB:BH prog 42=some 1∧AY prog 42=some false∧Au prog 42=some (62,16)∧Bg prog 42=some (62,16,184)∧AD prog 42=true:=⟨kR,kR,kR,kR,kR⟩
@[go_sem] theorem F.lC:BH prog 44=some 3∧AY prog 44=some true∧zeroOf prog 44=some [.int .i64 0,.slice none 0 0,.slice none 0 0]∧sized prog 44=true∧A1 prog 44 0=some 0∧A1 prog 44 1=some 1∧placeOf prog 44 1=some (1,1)∧A1 prog 44 2=some 2:=⟨kR,kR,kR,kR,kR,kR,kR,kR⟩
@[go_sem] theorem F.lD:BH prog 48=some 1∧AY prog 48=some false∧Au prog 48=some (239,5)∧Bg prog 48=some (239,5,48)∧AD prog 48=true:=⟨kR,kR,kR,kR,kR⟩
@[go_sem] theorem F.lE:BH prog 49=some 1∧AY prog 49=some false∧Au prog 49=some (245,2)∧Bg prog 49=some (245,2,16)∧AD prog 49=true:=⟨kR,kR,kR,kR,kR⟩
@[go_sem] theorem F.lF:BH prog 51=some 2∧AY prog 51=some true∧zeroOf prog 51=some [.slice none 0 0,.slice none 0 0]∧sized prog 51=true∧A1 prog 51 0=some 0∧placeOf prog 51 0=some (0,1)∧A1 prog 51 1=some 1∧placeOf prog 51 1=some (1,1):=⟨kR,kR,kR,kR,kR,kR,kR,kR⟩
@[go_sem] theorem F.lG:BH prog 53=some 2∧AY prog 53=some true∧zeroOf prog 53=some [.int .i64 0,.int .i64 0]∧sized prog 53=true∧A1 prog 53 0=some 0∧placeOf prog 53 0=some (0,1)∧A1 prog 53 1=some 1∧placeOf prog 53 1=some (1,1)∧structEq prog 53=some [1,1]:=⟨kR,kR,kR,kR,kR,kR,kR,kR,kR⟩
@[go_sem] theorem F.lH:BH prog 55=some 3∧AY prog 55=some true∧zeroOf prog 55=some [.string (str []),.int .i64 0,.int .i64 0]∧sized prog 55=true∧A1 prog 55 0=some 0∧placeOf prog 55 0=some (0,1)∧A1 prog 55 1=some 1∧placeOf prog 55 1=some (1,2)∧structEq prog 55=some [2,1,1]:=⟨kR,kR,kR,kR,kR,kR,kR,kR,kR⟩
@[go_sem] theorem F.lI:BH prog 56=some 1∧AY prog 56=some false∧Au prog 56=some (58,5)∧Bg prog 56=some (58,5,64)∧AD prog 56=true:=⟨kR,kR,kR,kR,kR⟩
@[go_sem] theorem F.lJ:BH prog 58=some 5∧AY prog 58=some true∧zeroOf prog 58=some [.int .i64 0,.string (str []),.int .i64 0,.int .i64 0,.slice none 0 0]∧sized prog 58=true∧A1 prog 58 0=some 0∧placeOf prog 58 0=some (0,1)∧A1 prog 58 1=some 1∧placeOf prog 58 1=some (1,3)∧A1 prog 58 2=some 4:=⟨kR,kR,kR,kR,kR,kR,kR,kR,kR⟩
@[go_sem] theorem F.lK:BH prog 60=some 7∧AY prog 60=some true∧zeroOf prog 60=some [.int .i64 0,.string (str []),.int .i64 0,.int .i64 0,.slice none 0 0,.int .i64 0,.int .i64 0]∧sized prog 60=true∧A1 prog 60 0=some 0∧A1 prog 60 1=some 5∧placeOf prog 60 1=some (5,1)∧A1 prog 60 2=some 6:=⟨kR,kR,kR,kR,kR,kR,kR,kR⟩
@[go_sem] theorem F.lL:BH prog 62=some 16∧AY prog 62=some true∧zeroOf prog 62=some [.int .i64 0,.int .i64 0,.int .i64 0,.int .i64 0,.slice none 0 0,.slice none 0 0,.bool false,.int .i64 0,.string (str []),.int .i64 0,.int .i64 0,.slice none 0 0,.int .i64 0,.int .i64 0,.int .i64 0,.int .i64 0]∧sized prog 62=true∧A1 prog 62 0=some 0∧placeOf prog 62 0=some (0,3)∧A1 prog 62 1=some 3∧placeOf prog 62 1=some (3,1)∧A1 prog 62 2=some 4∧A1 prog 62 3=some 6∧A1 prog 62 4=some 7∧A1 prog 62 5=some 14:=⟨kR,kR,kR,kR,kR,kR,kR,kR,kR,kR,kR,kR⟩
@[go_sem] theorem F.ke:A1 prog 62 6=some 15:=kR
@[go_sem] theorem F.lM:BH prog 67=some 1∧AY prog 67=some false∧Bg prog 67=some (289,7,64)∧AD prog 67=true:=⟨kR,kR,kR,kR⟩
@[go_sem] theorem F.lN:BH prog 71=some 13∧AY prog 71=some true∧zeroOf prog 71=some [.int .i64 0,.int .i64 0,.int .i64 0,.int .i64 0,.int .i64 0,.string (str []),.int .i64 0,.int .i64 0,.slice none 0 0,.int .i64 0,.int .i64 0,.string (str []),.int .i64 0]∧sized prog 71=true∧A1 prog 71 0=some 0∧placeOf prog 71 0=some (0,1)∧A1 prog 71 1=some 1∧placeOf prog 71 1=some (1,3)∧A1 prog 71 2=some 4∧A1 prog 71 3=some 11∧A1 prog 71 4=some 12∧placeOf prog 71 4=some (12,1):=⟨kR,kR,kR,kR,kR,kR,kR,kR,kR,kR,kR,kR⟩
@[go_sem] theorem F.lh:AY prog 81=some true∧zeroOf prog 81=some [.slice none 0 0,.int .i64 0]∧sized prog 81=true∧A1 prog 81 0=some 0∧placeOf prog 81 0=some (0,1)∧A1 prog 81 1=some 1:=⟨kR,kR,kR,kR,kR,kR⟩
@[go_sem] theorem F.lO:BH prog 86=some 1∧AY prog 86=some false∧Au prog 86=some (107,6)∧Bg prog 86=some (107,6,72)∧AD prog 86=true:=⟨kR,kR,kR,kR,kR⟩
@[go_sem] theorem F.lP:BH prog 88=some 4∧AY prog 88=some true∧zeroOf prog 88=some [.slice none 0 0,.slice none 0 0,.slice none 0 0,.slice none 0 0]∧sized prog 88=true∧A1 prog 88 0=some 0∧placeOf prog 88 0=some (0,2)∧A1 prog 88 1=some 2∧placeOf prog 88 1=some (2,1)∧A1 prog 88 2=some 3:=⟨kR,kR,kR,kR,kR,kR,kR,kR,kR⟩
@[go_sem] theorem F.lj:Au prog 96=some (98,4)∧Bg prog 96=some (98,4,40)∧AD prog 96=true:=⟨kR,kR,kR⟩
@[go_sem] theorem F.lQ:BH prog 98=some 4∧AY prog 98=some true∧zeroOf prog 98=some [.string (str []),.int .i64 0,.int .i64 0,.int .i64 0]∧sized prog 98=true∧A1 prog 98 0=some 0∧placeOf prog 98 0=some (0,1)∧A1 prog 98 1=some 1∧placeOf prog 98 1=some (1,1)∧A1 prog 98 2=some 2∧placeOf prog 98 2=some (2,1)∧A1 prog 98 3=some 3∧placeOf prog 98 3=some (3,1):=⟨kR,kR,kR,kR,kR,kR,kR,kR,kR,kR,kR,kR⟩
@[go_sem] theorem F.ln:structEq prog 98=some [2,1,1,1]:=kR
@[go_sem] theorem F.lR:BH prog 99=some 1∧AY prog 99=some false∧Au prog 99=some (178,5)∧Bg prog 99=some (178,5,40)∧AD prog 99=true:=⟨kR,kR,kR,kR,kR⟩
@[go_sem] theorem F.kO:BH prog 100=some 1∧AY prog 100=some false∧zeroOf prog 100=some [.slice none 0 0]∧Au prog 100=some (181,7)∧Bg prog 100=some (181,7,56)∧AD prog 100=true:=⟨kR,kR,kR,kR,kR,kR⟩
@[go_sem] theorem F.kP:BH prog 102=some 8∧AY prog 102=some true∧zeroOf prog 102=some [.string (str []),.int .i64 0,.int .i64 0,.int .i64 0,.slice none 0 0,.slice none 0 0,.slice none 0 0,.int .i64 0]∧sized prog 102=true∧A1 prog 102 0=some 0∧placeOf prog 102 0=some (0,4)∧A1 prog 102 1=some 4∧placeOf prog 102 1=some (4,1)∧A1 prog 102 2=some 5∧A1 prog 102 3=some 6∧placeOf prog 102 3=some (6,1)∧A1 prog 102 4=some 7:=⟨kR,kR,kR,kR,kR,kR,kR,kR,kR,kR,kR,kR⟩
@[go_sem] theorem F.kQ:BH prog 107=some 6∧AY prog 107=some true∧zeroOf prog 107=some [.int .i64 0,.int .i64 0,.int .i64 0,.string (str []),.int .i64 0,.slice none 0 0]∧sized prog 107=true∧A1 prog 107 0=some 0∧placeOf prog 107 0=some (0,3)∧A1 prog 107 1=some 3∧placeOf prog 107 1=some (3,1)∧A1 prog 107 2=some 4∧A1 prog 107 3=some 5:=⟨kR,kR,kR,kR,kR,kR,kR,kR,kR,kR⟩
@[go_sem] theorem F.kS:BH prog 110=some 9∧AY prog 110=some true∧zeroOf prog 110=some [.int .i64 0,.int .i64 0,.int .i64 0,.int .i64 0,.string (str []),.int .i64 0,.int .i64 0,.slice none 0 0,.int .i64 0]∧sized prog 110=true∧A1 prog 110 0=some 0∧placeOf prog 110 0=some (0,3)∧A1 prog 110 1=some 3∧placeOf prog 110 1=some (3,5)∧A1 prog 110 2=some 8∧placeOf prog 110 2=some (8,1):=⟨kR,kR,kR,kR,kR,kR,kR,kR,kR,kR⟩
@[go_sem] theorem F.kC:Au prog 117=some (71,13)∧Bg prog 117=some (71,13,136)∧AD prog 117=true:=⟨kR,kR,kR⟩
@[go_sem] theorem F.ky:AY prog 128=some true∧zeroOf prog 128=some [.int .i64 0,.slice none 0 0,.slice none 0 0,.slice none 0 0]∧sized prog 128=true∧A1 prog 128 0=some 0∧placeOf prog 128 0=some (0,3)∧A1 prog 128 1=some 3:=⟨kR,kR,kR,kR,kR,kR⟩
@[go_sem] theorem F.eE:bj prog 137=some (139,true,[1,1,1,2],4):=kR
@[go_sem] theorem F.kT:BH prog 139=some 4∧AY prog 139=some true∧zeroOf prog 139=some [.int .i64 0,.int .i64 0,.int .i64 0,.string (str [])]∧sized prog 139=true∧placeOf prog 139 0=some (0,3)∧placeOf prog 139 1=some (3,1):=⟨kR,kR,kR,kR,kR,kR⟩
@[go_sem] theorem F.kU:BH prog 143=some 1∧AY prog 143=some false∧Au prog 143=some (4,1)∧Bg prog 143=some (4,1,1)∧AD prog 143=true:=⟨kR,kR,kR,kR,kR⟩
@[go_sem] theorem F.kV:BH prog 144=some 1∧AY prog 144=some false∧zeroOf prog 144=some [.slice none 0 0]∧Au prog 144=some (55,3)∧Bg prog 144=some (55,3,32)∧AD prog 144=true:=⟨kR,kR,kR,kR,kR,kR⟩
@[go_sem] theorem F.kW:BH prog 163=some 3∧AY prog 163=some true∧zeroOf prog 163=some [.int .i64 0,.int .i64 0,.int .i64 0]∧Au prog 163=none∧Du prog 163=some (3,1)∧P9 prog 163=some (3,1,false)∧sized prog 163=true∧placeOf prog 163 0=some (0,1)∧placeOf prog 163 1=some (1,1)∧placeOf prog 163 2=some (2,1):=⟨kR,kR,kR,kR,kR,kR,kR,kR,kR,kR⟩
@[go_sem] theorem F.kX:BH prog 178=some 5∧AY prog 178=some true∧zeroOf prog 178=some [.int .i64 0,.int .i64 0,.int .i64 0,.int .i64 0,.int .i64 0]∧sized prog 178=true∧A1 prog 178 0=some 0∧placeOf prog 178 0=some (0,3)∧A1 prog 178 1=some 3∧placeOf prog 178 1=some (3,2)∧structEq prog 178=some [1,1,1,1,1]:=⟨kR,kR,kR,kR,kR,kR,kR,kR,kR⟩
@[go_sem] theorem F.kY:BH prog 181=some 7∧AY prog 181=some true∧zeroOf prog 181=some [.int .i64 0,.int .i64 0,.int .i64 0,.int .i64 0,.int .i64 0,.int .i64 0,.int .i64 0]∧sized prog 181=true∧A1 prog 181 0=some 0∧placeOf prog 181 0=some (0,3)∧A1 prog 181 1=some 3∧placeOf prog 181 1=some (3,2)∧A1 prog 181 2=some 5∧placeOf prog 181 2=some (5,1)∧A1 prog 181 3=some 6∧structEq prog 181=some [1,1,1,1,1,1,1]:=⟨kR,kR,kR,kR,kR,kR,kR,kR,kR,kR,kR,kR⟩
@[go_sem] theorem F.kD:Au prog 194=some (199,3)∧Bg prog 194=some (199,3,24)∧AD prog 194=true:=⟨kR,kR,kR⟩
@[go_sem] theorem F.kZ:BH prog 196=some 1∧AY prog 196=some false:=⟨kR,kR⟩
@[go_sem] theorem F.k9:BH prog 197=some 1∧AY prog 197=some false:=⟨kR,kR⟩
@[go_sem] theorem F.lb:BH prog 199=some 3∧AY prog 199=some true∧zeroOf prog 199=some [.int .i64 0,.nilFunc,.nilFunc]∧sized prog 199=true∧A1 prog 199 0=some 0∧placeOf prog 199 0=some (0,1)∧A1 prog 199 1=some 1∧placeOf prog 199 1=some (1,1)∧A1 prog 199 2=some 2∧placeOf prog 199 2=some (2,1):=⟨kR,kR,kR,kR,kR,kR,kR,kR,kR,kR⟩
@[go_sem] theorem F.kE:Au prog 216=some (9,1)∧Bg prog 216=some (9,1,16)∧AD prog 216=true:=⟨kR,kR,kR⟩
@[go_sem] theorem F.ld:BH prog 239=some 5∧AY prog 239=some true∧zeroOf prog 239=some [.string (str []),.int .i64 0,.int .i64 0,.int .i64 0,.int .i64 0]∧sized prog 239=true∧A1 prog 239 0=some 0∧placeOf prog 239 0=some (0,1)∧A1 prog 239 1=some 1∧placeOf prog 239 1=some (1,2)∧A1 prog 239 2=some 3∧placeOf prog 239 2=some (3,2):=⟨kR,kR,kR,kR,kR,kR,kR,kR,kR,kR⟩
@[go_sem] theorem F.lf:BH prog 245=some 2∧AY prog 245=some true∧zeroOf prog 245=some [.int .i64 0,.int .i64 0]∧sized prog 245=true∧A1 prog 245 0=some 0∧placeOf prog 245 0=some (0,1)∧A1 prog 245 1=some 1∧placeOf prog 245 1=some (1,1):=⟨kR,kR,kR,kR,kR,kR,kR,kR⟩
@[go_sem] theorem F.kz:AY prog 263=some true∧zeroOf prog 263=some [.slice none 0 0,.slice none 0 0]∧sized prog 263=true∧A1 prog 263 0=some 0∧placeOf prog 263 0=some (0,1)∧A1 prog 263 1=some 1∧placeOf prog 263 1=some (1,1):=⟨kR,kR,kR,kR,kR,kR,kR⟩
@[go_sem] theorem F.kL:Vu prog 270=some .u64:=kR
@[go_sem] theorem F.kA:AY prog 289=some true∧zeroOf prog 289=some [.int .i64 0,.int .i64 0,.int .i64 0,.int .i64 0,.string (str []),.int .i64 0,.int .i64 0]∧sized prog 289=true∧placeOf prog 289 0=some (0,1)∧placeOf prog 289 1=some (1,3)∧placeOf prog 289 2=some (4,1)∧placeOf prog 289 3=some (5,2):=⟨kR,kR,kR,kR,kR,kR,kR⟩
@[go_sem] theorem F.kF:Au prog 297=some (1,1)∧Bg prog 297=some (1,1,8)∧AD prog 297=true:=⟨kR,kR,kR⟩
@[go_sem] theorem F.kG:Au prog 301=some (53,2)∧Bg prog 301=some (53,2,16)∧AD prog 301=true:=⟨kR,kR,kR⟩
@[go_sem] theorem F.kH:Au prog 327=some (100,1)∧Bg prog 327=some (100,1,24)∧AD prog 327=true:=⟨kR,kR,kR⟩
@[go_sem] theorem F.lg:BH prog 329=some 6∧AY prog 329=some true∧zeroOf prog 329=some [.bool false,.bool false,.bool false,.bool false,.bool false,.bool false]∧Au prog 329=none∧Du prog 329=some (6,1)∧P9 prog 329=some (6,1,false):=⟨kR,kR,kR,kR,kR,kR⟩
@[go_sem] theorem F.kI:Au prog 336=none∧Du prog 336=some (5,1):=⟨kR,kR⟩
@[go_sem] theorem F.kJ:Au prog 337=none∧Du prog 337=some (5,5):=⟨kR,kR⟩
end Go.Rd
