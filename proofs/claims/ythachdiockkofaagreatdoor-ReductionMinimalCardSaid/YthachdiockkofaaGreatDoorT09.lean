/- part 9 of the proof -/
import Derived.ChangeShapes
import Derived.OpenShut
import Derived.RowKit
import Derived.Below
import Derived.ChangeSame
import Derived.WideKeyArgs
import Derived.KernelRfl
import Derived.Test.YthachdiockkofaaGreatDoorProg
import Derived.Test.YthachdiockkofaaGreatDoorT08
set_option linter.all false
namespace Go.Abs
open Go Go.ChangeShapes Go.WideShapes Go.RowKit
mutual
def wgt{H:Type}:DataW H→Nat
 |.lit (.string b)=>b.length+1
 |.lit _=>1
 |.nil=>1
 |.ptr d=>wgt d+1
 |.slice a b=>R1 a+R1 b+1
 |.agg a=>R1 a+1
 |.iface _ d=>wgt d+1
 |.map _=>1
 |.held _=>1
def R1{H:Type}:List (DataW H)→Nat
 |[]=>0
 | d::r=>wgt d+R1 r
end
theorem Pm{ro:Nat→Prop}{w:World}{ad:Addr}:∀ {xs:List AV} {us:List Value} {j:Nat},PRl ro w xs us→(∀ k,k<us.length→w.cell? (ad.add (j+k))=us[k]?)→PRc ro w xs ad j
 |[],[],_,_,_=>by simp[PRc]
 | x::xs,u::us,j,h,hc=>by
  simp only[PRc]
  refine⟨⟨u,by simpa using hc 0 (by simp),h.1⟩,Pm h.2 fun k hk=>?_⟩
  have:=hc (k+1) (by simp;omega)
  rw[show j+1+k=j+(k+1) by omega]
  simpa using this
 |[],_::_,_,h,_=>False.elim h
 |_::_,[],_,h,_=>False.elim h
def Cod(P:Program)(t:TypeId){α:Type}(e:α→List AV)(m:α→Nat)(Q:α→Prop):Prop :=
 ∀ (H:Type) (enc:TypeId × Value→H) (w:World) (fuel:Nat) (cs:List Value) (x:DataW H × List MemPlace),DataW.trod enc P w 0 (fun _=>true) true fuel t cs=some x →
  ∃ a,Q a∧m a≤wgt x.1∧PRl (fun b=>b<w.heap.size) w (e a) cs
variable {P:Program} {t:TypeId}
theorem UO{k:IntKind}(ht:P.underlying t=some (.int k)):Cod P t (fun n:Int=>[.v (.int k n)]) (fun _=>1) (fun n=>(Lit.int k n).wf=true):=by
 intro H enc w fuel cs x h
 obtain⟨n,rfl,rfl,hw⟩:=DataW.trod_int ht h
 exact⟨n,hw,by simp[wgt],⟨rfl,by simp[Value.oneCell']⟩,trivial⟩
theorem R7(a:Addr)(i j:Nat):(a.add i).add j=a.add (i+j):=Addr.add_add a i j
theorem L8{ro:Nat→Prop}{w:World}{ad:Addr}{n:Nat}{α:Type}{e:α→List AV} :
 ∀ {xs:List α} {i:Nat},(∀ k x,xs[k]?=some x→∃ cs,w.cells? 0 (ad.add ((i+k)*n)) n=some cs∧PRl ro w (e x) cs)→PRe ro w (xs.map e) ad n i
 |[],_,_=>by simp[PRe]
 | x::xs,i,h=>by
  simp only[List.map_cons,PRe]
  obtain⟨cs,hcs,hp⟩:=h 0 x rfl
  obtain⟨_,hl,hc⟩:=World.cells?_some hcs
  refine⟨hp.length.trans hl,Pm hp fun k hk=>?_,L8 fun k y hy=>?_⟩
  ·rw[← R7]
   exact hc k (by omega)
  ·have:=h (k+1) y (by simpa using hy)
   rwa [show i+1+k=i+(k+1) by omega]
theorem TP{H:Type}:∀ {ds:List (DataW H)} {α:Type} {m:α→Nat} {xs:List α},xs.length=ds.length→(∀ (k:Nat) (x:α) (d:DataW H),xs[k]?=some x→ds[k]?=some d→m x≤wgt d)→(xs.map m).sum≤R1 ds
 |[],_,_,[],_,_=>by simp
 | d::ds,α,m,x::xs,hl,h=>by
  simp only[List.map_cons,List.sum_cons,R1]
  have h0:=h 0 x d rfl rfl
  have:=TP (m:=m) (xs:=xs) (ds:=ds) (by simpa using hl) fun k y d hy hd=>h (k+1) y d (by simpa using hy) (by simpa using hd)
  omega
 |[],_,_,_::_,hl,_=>by simp at hl
 |_::_,_,_,[],hl,_=>by simp at hl
theorem pick{α β:Type}{q:Nat→β→Prop}{R:Nat→α→β→Prop}:∀ (n:Nat) (l:List β),l.length=n→(∀ i y,l[i]?=some y→∃ x,R i x y)→∃ xs:List α,xs.length=n∧∀ i x y,xs[i]?=some x→l[i]?=some y→R i x y:=by
 intro n
 induction n generalizing R with
 | zero=>intro l hl h;exact⟨[],rfl,fun i x y hx=>by simp at hx⟩
 | succ n ih =>
  intro l hl h
  cases l with
  | nil=>simp at hl
  | cons y l =>
   obtain⟨x,hx⟩:=h 0 y rfl
   obtain⟨xs,hxl,hxs⟩:=ih (R:=fun i=>R (i+1)) l (by simpa using hl) fun i y hy=>h (i+1) y (by simpa using hy)
   refine⟨x::xs,by simp[hxl],fun i a b ha hb=>?_⟩
   cases i with
   | zero=>simp at ha hb;subst ha;subst hb;exact hx
   | succ i=>exact hxs i a b (by simpa using ha) (by simpa using hb)
theorem Vy{el:TypeId}{α:Type}{e:α→List AV}{m:α→Nat}{Q:α→Prop}{n:Nat}(he:Cod P el e m Q)(ht:P.underlying t=some (.slice el))(hc:P.cellsOf el=n)(hn:0<n) :
 Cod P t (fun xs:List α=>[.sl .no n (xs.map e)]) (fun xs=>(xs.map m).sum+1) (fun xs=>∀ x∈xs,Q x):=by
 intro H enc w fuel cs x h
 rcases DataW.trod_slice ht h with ⟨rfl,rfl⟩|⟨a,len,cap,elems,rest,k,rfl,rfl,rfl,_,hl,hm,hlen,hel,_,_⟩
 ·refine⟨[],by simp,by simp[wgt],?_,trivial⟩
  simp only[List.map_nil,PR]
  exact⟨by simp,none,0,rfl,by simp,by simp,by simp,hn,Or.inl trivial⟩
 ·subst hlen
  obtain⟨xs,hxl,hxs⟩:=pick (α:=α) (q:=fun _ _=>True) (R:=fun i x y=>Q x∧m x≤wgt y.1∧∃ cs,w.cells? 0 (a.add (i*n)) n=some cs∧PRl (fun b=>b<w.heap.size) w (e x) cs) elems.length elems rfl (by
   intro i y hy
   have hi:i<elems.length:=by
    rcases Nat.lt_or_ge i elems.length with h|h
    ·exact h
    ·rw[List.getElem?_eq_none h]at hy;cases hy
   have:=hel i hi
   rw[hy,hc,Option.bind_eq_some_iff]at this
   obtain⟨cs,h1,h2⟩:=this
   obtain⟨x,q1,q2,q3⟩:=he H enc w k cs y h2
   exact⟨x,q1,q2,cs,h1,q3⟩)
  have hget:∀ i x,xs[i]?=some x→∃ y,elems[i]?=some y:=fun i x hx=>by
   have:i<elems.length:=by
    rcases Nat.lt_or_ge i xs.length with h|h
    ·omega
    ·rw[List.getElem?_eq_none h]at hx;cases hx
   exact⟨_,List.getElem?_eq_getElem this⟩
  refine⟨xs,fun x hx=>?_,?_,?_,trivial⟩
  ·obtain⟨i,hi⟩:=List.mem_iff_getElem?.1 hx
   obtain⟨y,hy⟩:=hget i x hi
   exact(hxs i x y hi hy).1
  ·simp only[wgt]
   have:=TP (m:=m) (xs:=xs) (ds:=elems.map (·.1)) (by simp[hxl]) fun i x d hx hd=>by
    obtain⟨y,hy⟩:=hget i x hx
    simp only[List.getElem?_map,hy,Option.map_some,Option.some.injEq]at hd
    subst hd
    exact(hxs i x y hx hy).2.1
   omega
  ·simp only[PR]
   refine⟨by simp,some a,cap,by simp[hxl],by simp[hxl,hl],hm,by simp,hn,?_⟩
   cases xs with
   | nil=>exact Or.inl rfl
   | cons x xs =>
    refine Or.inr ⟨a,rfl,?_,L8 fun i x hx=>?_⟩
    ·obtain⟨y,hy⟩:=hget 0 x rfl
     obtain⟨_,_,cs,h1,_⟩:=hxs 0 x y rfl hy
     obtain⟨_,hl,hcell⟩:=World.cells?_some h1
     have h0:=hcell 0 hn
     cases cs with
     | nil=>simp at hl;omega
     | cons c cs=>exact(show (a.add (0*n+0)).block=a.block by simp[Addr.add])▸Et (by rw[R7]at h0;simpa using h0)
    ·obtain⟨y,hy⟩:=hget i x hx
     obtain⟨_,_,cs,h1,h2⟩:=hxs i x y hx hy
     exact⟨cs,by simpa using h1,h2⟩
def gh0(w:World):Gh:=⟨fun b=>if b<w.heap.size then .ro else .other,fun _=>w.heap.size,fun _=>w.heap.size,fun _ _=>w.heap.size⟩
theorem SW(w:World):Bh (gh0 w)=fun b=>b<w.heap.size:=by
 funext b
 simp only[Bh,gh0]
 split<;>simp_all
def Arg(P:Program)(t:TypeId){α:Type}(e:α→AV)(m:α→Nat)(Q:α→Prop):Prop :=
 ∀ (H:Type) (enc:TypeId × Value→H) (w:World) (base:Nat) (v:Value) (d:DataW H) (ps:List MemPlace),Value.okWide P w .any base t v→DataW.Trod enc P w 0 (fun _=>true) true t v d ps →
  ∃ a,Q a∧m a≤wgt d∧VR (gh0 w) w (e a) v
theorem Yf{k:IntKind}(ht:P.underlying t=some (.int k)):Arg P t (fun n:Int=>.v (.int k n)) (fun _=>1) (fun n=>(Lit.int k n).wf=true):=by
 intro H enc w base v d ps hv hd
 obtain⟨n,rfl⟩:=okWide_int ht hv
 obtain⟨fuel,hf⟩:=hd
 obtain⟨a,h,hm,hp⟩:=UO ht H enc w fuel _ _ hf
 simp[PRl,PR,Value.cells]at hp
 obtain⟨rfl,_⟩:=hp
 exact⟨n,h,hm,by simp[VR]⟩
theorem Vp{el:TypeId}{α:Type}{e:α→List AV}{m:α→Nat}{Q:α→Prop}{n:Nat}(he:Cod P el e m Q)(ht:P.underlying t=some (.slice el))(hc:P.cellsOf el=n)(hn:0<n) :
 Arg P t (fun xs:List α=>.sl .no n (xs.map e)) (fun xs=>(xs.map m).sum+1) (fun xs=>∀ x∈xs,Q x):=by
 intro H enc w base v d ps hv hd
 obtain⟨a,len,cap,rfl⟩:=okWide_slice ht hv
 obtain⟨fuel,hf⟩:=hd
 obtain⟨xs,h,hm,hp⟩:=Vy he ht hc hn H enc w fuel _ _ hf
 simp only[PRl,Value.cells]at hp
 refine⟨xs,h,hm,?_⟩
 simp only[VR,SW]
 exact hp.1
theorem Arg.map{α β:Type}{e:α→AV}{e':β→AV}{m:α→Nat}{m':β→Nat}{Q:α→Prop}{Q':β→Prop}(h:Arg P t e m Q)(hf:∀ a,Q a→∃ b,Q' b∧m' b≤m a∧e' b=e a):Arg P t e' m' Q':=by
 intro H enc w base v d ps hv hd
 obtain⟨a,q1,q2,q3⟩:=h H enc w base v d ps hv hd
 obtain⟨b,h1,h2,h3⟩:=hf a q1
 exact⟨b,h1,Nat.le_trans h2 q2,h3▸q3⟩
def Args(P:Program):List TypeId→{α:Type}→(α→List AV)→(α→Nat)→(α→Prop)→Prop
 | ts,α,e,m,Q=>∀ (H:Type) (enc:TypeId × Value→H) (w:World) (base:Nat) (vs:List Value) (ds:List (DataW H)) (ps:List MemPlace),
  (∀ (j:Nat) t v,ts[j]?=some t→vs[j]?=some v→Value.okWide P w .any base t v)→DataW.TrodAll enc P w 0 (fun _=>true) true ts vs ds ps →
  ∃ a:α,Q a∧m a≤R1 ds∧VRs (gh0 w) w (e a) vs
theorem Lx:Args P [] (fun _:Unit=>[]) (fun _=>0) (fun _=>True):=by
 intro H enc w base vs ds ps hv h
 obtain⟨rfl,rfl,rfl⟩:=trodAll_nil h
 exact⟨(),trivial,by simp,by simp[VRs]⟩
theorem C5{ts:List TypeId}{α β:Type}{e:α→AV}{m:α→Nat}{Q:α→Prop}{e':β→List AV}{m':β→Nat}{Q':β→Prop}(h:Arg P t e m Q)(hs:Args P ts e' m' Q') :
 Args P (t::ts) (fun x:α × β=>e x.1::e' x.2) (fun x=>m x.1+m' x.2) (fun x=>Q x.1∧Q' x.2):=by
 intro H enc w base vs ds ps hv hd
 obtain⟨v,vs,d,ds,p,q,rfl,rfl,rfl,h1,h2⟩:=trodAll_cons hd
 obtain⟨a,a1,a2,a3⟩:=h H enc w base v d p (hv 0 t v rfl rfl) h1
 obtain⟨b,b1,b2,b3⟩:=hs H enc w base vs ds q (fun j t v hj hjv=>hv (j+1) t v (by simpa using hj) (by simpa using hjv)) h2
 exact⟨(a,b),⟨a1,b1⟩,by simp only[R1];omega,by simp only[VRs];exact⟨a3,b3⟩⟩
theorem KV{H:Type}{enc:TypeId × Value→H}(hl:laidOutB P=true){W W':World}{sp':Nat→Bool}:∀ {ts:List TypeId} {vs:List Value} {ds:List (DataW H)} {ps:List MemPlace},
 (∀ t∈ts,P.readableRec t=true∧t<P.types.size)→DataW.TrodAll enc P W 0 (fun _=>true) true ts vs ds ps→(∀ p∈ps,W.sameAt W' p)→(∀ p∈ps,sp' p.block=true)→DataW.TrodAll enc P W' 0 sp' true ts vs ds ps
 |[],vs,ds,ps,_,h,_,_=>by
  obtain⟨rfl,rfl,rfl⟩:=trodAll_nil h
  exact trodAll_mk0
 | t::ts,vs,ds,ps,hr,h,hs,hsp=>by
  obtain⟨v,vs,d,ds,p,q,rfl,rfl,rfl,h1,h2⟩:=trodAll_cons h
  exact⟨p,q,WideElems.Trod_stays hl (hr t (by simp)).1 (hr t (by simp)).2 h1 (fun x hx=>hs x (by simp[hx])) (fun x hx=>hsp x (by simp[hx])),
   KV hl (fun t ht=>hr t (by simp[ht])) h2 (fun x hx=>hs x (by simp[hx])) (fun x hx=>hsp x (by simp[hx])),rfl⟩
theorem TU{H:Type}{enc:TypeId × Value→H}{f:Func}{s:ChangeSpec}{apart fresh handsOn again:Bool}{W W':World}{args:Array Value}{v:Value}{ds gs:List (DataW H)}{before pa pv:List MemPlace}
 (hW:DataW.Whole enc P f.params.toList s.vars apart W args.toList ds gs before)
 (hres:∀ (b:Nat) (sp:Nat→Bool) (hd:Bool),DataW.TrodAll enc P W' b sp hd f.resultTypes.toList (v.resultList f.resultTypes.size) (s.fn H (ds++gs)).results [])
 (hargs:∀ sp:Nat→Bool,(∀ p∈before,sp p.block=true)→DataW.TrodAll enc P W' 0 sp true f.params.toList args.toList (s.fn H (ds++gs)).args pa)
 (hvars:∀ sp:Nat→Bool,(∀ p∈before,sp p.block=true)→DataW.TrodVars enc P W' sp s.vars (s.fn H (ds++gs)).vars pv)
 (hps:before=pa++pv) (hb:Below W.heap.size W W')
 (hok:∀ (j:Nat) (t:TypeId) (r:Value),f.resultTypes[j]?=some t→(v.resultList f.resultTypes.size)[j]?=some r→Value.okWide P W' .any 0 t r) :
 s.post enc P f apart fresh handsOn again W args v W':=by
 have hlt:∀ p∈before,p.block<W.heap.size:=fun p hp=>hW.lt p hp
 have hold:∀ p∈before,(fun b=>decide (b<W.heap.size)) p.block=true:=fun p hp=>by simpa using hlt p hp
 refine⟨ds,gs,before,[],pa,pv,hW,hres _ _ _,hargs _ hold,hvars _ hold,World.keptBut_mono (fun p hp=>⟨hp,?_⟩) (hb.frame (·∈before)),fun _=>?_⟩
 ·rw[hps,List.mem_append]at hp
  exact Or.inr hp
 ·obtain⟨_,_,_,_,_,hz,hn⟩:=hW
  refine⟨hok,_,_,([]++pa)++pv,⟨[]++pa,pv,trodAll_append (hargs _ (fun _ _=>rfl)) (hres _ _ _),hvars _ (fun _ _=>rfl),rfl,?_,?_⟩,?_⟩
  ·intro b off hp
   have hin:MemPlace.cell b off∈before:=by rw[hps];simpa using hp
   rw[hb.frozen (hlt _ hin)]
   exact hz b off hin
  ·intro ha
   have:=hn ha
   rw[hps]at this
   simpa using this
  ·intro p hp _
   rw[hps]
   simpa using hp
end Go.Abs
namespace Go.Abs
inductive OT where
 | done
 | pick(l:List (Nat × OT))
mutual
def okT(ops:Array Oper)(dn:List Nat):OT→Bool
 |.done=>(List.range ops.size).all fun i=>dn.contains i
 |.pick l=>(List.range ops.size).any (fun i=>!dn.contains i&&(Bb ops i).all fun e=>dn.contains e)&&(List.range ops.size).all (fun i=>dn.contains i||!((Bb ops i).all fun e=>dn.contains e)||(Qz l).contains i)&&YK ops dn l
def YK(ops:Array Oper)(dn:List Nat):List (Nat × OT)→Bool
 |[]=>true
 |(i,t)::l=>okT ops (i::dn) t&&YK ops dn l
def Qz:List (Nat × OT)→List Nat
 |[]=>[]
 |(i,_)::l=>i::Qz l
end
def Ll(ops:Array Oper)(i:Nat):List Oper:=match ops[i]? with
 |some o=>[o]
 |none=>[]
mutual
def wpT(X:Env)(ops:Array Oper)(K:St→Prop):OT→St→Prop
 |.done=>K
 |.pick l=>Wz X ops K l
def Wz(X:Env)(ops:Array Oper)(K:St→Prop):List (Nat × OT)→St→Prop
 |[]=>fun _=>True
 |(i,t)::l=>fun st=>AR X ops (Ll ops i) (wpT X ops K t) st∧Wz X ops K l st
end
section
variable {X:Env} {A:A0} {N:Nat} {ops:Array Oper}
def Vl(N:Nat)(ops:Array Oper):Prop:=(∀ o∈ops,Hp N o=true)∧∀ i,i<ops.size→∀ e∈Bb ops i,e<ops.size
theorem LM(h:Vl N ops){i:Nat}(e:Nat)(he:e∈Bb ops i)(hi:i<ops.size):e<ops.size:=h.2 i hi e he
theorem L5(hA:A.ext=X.ext)(hX:∀ s∈X.ext,s%64=63){Q:Exit→Act→World→Prop}{K:St→Prop}{K':Act→World→Prop}{i:Nat}{o:Oper}(ho:ops[i]?=some o)(hk:∀ g' st' a' w',R X.C A N g' st' a' w'→K st'→K' a' w')
 {g:Gh} {st:St} {a:Act} {w:World} (hd:Hp N o=true) (h:Hf X ops o K st) (hR:R X.C A N g st a w):wpOp X.C.P ops Q i K' a w:=by
 unfold wpOp
 simp only[ho]
 unfold Hf at h
 split at h
 ·rename_i hg
  have:Region.wanted o (yielded ops a.tmps)=true:=by simp[Region.wanted,hg]
  simp only[this,if_true]
  exact .inl (Kh hA hX hd h hR hk)
 ·rename_i j b hg
  split at h
  ·rename_i b' hb
   have hy:=IP hR hb
   by_cases he:b'=b
   ·have:Region.wanted o (yielded ops a.tmps)=true:=by simp[Region.wanted,hg,hy,he]
    simp only[this,if_true]
    have h1:=h.1 he
    subst he
    rw[Hb hb]at h1
    exact .inl (Kh hA hX hd h1 hR hk)
   ·have:Region.wanted o (yielded ops a.tmps)=false:=by simp[Region.wanted,hg,hy,he]
    simp only[this,Bool.false_eq_true,if_false]
    have hd':∀ k,o.dst=some k→k<N:=fun k hk=>by simp[Hp,hk]at hd;exact hd
    have h1:=h.2 he
    have hbb:(!b)=b':=by cases b<;>cases b'<;>first|rfl|exact absurd rfl he
    rw[hbb,Hb hb]at h1
    exact hk g _ _ w (hR.put hd' Og) h1
  ·rename_i hb
   have hy:=ML hR hb
   have:Region.wanted o (yielded ops a.tmps)=false:=by simp[Region.wanted,hg,hy]
   simp only[this,Bool.false_eq_true,if_false]
   have hd':∀ k,o.dst=some k→k<N:=fun k hk=>by simp[Hp,hk]at hd;exact hd
   exact hk g _ _ w (hR.put hd' Og) h
  ·cases h
mutual
theorem KZ(hA:A.ext=X.ext)(hX:∀ s∈X.ext,s%64=63)(hN:Vl N ops){Q:Exit→Act→World→Prop}{K:St→Prop}(hQ:∀ g st a w,R X.C A N g st a w→K st→Q .normal a w) :
 ∀ (t:OT) (fuel:Nat) (dn:List Nat) (listed:Array Bool) (g:Gh) (st:St) (a:Act) (w:World),listed.size=ops.size→unl listed≤fuel→(∀ j,j<ops.size→dOf listed j=dn.contains j)→okT ops dn t=true→wpT X ops K t st→R X.C A N g st a w →
  wpAny X.C.P .any ops Q fuel listed a w
 |.done,fuel,dn,listed,g,st,a,w,hs,hu,hd,hok,h,hR=>by
  simp only[okT,List.all_eq_true,List.mem_range]at hok
  have h0:Region.ready .any ops listed=[]:=by
   cases hrd:Region.ready .any ops listed with
   | nil=>rfl
   | cons j l =>
    have hj:j∈Region.ready .any ops listed:=by rw[hrd];simp
    have:=(Bd hs).1 hj
    rw[hd j this.1,hok j this.1]at this
    simp at this
  simp only[wpT]at h
  cases fuel with
  | zero=>exact⟨h0,hQ g st a w hR h⟩
  | succ fuel=>exact⟨fun _=>hQ g st a w hR h,fun j hj=>by rw[h0]at hj;cases hj⟩
 |.pick l,fuel,dn,listed,g,st,a,w,hs,hu,hd,hok,h,hR=>by
  simp only[okT,Bool.and_eq_true,List.all_eq_true,List.any_eq_true,List.mem_range]at hok
  obtain⟨⟨⟨i,hi,hi1,hi2⟩,hok1⟩,hok2⟩:=hok
  simp only[wpT]at h
  have hmem:i∈Region.ready .any ops listed:=(Bd hs).2 ⟨hi,by rw[hd i hi];simpa using hi1,fun e he=>by
   have h4:=hi2 e he
   have hlt:=LM hN e he hi
   rw[hd e hlt];exact h4⟩
  have hkey:∀ j∈Region.ready .any ops listed,j∈Qz l:=fun j hj=>by
   obtain⟨h1,h2,h3⟩:=(Bd hs).1 hj
   have:=hok1 j h1
   rw[hd j h1]at h2
   rw[h2]at this
   have he:(Bb ops j).all (fun e=>dn.contains e)=true:=List.all_eq_true.2 fun e he=>by
    have h4:=h3 e he
    have hlt:=LM hN e he h1
    rw[hd e hlt]at h4;exact h4
   rw[he]at this
   simpa using this
  cases fuel with
  | zero =>
   obtain⟨h1,h2,_⟩:=(Bd hs).1 hmem
   rw[Gl (by omega) (by omega:i<listed.size)]at h2
   cases h2
  | succ fuel =>
   refine⟨fun h0=>(by rw[h0]at hmem;cases hmem),fun j hj=>?_⟩
   obtain⟨h1,h2,_⟩:=(Bd hs).1 hj
   exact Nf hA hX hN hQ l fuel dn listed g st a w hs (by have:=GP (by omega:j<listed.size) h2;omega) hd hok2 h hR j h1 h2 (hkey j hj)
theorem Nf(hA:A.ext=X.ext)(hX:∀ s∈X.ext,s%64=63)(hN:Vl N ops){Q:Exit→Act→World→Prop}{K:St→Prop}(hQ:∀ g st a w,R X.C A N g st a w→K st→Q .normal a w) :
 ∀ (l:List (Nat × OT)) (fuel:Nat) (dn:List Nat) (listed:Array Bool) (g:Gh) (st:St) (a:Act) (w:World),listed.size=ops.size→unl listed≤fuel+1→(∀ j,j<ops.size→dOf listed j=dn.contains j)→YK ops dn l=true→Wz X ops K l st→R X.C A N g st a w →
  ∀ j,j<ops.size→dOf listed j=false→j∈Qz l→wpOp X.C.P ops Q j (wpAny X.C.P .any ops Q fuel (listed.setIfInBounds j true)) a w
 |[],_,_,_,_,_,_,_,_,_,_,_,_,_,j,_,_,hm=>by simp[Qz]at hm
 |(i,t)::l,fuel,dn,listed,g,st,a,w,hs,hu,hd,hok,h,hR,j,hj,hnd,hm=>by
  simp only[YK,Bool.and_eq_true]at hok
  simp only[Wz]at h
  by_cases hij:j=i
  ·subst hij
   have ho:ops[j]?=some ops[j]:=Array.getElem?_eq_getElem hj
   have h1:=h.1
   simp only[Ll,ho,AR]at h1
   refine L5 hA hX ho (fun g' st' a' w' hR' hK'=>?_) (hN.1 _ (Array.getElem_mem hj)) h1 hR
   refine KZ hA hX hN hQ t fuel (j::dn) _ g' st' a' w' (by simp[hs]) (by have:=GP (by omega:j<listed.size) hnd;omega) (fun q hq=>?_) hok.1 hK' hR'
   rw[DG (by omega)]
   simp only[Gp,List.contains_cons]
   by_cases hqj:q=j
   ·subst hqj;simp
   ·simp[hqj,hd q hq]
  ·refine Nf hA hX hN hQ l fuel dn listed g st a w hs hu hd hok.2 h.2 hR j hj hnd ?_
   simp only[Qz,List.mem_cons]at hm
   rcases hm with hm|hm
   ·exact absurd hm hij
   ·exact hm
end
end
def Kj(ops:Array Oper):Bool:=(List.range ops.size).all fun i=>(Bb ops i).all fun e=>decide (e<ops.size)
theorem OG{X:Env}{ops:Array Oper}{K:St→Prop}{st:St}(t:OT)(hm:X.C.P.follows .mixedOrders=true)(hok:(Kj ops&&okT ops [] t)=true)
 (h:wpT X ops K t st):JB X ops K st:=by
 intro A N g a w hA hN hX hR id Q hQ
 simp only[Bool.and_eq_true]at hok
 refine wp_region_any hm ?_
 refine KZ hA hX (N:=N) (K:=K) ⟨fun o ho=>?_,fun i hi e he=>?_⟩ hQ t ops.size [] (Array.replicate ops.size false) g st a _ (by simp) (by simp[unl]) (fun j hj=>by simp[dOf,Array.getD,hj]) hok.2 h hR.drew
 ·unfold Hp
  cases hd:o.dst with
  |none=>rfl
  |some d=>simp;exact hN o ho d hd
 ·have:=hok.1
  simp only[Kj,List.all_eq_true,List.mem_range,decide_eq_true_eq]at this
  exact this i hi e he
@[go_sem] theorem ck(X:Env)(ops:Array Oper)(K:St→Prop)(st:St):wpT X ops K .done st=K st:=by simp only[wpT]
@[go_sem] theorem cO(X:Env)(ops:Array Oper)(K:St→Prop)(i:Nat)(t:OT)(st:St):wpT X ops K (.pick [(i,t)]) st=AR X ops (Ll ops i) (wpT X ops K t) st:=by simp only[wpT,Wz,and_true]
@[go_sem] theorem cP(X:Env)(ops:Array Oper)(K:St→Prop)(i j:Nat)(t t':OT)(l:List (Nat × OT))(st:St):wpT X ops K (.pick ((i,t)::(j,t')::l)) st=(AR X ops (Ll ops i) (wpT X ops K t) st∧wpT X ops K (.pick ((j,t')::l)) st):=by simp only[wpT,Wz]
attribute [go_sem] Ll
end Go.Abs
open Go Go.Abs
namespace Go.Rd
abbrev Bs:=List UInt8
def str(l:Bs):ByteArray:=⟨l.toArray⟩
theorem Yi(bs:ByteArray):∀ (n i:Nat) (r:List UInt8),bs.size-i=n→ByteArray.toList.loop bs i r=r.reverse++bs.data.toList.drop i:=by
 intro n
 induction n with
 | zero =>
  intro i r h
  rw[ByteArray.toList.loop]
  have hs:bs.size=bs.data.size:=rfl
  rw[if_neg (by omega),List.drop_eq_nil_of_le (by simp;omega)]
  simp
 | succ n ih =>
  intro i r h
  rw[ByteArray.toList.loop]
  have hs:bs.size=bs.data.size:=rfl
  rw[if_pos (by omega),ih (i+1) _ (by omega)]
  rw[List.drop_eq_getElem_cons (l:=bs.data.toList) (i:=i) (by simp;omega)]
  have:bs.get! i=bs.data.toList[i]'(by simp;omega):=by
   show bs.data[i]! = _
   rw[getElem!_pos bs.data i (by omega)]
   simp
  simp[this]
theorem P8(l:List UInt8):(⟨l.toArray⟩:ByteArray).toList=l:=by
 unfold ByteArray.toList
 rw[Yi _ _ 0 [] rfl]
 simp
theorem XW(l:Bs):(str l).size=l.length:=rfl
theorem UK(l:Bs):(str l).toList=l:=P8 l
structure Proc where
 site:Int
 inc:Int
 num:Int
 deriving DecidableEq
structure Amt where
 mode:Int
 units:Int
 deriving DecidableEq
structure Hold where
 proc:Proc
 amt:Amt
 deriving DecidableEq
structure Wait where
 proc:Proc
 amt:Amt
 prio:Int
 passed:Int
 deriving DecidableEq
structure Res where
 name:Bs
 kind:Int
 units:Int
 home:Int
 deriving DecidableEq
structure Queue where
 res:Res
 holds:List Hold
 convs:List Wait
 waits:List Wait
 gen:Int
 deriving DecidableEq
structure Atom where
 name:Bs
 amt:Amt
 deriving DecidableEq
inductive Expr where
 | mk(k:Int)(atom:Atom)(kids:List Expr)
structure Need where
 proc:Proc
 expr:Expr
 gen:Int
structure WS where
 queues:List Queue
 needs:List Need
def Proc.c(p:Proc):List AV:=[.v (.int .i64 p.site),.v (.int .i64 p.inc),.v (.int .i64 p.num)]
def Amt.c(a:Amt):List AV:=[.v (.int .i64 a.mode),.v (.int .i64 a.units)]
def Hold.c(h:Hold):List AV:=[.v (.int .i64 h.proc.site),.v (.int .i64 h.proc.inc),.v (.int .i64 h.proc.num),.v (.int .i64 h.amt.mode),.v (.int .i64 h.amt.units)]
def Wait.c(h:Wait):List AV:=[.v (.int .i64 h.proc.site),.v (.int .i64 h.proc.inc),.v (.int .i64 h.proc.num),.v (.int .i64 h.amt.mode),.v (.int .i64 h.amt.units),.v (.int .i64 h.prio),.v (.int .i64 h.passed)]
def Res.c(r:Res):List AV:=[.v (.string (str r.name)),.v (.int .i64 r.kind),.v (.int .i64 r.units),.v (.int .i64 r.home)]
@[reducible] def Ax(l:List Hold):AV:=.sl .no 5 (l.map Hold.c)
@[reducible] def AY(l:List Wait):AV:=.sl .no 7 (l.map Wait.c)
@[reducible] def Aq(l:List Proc):AV:=.sl .no 3 (l.map Proc.c)
@[reducible] def Ng(l:List Amt):AV:=.sl .no 2 (l.map Amt.c)
def Queue.c(q:Queue):List AV:=[.v (.string (str q.res.name)),.v (.int .i64 q.res.kind),.v (.int .i64 q.res.units),.v (.int .i64 q.res.home),Ax q.holds,AY q.convs,AY q.waits,.v (.int .i64 q.gen)]
@[reducible] def At(l:List Queue):AV:=.sl .no 8 (l.map Queue.c)
def Atom.c(a:Atom):List AV:=[.v (.string (str a.name)),.v (.int .i64 a.amt.mode),.v (.int .i64 a.amt.units)]
@[reducible] def Be(l:List Atom):AV:=.sl .no 3 (l.map Atom.c)
def Expr.k:Expr→Int
 |.mk k _ _=>k
def Expr.atom:Expr→Atom
 |.mk _ a _=>a
def Expr.kids:Expr→List Expr
 |.mk _ _ l=>l
mutual
def Expr.U2:List Expr→List (List AV)
 |[]=>[]
 | e::l=>Expr.c e::Expr.U2 l
def Expr.c:Expr→List AV
 |.mk k a l=>[.v (.int .i64 k),.v (.string (str a.name)),.v (.int .i64 a.amt.mode),.v (.int .i64 a.amt.units),.sl .no 5 (Expr.U2 l)]
end
theorem QB:∀ l,Expr.U2 l=l.map Expr.c
 |[]=>rfl
 | e::l=>by simp[Expr.U2,QB l]
@[reducible] def Fj(l:List Expr):AV:=.sl .no 5 (l.map Expr.c)
theorem Expr.Cb(e:Expr):e.c=[.v (.int .i64 e.k),.v (.string (str e.atom.name)),.v (.int .i64 e.atom.amt.mode),.v (.int .i64 e.atom.amt.units),Fj e.kids]:=by
 cases e with
 | mk k a l=>simp[Expr.c,Expr.k,Expr.atom,Expr.kids,QB]
def Need.c(n:Need):List AV:=[.v (.int .i64 n.proc.site),.v (.int .i64 n.proc.inc),.v (.int .i64 n.proc.num),.v (.int .i64 n.expr.k),.v (.string (str n.expr.atom.name)),.v (.int .i64 n.expr.atom.amt.mode),.v (.int .i64 n.expr.atom.amt.units),Fj n.expr.kids,.v (.int .i64 n.gen)]
@[reducible] def FV(l:List Need):AV:=.sl .no 9 (l.map Need.c)
def WS.c(s:WS):List AV:=[At s.queues,FV s.needs]
attribute [go_sem] Proc.c Amt.c Hold.c Wait.c Res.c Queue.c Atom.c Expr.Cb Need.c WS.c XW UK P8
@[go_sem] theorem cV(k:IntKind)(n:Int):(Value.int k n).oneCell'=true:=rfl
@[go_sem] theorem cC(b:Bool):(Value.bool b).oneCell'=true:=rfl
@[go_sem] theorem cW(s:ByteArray):(Value.string s).oneCell'=true:=rfl
@[go_sem] theorem dv(a:Option Addr)(n m:Nat):(Value.slice a n m).oneCell'=true:=rfl
@[reducible] def I(n:Int):AV:=.v (.int .i64 n)
@[reducible] def B(b:Bool):AV:=.v (.bool b)
end Go.Rd
namespace Go.Abs
mutual
def lens:AV→Prop
 |.sl _ _ es=>es.length≤9223372036854775807
 |.agg cs=>Ec cs
 |_=>True
def Ec:List AV→Prop
 |[]=>True
 | c::cs=>lens c∧Ec cs
end
mutual
theorem VR.lens{g:Gh}{w:World}:∀ (x:AV) (u:Value),VR g w x u→lens x
 |.sl (.own r lo) n es,u,h=>by
  simp only[VR,B4]at h
  simp only[Abs.lens]
  rcases h.2 with ⟨_,h2⟩|⟨_,h2,_⟩|⟨cap,cur,T,_,h2,h3,_⟩
  ·subst h2;simp
  ·subst h2;simp
  ·simp only[maxLen]at h3;omega
 |.sl .no n es,u,h=>by
  simp only[VR,PR]at h
  simp only[Abs.lens]
  obtain⟨_,a,cap,_,h2,h3,_⟩:=h
  simp only[maxLen]at h3;omega
 |.sl .full n es,u,h=>by
  simp only[VR,PR]at h
  simp only[Abs.lens]
  obtain⟨_,a,cap,_,h2,h3,_⟩:=h
  simp only[maxLen]at h3;omega
 |.agg cs,u,h=>by
  simp only[VR]at h
  simp only[Abs.lens]
  obtain⟨us,_,h⟩:=h
  exact VRs.lens cs us.toList h
 |.undef,_,_=>by simp[Abs.lens]
 |.v _,_,_=>by simp[Abs.lens]
 |.tup _,_,_=>by simp[Abs.lens]
 |.ptr _ _,_,_=>by simp[Abs.lens]
 |.ep _ _ _ _,_,_=>by simp[Abs.lens]
 |.fn _ _,_,_=>by simp[Abs.lens]
 |.mv _ _,_,_=>by simp[Abs.lens]
 |.mp _,_,_=>by simp[Abs.lens]
 |.ifc _ _,_,_=>by simp[Abs.lens]
 |.hnd _ _ _ _ _ _ _,_,_=>by simp[Abs.lens]
 |.mem _ _,_,_=>by simp[Abs.lens]
theorem VRs.lens{g:Gh}{w:World}:∀ (xs:List AV) (us:List Value),VRs g w xs us→Ec xs
 |[],_,_=>by simp[Abs.Ec]
 | c::cs,[],h=>by simp[VRs]at h
 | c::cs,u::us,h=>by
  simp only[VRs]at h
  simp only[Abs.Ec]
  exact⟨VR.lens c u h.1,VRs.lens cs us h.2⟩
end
theorem Ac.assume{C:Ctx}{f:Nat}{fn:Func}{c:Code}{xs:List AV}{o o':List (Nat × List AV)}{y:AV}(hf:C.P.funcs[f]?=some fn)(hname:(fn.name=="runtime.NumGoroutine")=false)(hb:fn.body=some c)
 (h:Ec xs→Ac C f xs o y o'):Ac C f xs o y o' :=
 ⟨⟨fn,c,hf,hname,hb⟩,fun g w us hg hv ho=>(h (VRs.lens xs us hv)).2 g w us hg hv ho⟩
end Go.Abs
namespace Go.Abs
theorem Ac.go{C:Ctx}{f:Nat}{xs:List AV}{o o':List (Nat × List AV)}{y:AV}(fn:Func)(h:wpA ⟨C,names o,[]⟩ (fn.body.getD .skip) (PZ ⟨C,names o,[]⟩ fn.results.toList y o') ⟨NR 0 xs,o⟩)
 (hf:C.P.funcs[f]?=some fn:=by kernel_rfl) (hname:(fn.name=="runtime.NumGoroutine")=false:=by kernel_rfl) (hb:fn.body=some (fn.body.getD .skip):=by kernel_rfl)
 (hok:El fn.ntmps (fn.body.getD .skip)=true:=by kernel_rfl) (hargs:Nat.ble xs.length fn.ntmps=true:=by kernel_rfl) (hext:∀ s∈names o,s%64=63:=by simp[names]):Ac C f xs o y o' :=
 Ac.intro hf hname hb hok (Nat.le_of_ble_eq_true hargs) hext h
theorem FnP.go{C:Ctx}{f:Nat}{xs:List AV}{o:List (Nat × List AV)}{S:AV→List (Nat × List AV)→Prop}(fn:Func)(h:wpA ⟨C,names o,[]⟩ (fn.body.getD .skip) (Z0 ⟨C,names o,[]⟩ fn.results.toList S) ⟨NR 0 xs,o⟩)
 (hf:C.P.funcs[f]?=some fn:=by kernel_rfl) (hname:(fn.name=="runtime.NumGoroutine")=false:=by kernel_rfl) (hb:fn.body=some (fn.body.getD .skip):=by kernel_rfl)
 (hok:El fn.ntmps (fn.body.getD .skip)=true:=by kernel_rfl) (hargs:Nat.ble xs.length fn.ntmps=true:=by kernel_rfl) (hext:∀ s∈names o,s%64=63:=by simp[names]):FnP C f xs o S :=
 FnP.intro hf hname hb hok (Nat.le_of_ble_eq_true hargs) hext h
theorem Ac.lens{C:Ctx}{f:Nat}{xs:List AV}{o o':List (Nat × List AV)}{y:AV}(fn:Func)(h:Ec xs→Ac C f xs o y o')
 (hf:C.P.funcs[f]?=some fn:=by kernel_rfl) (hname:(fn.name=="runtime.NumGoroutine")=false:=by kernel_rfl) (hb:fn.body=some (fn.body.getD .skip):=by kernel_rfl):Ac C f xs o y o' :=
 Ac.assume hf hname hb h
section
variable {X:Env} {d:Option Nat} {fid:Nat} {xs xs':List AV} {K:St→Prop} {st st':St} {y y':AV} {ob ob':List (Nat × List AV)}
theorem B3{rs:List ResultVar}(ρ:Rn)(xs:List AV)(h4:Bz ((pack xs).ren ρ) y)(h1:CX X.C st rs=some xs:=by(try simp(disch:=omega)only[go_sem,CX,Jm])<;>rfl)(h2:ρ.OK:=by exact⟨rfl,rfl⟩)(h3:∀ s∈X.ext,lk s ρ.m=some s:=by simp):PZ X rs y [] .ret st :=
 AU ρ xs h1 h2 h3 h4 trivial
theorem BP{rs:List ResultVar}(xs:List AV)(h4:Bz ((pack xs).ren ⟨[],[],[]⟩) y)(h1:CX X.C st rs=some xs:=by(try simp(disch:=omega)only[go_sem,CX,Jm])<;>rfl)(h3:∀ s∈X.ext,lk s []=some s:=by simp):PZ X rs y [] .ret st :=
 AU ⟨[],[],[]⟩ xs h1 ⟨rfl,rfl⟩ h3 h4 trivial
theorem BU{rs:List ResultVar}(ρ:Rn)(xs:List AV)(h4:Bz ((pack xs).ren ρ) y)(h5:Ff (J7 ρ st) ob')(h1:CX X.C st rs=some xs:=by(try simp(disch:=omega)only[go_sem,CX,Jm])<;>rfl)(h2:ρ.OK:=by exact⟨rfl,rfl⟩)(h3:∀ s∈X.ext,lk s ρ.m=some s:=by simp[lk,names]):PZ X rs y ob' .ret st :=
 AU ρ xs h1 h2 h3 h4 h5
theorem Aa(hok:Ac X.C fid xs' [] y [])(hk:K (st.put d y'))(hx:Af (Ei ⟨[],[],[]⟩ xs) xs':=by simp(disch:=omega)only[go_sem])(hy:y.ren ⟨[],[],[]⟩=y':=by rfl):AI X d fid xs K st :=
 Ae hok hx hy hk
theorem Ai{objs:List (Nat × List AV)}{p:List Nat}{i:Nat}{cr:List (Nat × List Nat × List Nat)}{K:List (Nat × List Nat × List Nat)→St→Prop}(hok:Ac X.C fid xs' [] y [])
 (h:JI (rngs (Way.back ⟨⟨[],[],[]⟩,[],[]⟩).l) (rngs []) st.tmps∧ES (rngs (Way.back ⟨⟨[],[],[]⟩,[],[]⟩).l) (rngs []) st.objs∧away cr p ⟨y.ren (Way.back ⟨⟨[],[],[]⟩,[],[]⟩),rngs (Way.back ⟨⟨[],[],[]⟩,[],[]⟩).l,rngs [],Dz (Way.back ⟨⟨[],[],[]⟩,[],[]⟩) []⟩ ∧
  K (Gq i ⟨y.ren (Way.back ⟨⟨[],[],[]⟩,[],[]⟩),rngs (Way.back ⟨⟨[],[],[]⟩,[],[]⟩).l,rngs [],Dz (Way.back ⟨⟨[],[],[]⟩,[],[]⟩) []⟩ cr) ⟨(St.put d (y.ren (Way.back ⟨⟨[],[],[]⟩,[],[]⟩)) st).tmps,Dz (Way.back ⟨⟨[],[],[]⟩,[],[]⟩) []++st.objs⟩)
 (hx:Af (Ei ⟨[],[],[]⟩ xs) xs':=by simp(disch:=omega)only[go_sem]):AG X d fid xs objs p i cr K st :=
 An ⟨⟨[],[],[]⟩,[],[]⟩ hok hx rfl rfl trivial (.inl rfl) h
theorem AE(ht:H2 st st'.tmps:=by simp(disch:=omega)only[go_sem])(ho:Ff st st'.objs:=by simp(disch:=omega)only[go_sem]):Imp X st st':=Imp.weak ht ho
theorem call2(v:Way)(hok:Ac X.C fid xs' ob y ob')(hk:K ((st.app (rngs v.back.l) (rngs v.fm) (rngs v.back.m) (Dz v.back ob')).put d (y.ren v.back)))
 (hx:Af (Ei v.ρ xs) xs':=by simp(disch:=omega)only[go_sem]) (hh:R4 v st ob:=by simp(disch:=omega)only[go_sem]) (hv:Gm v ob=true:=by rfl) (hfl:v.ρ.bs=[]∨(Flat (y.ren v.back)∧Hq (Dz v.back ob')):=by exact .inl rfl):AI X d fid xs K st :=
 A7 v hok hx hv hh hfl hk
end
def XY:List (List Nat × List Nat)→List (List Nat × List Nat)→Bool
 |[],_=>true
 |_::_,[]=>false
 |(p,ts)::t,(q,us)::u=>p.all (fun j=>q.contains j)&&ts==us&&XY t u
def bj(ops:Array Oper)(t l:List (List Nat × List Nat))(i:Nat):List (List Nat × List Nat):=l++[((List.range i).filter (fun j=>(Bb ops i).any fun e=>j==e||(CV l e).contains j),(t.getD i ([],[])).2)]
def W1(ops:Array Oper)(t:List (List Nat × List Nat)):Nat→List (List Nat × List Nat)
 | 0=>[]
 | i+1=>bj ops t (W1 ops t i) i
theorem LA{p q:List Nat}(h:∀ j∈p,j∈q){r:Res}:∀ {cr:List (Nat × List Nat × List Nat)},away cr p r→away cr q r
 |[],_=>trivial
 |(i,S,T)::l,ha=>⟨ha.1.imp (h i) id,LA h ha.2⟩
theorem Ko{X:Env}{all:Array Oper}{objs:List (Nat × List AV)}{K:St→Prop}:∀ (os:List Oper) (t u:List (List Nat × List Nat)) (i:Nat) (cr:List (Nat × List Nat × List Nat)) (st:St),XY t u=true→Ep X all objs os t i cr K st→Ep X all objs os u i cr K st
 |[],_,_,_,_,_,_,h=>by simpa [Ep]using h
 |_::_,[],_,_,_,_,_,h=>by simp[Ep]at h
 |_::_,_::_,[],_,_,_,hs,_=>by simp[XY]at hs
 | o::os,(p,ts)::t,(q,us)::u,i,cr,st,hs,h=>by
  simp only[XY,Bool.and_eq_true,List.all_eq_true,beq_iff_eq]at hs
  obtain⟨⟨h1,rfl⟩,h2⟩:=hs
  have hpq:∀ j∈p,j∈q:=fun j hj=>by simpa using h1 j hj
  have run:∀ st:St,(IN X o ⟨restr st ts,objs⟩ st p cr fun e=>o.dst.isSome=true∧Ep X all objs os t (i+1) (Gq i e cr) K ⟨(St.put o.dst e.x st).tmps,e.upd++st.objs⟩)→IN X o ⟨restr st ts,objs⟩ st q cr fun e=>o.dst.isSome=true∧Ep X all objs os u (i+1) (Gq i e cr) K ⟨(St.put o.dst e.x st).tmps,e.upd++st.objs⟩:=fun st h=>by
   obtain⟨e,a,b,c,d,f,g,k⟩:=h
   exact⟨e,a,b,c,d,f,LA hpq g,k.1,Ko os t u _ _ _ h2 k.2⟩
  simp only[Ep]at h ⊢
  split at h
  ·exact run st h
  ·split at h
   ·exact⟨fun he=>run _ (h.1 he),fun he=>⟨(h.2 he).1,LA hpq (h.2 he).2.1,Ko os t u _ _ _ h2 (h.2 he).2.2⟩⟩
   ·exact⟨h.1,LA hpq h.2.1,Ko os t u _ _ _ h2 h.2.2⟩
   ·exact h.elim
theorem Aj{X:Env}{ops:List Oper}{K:St→Prop}{st:St}(k:Nat)(t:List (List Nat × List Nat))(hm:X.C.P.follows .mixedOrders=true)(h:AM X ops.toArray st.objs (ops.take k) t 0 (AR X ops.toArray (ops.drop k) K) [] st)
 (hok:(XY t (W1 ops.toArray t ops.length)&&QW ops.toArray k (W1 ops.toArray t ops.length))=true:=by kernel_rfl):JB X ops.toArray K st:=by
 rw[Bool.and_eq_true]at hok
 exact T8 k _ hm hok.2 (by simpa using Ko _ _ _ _ _ _ hok.1 (F9 _ _ _ _ _ h))
theorem gI{p:Prop}(h:p:=by simp(disch:=omega)only[go_sem]):p:=h
theorem gO{p q:Prop}(h:q)(e:p=q:=by conv=>lhs;simp(disch:=omega)only[go_sem]):p:=e▸h
section
variable {X:Env} {st st':St} {y:AV} {rs:List ResultVar}
theorem Av(xs:List AV)(h1:CX X.C st rs=some xs:=by(try simp(disch:=omega)only[go_sem,CX,Jm])<;>rfl)(h4:Bz ((pack xs).ren ⟨[],[],[]⟩) y:=by simp(disch:=omega)only[go_sem])(h3:∀ s∈X.ext,lk s []=some s:=by simp):PZ X rs y [] .ret st:=BP xs h4 h1 h3
theorem Ak(xs:List AV){q:Prop}(h4:q)(h1:CX X.C st rs=some xs:=by(try simp(disch:=omega)only[go_sem,CX,Jm])<;>rfl)(e:Bz ((pack xs).ren ⟨[],[],[]⟩) y=q:=by conv=>lhs;simp(disch:=omega)only[go_sem])(h3:∀ s∈X.ext,lk s []=some s:=by simp):PZ X rs y [] .ret st:=BP xs (e▸h4) h1 h3
theorem DR(xs:List AV)(h1:CX X.C st rs=some xs:=by(try simp(disch:=omega)only[go_sem,CX,Jm])<;>rfl)(h4:Bz ((pack xs).ren ⟨[],[],[]⟩) y:=by refine gO ?_;refine .tup (Af.AD ?_);simp(disch:=omega)only[go_sem];repeat'(with_reducible apply And.intro);all_goals(first|exact .Au (by omega)|exact .agg (Af.AD (by simp(disch:=omega)only[go_sem]))))(h3:∀ s∈X.ext,lk s []=some s:=by simp):PZ X rs y [] .ret st:=BP xs h4 h1 h3
theorem Bu (h:H2 st st'.tmps∧Ff st st'.objs:=by
 refine⟨?_,?_⟩
 all_goals(try simp(disch:=omega)only[go_sem])
 all_goals(try(repeat'(with_reducible apply And.intro)))
 all_goals(first|exact .AA (by omega)|exact .Au (by omega)|exact .sl (by simp[])|exact .int (by simp[])|exact .eq (by simp[]))):Imp X st st':=Imp.weak h.1 h.2
end
theorem gm{α β:Type}(f:α→β)(l:List α)(i:Nat):(l.map f)[i]?=l[i]?.map f:=List.getElem?_map
theorem gE{α:Type}{l:List α}{i:Nat}(h:i<l.length):l[i]?=some l[i]:=List.getElem?_eq_getElem h
theorem mG{α:Type}{l:List α}{i:Nat}{a:α}(h:l[i]?=some a):a∈l:=List.mem_of_getElem? h
end Go.Abs
open Go Go.Abs Go.Proofs
set_option maxRecDepth 100000
namespace Go.Rd
set_option maxHeartbeats 8000000
open Tryz
attribute [go_sem] if_pos wrap64 Int.natCast_add
theorem fol:prog.follows .mixedOrders=true:=by kernel_rfl
@[go_sem] theorem F.sz1:Bv prog 1=some 1∧AN prog 1=some false∧zeroOf prog 1=some [.nilFunc]:=⟨by kernel_rfl,by kernel_rfl,by kernel_rfl⟩
@[go_sem] theorem F.sz3:Bv prog 3=some 1∧AN prog 3=some false∧zeroOf prog 3=some [.int .i64 0]∧SU prog 3=some .i64∧As prog 3=false:=⟨by kernel_rfl,by kernel_rfl,by kernel_rfl,by kernel_rfl,by kernel_rfl⟩
@[go_sem] theorem F.i63:U0 prog 3=true:=by kernel_rfl
@[go_sem] theorem F.sz4:Bv prog 4=some 1∧AN prog 4=some false∧zeroOf prog 4=some [.bool false]:=⟨by kernel_rfl,by kernel_rfl,by kernel_rfl⟩
@[go_sem] theorem F.sz9:Bv prog 9=some 1∧AN prog 9=some false∧zeroOf prog 9=some [.string (str [])]∧I5 prog 9=true:=⟨by kernel_rfl,by kernel_rfl,by kernel_rfl,by kernel_rfl⟩
@[go_sem] theorem F.dL:Bv prog 22=some 1∧AN prog 22=some false∧Am prog 22=some (3,1)∧AW prog 22=some (3,1,8)∧As prog 22=true:=⟨by kernel_rfl,by kernel_rfl,by kernel_rfl,by kernel_rfl,by kernel_rfl⟩
@[go_sem] theorem F.dM:Bv prog 25=some 1∧AN prog 25=some false∧Am prog 25=some (102,8)∧AW prog 25=some (102,8,120)∧As prog 25=true:=⟨by kernel_rfl,by kernel_rfl,by kernel_rfl,by kernel_rfl,by kernel_rfl⟩
@[go_sem] theorem F.dN:Bv prog 26=some 1∧AN prog 26=some false∧Am prog 26=some (110,9)∧AW prog 26=some (110,9,96)∧As prog 26=true:=⟨by kernel_rfl,by kernel_rfl,by kernel_rfl,by kernel_rfl,by kernel_rfl⟩
@[go_sem] theorem F.dO:Bv prog 28=some 2∧AN prog 28=some true∧zeroOf prog 28=some [.slice none 0 0,.slice none 0 0]∧sized prog 28=true∧AO prog 28 0=some 0∧placeOf prog 28 0=some (0,1)∧AO prog 28 1=some 1∧placeOf prog 28 1=some (1,1):=⟨by kernel_rfl,by kernel_rfl,by kernel_rfl,by kernel_rfl,by kernel_rfl,by kernel_rfl,by kernel_rfl,by kernel_rfl⟩
@[go_sem] theorem F.dI:Am prog 31=some (38,3)∧AW prog 31=some (38,3,24)∧As prog 31=true:=⟨by kernel_rfl,by kernel_rfl,by kernel_rfl⟩
@[go_sem] theorem F.da:Bv prog 38=some 3:=by kernel_rfl
@[go_sem] theorem F.cQ:AN prog 38=some true:=by kernel_rfl
@[go_sem] theorem F.ek:zeroOf prog 38=some [.int .i64 0,.int .i64 0,.int .i64 0]∧sized prog 38=true∧AO prog 38 0=some 0∧placeOf prog 38 0=some (0,1)∧AO prog 38 1=some 1∧placeOf prog 38 1=some (1,1)∧AO prog 38 2=some 2∧placeOf prog 38 2=some (2,1)∧structEq prog 38=some [1,1,1]:=⟨by kernel_rfl,by kernel_rfl,by kernel_rfl,by kernel_rfl,by kernel_rfl,by kernel_rfl,by kernel_rfl,by kernel_rfl,by kernel_rfl⟩
@[go_sem] theorem F.dP:Bv prog 42=some 1∧AN prog 42=some false∧Am prog 42=some (62,16)∧AW prog 42=some (62,16,184)∧As prog 42=true:=⟨by kernel_rfl,by kernel_rfl,by kernel_rfl,by kernel_rfl,by kernel_rfl⟩
@[go_sem] theorem F.dQ:Bv prog 44=some 3∧AN prog 44=some true∧zeroOf prog 44=some [.int .i64 0,.slice none 0 0,.slice none 0 0]∧sized prog 44=true∧AO prog 44 0=some 0∧AO prog 44 1=some 1∧placeOf prog 44 1=some (1,1)∧AO prog 44 2=some 2:=⟨by kernel_rfl,by kernel_rfl,by kernel_rfl,by kernel_rfl,by kernel_rfl,by kernel_rfl,by kernel_rfl,by kernel_rfl⟩
@[go_sem] theorem F.dR:Bv prog 48=some 1∧AN prog 48=some false∧Am prog 48=some (239,5)∧AW prog 48=some (239,5,48)∧As prog 48=true:=⟨by kernel_rfl,by kernel_rfl,by kernel_rfl,by kernel_rfl,by kernel_rfl⟩
@[go_sem] theorem F.dS:Bv prog 49=some 1∧AN prog 49=some false∧Am prog 49=some (245,2)∧AW prog 49=some (245,2,16)∧As prog 49=true:=⟨by kernel_rfl,by kernel_rfl,by kernel_rfl,by kernel_rfl,by kernel_rfl⟩
@[go_sem] theorem F.dT:Bv prog 51=some 2∧AN prog 51=some true∧zeroOf prog 51=some [.slice none 0 0,.slice none 0 0]∧sized prog 51=true∧AO prog 51 0=some 0∧placeOf prog 51 0=some (0,1)∧AO prog 51 1=some 1∧placeOf prog 51 1=some (1,1):=⟨by kernel_rfl,by kernel_rfl,by kernel_rfl,by kernel_rfl,by kernel_rfl,by kernel_rfl,by kernel_rfl,by kernel_rfl⟩
@[go_sem] theorem F.dU:Bv prog 53=some 2∧AN prog 53=some true∧zeroOf prog 53=some [.int .i64 0,.int .i64 0]∧sized prog 53=true∧AO prog 53 0=some 0∧placeOf prog 53 0=some (0,1)∧AO prog 53 1=some 1∧placeOf prog 53 1=some (1,1)∧structEq prog 53=some [1,1]:=⟨by kernel_rfl,by kernel_rfl,by kernel_rfl,by kernel_rfl,by kernel_rfl,by kernel_rfl,by kernel_rfl,by kernel_rfl,by kernel_rfl⟩
@[go_sem] theorem F.dV:Bv prog 55=some 3∧AN prog 55=some true∧zeroOf prog 55=some [.string (str []),.int .i64 0,.int .i64 0]∧sized prog 55=true∧AO prog 55 0=some 0∧placeOf prog 55 0=some (0,1)∧AO prog 55 1=some 1∧placeOf prog 55 1=some (1,2)∧structEq prog 55=some [2,1,1]:=⟨by kernel_rfl,by kernel_rfl,by kernel_rfl,by kernel_rfl,by kernel_rfl,by kernel_rfl,by kernel_rfl,by kernel_rfl,by kernel_rfl⟩
@[go_sem] theorem F.dW:Bv prog 56=some 1∧AN prog 56=some false∧Am prog 56=some (58,5)∧AW prog 56=some (58,5,64)∧As prog 56=true:=⟨by kernel_rfl,by kernel_rfl,by kernel_rfl,by kernel_rfl,by kernel_rfl⟩
@[go_sem] theorem F.dX:Bv prog 58=some 5∧AN prog 58=some true∧zeroOf prog 58=some [.int .i64 0,.string (str []),.int .i64 0,.int .i64 0,.slice none 0 0]∧sized prog 58=true∧AO prog 58 0=some 0∧placeOf prog 58 0=some (0,1)∧AO prog 58 1=some 1∧placeOf prog 58 1=some (1,3)∧AO prog 58 2=some 4:=⟨by kernel_rfl,by kernel_rfl,by kernel_rfl,by kernel_rfl,by kernel_rfl,by kernel_rfl,by kernel_rfl,by kernel_rfl,by kernel_rfl⟩
@[go_sem] theorem F.dY:Bv prog 60=some 7∧AN prog 60=some true∧zeroOf prog 60=some [.int .i64 0,.string (str []),.int .i64 0,.int .i64 0,.slice none 0 0,.int .i64 0,.int .i64 0]∧sized prog 60=true∧AO prog 60 0=some 0∧AO prog 60 1=some 5∧placeOf prog 60 1=some (5,1)∧AO prog 60 2=some 6:=⟨by kernel_rfl,by kernel_rfl,by kernel_rfl,by kernel_rfl,by kernel_rfl,by kernel_rfl,by kernel_rfl,by kernel_rfl⟩
@[go_sem] theorem F.dZ:Bv prog 62=some 16∧AN prog 62=some true∧zeroOf prog 62=some [.int .i64 0,.int .i64 0,.int .i64 0,.int .i64 0,.slice none 0 0,.slice none 0 0,.bool false,.int .i64 0,.string (str []),.int .i64 0,.int .i64 0,.slice none 0 0,.int .i64 0,.int .i64 0,.int .i64 0,.int .i64 0]∧sized prog 62=true∧AO prog 62 0=some 0∧placeOf prog 62 0=some (0,3)∧AO prog 62 1=some 3∧placeOf prog 62 1=some (3,1)∧AO prog 62 2=some 4∧AO prog 62 3=some 6∧AO prog 62 4=some 7∧AO prog 62 5=some 14:=⟨by kernel_rfl,by kernel_rfl,by kernel_rfl,by kernel_rfl,by kernel_rfl,by kernel_rfl,by kernel_rfl,by kernel_rfl,by kernel_rfl,by kernel_rfl,by kernel_rfl,by kernel_rfl⟩
@[go_sem] theorem F.cX:AO prog 62 6=some 15:=by kernel_rfl
@[go_sem] theorem F.ea:Bv prog 67=some 1∧AN prog 67=some false∧AW prog 67=some (289,7,64)∧As prog 67=true:=⟨by kernel_rfl,by kernel_rfl,by kernel_rfl,by kernel_rfl⟩
@[go_sem] theorem F.eb:Bv prog 71=some 13∧AN prog 71=some true∧zeroOf prog 71=some [.int .i64 0,.int .i64 0,.int .i64 0,.int .i64 0,.int .i64 0,.string (str []),.int .i64 0,.int .i64 0,.slice none 0 0,.int .i64 0,.int .i64 0,.string (str []),.int .i64 0]∧sized prog 71=true∧AO prog 71 0=some 0∧placeOf prog 71 0=some (0,1)∧AO prog 71 1=some 1∧placeOf prog 71 1=some (1,3)∧AO prog 71 2=some 4∧AO prog 71 3=some 11∧AO prog 71 4=some 12∧placeOf prog 71 4=some (12,1):=⟨by kernel_rfl,by kernel_rfl,by kernel_rfl,by kernel_rfl,by kernel_rfl,by kernel_rfl,by kernel_rfl,by kernel_rfl,by kernel_rfl,by kernel_rfl,by kernel_rfl,by kernel_rfl⟩
@[go_sem] theorem F.dH:AN prog 81=some true∧zeroOf prog 81=some [.slice none 0 0,.int .i64 0]∧sized prog 81=true∧AO prog 81 0=some 0∧placeOf prog 81 0=some (0,1)∧AO prog 81 1=some 1:=⟨by kernel_rfl,by kernel_rfl,by kernel_rfl,by kernel_rfl,by kernel_rfl,by kernel_rfl⟩
@[go_sem] theorem F.dJ:Am prog 96=some (98,4)∧AW prog 96=some (98,4,40)∧As prog 96=true:=⟨by kernel_rfl,by kernel_rfl,by kernel_rfl⟩
@[go_sem] theorem F.ec:Bv prog 98=some 4∧AN prog 98=some true∧zeroOf prog 98=some [.string (str []),.int .i64 0,.int .i64 0,.int .i64 0]∧sized prog 98=true∧AO prog 98 0=some 0∧placeOf prog 98 0=some (0,1)∧AO prog 98 1=some 1∧placeOf prog 98 1=some (1,1)∧AO prog 98 2=some 2∧placeOf prog 98 2=some (2,1)∧AO prog 98 3=some 3∧placeOf prog 98 3=some (3,1):=⟨by kernel_rfl,by kernel_rfl,by kernel_rfl,by kernel_rfl,by kernel_rfl,by kernel_rfl,by kernel_rfl,by kernel_rfl,by kernel_rfl,by kernel_rfl,by kernel_rfl,by kernel_rfl⟩
@[go_sem] theorem F.dK:structEq prog 98=some [2,1,1,1]:=by kernel_rfl
@[go_sem] theorem F.eh:Bv prog 99=some 1∧AN prog 99=some false∧Am prog 99=some (178,5)∧AW prog 99=some (178,5,40)∧As prog 99=true:=⟨by kernel_rfl,by kernel_rfl,by kernel_rfl,by kernel_rfl,by kernel_rfl⟩
@[go_sem] theorem F.dw:Bv prog 100=some 1∧AN prog 100=some false∧zeroOf prog 100=some [.slice none 0 0]∧Am prog 100=some (181,7)∧AW prog 100=some (181,7,56)∧As prog 100=true:=⟨by kernel_rfl,by kernel_rfl,by kernel_rfl,by kernel_rfl,by kernel_rfl,by kernel_rfl⟩
@[go_sem] theorem F.dx:Bv prog 102=some 8∧AN prog 102=some true∧zeroOf prog 102=some [.string (str []),.int .i64 0,.int .i64 0,.int .i64 0,.slice none 0 0,.slice none 0 0,.slice none 0 0,.int .i64 0]∧sized prog 102=true∧AO prog 102 0=some 0∧placeOf prog 102 0=some (0,4)∧AO prog 102 1=some 4∧placeOf prog 102 1=some (4,1)∧AO prog 102 2=some 5∧AO prog 102 3=some 6∧placeOf prog 102 3=some (6,1)∧AO prog 102 4=some 7:=⟨by kernel_rfl,by kernel_rfl,by kernel_rfl,by kernel_rfl,by kernel_rfl,by kernel_rfl,by kernel_rfl,by kernel_rfl,by kernel_rfl,by kernel_rfl,by kernel_rfl,by kernel_rfl⟩
@[go_sem] theorem F.dy:Bv prog 110=some 9∧AN prog 110=some true∧zeroOf prog 110=some [.int .i64 0,.int .i64 0,.int .i64 0,.int .i64 0,.string (str []),.int .i64 0,.int .i64 0,.slice none 0 0,.int .i64 0]∧sized prog 110=true∧AO prog 110 0=some 0∧placeOf prog 110 0=some (0,3)∧AO prog 110 1=some 3∧placeOf prog 110 1=some (3,5)∧AO prog 110 2=some 8∧placeOf prog 110 2=some (8,1):=⟨by kernel_rfl,by kernel_rfl,by kernel_rfl,by kernel_rfl,by kernel_rfl,by kernel_rfl,by kernel_rfl,by kernel_rfl,by kernel_rfl,by kernel_rfl⟩
@[go_sem] theorem F.dg:Am prog 117=some (71,13)∧AW prog 117=some (71,13,136)∧As prog 117=true:=⟨by kernel_rfl,by kernel_rfl,by kernel_rfl⟩
@[go_sem] theorem F.dc:AN prog 128=some true∧zeroOf prog 128=some [.int .i64 0,.slice none 0 0,.slice none 0 0,.slice none 0 0]∧sized prog 128=true∧AO prog 128 0=some 0∧placeOf prog 128 0=some (0,3)∧AO prog 128 1=some 3:=⟨by kernel_rfl,by kernel_rfl,by kernel_rfl,by kernel_rfl,by kernel_rfl,by kernel_rfl⟩
@[go_sem] theorem F.dz:Bv prog 143=some 1∧AN prog 143=some false∧Am prog 143=some (4,1)∧AW prog 143=some (4,1,1)∧As prog 143=true:=⟨by kernel_rfl,by kernel_rfl,by kernel_rfl,by kernel_rfl,by kernel_rfl⟩
@[go_sem] theorem F.dA:Bv prog 144=some 1∧AN prog 144=some false∧zeroOf prog 144=some [.slice none 0 0]∧Am prog 144=some (55,3)∧AW prog 144=some (55,3,32)∧As prog 144=true:=⟨by kernel_rfl,by kernel_rfl,by kernel_rfl,by kernel_rfl,by kernel_rfl,by kernel_rfl⟩
@[go_sem] theorem F.dB:Bv prog 163=some 3∧AN prog 163=some true∧zeroOf prog 163=some [.int .i64 0,.int .i64 0,.int .i64 0]∧Am prog 163=none∧CN prog 163=some (3,1)∧N4 prog 163=some (3,1,false)∧sized prog 163=true∧placeOf prog 163 0=some (0,1)∧placeOf prog 163 1=some (1,1)∧placeOf prog 163 2=some (2,1):=⟨by kernel_rfl,by kernel_rfl,by kernel_rfl,by kernel_rfl,by kernel_rfl,by kernel_rfl,by kernel_rfl,by kernel_rfl,by kernel_rfl,by kernel_rfl⟩
@[go_sem] theorem F.dC:Bv prog 178=some 5∧AN prog 178=some true∧zeroOf prog 178=some [.int .i64 0,.int .i64 0,.int .i64 0,.int .i64 0,.int .i64 0]∧sized prog 178=true∧AO prog 178 0=some 0∧placeOf prog 178 0=some (0,3)∧AO prog 178 1=some 3∧placeOf prog 178 1=some (3,2)∧structEq prog 178=some [1,1,1,1,1]:=⟨by kernel_rfl,by kernel_rfl,by kernel_rfl,by kernel_rfl,by kernel_rfl,by kernel_rfl,by kernel_rfl,by kernel_rfl,by kernel_rfl⟩
@[go_sem] theorem F.dD:Bv prog 181=some 7∧AN prog 181=some true∧zeroOf prog 181=some [.int .i64 0,.int .i64 0,.int .i64 0,.int .i64 0,.int .i64 0,.int .i64 0,.int .i64 0]∧sized prog 181=true∧AO prog 181 0=some 0∧placeOf prog 181 0=some (0,3)∧AO prog 181 1=some 3∧placeOf prog 181 1=some (3,2)∧AO prog 181 2=some 5∧placeOf prog 181 2=some (5,1)∧AO prog 181 3=some 6∧structEq prog 181=some [1,1,1,1,1,1,1]:=⟨by kernel_rfl,by kernel_rfl,by kernel_rfl,by kernel_rfl,by kernel_rfl,by kernel_rfl,by kernel_rfl,by kernel_rfl,by kernel_rfl,by kernel_rfl,by kernel_rfl,by kernel_rfl⟩
@[go_sem] theorem F.dh:Am prog 216=some (9,1)∧AW prog 216=some (9,1,16)∧As prog 216=true:=⟨by kernel_rfl,by kernel_rfl,by kernel_rfl⟩
@[go_sem] theorem F.dE:Bv prog 239=some 5∧AN prog 239=some true∧zeroOf prog 239=some [.string (str []),.int .i64 0,.int .i64 0,.int .i64 0,.int .i64 0]∧sized prog 239=true∧AO prog 239 0=some 0∧placeOf prog 239 0=some (0,1)∧AO prog 239 1=some 1∧placeOf prog 239 1=some (1,2)∧AO prog 239 2=some 3∧placeOf prog 239 2=some (3,2):=⟨by kernel_rfl,by kernel_rfl,by kernel_rfl,by kernel_rfl,by kernel_rfl,by kernel_rfl,by kernel_rfl,by kernel_rfl,by kernel_rfl,by kernel_rfl⟩
@[go_sem] theorem F.dF:Bv prog 245=some 2∧AN prog 245=some true∧zeroOf prog 245=some [.int .i64 0,.int .i64 0]∧sized prog 245=true∧AO prog 245 0=some 0∧placeOf prog 245 0=some (0,1)∧AO prog 245 1=some 1∧placeOf prog 245 1=some (1,1):=⟨by kernel_rfl,by kernel_rfl,by kernel_rfl,by kernel_rfl,by kernel_rfl,by kernel_rfl,by kernel_rfl,by kernel_rfl⟩
@[go_sem] theorem F.dd:AN prog 263=some true∧zeroOf prog 263=some [.slice none 0 0,.slice none 0 0]∧sized prog 263=true∧AO prog 263 0=some 0∧placeOf prog 263 0=some (0,1)∧AO prog 263 1=some 1∧placeOf prog 263 1=some (1,1):=⟨by kernel_rfl,by kernel_rfl,by kernel_rfl,by kernel_rfl,by kernel_rfl,by kernel_rfl,by kernel_rfl⟩
@[go_sem] theorem F.du:SU prog 270=some .u64:=by kernel_rfl
@[go_sem] theorem F.de:AN prog 289=some true∧zeroOf prog 289=some [.int .i64 0,.int .i64 0,.int .i64 0,.int .i64 0,.string (str []),.int .i64 0,.int .i64 0]∧sized prog 289=true∧placeOf prog 289 0=some (0,1)∧placeOf prog 289 1=some (1,3)∧placeOf prog 289 2=some (4,1)∧placeOf prog 289 3=some (5,2):=⟨by kernel_rfl,by kernel_rfl,by kernel_rfl,by kernel_rfl,by kernel_rfl,by kernel_rfl,by kernel_rfl⟩
@[go_sem] theorem F.di:Am prog 297=some (1,1)∧AW prog 297=some (1,1,8)∧As prog 297=true:=⟨by kernel_rfl,by kernel_rfl,by kernel_rfl⟩
@[go_sem] theorem F.dj:Am prog 301=some (53,2)∧AW prog 301=some (53,2,16)∧As prog 301=true:=⟨by kernel_rfl,by kernel_rfl,by kernel_rfl⟩
@[go_sem] theorem F.dm:Am prog 327=some (100,1)∧AW prog 327=some (100,1,24)∧As prog 327=true:=⟨by kernel_rfl,by kernel_rfl,by kernel_rfl⟩
@[go_sem] theorem F.dG:Bv prog 329=some 6∧AN prog 329=some true∧zeroOf prog 329=some [.bool false,.bool false,.bool false,.bool false,.bool false,.bool false]∧Am prog 329=none∧CN prog 329=some (6,1)∧N4 prog 329=some (6,1,false):=⟨by kernel_rfl,by kernel_rfl,by kernel_rfl,by kernel_rfl,by kernel_rfl,by kernel_rfl⟩
@[go_sem] theorem F.dq:Am prog 336=none∧CN prog 336=some (5,1):=⟨by kernel_rfl,by kernel_rfl⟩
@[go_sem] theorem F.dr:Am prog 337=none∧CN prog 337=some (5,5):=⟨by kernel_rfl,by kernel_rfl⟩
end Go.Rd
