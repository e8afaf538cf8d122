/- part 6 of the proof -/
import Derived.Deep.LoopGhost
import Derived.Scope
import Derived.Test.YteliegkcmjimoaaGreatDoorV05
set_option linter.all false
namespace Go.Abs
inductive Ex where
 | normal
 | exit(id:Nat)
 | ret
structure Env where
 C:Ctx
 ext:List Nat
 deep:List Nat
def Sa(K:St->Prop)(Q:Ex->St->Prop):Ex->St->Prop
 |.normal=>K
 |.exit id=>Q (.exit id)
 |.ret=>Q .ret
def Qz(id:Nat)(Q:Ex->St->Prop):Ex->St->Prop
 |.normal=>Q .normal
 |.exit i=>if i=id then Q .normal else Q (.exit i)
 |.ret=>Q .ret
def AQ(X:Env)(st st':St):Prop:=∀ A N g a w,A.ext=X.ext->R X.C A N g st a w->∃ g',R X.C A N g' st' a w
def D9(ext:List Nat):AV->AV
 |.v x=>.v x
 |.ptr s off=>if s∈ext then .ptr s off else .undef
 |.Gc t (.ptr s off)=>if s∈ext then .Gc t (.ptr s off) else .undef
 |_=>.undef
def M9(ext:List Nat):List (Nat × AV)->List (Nat × AV)
 |[]=>[]
 |(k,x)::l=>(k,D9 ext x)::M9 ext l
def wL(X:Env)(d:Option Nat)(EG:Nat)(xs:List AV)(K:St->Prop)(st:St):Prop :=
 (∃ fn c,X.C.P.funcs[EG]?=some fn/\(fn.name=="runtime.NumGoroutine")=false/\fn.body=some c) /\
 ∀ A g w us,A.ext=X.ext->Fr X.C A g w->Az g w xs us->(∀ s cs,lk s st.Ah=some cs->DO g w s cs) ->
  Calls X.C.P EG us.toArray w λe w'=>∃ u g' y os,e=.returned u/\Fr X.C A g' w'/\VR g' w' y u/\(∀ s cs,lk s os=some cs->DO g' w' s cs)/\K (St.put d y ⟨M9 X.ext st.tmps,os⟩)
def A8(X:Env)(d:Option Nat)(EG:Nat)(xs:List AV)(K:St->Prop)(st:St):Prop :=
 (∃ fz v ob S,v.OK ob/\(rngs v.fm).all (λs=>s%32 !=31)=true/\FnP X.C EG (E2 v.ρ (DF fz xs)) ob S/\Has v (st.freeze fz) ob /\
  ∀ y IC,S y IC->(v.ρ.bs=[]\/(Flat (y.BS v.back)/\Jy (ET v.back IC))) /\
   K (((st.freeze fz).app (rngs v.back.l) (rngs v.fm) (rngs v.back.m) (ET v.back IC)).put d (y.BS v.back))) \/
 (∃ r n es ys NK,xs=.sl (.own r 0) n es::ys/\S4 X.C EG n es ys NK/\K ((st.AP r n 0 NK).put d (.Bl [])))\/wL X d EG xs K st
def YY(X:Env)(d:Option Nat)(f:AV)(xs:List AV)(K:St->Prop)(st:St):Prop :=
 match f with
 |.fn EG Bi=>A8 X d EG (xs++Bi) K st
 |.mv EG first=>A8 X d EG (first++xs) K st
 |_=>False
def MM(P:Program)(t:TypeId)(name:String):Option (Nat × Option TypeId):=(P.info? t).bind λi=>(i.methods.find? (·.name==name)).bind λm=>if m.path = #[] then match m.func,P.underlying t with
 |some (f,true),some (.pointer _)=>some (f,none)
 |some (f,false),some (.pointer e)=>some (f,some e)
 |_,_=>none else none
def ZU(C:Ctx)(t:TypeId)(name:String)(x:AV)(Ah:List (Nat × List AV)):Option (Nat × AV):=match MM C.P t name with
 |some (f,none)=>some (f,x)
 |some (f,some e)=>match Be C.P e,BW C.P e with
  |some agg,some n=>(LX agg n Ah x).map λy=>(f,y)
  |_,_=>none
 |_=>none
def pV(X:Env)(d:Option Nat)(name:String)(x:AV)(xs:List AV)(K:St->Prop)(st:St):Prop:=match x with
 |.Gc t y=>match ZU X.C t name y st.Ah with
  |some (f,r)=>A8 X d f (r::xs) K st
  |none=>False
 |_=>False
def Ea(d:Option Nat)(K:St->Prop):Option (AV × St)->Prop
 |some (x,st)=>K (st.put d x)
 |none=>False
def Dk(C:Ctx)(st:St):List Operand->List AV
 |[]=>[]
 | x::xs=>ev C st x::Dk C st xs
def OG(X:Env)(d:Option Nat):Prop:=match d with
 |some k=>k∈X.deep
 |none=>False
instance (X:Env) (d:Option Nat):Decidable (OG X d):=by unfold OG;split<;>infer_instance
def Sz(C:Ctx)(d:Option Nat)(t:TypeId)(len:Nat)(ps:Array (Nat × Operand))(st:St):Option (AV × St):=match d,Bz C.P t with
 |some k,some (e,1,_)=>match zeroOf C.P e with
  |some _=>lf (nm k) st len (parts C st ps)
  |none=>none
 |_,_=>none
def Sy(C:Ctx)(d:Option Nat)(args:List Operand)(ts:List TypeId)(st:St):Option (AV × St):=match d,args,ts with
 |some k,[x,y],[t,t2]=>match Bz C.P t with
  |some (_,1,_)=>if AJ C.P t2=true then O5 (nm k) st (ev C st x) (ev C st y) else none
  |_=>none
 |_,_,_=>none
def Xi(C:Ctx)(st:St)(t:TypeId)(x:AV)(lo hi mx:Option Operand):Option (AV × St):=match Cp C st lo,Cp C st hi,Cp C st mx,As C.P t,x with
 |some none,some (some h),some (some m),some (_,n),.sl (.own r a) k es=>if m=h/\k=n/\h<=es.length then some (.sl (.own r a) n (es.take h),st) else none
 |_,_,_,_,_=>none
def Zd(X:Env)(o:Oper)(K:St->Prop)(st:St):Prop :=
 match o.op with
 |.call ⟨.value f,args,_⟩=>YY X o.dst (ev X.C st f) (Dk X.C st args.toList) K st
 |.call ⟨.invoke r name,args,_⟩=>pV X o.dst name (ev X.C st r) (Dk X.C st args.toList) K st
 |.call ⟨.builtin .append,args,ts⟩=>if OG X o.dst then Ea o.dst K (Sy X.C o.dst args.toList ts.toList st) else Ea o.dst K (Hn X.C o st)
 |.buildSlice t len ps=>if OG X o.dst then Ea o.dst K (Sz X.C o.dst t len ps st) else Ea o.dst K (Hn X.C o st)
 |.slice t x lo hi mx=>if OG X o.dst then Ea o.dst K (Xi X.C st t (ev X.C st x) lo hi mx) else Ea o.dst K (Hn X.C o st)
 |_=>Ea o.dst K (Hn X.C o st)
def FT(b' b:Bool)(p q:Prop):Prop:=(b'=b->p)/\(b'≠b->q)
def iy(d:Nat)(x:AV):List (Nat × AV)->List (Nat × AV)
 |[]=>[]
 |(k,y)::l=>if k=d then (k,x)::l else (k,y)::iy d x l
def WE{d:Nat}{x:AV}:∀ {l:List (Nat × AV)},lk d l=some x->iy d x l=l
 |(k,y)::l,h=>by
  simp only[lk]at h;simp only[iy];split
  ·rename_i hk;simp only[hk,if_true]at h;injection h with h;rw[h]
  ·rename_i hk;simp only[hk,if_false]at h;rw[WE h]
def St.learn(d:Option Nat)(b:Bool)(st:St):St:=match d with
 |some k=>⟨iy k (.v (.bool b)) st.tmps,st.Ah⟩
 |none=>st
def gdst(all:Array Oper)(j:Nat):Option Nat:=(all[j]?).bind (·.dst)
def guardOf(all:Array Oper)(j:Nat)(st:St):Option AV:=((all[j]?).bind (·.dst)).bind (lk · st.tmps)
def Ie(X:Env)(all:Array Oper)(o:Oper)(K:St->Prop)(st:St):Prop :=
 match o.guard with
 |none=>Zd X o K st
 |some (j,b)=>match guardOf all j st with
  |some (.v (.bool b'))=>FT b' b (Zd X o K (st.learn (gdst all j) b)) (K ((st.learn (gdst all j) (!b)).put o.dst (.Bl [])))
  |some (.Bl [])=>K (st.put o.dst (.Bl []))
  |_=>False
def Bg(X:Env)(all:Array Oper):List Oper->(St->Prop)->St->Prop
 |[],K=>K
 | o::rest,K=>Ie X all o (Bg X all rest K)
def RE(c:AV)(K1 K2:St->Prop)(st:St):Prop :=
 match c with
 |.v (.bool b)=>(b=true->K1 st)/\(b=false->K2 st)
 |_=>False
def eY(X:Env)(body:(Ex->St->Prop)->St->Prop)(Q:Ex->St->Prop)(st:St):Prop :=
 ∃ (α:Type) (I:α->St) (Inv:α->Prop) (μ:α->Nat) (x0:α),Inv x0/\AQ X st (I x0) /\
  ∀ x,Inv x->body (Sa (λst'=>∃ x',Inv x'/\μ x'<μ x/\AQ X st' (I x')) Q) (I x)
def JG(X:Env)(ops:Array Oper)(K:St->Prop)(st:St):Prop :=
 ∀ A N g a w,A.ext=X.ext->(∀ o∈ops,∀ d,o.dst=some d->d<N)->(∀ s∈X.ext,s%32=31)->R X.C A N g st a w->∀ id (Q:Exit->Act->World->Prop),(∀ g' st' a' w',R X.C A N g' st' a' w'->K st'->Q .normal a' w') ->
  (Code.region id ops true).wp X.C.P Q a w
def Oi(X:Env):Code->(Ex->St->Prop)->St->Prop
 |.skip,Q=>Q .normal
 |.region _ ops false,Q=>Bg X ops ops.toList (Q .normal)
 |.region _ ops true,Q=>JG X ops (Q .normal)
 |.seq x y,Q=>Oi X x (Sa (Oi X y Q) Q)
 |.cond c x y,Q=>λst=>RE (ev X.C st c) (Oi X x Q) (Oi X y Q) st
 |.block id c,Q=>Oi X c (Qz id Q)
 |.loop c,Q=>eY X (Oi X c) Q
 |.exit id,Q=>Q (.exit id)
 |.ret,Q=>Q .ret
 |.scope c,Q=>Oi X c Q
 |.label _,Q=>Q .normal
 |_,_=>λ_=>False
def Jn(N:Nat)(o:Oper):Bool:=match o.dst with
 |some d=>decide (d<N)
 |none=>true
def F9(N:Nat):Code->Bool
 |.region _ ops _=>ops.all (Jn N)
 |.seq x y=>F9 N x&&F9 N y
 |.cond _ x y=>F9 N x&&F9 N y
 |.block _ c=>F9 N c
 |.loop c=>F9 N c
 |.scope c=>F9 N c
 |_=>true
def lV(X:Env)(A:A0)(N:Nat)(Q:Ex->St->Prop):Exit->Act->World->Prop
 |.normal,a,w=>∃ g st,R X.C A N g st a w/\Q .normal st
 |.exit id,a,w=>∃ g st,R X.C A N g st a w/\Q (.exit id) st
 |.ret,a,w=>∃ g st,R X.C A N g st a w/\Q .ret st
 |_,_,_=>False
section
variable {X:Env} {A:A0} {N:Nat} {g g':Gh} {st:St} {a:Act} {w w':World}
def Lh(C:Ctx)(st:St):∀ l:List Operand,Dk C st l=l.map (ev C st)
 |[]=>rfl
 | x::l=>by simp[Dk,Lh C st l]
def S1(hX:∀ s∈X.ext,s%32=31)(hA:A.ext=X.ext)(d:Nat):cD d∉A.ext:=λh=>by
 rw[hA]at h;have:=hX _ h;simp only[cD]at this;omega
def X9(hX:∀ s∈X.ext,s%32=31)(hA:A.ext=X.ext)(d:Nat):nm d∉A.ext:=λh=>by
 rw[hA]at h;have:=hX _ h;simp only[nm]at this;omega
def U3{C:Ctx}(hR:R C A N g st a w){o:Oper}{t:TypeId}{len:Nat}{ps:Array (Nat × Operand)}(ho:o.op=.buildSlice t len ps){x:AV}{st':St}(h:Sz C o.dst t len ps st=some (x,st')):Steps C A N o a w x st':=by
 unfold Sz at h;split at h
 ·rename_i d e b k _ hd hr;split at h
  ·rename_i zs hz;exact .of (Is a ho) (cn hR hr hz (by simp[parts]) (Km hR ps) h)
  ·cases h
 ·cases h
def U2{C:Ctx}(hR:R C A N g st a w){o:Oper}{args:Array Operand}{ts:Array TypeId}(ho:o.op=.call { callee:=.builtin .append,args,argTypes:=ts }){x:AV}{st':St}(h:Sy C o.dst args.toList ts.toList st=some (x,st')):Steps C A N o a w x st':=by
 obtain⟨consts,he⟩:=IK a ho;unfold Sy at h;split at h
 ·rename_i k y z t t2 hd hy ht;split at h
  ·rename_i e b hr;split at h
   ·rename_i hs;refine .of he ?_;rw[Qy hy,Qy ht];simp only[List.map_toArray,List.map_cons,List.map_nil];exact UU hR hr hs (hR.ev y) (hR.ev z) h
   ·cases h
  ·cases h
 ·cases h
def VB{C:Ctx}(hR:R C A N g st a w){t:TypeId}{x:Operand}{lo hi mx:Option Operand}{z:AV}{st':St}(h:Xi C st t (ev C st x) lo hi mx=some (z,st')):st'=st/\∃ u,(Instr.sliceAt t (a.eval x) (lo.map a.eval) (hi.map a.eval) (mx.map a.eval)).run C.P w=.ok u w/\VR g w z u:=by
 have hv:=hR.ev x;unfold Xi at h;split at h
 ·rename_i h0 m0 e n r b k es hl hh hm eH hxe;split at h
  ·rename_i hc;obtain⟨rfl,rfl,hle⟩:=hc;simp only[Option.some.injEq,Prod.mk.injEq]at h;obtain⟨rfl,rfl⟩:=h;refine⟨rfl,?_⟩;obtain⟨eS,GP⟩:=Kv eH;rw[Oc eS];have bl:=HA hR hl;have bh:=HA hR hh;have bm:=HA hR hm;have bl':lo.map a.eval=none:=by
    rcases bl with ⟨h1,_⟩|⟨_,_,hc,_⟩
    ·exact h1
    ·cases hc
   obtain⟨kh,bh'⟩:∃ kh,hi.map a.eval=some (.int kh m0):=by
    rcases bh with ⟨_,hc⟩|⟨n',kh,hc,h2⟩
    ·cases hc
    ·injection hc with hc;subst hc;exact⟨kh,h2⟩
   obtain⟨km,bm'⟩:∃ km,mx.map a.eval=some (.int km m0):=by
    rcases bm with ⟨_,hc⟩|⟨n',kh,hc,h2⟩
    ·cases hc
    ·injection hc with hc;subst hc;exact⟨kh,h2⟩
   rw[bl',bh',bm'];rw[hxe]at hv;simp only[VR,CM]at hv;obtain⟨hn,hv⟩:=hv;have hlen:(es.take m0).length=m0:=by simp;omega
   rcases hv with ⟨h1,rfl⟩|⟨h1,rfl,a',cap,h2,TT⟩|⟨cap,cur,T,h1,k2,k3,k5,k6,k7,k8⟩
   ·have hz:m0=0:=by simpa using hle
    subst hz;rw[h1];refine⟨_,Fb (w:=w) eS GP (a:=none) (len:=0) (cap:=0) (kl:=.i64) (kh:=kh) (km:=km) (lo:=none) (.inl ⟨rfl,rfl⟩) (.inr rfl) true rfl (λ_=>rfl) (Nat.le_refl 0) (Nat.le_refl 0) (Nat.le_refl 0),?_⟩;simp only[VR,CM];exact⟨hn,.inl ⟨by simp,by simp⟩⟩
   ·have hz:m0=0:=by simpa using hle
    subst hz;rw[h2];refine⟨_,Fb (w:=w) eS GP (a:=a') (len:=0) (cap:=cap) (kl:=.i64) (kh:=kh) (km:=km) (lo:=none) (.inl ⟨rfl,rfl⟩) (.inr rfl) true rfl (λ_=>rfl) (Nat.le_refl 0) (Nat.le_refl 0) (Nat.zero_le _),?_⟩;simp only[VR,CM];exact⟨hn,.inr (.inl ⟨h1,by simp,_,_,rfl,by simp[maxLen]⟩)⟩
   ·rw[h1];refine⟨_,Fb (w:=w) eS GP (kl:=.i64) (kh:=kh) (km:=km) (lo:=none) (.inl ⟨rfl,rfl⟩) (.inr rfl) true rfl (λ_=>rfl) (Nat.zero_le _) hle k2,?_⟩;simp only[VR,CM];refine⟨hn,.inr (.inr ⟨m0,cur,T,?_,by rw[hlen];exact Nat.le_refl _,by omega,k5,k6,Nat.le_trans (Nat.mul_le_mul_right _ (by omega)) k7,?_⟩)⟩
    ·rw[hlen];simp only[if_true,Nat.sub_zero,Nat.zero_mul];split<;>simp[Addr.add]
    ·have:=CH.sub es _ k 0 k8 0 m0;simpa using this
  ·cases h
 ·cases h
def bw{C:Ctx}(hR:R C A N g st a w){o:Oper}{t:TypeId}{x:Operand}{lo hi mx:Option Operand}(ho:o.op=.slice t x lo hi mx){z:AV}{st':St}(h:Xi C st t (ev C st x) lo hi mx=some (z,st')):Steps C A N o a w z st':=by
 have hx:execOp a.eval o=(do Pure.pure (Next.value (<- Instr.sliceAt t (a.eval x) (lo.map a.eval) (hi.map a.eval) (mx.map a.eval)))):=by
  unfold execOp;rw[ho]
 obtain⟨rfl,u,h1,h2⟩:=VB hR h;exact .of hx ⟨u,w,g,h1,hR,h2⟩
def qH{C:Ctx}(h:Fr C A g w)(h':Fr C A g' w'):∀ (x:AV) (u:Value),VR g w x u->VR g' w' (D9 A.ext x) u
 |.v x,u,hu=>by simpa [D9,VR]using hu
 |.ptr s off,u,hu=>by
  simp only[D9];split
  ·rename_i hs;simp only[VR]at hu ⊢;rw[h'.box s hs,<- h.box s hs];exact hu
  ·simp[VR]
 |.Gc t (.ptr s off),u,hu=>by
  simp only[D9];split
  ·rename_i hs;simp only[VR]at hu ⊢;obtain⟨y,h1,h2⟩:=hu;exact⟨y,h1,by rw[h'.box s hs,<- h.box s hs];exact h2⟩
  ·simp[VR]
 |.undef,_,_=>by simp[D9,VR]
 |.agg _,_,_=>by simp[D9,VR]
 |.Bl _,_,_=>by simp[D9,VR]
 |.sl _ _ _,_,_=>by simp[D9,VR]
 |.ep _ _ _ _,_,_=>by simp[D9,VR]
 |.fn _ _,_,_=>by simp[D9,VR]
 |.mv _ _,_,_=>by simp[D9,VR]
 |.mp _,_,_=>by simp[D9,VR]
 |.El _ _ _ _ _ _ _,_,_=>by simp[D9,VR]
 |.mem _ _,_,_=>by simp[D9,VR]
 |.Gc _ .undef,_,_=>by simp[D9,VR]
 |.Gc _ (.v _),_,_=>by simp[D9,VR]
 |.Gc _ (.agg _),_,_=>by simp[D9,VR]
 |.Gc _ (.Bl _),_,_=>by simp[D9,VR]
 |.Gc _ (.sl _ _ _),_,_=>by simp[D9,VR]
 |.Gc _ (.ep _ _ _ _),_,_=>by simp[D9,VR]
 |.Gc _ (.fn _ _),_,_=>by simp[D9,VR]
 |.Gc _ (.mv _ _),_,_=>by simp[D9,VR]
 |.Gc _ (.mp _),_,_=>by simp[D9,VR]
 |.Gc _ (.El _ _ _ _ _ _ _),_,_=>by simp[D9,VR]
 |.Gc _ (.mem _ _),_,_=>by simp[D9,VR]
 |.Gc _ (.Gc _ _),_,_=>by simp[D9,VR]
def eX(ext:List Nat)(k:Nat):∀ l:List (Nat × AV),lk k (M9 ext l)=(lk k l).map (D9 ext)
 |[]=>rfl
 |(j,x)::l=>by
  simp only[M9,lk];split
  ·rfl
  ·exact eX ext k l
def Mj(hA:A.ext=X.ext)(hX:∀ s∈X.ext,s%32=31){o:Oper}(LV:∀ k,o.dst=some k->k<N){K:St->Prop}{EG:Nat}{xs:List AV}(rp:L9 X.C o a g w EG xs)(h:A8 X o.dst EG xs K st)(hR:R X.C A N g st a w){K':Act->World->Prop}{Q:Exit->Act->World->Prop}
 (hk:∀ g' st' a' w',R X.C A N g' st' a' w'->K st'->K' a' w'):o.wp X.C.P a w K' Q:=by
 rcases h with ⟨fz,v,ob,S,h1,h2,h3,h4,h5⟩|⟨r,n,es,ys,NK,h1,h2,h3⟩|⟨⟨fn,cd,hfn,EY,hb⟩,Je⟩
 ·have AaO:L9 X.C o a (g.freeze fz) w EG (DF fz xs):=by
   obtain⟨us,k1,k2⟩:=rp;exact⟨us,Az.freeze _ _ k1,k2⟩
  refine w7 AaO h1 h3 h4 (λy IC hS=>(h5 y IC hS).1) (hR.freeze fz) (λs hs hT=>?_) LV λy IC g' a' w' hS hr=>hk g' _ a' w' hr (h5 y IC hS).2
  have h7:=hX s (hA▸hs);have h8:=List.all_eq_true.1 h2 s hT;simp[h7]at h8
 ·rw[h1]at rp;exact w8 rp h2 hR LV λg' a' w' hr=>hk g' _ a' w' hr h3
 ·obtain⟨us,Fm,hex⟩:=rp;unfold Oper.wp;rw[hex,KU hfn EY hb,Oper.upon_enter];refine Calls.mono (Je A g w us hA hR.fr Fm hR.ob) λe w' he=>?_
  obtain⟨u,g',y,os,rfl,Gq,hy,gK,hK⟩:=he;have hr:R X.C A N g' ⟨M9 X.ext st.tmps,os⟩ a w':=⟨hR.size,hR.defs,λk x hx=>by
   simp only[eX]at hx;obtain⟨z,hz,rfl⟩:=Option.map_eq_some_iff.1 hx;obtain⟨v,yo,pL⟩:=hR.tm k z hz;exact⟨v,yo,by rw[<- hA];exact qH hR.fr Gq z v pL⟩,gK,Gq⟩
  exact hk g' _ _ w' (hr.put LV hy) hK
def UE{P:Program}{t:TypeId}{name:String}{i:TypeInfo}(hi:P.info? t=some i){m:Method}(hm:i.methods.find? (·.name==name)=some m)(hp:m.path = #[]){f:Nat}{b:Bool}(hf:m.func=some (f,b))(fuel:Nat)(v:Value)(w:World) :
 (method (fuel+1) t v name).run P w=(do pure (f,<- receiverAt t (.val v) b (some ((name.splitOn ".").getLastD name))):Sem (FuncId × Value)).run P w:=by
 unfold method;simp[run_typeInfo hi,hm,hp,follow,hf]
theorem qF{P:Program}(xt:TypeId)(ad:Addr)(s m:String)(w:World):(Builtin.ssaWrapNilChk_ #[xt] xt #[.pointer (some ad),strVal s,strVal m]).run P w=.ok (.pointer (some ad)) w:=rfl
def ZV{C:Ctx}(hR:R C A N g st a w){t:TypeId}{name:String}{x r:AV}{f:Nat}{u:Value}(h:ZU C t name x st.Ah=some (f,r))(hx:VR g w x u)(fuel:Nat):∃ v,(method (fuel+1) t u name).run C.P w=.ok (f,v) w/\VR g w r v:=by
 have spec:∀ f o,MM C.P t name=some (f,o)->∃ i m b e,C.P.info? t=some i/\i.methods.find? (·.name==name)=some m/\m.path = #[]/\m.func=some (f,b)/\C.P.underlying t=some (.pointer e)/\((b=true/\o=none)\/(b=false/\o=some e)):=by
  intro f o hm;obtain⟨i,hi,hm⟩:=Option.bind_eq_some_iff.1 hm;obtain⟨m,rE,hm⟩:=Option.bind_eq_some_iff.1 hm;split at hm
  ·rename_i hp;split at hm
   ·rename_i f' e h1 h2;simp only[Option.some.injEq,Prod.mk.injEq]at hm;obtain⟨rfl,rfl⟩:=hm;exact⟨i,m,true,e,hi,rE,hp,h1,h2,.inl ⟨rfl,rfl⟩⟩
   ·rename_i f' e h1 h2;simp only[Option.some.injEq,Prod.mk.injEq]at hm;obtain⟨rfl,rfl⟩:=hm;exact⟨i,m,false,e,hi,rE,hp,h1,h2,.inr ⟨rfl,rfl⟩⟩
   ·cases hm
  ·cases hm
 unfold ZU at h;split at h
 ·rename_i f' hm;simp only[Option.some.injEq,Prod.mk.injEq]at h;obtain⟨rfl,rfl⟩:=h;obtain⟨i,m,b,e,hi,rE,hp,hf,hu,⟨rfl,_⟩|⟨_,h0⟩⟩:=spec _ _ hm
  ·exact⟨u,by rw[UE hi rE hp hf];simp[receiverAt,run_underlying hu,Place.get],hx⟩
  ·cases h0
 ·rename_i f' e' hm;split at h
  ·rename_i agg n h1 h2;obtain⟨y,hy,h⟩:=Option.map_eq_some_iff.1 h;obtain⟨rfl,rfl⟩:=Prod.mk.inj h;obtain⟨i,m,b,e,hi,rE,hp,hf,hu,⟨_,h0⟩|⟨rfl,h0⟩⟩:=spec _ _ hm
   ·cases h0
   ·injection h0 with h0
    subst h0;obtain⟨v,k1,k2⟩:=LA hR h1 h2 hx hy;have Abo:∃ ad,u=.pointer (some ad):=by
     unfold LX at hy;split at hy
     ·simp only[VR]at hx;exact⟨_,hx.2⟩
     ·simp only[VR]at hx;unfold Fz at hx;split at hx
      ·obtain⟨_,_,hx,_⟩:=hx;exact⟨_,hx⟩
      ·obtain⟨_,hx,_⟩:=hx;exact⟨_,hx⟩
     ·simp only[VR]at hx;obtain⟨_,_,_,_,_,_,hx,_⟩:=hx;exact⟨_,hx⟩
     ·simp only[VR]at hx;obtain⟨_,_,_,_,_,_,hx,_⟩:=hx;exact⟨_,hx⟩
     ·simp only[VR,Yz]at hx;obtain⟨_,_,_,_,_,hx⟩:=hx;exact⟨_,hx⟩
     ·cases hy
    obtain⟨ad,rfl⟩:=Abo;refine⟨v,?_,k2⟩;have k3:(loadVar e' ad).run C.P w=.ok v w:=by simpa [Instr.loadAt,Instr.sureAddr,asAddr]using k1
    rw[UE hi rE hp hf];simp[receiverAt,run_underlying hu,Place.get,qF,asAddr,k3]
  ·cases h
 ·cases h
def Nf(hA:A.ext=X.ext)(hX:∀ s∈X.ext,s%32=31){o:Oper}(hd:Jn N o=true){K:St->Prop}(h:Zd X o K st)(hR:R X.C A N g st a w){K':Act->World->Prop}{Q:Exit->Act->World->Prop}
 (hk:∀ g' st' a' w',R X.C A N g' st' a' w'->K st'->K' a' w'):o.wp X.C.P a w K' Q:=by
 have LV:∀ k,o.dst=some k->k<N:=λk hk=>by simp[Jn,hk]at hd;exact hd
 unfold Zd at h;split at h
 ·rename_i f args ts ho;unfold YY at h;split at h
  ·rename_i EG Bi hf;have:=L9.val ho rfl (.inl ⟨hf,rfl⟩:Yx (ev X.C st f) EG [] Bi) hR;rw[List.nil_append,<- Lh]at this;exact Mj hA hX LV this h hR hk
  ·rename_i EG first hf;have:=L9.val ho rfl (.inr ⟨hf,rfl⟩:Yx (ev X.C st f) EG first []) hR;rw[List.append_nil,<- Lh]at this;exact Mj hA hX LV this h hR hk
  ·cases h
 ·rename_i r name args ts ho;unfold pV at h;split at h
  ·rename_i t y hy;split at h
   ·rename_i f rv hm;have hv:=hR.ev r;rw[hy]at hv;simp only[VR]at hv;obtain⟨u,hu,hv⟩:=hv;obtain⟨v,k1,k2⟩:=ZV hR hm hv (X.C.P.types.size+Made.depth-1);have e1:X.C.P.types.size+Made.depth-1+1=X.C.P.types.size+Made.depth:=by simp[Made.depth]
    rw[e1]at k1;refine Mj hA hX LV ⟨v::args.toList.map a.eval,?_,?_⟩ h hR hk
    ·simp only[Az];exact⟨k2,by rw[Lh];exact Gw hR _⟩
    ·unfold execOp;rw[ho];have e2:(#[a.eval r]++args.map a.eval)[0]?=some (.iface t u):=by rw[hu,Array.getElem?_append_left (by simp)];rfl
     have e3:(#[a.eval r]++args.map a.eval).extract 1 (#[a.eval r]++args.map a.eval).size=args.map a.eval:=by
      rw[<- Array.toList_inj,Array.toList_extract];simp[List.extract];exact List.take_of_length_le (by simp)
     simp only[resolve,invoke,Sem.run_bind,Sem.run_pure,Result.andThen_ok,e2,e3,callMethod,run_program,k1];congr 2;rw[<- Array.toList_inj];simp
   ·cases h
  ·cases h
 ·rename_i args ts ho;split at h<;>unfold Ea at h
  ·split at h
   ·rename_i x st' hs;exact(U2 hR ho hs).wp LV λg' a' w' hr=>hk g' _ a' w' hr h
   ·cases h
  ·split at h
   ·rename_i x st' hs;exact(JX hR (λd _=>⟨X9 hX hA d,S1 hX hA d⟩) hs).wp LV λg' a' w' hr=>hk g' _ a' w' hr h
   ·cases h
 ·rename_i t len ps ho;split at h<;>unfold Ea at h
  ·split at h
   ·rename_i x st' hs;exact(U3 hR ho hs).wp LV λg' a' w' hr=>hk g' _ a' w' hr h
   ·cases h
  ·split at h
   ·rename_i x st' hs;exact(JX hR (λd _=>⟨X9 hX hA d,S1 hX hA d⟩) hs).wp LV λg' a' w' hr=>hk g' _ a' w' hr h
   ·cases h
 ·rename_i t y lo hi mx ho;split at h<;>unfold Ea at h
  ·split at h
   ·rename_i x st' hs;exact(bw hR ho hs).wp LV λg' a' w' hr=>hk g' _ a' w' hr h
   ·cases h
  ·split at h
   ·rename_i x st' hs;exact(JX hR (λd _=>⟨X9 hX hA d,S1 hX hA d⟩) hs).wp LV λg' a' w' hr=>hk g' _ a' w' hr h
   ·cases h
 ·unfold Ea at h;split at h
  ·rename_i x st' hs;exact(JX hR (λd _=>⟨X9 hX hA d,S1 hX hA d⟩) hs).wp LV λg' a' w' hr=>hk g' _ a' w' hr h
  ·cases h
def Lt{all:Array Oper}{j:Nat}{b:Bool}(hR:R X.C A N g st a w)(h:guardOf all j st=some (.v (.bool b))):yielded all a.tmps j=some b:=by
 unfold guardOf at h;obtain⟨d,h1,h2⟩:=Option.bind_eq_some_iff.1 h;obtain⟨u,hu,hv⟩:=hR.tm d _ h2;simp only[VR]at hv;subst hv;simp[yielded,h1,hu]
def QR{all:Array Oper}{j:Nat}(hR:R X.C A N g st a w)(h:guardOf all j st=some (.Bl [])):yielded all a.tmps j=none:=by
 unfold guardOf at h;obtain⟨d,h1,h2⟩:=Option.bind_eq_some_iff.1 h;obtain⟨u,hu,hv⟩:=hR.tm d _ h2;simp only[VR]at hv;obtain⟨us,rfl,hv⟩:=hv;simp[yielded,h1,hu]
def S7:VR g w (.Bl []) undef:=by
 simp only[VR,undef];exact⟨#[],rfl,by simp[Az]⟩
def Ji{all:Array Oper}{j:Nat}{st:St}{b:Bool}(h:guardOf all j st=some (.v (.bool b))):st.learn (gdst all j) b=st:=by
 unfold guardOf at h;obtain⟨d,h1,h2⟩:=Option.bind_eq_some_iff.1 h;unfold gdst;rw[h1];simp only[St.learn,WE h2]
def OQ(hA:A.ext=X.ext)(hX:∀ s∈X.ext,s%32=31){all:Array Oper}{Q:Exit->Act->World->Prop}{K:St->Prop}(hk:∀ g' st' a' w',R X.C A N g' st' a' w'->K st'->Q .normal a' w') :
 ∀ (l:List Oper) (g:Gh) (st:St) (a:Act) (w:World),(∀ o∈l,Jn N o=true)->Bg X all l K st->R X.C A N g st a w->wpList X.C.P all Q l a w
 |[],g,st,a,w,_,h,hR=>hk g st a w hR h
 | o::l,g,st,a,w,Ce,h,hR=>by
  have hd:=Ce o (by simp);have eQ:=λg' st' a' w' hr (hK:Bg X all l K st')=>OQ hA hX hk l g' st' a' w' (λo' Yt=>Ce o' (by simp[Yt])) hK hr
  simp only[Bg,Ie]at h;unfold wpList;split at h
  ·rename_i hg;have:Region.wanted o (yielded all a.tmps)=true:=by simp[Region.wanted,hg]
   simp only[this,if_true];exact .inl (Nf hA hX hd h hR eQ)
  ·rename_i j b hg;split at h
   ·rename_i b' hb;have hy:=Lt hR hb
    by_cases he:b'=b
    ·have:Region.wanted o (yielded all a.tmps)=true:=by simp[Region.wanted,hg,hy,he]
     simp only[this,if_true];have h1:=h.1 he;subst he;rw[Ji hb]at h1;exact .inl (Nf hA hX hd h1 hR eQ)
    ·have:Region.wanted o (yielded all a.tmps)=false:=by simp[Region.wanted,hg,hy,he]
     simp only[this,Bool.false_eq_true,if_false];have LV:∀ k,o.dst=some k->k<N:=λk hk=>by simp[Jn,hk]at hd;exact hd
     have h1:=h.2 he;have ky:(!b)=b':=by cases b<;>cases b'<;>first|rfl|exact absurd rfl he
     rw[ky,Ji hb]at h1;exact eQ g _ _ w (hR.put LV S7) h1
   ·rename_i hb;have hy:=QR hR hb;have:Region.wanted o (yielded all a.tmps)=false:=by simp[Region.wanted,hg,hy]
    simp only[this,Bool.false_eq_true,if_false];have LV:∀ k,o.dst=some k->k<N:=λk hk=>by simp[Jn,hk]at hd;exact hd
    exact eQ g _ _ w (hR.put LV S7) h
   ·cases h
def WY(hA:A.ext=X.ext)(hX:∀ s∈X.ext,s%32=31):∀ (c:Code) (Q:Ex->St->Prop) (g:Gh) (st:St) (a:Act) (w:World),F9 N c=true->Oi X c Q st->R X.C A N g st a w->c.wp X.C.P (lV X A N Q) a w:=by
 intro c
 induction c with
 | skip=>intro Q g st a w _ h hR;exact wp_skip ⟨g,st,hR,h⟩
 | region id ops d =>
  intro Q g st a w Ce h hR;have kG:∀ o∈ops.toList,Jn N o=true:=λo ho=>by
   simp only[F9,Array.all_eq_true']at Ce;exact Ce o (by simpa using ho)
  cases d with
  | false =>
   exact wp_region_list (OQ hA hX (Q:=lV X A N Q) (λg' st' a' w' hr hK=>⟨g',st',hr,hK⟩) ops.toList g st a w kG h hR)
  | true =>
   exact h A N g a w hA (λo ho d hd=>by have:=kG o (by simpa using ho);simp[Jn,hd]at this;exact this) hX hR id (lV X A N Q) λg' st' a' w' hr hK=>⟨g',st',hr,hK⟩
 | seq x y ihx ihy =>
  intro Q g st a w Ce h hR;simp only[F9,Bool.and_eq_true]at Ce;refine wp_seq (wp_mono (ihx _ g st a w Ce.1 h hR) λe a' w' hq=>?_);cases e with
  | normal =>
   obtain⟨g',st',hr,hk⟩:=hq;exact ihy Q g' st' a' w' Ce.2 hk hr
  | exit id=>exact hq
  | ret=>exact hq
  | goto l=>exact hq.elim
  | panic ch=>exact hq.elim
  | outgrown=>exact hq.elim
 | cond c x y ihx ihy =>
  intro Q g st a w Ce h hR;simp only[F9,Bool.and_eq_true]at Ce;simp only[Oi,RE]at h;split at h
  ·rename_i b hb;have hc:=hR.ev c;rw[hb]at hc;simp only[VR]at hc;exact wp_cond_split hc (λht=>ihx Q g st a w Ce.1 (h.1 ht) hR) (λht=>ihy Q g st a w Ce.2 (h.2 ht) hR)
  ·cases h
 | block id c ih =>
  intro Q g st a w Ce h hR;refine wp_block (wp_mono (ih _ g st a w Ce h hR) λe a' w' hq=>?_);cases e with
  | normal=>exact hq
  | exit i =>
   obtain⟨g',st',hr,hk⟩:=hq;simp only[Qz]at hk;simp only[Exit.inBlock];split at hk
   ·rename_i hi;simp only[hi,if_true];exact⟨g',st',hr,hk⟩
   ·rename_i hi;simp only[hi,if_false];exact⟨g',st',hr,hk⟩
  | ret=>exact hq
  | goto l=>exact hq.elim
  | panic ch=>exact hq.elim
  | outgrown=>exact hq.elim
 | loop c ih =>
  intro Q g st a w Ce h hR;obtain⟨α,I,Inv,μ,x0,h0,hi,uB⟩:=h;obtain⟨g0,hR0⟩:=hi A N g a w hA hR;refine wp_loop_ghost (λn a w=>∃ x g,Inv x/\μ x=n/\R X.C A N g (I x) a w) (μ x0) ⟨x0,g0,h0,rfl,hR0⟩ λn a w ⟨x,g,hx,hn,hr⟩=>?_
  refine wp_mono (ih _ g (I x) a w Ce (uB x hx) hr) λe a' w' hq=>?_
  cases e with
  | normal =>
   obtain⟨g',st',hr',x',yp,Au,Zw⟩:=hq;obtain⟨g'',Abq⟩:=Zw A N g' a' w' hA hr';exact⟨μ x',by omega,x',g'',yp,rfl,Abq⟩
  | exit id=>exact hq
  | ret=>exact hq
  | goto l=>exact hq.elim
  | panic ch=>exact hq.elim
  | outgrown=>exact hq.elim
 | exit id=>intro Q g st a w _ h hR;exact wp_exit ⟨g,st,hR,h⟩
 | ret=>intro Q g st a w _ h hR;exact wp_ret ⟨g,st,hR,h⟩
 | scope c ih =>
  intro Q g st a w Ce h hR;refine wp_scope_straight (wp_mono (ih Q g st a w Ce h hR) λe a' w' hq=>?_);cases e<;>first|exact hq|exact hq.elim
 | label l=>intro Q g st a w _ h hR;exact wp_label ⟨g,st,hR,h⟩
 | goto l=>intro Q g st a w _ h;exact h.elim
 | rangeFunc=>intro Q g st a w _ h;exact h.elim
 | refuse=>intro Q g st a w _ h;exact h.elim
end
end Go.Abs
namespace Go.Abs
def B8(x y:AV):Prop:=∀ g w u,VR g w x u->VR g w y u
def Mc(xs ys:List AV):Prop:=∀ g w us,Az g w xs us->Az g w ys us
section
variable {g:Gh} {w:World}
def B8.rfl{x:AV}:B8 x x:=λ_ _ _ h=>h
theorem B8.eq{x y:AV}(h:x=y):B8 x y:=h▸.rfl
def B8.undef{x:AV}:B8 x .undef:=λ_ _ _ _=>by simp[VR]
def B8.AU{r lo n:Nat}(hn:0<n):B8 (.v (.slice none 0 0)) (.sl (.own r lo) n []):=λ_ _ u h=>by
 simp only[VR,CM]at h ⊢;exact⟨hn,.inl ⟨h,by trivial⟩⟩
def B8.AD{n:Nat}(hn:0<n):B8 (.v (.slice none 0 0)) (.sl .no n []):=λ_ _ u h=>by
 simp only[VR,PR]at h ⊢;exact⟨(λ_ _ h=>by cases h),none,0,h,by simp,by simp[maxLen],(by intro h;cases h),hn,.inl True.intro⟩
def B8.full{n:Nat}{es:List (List AV)}:B8 (.sl .full n es) (.sl .no n es):=λ_ _ u h=>by
 simp only[VR,PR]at h ⊢;obtain⟨_,a,cap,h1,h2,h3,h4,h5,h6⟩:=h;exact⟨(λ_ _ h=>by cases h),a,cap,h1,h2,h3,(by intro h;cases h),h5,h6⟩
def Mc.nil:Mc [] []:=λ_ _ _ h=>h
def Mc.cons{x y:AV}{xs ys:List AV}(h:B8 x y)(hs:Mc xs ys):Mc (x::xs) (y::ys):=λg w us hu=>by
 match us,hu with
 | u::us,hu =>
  simp only[Az]at hu ⊢;exact⟨h g w u hu.1,hs g w us hu.2⟩
 |[],hu=>simp[Az]at hu
def B8.agg{xs ys:List AV}(h:Mc xs ys):B8 (.agg xs) (.agg ys):=λg w u hu=>by
 simp only[VR]at hu ⊢;obtain⟨us,h1,h2⟩:=hu;exact⟨us,h1,h g w _ h2⟩
def B8.Bl{xs ys:List AV}(h:Mc xs ys):B8 (.Bl xs) (.Bl ys):=λg w u hu=>by
 simp only[VR]at hu ⊢;obtain⟨us,h1,h2⟩:=hu;exact⟨us,h1,h g w _ h2⟩
end
def Af:List AV->List AV->Prop
 |[],[]=>True
 | x::xs,y::ys=>B8 x y/\Af xs ys
 |_,_=>False
def Af.AI:∀ {xs ys:List AV},Af xs ys->Mc xs ys
 |[],[],_=>.nil
 |[],_::_,h=>h.elim
 |_::_,[],h=>h.elim
 |_::_,_::_,h=>.cons h.1 h.2.AI
def Af.self:∀ xs:List AV,Af xs xs
 |[]=>trivial
 |_::xs=>⟨.rfl,Af.self xs⟩
def H2(st:St):List (Nat × AV)->Prop
 |[]=>True
 |(k,y)::l=>(∃ x,lk k st.tmps=some x/\B8 x y)/\H2 st l
def GZ(st:St):List (Nat × List AV)->Prop
 |[]=>True
 |(k,y)::l=>(∃ x,lk k st.Ah=some x/\Af x y)/\GZ st l
def l3(ρ:Rn):List (Nat × AV)->List (Nat × AV)
 |[]=>[]
 |(k,x)::l=>(k,x.BS ρ)::l3 ρ l
def Qb(ρ:Rn)(st:St):St:=⟨l3 ρ st.tmps,ET ρ st.Ah⟩
section
variable {X:Env} {C:Ctx} {A:A0} {N:Nat} {g g':Gh} {st st':St} {a:Act} {w w':World}
def H2.lk:∀ {l:List (Nat × AV)} {k:Nat} {y:AV},H2 st l->lk k l=some y->∃ x,lk k st.tmps=some x/\B8 x y
 |(j,c)::l,k,y,hf,h=>by
  simp only[Abs.lk]at h;split at h
  ·rename_i hj;injection h with h;subst h;subst hj;exact hf.1
  ·exact H2.lk hf.2 h
def GZ.lk:∀ {l:List (Nat × List AV)} {k:Nat} {y:List AV},GZ st l->lk k l=some y->∃ x,lk k st.Ah=some x/\Af x y
 |(j,c)::l,k,y,hf,h=>by
  simp only[Abs.lk]at h;split at h
  ·rename_i hj;injection h with h;subst h;subst hj;exact hf.1
  ·exact GZ.lk hf.2 h
def eW(ρ:Rn)(k:Nat):∀ l:List (Nat × AV),lk k (l3 ρ l)=(lk k l).map (·.BS ρ)
 |[]=>rfl
 |(j,x)::l=>by
  simp only[l3,lk];split
  ·rfl
  ·exact eW ρ k l
def R.An(h:R C A N g st a w)(ht:H2 st st'.tmps)(ho:GZ st st'.Ah):R C A N g st' a w where
 size:=h.size
 defs:=h.defs
 tm:=λk x hx=>by
  obtain⟨y,hy,hw⟩:=ht.lk hx;obtain⟨u,hu,hv⟩:=h.tm k y hy;exact⟨u,hu,hw _ _ _ hv⟩
 ob:=λs cs hs=>by
  obtain⟨y,hy,hw⟩:=ho.lk hs;exact(h.ob s y hy).lift rfl (h.ob s y hy).1 rfl (λus hu=>hw.AI _ _ _ hu)
 fr:=h.fr
def Fr.BS{ρ:Rn}(hρ:ρ.OK)(H6:∀ s,s∈A.ext->lk s ρ.m=some s)(h:Fr C A g w):Fr C A (g.BS ρ g) w where
 os:=h.os
 tape:=h.tape
 output:=h.output
 size:=h.size
 EE:=λb hb hf=>by
  have:=h.EE b hb hf;refine⟨this.1,?_⟩;rcases hf with hf|hf
  ·rw[hf];exact Fg (this.2.trans hf)
  ·rw[hf];exact Du (this.2.trans hf)
 box:=λs hs=>by rw[<- h.box s hs];exact M0 hρ (H6 s hs)
 glob:=λi cs hi=>by
  obtain⟨h1,h2,h3⟩:=h.glob i cs hi;exact⟨h1,Fg h2,Cu.mono LY _ ⟨i,0,none⟩ 0 h2 h3⟩
def R.renamed{ρ:Rn}(hρ:ρ.OK)(H6:∀ s,s∈A.ext->lk s ρ.m=some s)(h:R C A N g st a w):R C A N (g.BS ρ g) (Qb ρ st) a w where
 size:=h.size
 defs:=h.defs
 tm:=λk x hx=>by
  simp only[Qb,eW]at hx;obtain⟨y,hy,rfl⟩:=Option.map_eq_some_iff.1 hx;obtain⟨u,hu,hv⟩:=h.tm k y hy;exact⟨u,hu,VR.BS hρ _ _ hv⟩
 ob:=λs cs hs=>by
  obtain⟨s0,Yr,h1,h2,rfl⟩:=Lz hρ hs;exact DO.BS hρ h1 (h.ob s0 Yr h2)
 fr:=h.fr.BS hρ H6
def AQ.An(ht:H2 st st'.tmps)(ho:GZ st st'.Ah):AQ X st st':=λ_ _ _ _ _ _ h=>⟨_,h.An ht ho⟩
def AQ.BS(ρ:Rn)(hρ:ρ.OK)(H6:∀ s,s∈X.ext->lk s ρ.m=some s)(ht:H2 (Qb ρ st) st'.tmps)(ho:GZ (Qb ρ st) st'.Ah):AQ X st st' :=
 λ_ _ _ _ _ hA h=>⟨_,(h.renamed hρ (λs hs=>H6 s (hA▸hs))).An ht ho⟩
def Ta:Nat->List AV->List (Nat × AV)
 |_,[]=>[]
 | i,x::xs=>(i,x)::Ta (i+1) xs
def X4{k:Nat}{x:AV}:∀ {xs:List AV} {i:Nat},lk k (Ta i xs)=some x->i<=k/\xs[k-i]?=some x
 |[],_,h=>by cases h
 | y::xs,i,h=>by
  simp only[Ta,lk]at h;split at h
  ·rename_i hi;subst hi;exact⟨Nat.le_refl _,by simpa using h⟩
  ·rename_i hi;obtain⟨h1,h2⟩:=X4 h;refine⟨by omega,?_⟩;have:k-i=(k-(i+1))+1:=by omega
   rw[this];simpa using h2
def GH(C:Ctx)(st:St):ResultVar->Option AV
 |.tmp t=>lk t st.tmps
 |.cell a t=>match Be C.P t,BW C.P t,lk a st.tmps with
  |some agg,some n,some p=>LX agg n st.Ah p
  |_,_,_=>none
def Cr(C:Ctx)(st:St):List ResultVar->Option (List AV)
 |[]=>some []
 | r::rs=>match GH C st r,Cr C st rs with
  |some x,some xs=>some (x::xs)
  |_,_=>none
def pack:List AV->AV
 |[x]=>x
 | xs=>.Bl xs
def eB{α:Type}{a:Array α}{i:Nat}{x d:α}(h:a[i]?=some x):a.getD i d=x:=by simp[Array.getD_eq_getD_getElem?,h]
def l5(tmps:Array Value):ResultVar->Sem Value
 |.tmp t=>pure (tmps.getD t undef)
 |.cell p t=>do loadVar t (<- asAddr (tmps.getD p undef))
def cO(fn:Func)(tmps:Array Value):results fn tmps=(do
 let vs <- fn.results.mapM (l5 tmps)
 pure (if h:vs.size=1 then vs[0] else .tuple vs)):=by
 unfold results;congr 1
def cN(hR:R C A N g st a w){r:ResultVar}{x:AV}(h:GH C st r=some x):∃ u,(l5 a.tmps r).run C.P w=.ok u w/\VR g w x u:=by
 cases r with
 | tmp t =>
  obtain⟨u,hu,hv⟩:=hR.tm t x h;exact⟨u,by simp only[l5,eB hu,Sem.run_pure],hv⟩
 | cell p t =>
  simp only[GH]at h;split at h
  ·rename_i agg n q h1 h2 hp;obtain⟨up,hu,hv⟩:=hR.tm p q hp;obtain⟨u,k1,k2⟩:=LA hR h1 h2 hv h;refine⟨u,?_,k2⟩;simp only[l5,eB hu];have hp:∃ ad,up=.pointer (some ad):=by
    unfold LX at h;split at h
    ·simp only[VR]at hv;exact⟨_,hv.2⟩
    ·simp only[VR]at hv;unfold Fz at hv;split at hv
     ·obtain⟨_,_,hx,_⟩:=hv;exact⟨_,hx⟩
     ·obtain⟨_,hx,_⟩:=hv;exact⟨_,hx⟩
    ·simp only[VR]at hv;obtain⟨_,_,_,_,_,_,hx,_⟩:=hv;exact⟨_,hx⟩
    ·simp only[VR]at hv;obtain⟨_,_,_,_,_,_,hx,_⟩:=hv;exact⟨_,hx⟩
    ·simp only[VR,Yz]at hv;obtain⟨_,_,_,_,_,hx⟩:=hv;exact⟨_,hx⟩
    ·cases h
   obtain⟨ad,rfl⟩:=hp;simpa [Instr.loadAt,Instr.sureAddr,asAddr]using k1
  ·cases h
def R3(hR:R C A N g st a w):∀ {rs:List ResultVar} {xs:List AV},Cr C st rs=some xs->∃ us,(rs.mapM (l5 a.tmps)).run C.P w=.ok us w/\Az g w xs us
 |[],xs,h=>by simp[Cr]at h;subst h;exact⟨[],by simp,by simp[Az]⟩
 | r::rs,xs,h=>by
  simp only[Cr]at h;split at h
  ·rename_i y ys h1 h2;simp at h;subst h;obtain⟨u,k1,k2⟩:=cN hR h1;obtain⟨us,m1,m2⟩:=R3 hR h2;refine⟨u::us,?_,by simp only[Az];exact⟨k2,m2⟩⟩;rw[List.mapM_cons];simp only[Sem.run_bind,k1,m1,Result.andThen_ok,Sem.run_pure]
  ·cases h
def N8(hR:R C A N g st a w){fn:Func}{xs:List AV}(h:Cr C st fn.results.toList=some xs):∃ u,(results fn a.tmps).run C.P w=.ok u w/\VR g w (pack xs) u:=by
 obtain⟨us,k1,k2⟩:=R3 hR h;have hl:=Az.length k2;rw[cO,Array.mapM_eq_mapM_toList];simp only[Sem.run_bind,Sem.run_map,k1,Result.andThen_ok,Sem.run_pure]
 match xs,us,k2 with
 |[x],[u],k2 =>
  simp only[Az]at k2;exact⟨u,by simp,by simpa [pack]using k2.1⟩
 |[],[],k2=>exact⟨_,rfl,by simp only[pack,VR];exact⟨_,rfl,k2⟩⟩
 | x::y::xs,u::v::us,k2=>exact⟨_,by simp;rfl,by simp only[pack,VR];exact⟨_,rfl,k2⟩⟩
 |[],_::_,k2=>simp[Az]at k2
 |_::_,[],k2=>simp[Az]at k2
 |[_],_::_::_,k2=>simp[Az]at k2
 |_::_::_,[_],k2=>simp[Az]at k2
def UD(X:Env)(rs:List ResultVar)(y:AV)(o':List (Nat × List AV)):Ex->St->Prop
 |.exit _=>λ_=>False
 |_=>λst=>∃ xs ρ,Cr X.C st rs=some xs/\ρ.OK/\(∀ s∈X.ext,lk s ρ.m=some s)/\B8 ((pack xs).BS ρ) y/\GZ (Qb ρ st) o'
def Ac.mk'(ds:List Nat){f:Nat}{fn:Func}{c:Code}{xs:List AV}{o o':List (Nat × List AV)}{y:AV}(hf:C.P.funcs[f]?=some fn)(EY:(fn.name=="runtime.NumGoroutine")=false)(hb:fn.body=some c)
 (Ce:F9 fn.ntmps c=true) (Fm:xs.length<=fn.ntmps) (H6:∀ s∈names o,s%32=31) (h:Oi ⟨C,names o,ds⟩ c (UD ⟨C,names o,ds⟩ fn.results.toList y o') ⟨Ta 0 xs,o⟩):Ac C f xs o y o':=by
 refine⟨⟨fn,c,hf,EY,hb⟩,λg w us hg hv ho=>calls_of_wp hf hb ?_⟩;have hl:=Az.length hv;have hR:R C ⟨w,g,names o⟩ fn.ntmps g ⟨Ta 0 xs,o⟩ { tmps:=us.toArray++Array.replicate (fn.ntmps-us.toArray.size) undef,defers:=[] } w:=by
  refine⟨by simp;omega,rfl,λk x hx=>?_,ho,⟨rfl,⟨rfl,Nat.le_refl _⟩,rfl,Nat.le_refl _,λ_ _ _=>⟨rfl,rfl⟩,λ_ _=>rfl,hg⟩⟩;obtain⟨_,h2⟩:=X4 hx;obtain⟨u,hu,L8⟩:=hv.get k x (by simpa using h2);refine⟨u,?_,L8⟩;have hk:k<us.length:=by
   rcases Nat.lt_or_ge k us.length with h|h
   ·exact h
   ·rw[List.getElem?_eq_none h]at hu;cases hu
  rw[Array.getElem?_append_left (by simpa using hk)];simpa using hu
 have fin:∀ a' w',(∃ g st,R C ⟨w,g,names o⟩ fn.ntmps g st a' w'/\True)->True:=λ_ _ _=>trivial
 have key:∀ (g':Gh) (st':St) (a':Act) (w':World),R C ⟨w,g,names o⟩ fn.ntmps g' st' a' w' ->
  (∃ Qq ρ,Cr C st' fn.results.toList=some Qq/\ρ.OK/\(∀ s∈names o,lk s ρ.m=some s)/\B8 ((pack Qq).BS ρ) y/\GZ (Qb ρ st') o') ->
  a'.defers=[]/\∃ v,(results fn a'.tmps).run C.P w'=.ok v w'/\(∃ u g2,Ending.returned v=.returned u/\Fr C ⟨w,g,names o⟩ g2 w'/\VR g2 w' y u/\∀ s cs,lk s o'=some cs->DO g2 w' s cs):=by
  intro g' st' a' w' hr ⟨Qq,ρ,h1,h2,h3,h4,h5⟩;obtain⟨u,k1,k2⟩:=N8 hr h1;have pI:=hr.renamed h2 h3;refine⟨hr.defs,u,k1,u,g'.BS ρ g',rfl,pI.fr,h4 _ _ _ (VR.BS h2 _ _ k2),λs cs hs=>?_⟩;obtain⟨z,hz,hw⟩:=h5.lk hs;exact(pI.ob s z hz).lift rfl (pI.ob s z hz).1 rfl (λus hu=>hw.AI _ _ _ hu)
 refine wp_mono (WY (X:=⟨C,names o,ds⟩) (A:=⟨w,g,names o⟩) rfl H6 c _ g _ _ w Ce h hR) λe a' w' hq=>?_
 cases e with
 | normal=>obtain⟨g',st',hr,hk⟩:=hq;exact key g' st' a' w' hr hk
 | ret=>obtain⟨g',st',hr,hk⟩:=hq;exact key g' st' a' w' hr hk
 | exit id=>obtain⟨g',st',hr,hk⟩:=hq;exact hk.elim
 | goto l=>exact hq.elim
 | panic ch=>exact hq.elim
 | outgrown=>exact hq.elim
def Ac.intro{f:Nat}{fn:Func}{c:Code}{xs:List AV}{o o':List (Nat × List AV)}{y:AV}(hf:C.P.funcs[f]?=some fn)(EY:(fn.name=="runtime.NumGoroutine")=false)(hb:fn.body=some c)
 (Ce:F9 fn.ntmps c=true) (Fm:xs.length<=fn.ntmps) (H6:∀ s∈names o,s%32=31) (h:Oi ⟨C,names o,[]⟩ c (UD ⟨C,names o,[]⟩ fn.results.toList y o') ⟨Ta 0 xs,o⟩):Ac C f xs o y o':=Ac.mk' [] hf EY hb Ce Fm H6 h
end
end Go.Abs
