/- part 4 of the proof -/
import Derived.Deep.LoopGhost
import Derived.Scope
import Derived.Test.YteliegkcmjimoaaGreatDoorX03
set_option linter.all false
namespace Go.Abs
inductive Ex where
 | normal
 | exit(id:Nat)
 | ret
structure Env where
 C:Ctx
 ext:List Nat
def UF(K:St->Prop)(Q:Ex->St->Prop):Ex->St->Prop
 |.normal=>K
 |.exit id=>Q (.exit id)
 |.ret=>Q .ret
def SD(id:Nat)(Q:Ex->St->Prop):Ex->St->Prop
 |.normal=>Q .normal
 |.exit i=>if i=id then Q .normal else Q (.exit i)
 |.ret=>Q .ret
def AT(X:Env)(st st':St):Prop:=∀ A N g a w,A.ext=X.ext->R X.C A N g st a w->∃ g',R X.C A N g' st' a w
def FA(ext:List Nat):AV->AV
 |.v x=>.v x
 |.ptr s off=>if s∈ext then .ptr s off else .undef
 |.Kb t (.ptr s off)=>if s∈ext then .Kb t (.ptr s off) else .undef
 |_=>.undef
def Pd(ext:List Nat):List (Nat × AV)->List (Nat × AV)
 |[]=>[]
 |(k,x)::l=>(k,FA ext x)::Pd ext l
def AdH(X:Env)(d:Option Nat)(FF:Nat)(xs:List AV)(K:St->Prop)(st:St):Prop :=
 (∃ fn c,X.C.P.funcs[FF]?=some fn/\(fn.name=="runtime.NumGoroutine")=false/\fn.body=some c) /\
 ∀ A g w us,A.ext=X.ext->Fr X.C A g w->Bf g w xs us->(∀ s cs,lk s st.Aj=some cs->Er g w s cs) ->
  Calls X.C.P FF us.toArray w λe w'=>∃ u g' y os,e=.returned u/\Fr X.C A g' w'/\VR g' w' y u/\(∀ s cs,lk s os=some cs->Er g' w' s cs)/\K (St.put d y ⟨Pd X.ext st.tmps,os⟩)
def Bi(X:Env)(d:Option Nat)(FF:Nat)(xs:List AV)(K:St->Prop)(st:St):Prop :=
 (∃ fz v ob S,v.OK ob/\(rngs v.fm).all (λs=>s%32 !=31)=true/\FnP X.C FF (JU v.ρ (Ng fz xs)) ob S/\Has v (st.freeze fz) ob /\
  ∀ y J3,S y J3->(v.ρ.bs=[]\/(Flat (y.CX v.back)/\Lg (FP v.back J3))) /\
   K (((st.freeze fz).app (rngs v.back.l) (rngs v.fm) (rngs v.back.m) (FP v.back J3)).put d (y.CX v.back))) \/
 (∃ r n es ys P3,xs=.sl (.own r 0) n es::ys/\VG X.C FF n es ys P3/\K ((st.I1 r n 0 P3).put d (.BC [])))\/AdH X d FF xs K st
def cT(X:Env)(d:Option Nat)(f:AV)(xs:List AV)(K:St->Prop)(st:St):Prop :=
 match f with
 |.fn FF CW=>Bi X d FF (xs++CW) K st
 |.mv FF first=>Bi X d FF (first++xs) K st
 |_=>False
def OS(P:Program)(t:TypeId)(name:String):Option (Nat × Option TypeId):=(P.info? t).bind λi=>(i.methods.find? (·.name==name)).bind λm=>if m.path = #[] then match m.func,P.underlying t with
 |some (f,true),some (.pointer _)=>some (f,none)
 |some (f,false),some (.pointer e)=>some (f,some e)
 |_,_=>none else none
def ey(C:Ctx)(t:TypeId)(name:String)(x:AV)(Aj:List (Nat × List AV)):Option (Nat × AV):=match OS C.P t name with
 |some (f,none)=>some (f,x)
 |some (f,some e)=>match Bp C.P e,Cn C.P e with
  |some agg,some n=>(NS agg n Aj x).map λy=>(f,y)
  |_,_=>none
 |_=>none
def xx(X:Env)(d:Option Nat)(name:String)(x:AV)(xs:List AV)(K:St->Prop)(st:St):Prop:=match x with
 |.Kb t y=>match ey X.C t name y st.Aj with
  |some (f,r)=>Bi X d f (r::xs) K st
  |none=>False
 |_=>False
def HW(d:Option Nat)(K:St->Prop):Option (AV × St)->Prop
 |some (x,st)=>K (st.put d x)
 |none=>False
def D1(C:Ctx)(st:St):List Operand->List AV
 |[]=>[]
 | x::xs=>ev C st x::D1 C st xs
def ax(C:Ctx)(st:St)(t:TypeId)(x:AV)(lo hi mx:Option Operand):Option (AV × St):=match DA C st lo,DA C st hi,DA C st mx,AE C.P t,x with
 |some none,some (some h),some (some m),some (_,n),.sl (.own r a) k es=>if m=h/\k=n/\h<=es.length then some (.sl (.own r a) n (es.take h),st) else none
 |_,_,_,_,_=>none
def RU:AV->Bool
 |.sl (.own _ _) _ _=>true
 |_=>false
def dd(X:Env)(o:Oper)(K:St->Prop)(st:St):Prop :=
 match o.op with
 |.call ⟨.value f,args,_⟩=>cT X o.dst (ev X.C st f) (D1 X.C st args.toList) K st
 |.call ⟨.invoke r name,args,_⟩=>xx X o.dst name (ev X.C st r) (D1 X.C st args.toList) K st
 |.slice t x lo hi mx=>if RU (ev X.C st x)&&mx.isSome then HW o.dst K (ax X.C st t (ev X.C st x) lo hi mx) else HW o.dst K (JF X.C o st)
 |_=>HW o.dst K (JF X.C o st)
def GP(b' b:Bool)(p q:Prop):Prop:=(b'=b->p)/\(b'≠b->q)
def pe(d:Nat)(x:AV):List (Nat × AV)->List (Nat × AV)
 |[]=>[]
 |(k,y)::l=>if k=d then (k,x)::l else (k,y)::pe d x l
def ZJ{d:Nat}{x:AV}:∀ {l:List (Nat × AV)},lk d l=some x->pe d x l=l
 |(k,y)::l,h=>by
  simp[lk]at h;simp[pe];split<;>simp_all[ZJ]
def St.learn(d:Option Nat)(b:Bool)(st:St):St:=match d with
 |some k=>⟨pe k (.v (.bool b)) st.tmps,st.Aj⟩
 |none=>st
def gdst(all:Array Oper)(j:Nat):Option Nat:=(all[j]?).bind (·.dst)
def guardOf(all:Array Oper)(j:Nat)(st:St):Option AV:=((all[j]?).bind (·.dst)).bind (lk · st.tmps)
def Jx(X:Env)(all:Array Oper)(o:Oper)(K:St->Prop)(st:St):Prop :=
 match o.guard with
 |none=>dd X o K st
 |some (j,b)=>match guardOf all j st with
  |some (.v (.bool b'))=>GP b' b (dd X o K (st.learn (gdst all j) b)) (K ((st.learn (gdst all j) (!b)).put o.dst (.BC [])))
  |some (.BC [])=>K (st.put o.dst (.BC []))
  |_=>False
def Bw(X:Env)(all:Array Oper):List Oper->(St->Prop)->St->Prop
 |[],K=>K
 | o::rest,K=>Jx X all o (Bw X all rest K)
def TZ(c:AV)(K1 K2:St->Prop)(st:St):Prop :=
 match c with
 |.v (.bool b)=>(b=true->K1 st)/\(b=false->K2 st)
 |_=>False
def lY(X:Env)(body:(Ex->St->Prop)->St->Prop)(Q:Ex->St->Prop)(st:St):Prop :=
 ∃ (α:Type) (I:α->St) (Inv:α->Prop) (μ:α->Nat) (x0:α),Inv x0/\AT X st (I x0) /\
  ∀ x,Inv x->body (UF (λst'=>∃ x',Inv x'/\μ x'<μ x/\AT X st' (I x')) Q) (I x)
def Lj(X:Env)(ops:Array Oper)(K:St->Prop)(st:St):Prop :=
 ∀ A N g a w,A.ext=X.ext->(∀ o∈ops,∀ d,o.dst=some d->d<N)->(∀ s∈X.ext,s%32=31)->R X.C A N g st a w->∀ id (Q:Exit->Act->World->Prop),(∀ g' st' a' w',R X.C A N g' st' a' w'->K st'->Q .normal a' w') ->
  (Code.region id ops true).wp X.C.P Q a w
def Q3(X:Env):Code->(Ex->St->Prop)->St->Prop
 |.skip,Q=>Q .normal
 |.region _ ops false,Q=>Bw X ops ops.toList (Q .normal)
 |.region _ ops true,Q=>Lj X ops (Q .normal)
 |.seq x y,Q=>Q3 X x (UF (Q3 X y Q) Q)
 |.cond c x y,Q=>λst=>TZ (ev X.C st c) (Q3 X x Q) (Q3 X y Q) st
 |.block id c,Q=>Q3 X c (SD id Q)
 |.loop c,Q=>lY X (Q3 X c) Q
 |.exit id,Q=>Q (.exit id)
 |.ret,Q=>Q .ret
 |.scope c,Q=>Q3 X c Q
 |.label _,Q=>Q .normal
 |_,_=>λ_=>False
def KS(N:Nat)(o:Oper):Bool:=match o.dst with
 |some d=>decide (d<N)
 |none=>true
def HA(N:Nat):Code->Bool
 |.region _ ops _=>ops.all (KS N)
 |.seq x y=>HA N x&&HA N y
 |.cond _ x y=>HA N x&&HA N y
 |.block _ c=>HA N c
 |.loop c=>HA N c
 |.scope c=>HA N c
 |_=>true
def s9(X:Env)(A:A0)(N:Nat)(Q:Ex->St->Prop):Exit->Act->World->Prop
 |.normal,a,w=>∃ g st,R X.C A N g st a w/\Q .normal st
 |.exit id,a,w=>∃ g st,R X.C A N g st a w/\Q (.exit id) st
 |.ret,a,w=>∃ g st,R X.C A N g st a w/\Q .ret st
 |_,_,_=>False
section
variable {X:Env} {A:A0} {N:Nat} {g g':Gh} {st:St} {a:Act} {w w':World}
theorem M4(C:Ctx)(st:St):∀ l:List Operand,D1 C st l=l.map (ev C st)
 |[]=>rfl
 | x::l=>by simp[D1,M4 C st l]
def l8(hX:∀ s∈X.ext,s%32=31)(hA:A.ext=X.ext)(d:Nat):jl d∉A.ext:=λh=>by grind[jl]
def sJ(hX:∀ s∈X.ext,s%32=31)(hA:A.ext=X.ext)(d:Nat):nm d∉A.ext:=λh=>by grind[nm]
def Yw{C:Ctx}(hR:R C A N g st a w){t:TypeId}{x:Operand}{lo hi mx:Option Operand}{z:AV}{st':St}(h:ax C st t (ev C st x) lo hi mx=some (z,st')):st'=st/\∃ u,(Instr.sliceAt t (a.eval x) (lo.map a.eval) (hi.map a.eval) (mx.map a.eval)).run C.P w=.ok u w/\VR g w z u:=by
 have hv:=hR.ev x;unfold ax at h;split at h
 ·rename_i h0 m0 e n r b k es hl hh hm gd hxe;split at h
  ·rename_i hc;obtain⟨rfl,rfl,hle⟩:=hc;simp at h;obtain⟨rfl,rfl⟩:=h;refine⟨rfl,?_⟩;obtain⟨lP,IE⟩:=L0 gd;rw[Qh lP];have bl:=IN hR hl;have bh:=IN hR hh;have bm:=IN hR hm;have bl':lo.map a.eval=none:=by grind
   obtain⟨kh,bh'⟩:∃ kh,hi.map a.eval=some (.int kh m0):=by grind
   obtain⟨km,bm'⟩:∃ km,mx.map a.eval=some (.int km m0):=by grind
   rw[bl',bh',bm'];rw[hxe]at hv;simp only[VR,Dr]at hv;obtain⟨hn,hv⟩:=hv;have hlen:(es.take m0).length=m0:=by grind
   rcases hv with ⟨h1,rfl⟩|⟨h1,rfl,a',cap,h2,dy⟩|⟨cap,cur,T,h1,k2,k3,k5,k6,k7,k8⟩
   ·have hz:m0=0:=by grind
    subst hz;rw[h1];refine⟨_,F8 (w:=w) lP IE (a:=none) (len:=0) (cap:=0) (kl:=.i64) (kh:=kh) (km:=km) (lo:=none) (.inl ⟨rfl,rfl⟩) (.inr rfl) true rfl (λ_=>rfl) (Nat.le_refl 0) (Nat.le_refl 0) (Nat.le_refl 0),?_⟩;grind[VR,Dr]
   ·have hz:m0=0:=by grind
    subst hz;rw[h2];refine⟨_,F8 (w:=w) lP IE (a:=a') (len:=0) (cap:=cap) (kl:=.i64) (kh:=kh) (km:=km) (lo:=none) (.inl ⟨rfl,rfl⟩) (.inr rfl) true rfl (λ_=>rfl) (Nat.le_refl 0) (Nat.le_refl 0) (Nat.zero_le _),?_⟩;simp only[VR,Dr];grind
   ·rw[h1];refine⟨_,F8 (w:=w) lP IE (kl:=.i64) (kh:=kh) (km:=km) (lo:=none) (.inl ⟨rfl,rfl⟩) (.inr rfl) true rfl (λ_=>rfl) (Nat.zero_le _) hle k2,?_⟩;simp only[VR,Dr];refine⟨hn,.inr (.inr ⟨m0,cur,T,?_,by omega,by omega,k5,k6,Nat.le_trans (Nat.mul_le_mul_right _ (by omega)) k7,?_⟩)⟩
    ·simp_all[Addr.add]
    ·have:=Ea.sub es _ k 0 k8 0 m0;grind
  grind
 grind
def gR{C:Ctx}(hR:R C A N g st a w){o:Oper}{t:TypeId}{x:Operand}{lo hi mx:Option Operand}(ho:o.op=.slice t x lo hi mx){z:AV}{st':St}(h:ax C st t (ev C st x) lo hi mx=some (z,st')):Steps C A N o a w z st':=by
 have hx:execOp a.eval o=(do Pure.pure (Next.value (<- Instr.sliceAt t (a.eval x) (lo.map a.eval) (hi.map a.eval) (mx.map a.eval)))):=by grind[execOp]
 obtain⟨rfl,u,h1,h2⟩:=Yw hR h;exact .of hx ⟨u,w,g,h1,hR,h2⟩
def ye{C:Ctx}(h:Fr C A g w)(h':Fr C A g' w'):∀ (x:AV) (u:Value),VR g w x u->VR g' w' (FA A.ext x) u
 |.v x,u,hu=>by grind[FA,VR]
 |.ptr s off,u,hu=>by
  simp[FA];split
  ·rename_i hs;simp[VR]at hu ⊢;rw[h'.box s hs,<- h.box s hs];omega
  ·simp[VR]
 |.Kb t (.ptr s off),u,hu=>by
  simp[FA];split
  ·rename_i hs;simp only[VR]at hu ⊢;obtain⟨y,h1,h2⟩:=hu;exact⟨y,h1,by rw[h'.box s hs,<- h.box s hs];omega⟩
  ·simp[VR]
 |.undef,_,_=>by simp[FA,VR]
 |.agg _,_,_=>by simp[FA,VR]
 |.BC _,_,_=>by simp[FA,VR]
 |.sl _ _ _,_,_=>by simp[FA,VR]
 |.ep _ _ _ _,_,_=>by simp[FA,VR]
 |.fn _ _,_,_=>by simp[FA,VR]
 |.mv _ _,_,_=>by simp[FA,VR]
 |.mp _,_,_=>by simp[FA,VR]
 |.mem _ _,_,_=>by simp[FA,VR]
 |.Kb _ .undef,_,_=>by simp[FA,VR]
 |.Kb _ (.v _),_,_=>by simp[FA,VR]
 |.Kb _ (.agg _),_,_=>by simp[FA,VR]
 |.Kb _ (.BC _),_,_=>by simp[FA,VR]
 |.Kb _ (.sl _ _ _),_,_=>by simp[FA,VR]
 |.Kb _ (.ep _ _ _ _),_,_=>by simp[FA,VR]
 |.Kb _ (.fn _ _),_,_=>by simp[FA,VR]
 |.Kb _ (.mv _ _),_,_=>by simp[FA,VR]
 |.Kb _ (.mp _),_,_=>by simp[FA,VR]
 |.Kb _ (.mem _ _),_,_=>by simp[FA,VR]
 |.Kb _ (.Kb _ _),_,_=>by simp[FA,VR]
def lX(ext:List Nat)(k:Nat):∀ l:List (Nat × AV),lk k (Pd ext l)=(lk k l).map (FA ext)
 |[]=>rfl
 |(j,x)::l=>by
  simp only[Pd,lk];split
  ·rfl
  ·exact lX ext k l
theorem Om(hA:A.ext=X.ext)(hX:∀ s∈X.ext,s%32=31){o:Oper}(Vp:∀ k,o.dst=some k->k<N){K:St->Prop}{FF:Nat}{xs:List AV}(hcf:Oa X.C o a g w FF xs)(h:Bi X o.dst FF xs K st)(hR:R X.C A N g st a w){K':Act->World->Prop}{Q:Exit->Act->World->Prop}
 (hk:∀ g' st' a' w',R X.C A N g' st' a' w'->K st'->K' a' w'):o.wp X.C.P a w K' Q:=by
 rcases h with ⟨fz,v,ob,S,h1,h2,h3,h4,h5⟩|⟨r,n,es,ys,P3,h1,h2,h3⟩|⟨⟨fn,cd,hfn,Gj,hb⟩,KN⟩
 ·have Ahp:Oa X.C o a (g.freeze fz) w FF (Ng fz xs):=by
   obtain⟨us,k1,k2⟩:=hcf;exact⟨us,Bf.freeze _ _ k1,k2⟩
  refine AdY Ahp h1 h3 h4 (λy J3 hS=>(h5 y J3 hS).1) (hR.freeze fz) (λs hs hT=>?_) Vp λy J3 g' a' w' hS hr=>hk g' _ a' w' hr (h5 y J3 hS).2
  grind
 ·grind[AdZ]
 ·obtain⟨us,Hh,hex⟩:=hcf;unfold Oper.wp;rw[hex,Mv hfn Gj hb,Oper.upon_enter];refine Calls.mono (KN A g w us hA hR.fr Hh hR.ob) λe w' he=>?_
  obtain⟨u,g',y,os,rfl,Ig,hy,xj,hK⟩:=he;have hr:R X.C A N g' ⟨Pd X.ext st.tmps,os⟩ a w':=⟨hR.size,hR.defs,λk x hx=>by
   simp only[lX]at hx;obtain⟨z,hz,rfl⟩:=Option.map_eq_some_iff.1 hx;obtain⟨v,hv1,hv2⟩:=hR.tm k z hz;exact⟨v,hv1,by rw[<- hA];exact ye hR.fr Ig z v hv2⟩,xj,Ig⟩
  exact hk g' _ _ w' (hr.put Vp hy) hK
def XA{P:Program}{t:TypeId}{name:String}{i:TypeInfo}(hi:P.info? t=some i){m:Method}(hm:i.methods.find? (·.name==name)=some m)(hp:m.path = #[]){f:Nat}{b:Bool}(hf:m.func=some (f,b))(fuel:Nat)(v:Value)(w:World) :
 (method (fuel+1) t v name).run P w=(do pure (f,<- receiverAt t (.val v) b (some ((name.splitOn ".").getLastD name))):Sem (FuncId × Value)).run P w:=by
 simp_all[method,run_typeInfo,follow]
theorem ya{P:Program}(xt:TypeId)(ad:Addr)(s m:String)(w:World):(Builtin.ssaWrapNilChk_ #[xt] xt #[.pointer (some ad),strVal s,strVal m]).run P w=.ok (.pointer (some ad)) w:=rfl
def eB{C:Ctx}(hR:R C A N g st a w){t:TypeId}{name:String}{x r:AV}{f:Nat}{u:Value}(h:ey C t name x st.Aj=some (f,r))(hx:VR g w x u)(fuel:Nat):∃ v,(method (fuel+1) t u name).run C.P w=.ok (f,v) w/\VR g w r v:=by
 have spec:∀ f o,OS C.P t name=some (f,o)->∃ i m b e,C.P.info? t=some i/\i.methods.find? (·.name==name)=some m/\m.path = #[]/\m.func=some (f,b)/\C.P.underlying t=some (.pointer e)/\((b=true/\o=none)\/(b=false/\o=some e)):=by
  intro f o hm;obtain⟨i,hi,hm⟩:=Option.bind_eq_some_iff.1 hm;obtain⟨m,hmm,hm⟩:=Option.bind_eq_some_iff.1 hm;grind
 unfold ey at h;split at h
 ·rename_i f' hm;simp at h;obtain⟨rfl,rfl⟩:=h;obtain⟨i,m,b,e,hi,hmm,hp,hf,hu,⟨rfl,_⟩|⟨_,h0⟩⟩:=spec _ _ hm
  ·exact⟨u,by rw[XA hi hmm hp hf];simp[receiverAt,run_underlying hu,Place.get],hx⟩
  grind
 ·rename_i f' e' hm;split at h
  ·rename_i agg n h1 h2;obtain⟨y,hy,h⟩:=Option.map_eq_some_iff.1 h;obtain⟨rfl,rfl⟩:=Prod.mk.inj h;obtain⟨i,m,b,e,hi,hmm,hp,hf,hu,⟨_,h0⟩|⟨rfl,h0⟩⟩:=spec _ _ hm
   ·grind
   ·injection h0 with h0
    subst h0;obtain⟨v,k1,k2⟩:=Nq hR h1 h2 hx hy;have Ah3:=Zj hx hy;obtain⟨ad,rfl⟩:=Ah3;refine⟨v,?_,k2⟩;have k3:(loadVar e' ad).run C.P w=.ok v w:=by grind[Instr.loadAt,Instr.sureAddr]
    rw[XA hi hmm hp hf];simp[receiverAt,run_underlying hu,Place.get,ya,asAddr,k3]
  grind
 grind
theorem Po(hA:A.ext=X.ext)(hX:∀ s∈X.ext,s%32=31){o:Oper}(hd:KS N o=true){K:St->Prop}(h:dd X o K st)(hR:R X.C A N g st a w){K':Act->World->Prop}{Q:Exit->Act->World->Prop}
 (hk:∀ g' st' a' w',R X.C A N g' st' a' w'->K st'->K' a' w'):o.wp X.C.P a w K' Q:=by
 have Vp:∀ k,o.dst=some k->k<N:=λk hk=>by grind[KS]
 unfold dd at h;split at h
 ·rename_i f args ts ho;unfold cT at h;split at h
  ·rename_i FF CW hf;have:=Oa.val ho rfl (.inl ⟨hf,rfl⟩:cu (ev X.C st f) FF [] CW) hR;grind[M4,Om]
  ·rename_i FF first hf;have:=Oa.val ho rfl (.inr ⟨hf,rfl⟩:cu (ev X.C st f) FF first []) hR;grind[M4,Om]
  grind
 ·rename_i r name args ts ho;unfold xx at h;split at h
  ·rename_i t y hy;split at h
   ·rename_i f rv hm;have hv:=hR.ev r;rw[hy]at hv;simp[VR]at hv;obtain⟨u,hu,hv⟩:=hv;obtain⟨v,k1,k2⟩:=eB hR hm hv (X.C.P.types.size+Made.depth-1);have e1:X.C.P.types.size+Made.depth-1+1=X.C.P.types.size+Made.depth:=by simp[Made.depth]
    rw[e1]at k1;refine Om hA hX Vp ⟨v::args.toList.map a.eval,?_,?_⟩ h hR hk
    ·grind[Bf,M4,Hx]
    ·unfold execOp;rw[ho];have e2:(#[a.eval r]++args.map a.eval)[0]?=some (.iface t u):=by grind
     have e3:(#[a.eval r]++args.map a.eval).extract 1 (#[a.eval r]++args.map a.eval).size=args.map a.eval:=by simp
     simp only[resolve,invoke,Sem.run_bind,Sem.run_pure,Result.andThen_ok,e2,e3,callMethod,run_program,k1];congr 2;simp
   grind
  grind
 ·rename_i t y lo hi mx ho;split at h<;>unfold HW at h
  ·split at h
   ·rename_i x st' hs;exact(gR hR ho hs).wp Vp λg' a' w' hr=>hk g' _ a' w' hr h
   grind
  ·split at h
   ·rename_i x st' hs;exact(UE hR (λd _=>⟨sJ hX hA d,l8 hX hA d⟩) hs).wp Vp λg' a' w' hr=>hk g' _ a' w' hr h
   grind
 ·unfold HW at h;split at h
  ·rename_i x st' hs;exact(UE hR (λd _=>⟨sJ hX hA d,l8 hX hA d⟩) hs).wp Vp λg' a' w' hr=>hk g' _ a' w' hr h
  grind
theorem Nh{all:Array Oper}{j:Nat}{b:Bool}(hR:R X.C A N g st a w)(h:guardOf all j st=some (.v (.bool b))):yielded all a.tmps j=some b:=by
 unfold guardOf at h;obtain⟨d,h1,h2⟩:=Option.bind_eq_some_iff.1 h;obtain⟨u,hu,hv⟩:=hR.tm d _ h2;grind[VR,yielded]
theorem SZ{all:Array Oper}{j:Nat}(hR:R X.C A N g st a w)(h:guardOf all j st=some (.BC [])):yielded all a.tmps j=none:=by
 unfold guardOf at h;obtain⟨d,h1,h2⟩:=Option.bind_eq_some_iff.1 h;obtain⟨u,hu,hv⟩:=hR.tm d _ h2;simp[VR]at hv;obtain⟨us,rfl,hv⟩:=hv;grind[yielded]
def VI:VR g w (.BC []) undef:=by simp_all[VR,undef,Bf]
theorem KP{all:Array Oper}{j:Nat}{st:St}{b:Bool}(h:guardOf all j st=some (.v (.bool b))):st.learn (gdst all j) b=st:=by
 unfold guardOf at h;obtain⟨d,h1,h2⟩:=Option.bind_eq_some_iff.1 h;simp_all[gdst,St.learn,ZJ]
theorem QV(hA:A.ext=X.ext)(hX:∀ s∈X.ext,s%32=31){all:Array Oper}{Q:Exit->Act->World->Prop}{K:St->Prop}(hk:∀ g' st' a' w',R X.C A N g' st' a' w'->K st'->Q .normal a' w') :
 ∀ (l:List Oper) (g:Gh) (st:St) (a:Act) (w:World),(∀ o∈l,KS N o=true)->Bw X all l K st->R X.C A N g st a w->wpList X.C.P all Q l a w
 |[],g,st,a,w,_,h,hR=>hk g st a w hR h
 | o::l,g,st,a,w,CC,h,hR=>by
  have hd:=CC o (by simp);have za:=λg' st' a' w' hr (hK:Bw X all l K st')=>QV hA hX hk l g' st' a' w' (λo' y7=>CC o' (by grind)) hK hr
  simp[Bw,Jx]at h;unfold wpList;split at h
  ·rename_i hg;have:Region.wanted o (yielded all a.tmps)=true:=by simp[Region.wanted,hg]
   simp only[this,if_true];grind[Po]
  ·rename_i j b hg;split at h
   ·rename_i b' hb;have hy:=Nh hR hb
    by_cases he:b'=b
    ·have:Region.wanted o (yielded all a.tmps)=true:=by grind[Region.wanted]
     simp only[this,if_true];have h1:=h.1 he;grind[KP,Po]
    ·have:Region.wanted o (yielded all a.tmps)=false:=by grind[Region.wanted]
     simp only[this,Bool.false_eq_true,if_false];have Vp:∀ k,o.dst=some k->k<N:=λk hk=>by grind[KS]
     have h1:=h.2 he;have hbb:(!b)=b':=by cases b<;>cases b'<;>first|rfl|grind
     rw[hbb,KP hb]at h1;exact za g _ _ w (hR.put Vp VI) h1
   ·rename_i hb;have hy:=SZ hR hb;have:Region.wanted o (yielded all a.tmps)=false:=by grind[Region.wanted]
    simp only[this,Bool.false_eq_true,if_false];have Vp:∀ k,o.dst=some k->k<N:=λk hk=>by grind[KS]
    exact za g _ _ w (hR.put Vp VI) h
   grind
def Z2(hA:A.ext=X.ext)(hX:∀ s∈X.ext,s%32=31):∀ (c:Code) (Q:Ex->St->Prop) (g:Gh) (st:St) (a:Act) (w:World),HA N c=true->Q3 X c Q st->R X.C A N g st a w->c.wp X.C.P (s9 X A N Q) a w:=by
 intro c
 induction c with
 | skip=>intro Q g st a w _ h hR;exact wp_skip ⟨g,st,hR,h⟩
 | region id ops d =>
  intro Q g st a w CC h hR;have rO:∀ o∈ops.toList,KS N o=true:=λo ho=>by grind[HA,Array.all_eq_true']
  cases d with
  | false =>
   exact wp_region_list (QV hA hX (Q:=s9 X A N Q) (λg' st' a' w' hr hK=>⟨g',st',hr,hK⟩) ops.toList g st a w rO h hR)
  | true =>
   exact h A N g a w hA (λo ho d hd=>by have:=rO o (by grind);grind[KS]) hX hR id (s9 X A N Q) λg' st' a' w' hr hK=>⟨g',st',hr,hK⟩
 | seq x y ihx ihy =>
  intro Q g st a w CC h hR;simp[HA]at CC;refine wp_seq (wp_mono (ihx _ g st a w CC.1 h hR) λe a' w' hq=>?_);cases e with
  | normal =>
   obtain⟨g',st',hr,hk⟩:=hq;exact ihy Q g' st' a' w' CC.2 hk hr
  | exit id=>exact hq
  | ret=>exact hq
  | goto l=>exact hq.elim
  | panic ch=>exact hq.elim
  | outgrown=>exact hq.elim
 | cond c x y ihx ihy =>
  intro Q g st a w CC h hR;simp[HA]at CC;simp[Q3,TZ]at h;split at h
  ·rename_i b hb;have hc:=hR.ev c;rw[hb]at hc;simp[VR]at hc;exact wp_cond_split hc (λht=>ihx Q g st a w CC.1 (h.1 ht) hR) (λht=>ihy Q g st a w CC.2 (h.2 ht) hR)
  grind
 | block id c ih =>
  intro Q g st a w CC h hR;refine wp_block (wp_mono (ih _ g st a w CC h hR) λe a' w' hq=>?_);cases e with
  | normal=>exact hq
  | exit i =>
   obtain⟨g',st',hr,hk⟩:=hq;simp[SD]at hk;simp[Exit.inBlock];split at hk
   ·rename_i hi;simp[hi];exact⟨g',st',hr,hk⟩
   ·rename_i hi;simp[hi];exact⟨g',st',hr,hk⟩
  | ret=>exact hq
  | goto l=>exact hq.elim
  | panic ch=>exact hq.elim
  | outgrown=>exact hq.elim
 | loop c ih =>
  intro Q g st a w CC h hR;obtain⟨α,I,Inv,μ,x0,h0,hi,AbB⟩:=h;obtain⟨g0,hR0⟩:=hi A N g a w hA hR;refine wp_loop_ghost (λn a w=>∃ x g,Inv x/\μ x=n/\R X.C A N g (I x) a w) (μ x0) ⟨x0,g0,h0,rfl,hR0⟩ λn a w ⟨x,g,hx,hn,hr⟩=>?_
  refine wp_mono (ih _ g (I x) a w CC (AbB x hx) hr) λe a' w' hq=>?_
  cases e with
  | normal =>
   obtain⟨g',st',hr',x',xp,AP,dB⟩:=hq;obtain⟨g'',Ah4⟩:=dB A N g' a' w' hA hr';exact⟨μ x',by omega,x',g'',xp,rfl,Ah4⟩
  | exit id=>exact hq
  | ret=>exact hq
  | goto l=>exact hq.elim
  | panic ch=>exact hq.elim
  | outgrown=>exact hq.elim
 | exit id=>intro Q g st a w _ h hR;exact wp_exit ⟨g,st,hR,h⟩
 | ret=>intro Q g st a w _ h hR;exact wp_ret ⟨g,st,hR,h⟩
 | scope c ih =>
  intro Q g st a w CC h hR;refine wp_scope_straight (wp_mono (ih Q g st a w CC h hR) λe a' w' hq=>?_);cases e<;>first|exact hq|exact hq.elim
 | label l=>intro Q g st a w _ h hR;exact wp_label ⟨g,st,hR,h⟩
 | goto l=>intro Q g st a w _ h;exact h.elim
 | rangeFunc=>intro Q g st a w _ h;exact h.elim
 | refuse=>intro Q g st a w _ h;exact h.elim
end
end Go.Abs
namespace Go.Abs
def Ci(x y:AV):Prop:=∀ g w u,VR g w x u->VR g w y u
def Oe(xs ys:List AV):Prop:=∀ g w us,Bf g w xs us->Bf g w ys us
section
variable {g:Gh} {w:World}
def Ci.rfl{x:AV}:Ci x x:=λ_ _ _ h=>h
theorem Ci.eq{x y:AV}(h:x=y):Ci x y:=h▸.rfl
def Ci.undef{x:AV}:Ci x .undef:=λ_ _ _ _=>by simp[VR]
def Ci.Cr{r lo n:Nat}(hn:0<n):Ci (.v (.slice none 0 0)) (.sl (.own r lo) n []):=λ_ _ u h=>by grind[VR,Dr]
def Ci.A8{n:Nat}(hn:0<n):Ci (.v (.slice none 0 0)) (.sl .no n []):=λ_ _ u h=>by grind[VR,PR]
def Ci.full{n:Nat}{es:List (List AV)}:Ci (.sl .full n es) (.sl .no n es):=λ_ _ u h=>by grind[VR,PR]
def Oe.nil:Oe [] []:=λ_ _ _ h=>h
def Oe.cons{x y:AV}{xs ys:List AV}(h:Ci x y)(hs:Oe xs ys):Oe (x::xs) (y::ys):=λg w us hu=>by
 match us,hu with
 | u::us,hu =>
  simp[Bf]at hu ⊢;exact⟨h g w u hu.1,hs g w us hu.2⟩
 |[],hu=>grind[Bf]
def Ci.agg{xs ys:List AV}(h:Oe xs ys):Ci (.agg xs) (.agg ys):=λg w u hu=>by
 simp[VR]at hu ⊢;obtain⟨us,h1,h2⟩:=hu;exact⟨us,h1,h g w _ h2⟩
def Ci.BC{xs ys:List AV}(h:Oe xs ys):Ci (.BC xs) (.BC ys):=λg w u hu=>by
 simp[VR]at hu ⊢;obtain⟨us,h1,h2⟩:=hu;exact⟨us,h1,h g w _ h2⟩
end
def Ae:List AV->List AV->Prop
 |[],[]=>True
 | x::xs,y::ys=>Ci x y/\Ae xs ys
 |_,_=>False
def Ae.AJ:∀ {xs ys:List AV},Ae xs ys->Oe xs ys
 |[],[],_=>.nil
 |[],_::_,h=>h.elim
 |_::_,[],h=>h.elim
 |_::_,_::_,h=>.cons h.1 h.2.AJ
def Ae.self:∀ xs:List AV,Ae xs xs
 |[]=>trivial
 |_::xs=>⟨.rfl,Ae.self xs⟩
def IB(st:St):List (Nat × AV)->Prop
 |[]=>True
 |(k,y)::l=>(∃ x,lk k st.tmps=some x/\Ci x y)/\IB st l
def HI(st:St):List (Nat × List AV)->Prop
 |[]=>True
 |(k,y)::l=>(∃ x,lk k st.Aj=some x/\Ae x y)/\HI st l
def ti(ρ:Rn):List (Nat × AV)->List (Nat × AV)
 |[]=>[]
 |(k,x)::l=>(k,x.CX ρ)::ti ρ l
def Se(ρ:Rn)(st:St):St:=⟨ti ρ st.tmps,FP ρ st.Aj⟩
section
variable {X:Env} {C:Ctx} {A:A0} {N:Nat} {g g':Gh} {st st':St} {a:Act} {w w':World}
theorem IB.lk:∀ {l:List (Nat × AV)} {k:Nat} {y:AV},IB st l->lk k l=some y->∃ x,lk k st.tmps=some x/\Ci x y
 |(j,c)::l,k,y,hf,h=>by
  simp only[Abs.lk]at h;split at h
  ·rename_i hj;injection h with h;subst h;subst hj;exact hf.1
  ·exact IB.lk hf.2 h
theorem HI.lk:∀ {l:List (Nat × List AV)} {k:Nat} {y:List AV},HI st l->lk k l=some y->∃ x,lk k st.Aj=some x/\Ae x y
 |(j,c)::l,k,y,hf,h=>by
  simp only[Abs.lk]at h;split at h
  ·rename_i hj;injection h with h;subst h;subst hj;exact hf.1
  ·exact HI.lk hf.2 h
def lW(ρ:Rn)(k:Nat):∀ l:List (Nat × AV),lk k (ti ρ l)=(lk k l).map (·.CX ρ)
 |[]=>rfl
 |(j,x)::l=>by
  simp only[ti,lk];split
  ·rfl
  ·exact lW ρ k l
def R.Aq(h:R C A N g st a w)(ht:IB st st'.tmps)(ho:HI st st'.Aj):R C A N g st' a w where
 size:=h.size
 defs:=h.defs
 tm:=λk x hx=>by
  obtain⟨y,hy,hw⟩:=ht.lk hx;obtain⟨u,hu,hv⟩:=h.tm k y hy;exact⟨u,hu,hw _ _ _ hv⟩
 ob:=λs cs hs=>by
  obtain⟨y,hy,hw⟩:=ho.lk hs;exact(h.ob s y hy).lift rfl (h.ob s y hy).1 rfl (λus hu=>hw.AJ _ _ _ hu)
 fr:=h.fr
theorem Fr.CX{ρ:Rn}(hρ:ρ.OK)(JR:∀ s,s∈A.ext->lk s ρ.m=some s)(h:Fr C A g w):Fr C A (g.CX ρ g) w where
 os:=h.os
 tape:=h.tape
 output:=h.output
 size:=h.size
 FD:=λb hb hf=>by
  have:=h.FD b hb hf;refine⟨this.1,?_⟩;rcases hf with hf|hf<;>grind[LN,HS]
 box:=λs hs=>by rw[<- h.box s hs];grind[O8]
 glob:=λi cs hi=>by
  obtain⟨h1,h2,h3⟩:=h.glob i cs hi;exact⟨h1,LN h2,EG.mono Ut _ ⟨i,0,none⟩ 0 h2 h3⟩
def R.renamed{ρ:Rn}(hρ:ρ.OK)(JR:∀ s,s∈A.ext->lk s ρ.m=some s)(h:R C A N g st a w):R C A N (g.CX ρ g) (Se ρ st) a w where
 size:=h.size
 defs:=h.defs
 tm:=λk x hx=>by
  simp only[Se,lW]at hx;obtain⟨y,hy,rfl⟩:=Option.map_eq_some_iff.1 hx;obtain⟨u,hu,hv⟩:=h.tm k y hy;grind[VR.CX]
 ob:=λs cs hs=>by
  obtain⟨s0,cb,h1,h2,rfl⟩:=Np hρ hs;exact Er.CX hρ h1 (h.ob s0 cb h2)
 fr:=h.fr.CX hρ JR
def AT.Aq(ht:IB st st'.tmps)(ho:HI st st'.Aj):AT X st st':=λ_ _ _ _ _ _ h=>⟨_,h.Aq ht ho⟩
theorem AT.CX(ρ:Rn)(hρ:ρ.OK)(JR:∀ s,s∈X.ext->lk s ρ.m=some s)(ht:IB (Se ρ st) st'.tmps)(ho:HI (Se ρ st) st'.Aj):AT X st st' :=
 λ_ _ _ _ _ hA h=>⟨_,(h.renamed hρ (λs hs=>JR s (hA▸hs))).Aq ht ho⟩
def XY:Nat->List AV->List (Nat × AV)
 |_,[]=>[]
 | i,x::xs=>(i,x)::XY (i+1) xs
def bE{k:Nat}{x:AV}:∀ {xs:List AV} {i:Nat},lk k (XY i xs)=some x->i<=k/\xs[k-i]?=some x
 |[],_,h=>by cases h
 | y::xs,i,h=>by
  simp[XY,lk]at h;split at h
  ·grind
  ·rename_i hi;obtain⟨h1,h2⟩:=bE h;grind
def Gv(C:Ctx)(st:St):ResultVar->Option AV
 |.tmp t=>lk t st.tmps
 |.cell a t=>match Bp C.P t,Cn C.P t,lk a st.tmps with
  |some agg,some n,some p=>NS agg n st.Aj p
  |_,_,_=>none
def Cx(C:Ctx)(st:St):List ResultVar->Option (List AV)
 |[]=>some []
 | r::rs=>match Gv C st r,Cx C st rs with
  |some x,some xs=>some (x::xs)
  |_,_=>none
def pack:List AV->AV
 |[x]=>x
 | xs=>.BC xs
def wW{α:Type}{a:Array α}{i:Nat}{x d:α}(h:a[i]?=some x):a.getD i d=x:=by simp_all
def tq(tmps:Array Value):ResultVar->Sem Value
 |.tmp t=>pure (tmps.getD t undef)
 |.cell p t=>do loadVar t (<- asAddr (tmps.getD p undef))
def jv(fn:Func)(tmps:Array Value):results fn tmps=(do
 let vs <- fn.results.mapM (tq tmps)
 pure (if h:vs.size=1 then vs[0] else .tuple vs)):=by
 unfold results;congr 1
def ju(hR:R C A N g st a w){r:ResultVar}{x:AV}(h:Gv C st r=some x):∃ u,(tq a.tmps r).run C.P w=.ok u w/\VR g w x u:=by
 cases r with
 | tmp t =>
  obtain⟨u,hu,hv⟩:=hR.tm t x h;simp_all[tq]
 | cell p t =>
  simp[Gv]at h;split at h
  ·rename_i agg n q h1 h2 hp;obtain⟨up,hu,hv⟩:=hR.tm p q hp;obtain⟨u,k1,k2⟩:=Nq hR h1 h2 hv h;refine⟨u,?_,k2⟩;simp only[tq,wW hu];have hp:=Zj hv h;obtain⟨ad,rfl⟩:=hp;grind[Instr.loadAt,Instr.sureAddr,asAddr]
  grind
def Us(hR:R C A N g st a w):∀ {rs:List ResultVar} {xs:List AV},Cx C st rs=some xs->∃ us,(rs.mapM (tq a.tmps)).run C.P w=.ok us w/\Bf g w xs us
 |[],xs,h=>by simp_all[Cx,Bf]
 | r::rs,xs,h=>by
  simp only[Cx]at h;split at h
  ·rename_i y ys h1 h2;simp at h;subst h;obtain⟨u,k1,k2⟩:=ju hR h1;obtain⟨us,m1,m2⟩:=Us hR h2;refine⟨u::us,?_,by simp only[Bf];exact⟨k2,m2⟩⟩;rw[List.mapM_cons];simp only[Sem.run_bind,k1,m1,Result.andThen_ok,Sem.run_pure]
  ·cases h
def Qb(hR:R C A N g st a w){fn:Func}{xs:List AV}(h:Cx C st fn.results.toList=some xs):∃ u,(results fn a.tmps).run C.P w=.ok u w/\VR g w (pack xs) u:=by
 obtain⟨us,k1,k2⟩:=Us hR h;have hl:=Bf.length k2;rw[jv,Array.mapM_eq_mapM_toList];simp only[Sem.run_bind,Sem.run_map,k1,Result.andThen_ok,Sem.run_pure]
 match xs,us,k2 with
 |[x],[u],k2 =>
  grind[Bf,pack]
 |[],[],k2=>simp_all[pack,VR]
 | x::y::xs,u::v::us,k2=>simp_all[pack,VR]
 |[],_::_,k2=>grind
 |_::_,[],k2=>grind
 |[_],_::_::_,k2=>grind
 |_::_::_,[_],k2=>grind
def Xx(X:Env)(rs:List ResultVar)(y:AV)(o':List (Nat × List AV)):Ex->St->Prop
 |.exit _=>λ_=>False
 |_=>λst=>∃ xs ρ,Cx X.C st rs=some xs/\ρ.OK/\(∀ s∈X.ext,lk s ρ.m=some s)/\Ci ((pack xs).CX ρ) y/\HI (Se ρ st) o'
def Ad.intro{f:Nat}{fn:Func}{c:Code}{xs:List AV}{o o':List (Nat × List AV)}{y:AV}(hf:C.P.funcs[f]?=some fn)(Gj:(fn.name=="runtime.NumGoroutine")=false)(hb:fn.body=some c)
 (CC:HA fn.ntmps c=true) (Hh:xs.length<=fn.ntmps) (JR:∀ s∈names o,s%32=31) (h:Q3 ⟨C,names o⟩ c (Xx ⟨C,names o⟩ fn.results.toList y o') ⟨XY 0 xs,o⟩):Ad C f xs o y o':=by
 refine⟨⟨fn,c,hf,Gj,hb⟩,λg w us hg hv ho=>calls_of_wp hf hb ?_⟩;have hl:=Bf.length hv;have hR:R C ⟨w,g,names o⟩ fn.ntmps g ⟨XY 0 xs,o⟩ { tmps:=us.toArray++Array.replicate (fn.ntmps-us.toArray.size) undef,defers:=[] } w:=by
  refine⟨by grind,rfl,λk x hx=>?_,ho,⟨rfl,⟨rfl,Nat.le_refl _⟩,rfl,Nat.le_refl _,λ_ _ _=>⟨rfl,rfl⟩,λ_ _=>rfl,hg⟩⟩;obtain⟨_,h2⟩:=bE hx;obtain⟨u,hu,Vs⟩:=hv.get k x (by omega);grind
 have key:∀ (g':Gh) (st':St) (a':Act) (w':World),R C ⟨w,g,names o⟩ fn.ntmps g' st' a' w' ->
  (∃ Sr ρ,Cx C st' fn.results.toList=some Sr/\ρ.OK/\(∀ s∈names o,lk s ρ.m=some s)/\Ci ((pack Sr).CX ρ) y/\HI (Se ρ st') o') ->
  a'.defers=[]/\∃ v,(results fn a'.tmps).run C.P w'=.ok v w'/\(∃ u g2,Ending.returned v=.returned u/\Fr C ⟨w,g,names o⟩ g2 w'/\VR g2 w' y u/\∀ s cs,lk s o'=some cs->Er g2 w' s cs):=by
  intro g' st' a' w' hr ⟨Sr,ρ,h1,h2,h3,h4,h5⟩;obtain⟨u,k1,k2⟩:=Qb hr h1;have hr2:=hr.renamed h2 h3;refine⟨hr.defs,u,k1,u,g'.CX ρ g',rfl,hr2.fr,h4 _ _ _ (VR.CX h2 _ _ k2),λs cs hs=>?_⟩;obtain⟨z,hz,hw⟩:=h5.lk hs;exact(hr2.ob s z hz).lift rfl (hr2.ob s z hz).1 rfl (λus hu=>hw.AJ _ _ _ hu)
 refine wp_mono (Z2 (X:=⟨C,names o⟩) (A:=⟨w,g,names o⟩) rfl JR c _ g _ _ w CC h hR) λe a' w' hq=>?_
 cases e with
 | normal=>obtain⟨g',st',hr,hk⟩:=hq;exact key g' st' a' w' hr hk
 | ret=>obtain⟨g',st',hr,hk⟩:=hq;exact key g' st' a' w' hr hk
 | exit id=>obtain⟨g',st',hr,hk⟩:=hq;exact hk.elim
 | goto l=>exact hq.elim
 | panic ch=>exact hq.elim
 | outgrown=>exact hq.elim
end
end Go.Abs
namespace Go.Abs
def HX(d:Option Nat)(K:St->Prop):Option AV->St->Prop
 |some x,st=>K (st.put d x)
 |none,_=>False
def nd{α:Sort _}{a b:α}(h:a=b):a=b:=h
@[go_sem] theorem jG(d:Option Nat)(K:St->Prop)(x:AV)(st:St):HX d K (some x) st=K (st.put d x):=nd rfl
@[go_sem] theorem Ack(d:Option Nat)(K:St->Prop)(x:AV)(st:St):HW d K (some (x,st))=K (st.put d x):=nd rfl
theorem DG(d:Option Nat)(K:St->Prop)(o:Option AV)(st:St):HW d K (o.map (·,st))=HX d K o st:=by cases o<;>rfl
@[go_sem] theorem td(k:Nat)(x:AV)(t:List (Nat × AV))(o:List (Nat × List AV)):St.put (some k) x ⟨t,o⟩=⟨(k,x)::t,o⟩:=rfl
@[go_sem] theorem eZ(x:AV)(st:St):St.put none x st=st:=rfl
@[go_sem] theorem xB{α:Type}(k j:Nat)(x:α)(l:List (Nat × α)):lk k ((j,x)::l)=if j=k then some x else lk k l:=rfl
@[go_sem] theorem Agx{α:Type}(k:Nat):lk k ([]:List (Nat × α))=none:=rfl
@[go_sem] theorem Aag(C:Ctx)(k:Nat)(t:List (Nat × AV))(o:List (Nat × List AV)):ev C ⟨t,o⟩ (.tmp k)=(lk k t).getD .undef:=rfl
@[go_sem] theorem Aec(C:Ctx)(st:St)(v:Value):ev C st (.const v)=.v v:=rfl
@[go_sem] theorem Af3(C:Ctx)(st:St)(f:Nat):ev C st (.func f)=.fn f []:=rfl
@[go_sem] theorem AcJ(C:Ctx)(st:St)(i:Nat):ev C st (.global i)=(match C.G i with
  |some cs=>.ep .no 0 cs 0
  |none=>.undef):=rfl
section
variable (X:Env) (Q:Ex->St->Prop) (K:St->Prop) (st:St)
@[go_sem] theorem AfX:Q3 X .skip Q=Q .normal:=nd rfl
@[go_sem] theorem AcA(id:Nat)(ops:Array Oper):Q3 X (.region id ops false) Q=Bw X ops ops.toList (Q .normal):=nd rfl
@[go_sem] theorem AfU(id:Nat)(ops:Array Oper):Q3 X (.region id ops true) Q=Lj X ops (Q .normal):=nd rfl
@[go_sem] theorem AgO(x y:Code):Q3 X (.seq x y) Q=Q3 X x (UF (Q3 X y Q) Q):=nd rfl
@[go_sem] theorem AfT(c:Operand)(x y:Code):Q3 X (.cond c x y) Q st=TZ (ev X.C st c) (Q3 X x Q) (Q3 X y Q) st:=nd rfl
@[go_sem] theorem AdE(id:Nat)(c:Code):Q3 X (.block id c) Q=Q3 X c (SD id Q):=nd rfl
@[go_sem] theorem AfW(c:Code):Q3 X (.loop c) Q=lY X (Q3 X c) Q:=nd rfl
@[go_sem] theorem AfV(id:Nat):Q3 X (.exit id) Q=Q (.exit id):=nd rfl
@[go_sem] theorem AgN:Q3 X .ret Q=Q .ret:=nd rfl
@[go_sem] theorem AdG(c:Code):Q3 X (.scope c) Q=Q3 X c Q:=nd rfl
@[go_sem] theorem AdF(l:Nat):Q3 X (.label l) Q=Q .normal:=nd rfl
@[go_sem] theorem yi:UF K Q .normal=K:=nd rfl
@[go_sem] theorem Acv(i:Nat):UF K Q (.exit i)=Q (.exit i):=nd rfl
@[go_sem] theorem AdC:UF K Q .ret=Q .ret:=nd rfl
@[go_sem] theorem uf(id:Nat):SD id Q .normal=Q .normal:=nd rfl
@[go_sem] theorem yx(id i:Nat):SD id Q (.exit i)=if i=id then Q .normal else Q (.exit i):=nd rfl
@[go_sem] theorem zQ(id:Nat):SD id Q .ret=Q .ret:=nd rfl
@[go_sem] theorem Af0(b:Bool)(K1 K2:St->Prop):TZ (.v (.bool b)) K1 K2 st=((b=true->K1 st)/\(b=false->K2 st)):=nd rfl
@[go_sem high] theorem zV(K1 K2:St->Prop):TZ (.v (.bool true)) K1 K2 st=K1 st:=by simp[TZ]
@[go_sem high] theorem yC(K1 K2:St->Prop):TZ (.v (.bool false)) K1 K2 st=K2 st:=by simp[TZ]
@[go_sem] theorem Afx(all:Array Oper):Bw X all [] K=K:=nd rfl
@[go_sem] theorem Af4(C:Ctx):D1 C st []=[]:=rfl
@[go_sem] theorem Aee(C:Ctx)(x:Operand)(xs:List Operand):D1 C st (x::xs)=ev C st x::D1 C st xs:=rfl
@[go_sem] theorem AdW(d:Option Nat)(f:Nat)(first xs:List AV):cT X d (.mv f first) xs K st=Bi X d f (first++xs) K st:=nd rfl
@[go_sem] theorem AdV(d:Option Nat)(f:Nat)(CW xs:List AV):cT X d (.fn f CW) xs K st=Bi X d f (xs++CW) K st:=nd rfl
variable (all:Array Oper) (rest:List Oper) (d:Option Nat) (ty:TypeId) (pos:String) (H2:Array Edge)
@[go_sem] theorem Aft(op:Op)(j:Nat)(b:Bool):Bw X all (⟨d,op,ty,pos,H2,some (j,b)⟩::rest) K st =
 (match guardOf all j st with
 |some (.v (.bool b'))=>GP b' b (Bw X all (⟨d,op,ty,pos,H2,none⟩::rest) K (st.learn (gdst all j) b)) (Bw X all rest K ((st.learn (gdst all j) (!b)).put d (.BC [])))
 |some (.BC [])=>Bw X all rest K (st.put d (.BC []))
 |_=>False):=nd rfl
@[go_sem ↓] theorem AfK(p q:Prop):GP true true p q=p:=by simp[GP]
@[go_sem ↓] theorem AfL(p q:Prop):GP false true p q=q:=by simp[GP]
@[go_sem ↓] theorem AfM(p q:Prop):GP true false p q=q:=by simp[GP]
@[go_sem ↓] theorem AfN(p q:Prop):GP false false p q=p:=by simp[GP]
@[go_sem] theorem Aep(j:Nat):gdst all j=(all[j]?).bind (·.dst):=rfl
@[go_sem] theorem AbP(k:Nat)(b:Bool)(t:List (Nat × AV))(o:List (Nat × List AV)):St.learn (some k) b ⟨t,o⟩=⟨pe k (.v (.bool b)) t,o⟩:=rfl
def lkO(d:Option Nat)(l:List (Nat × AV)):Option AV:=match d with
 |some k=>lk k l
 |none=>none
@[go_sem] theorem Afj(k:Nat)(l:List (Nat × AV)):lkO (some k) l=lk k l:=rfl
@[go_sem] theorem yO(j:Nat):guardOf all j st=lkO ((all[j]?).bind (·.dst)) st.tmps:=by
 unfold guardOf lkO;grind
@[go_sem] theorem AdA(b':Bool)(p q:Prop):GP b' true p q=((b'=true->p)/\(b'=false->q)):=by grind[GP]
@[go_sem] theorem Adz(b':Bool)(p q:Prop):GP b' false p q=((b'=false->p)/\(b'=true->q)):=by grind[GP]
@[go_sem] theorem AgG(x:Operand):Bw X all (⟨d,.move x,ty,pos,H2,none⟩::rest) K st=Bw X all rest K (st.put d (ev X.C st x)):=nd rfl
@[go_sem] theorem Adt(x:Operand):Bw X all (⟨d,.assign x,ty,pos,H2,none⟩::rest) K st=Bw X all rest K (st.put d (ev X.C st x)):=nd rfl
@[go_sem] theorem Ab8(t:TypeId)(k:Nat):Bw X all (⟨some k,.makeMap t none,ty,pos,H2,none⟩::rest) K st=HW (some k) (Bw X all rest K) (some (.mp (jl k),⟨(st.kill [] [jl k]).tmps,(jl k,[])::(st.kill [] [jl k]).Aj⟩)):=nd rfl
@[go_sem] theorem zx(t:TypeId)(m k:Operand):Bw X all (⟨d,.lookup t m k true,ty,pos,H2,none⟩::rest) K st=HX d (Bw X all rest K) (PJ X.C.P t st.Aj (ev X.C st m) (ev X.C st k)) st:=DG _ _ _ _
@[go_sem] theorem uL(xt t:TypeId)(x:Operand)(ok:Bool):Bw X all (⟨d,.typeAssert x xt t ok,ty,pos,H2,none⟩::rest) K st=HX d (Bw X all rest K) (Pk X.C.P t ok (ev X.C st x)) st:=DG _ _ _ _
@[go_sem] theorem Adu(r:Operand)(name:String)(args:Array Operand)(ts:Array TypeId):Bw X all (⟨d,.call ⟨.invoke r name,args,ts⟩,ty,pos,H2,none⟩::rest) K st=xx X d name (ev X.C st r) (D1 X.C st args.toList) (Bw X all rest K) st:=nd rfl
def qb(t:List (Nat × AV))(o:Option (List (Nat × List AV)))(K:St->Prop):Prop:=match o with
 |some os=>K ⟨t,os⟩
 |none=>False
@[go_sem] theorem zO(t:List (Nat × AV))(os:List (Nat × List AV))(K:St->Prop):qb t (some os) K=K ⟨t,os⟩:=nd rfl
@[go_sem] theorem xT(t:TypeId)(m k v:Operand):Bw X all (⟨none,.mapUpdate t m k v,ty,pos,H2,none⟩::rest) K st=qb st.tmps (RT X.C.P t st.Aj (ev X.C st m) (ev X.C st k) (ev X.C st v)) (Bw X all rest K):=by
 simp only[Bw,Jx,dd,JF];cases h:RT X.C.P t st.Aj (ev X.C st m) (ev X.C st k) (ev X.C st v)<;>simp[HW,qb,eZ]
@[go_sem] theorem AbQ(P:Program)(t:TypeId)(Aj:List (Nat × List AV))(s:Nat)(k:AV):bG P t Aj (.mp s) k=(lk s Aj).bind λcs=>Vw P t cs k:=rfl
@[go_sem] theorem xE(P:Program)(t:TypeId)(Aj:List (Nat × List AV))(s:Nat)(k:AV):PJ P t Aj (.mp s) k=(lk s Aj).bind λcs=>HP P t cs k:=rfl
@[go_sem] theorem yw(P:Program)(t t':TypeId)(ok:Bool)(y:AV):Pk P t ok (.Kb t' y)=if P.concrete t=true/\t'=t then some (if ok=true then .BC [y,.v (.bool true)] else y) else none:=rfl
@[go_sem] theorem Afc(name:String)(t:TypeId)(y:AV)(xs:List AV):xx X d name (.Kb t y) xs K st=(match ey X.C t name y st.Aj with
  |some (f,r)=>Bi X d f (r::xs) K st
  |none=>False):=nd rfl
@[go_sem] theorem Adn(C:Ctx)(t:TypeId)(name:String)(x:AV)(Aj:List (Nat × List AV)):ey C t name x Aj=(match OS C.P t name with
 |some (f,none)=>some (f,x)
 |some (f,some e)=>match Bp C.P e,Cn C.P e with
  |some agg,some n=>(NS agg n Aj x).map λy=>(f,y)
  |_,_=>none
 |_=>none):=rfl
@[go_sem] theorem AbO(P:Program)(t:TypeId)(Aj:List (Nat × List AV))(s:Nat)(k v:AV):RT P t Aj (.mp s) k v=(lk s Aj).bind λcs=>(PH P t cs k v).map λN7=>H3 s N7 Aj:=rfl
@[go_sem] theorem AgH(c a b:Operand):Bw X all (⟨d,.pick c a b,ty,pos,H2,none⟩::rest) K st=HX d (Bw X all rest K) (O0 (ev X.C st c) (ev X.C st a) (ev X.C st b)) st:=DG _ _ _ _
@[go_sem] theorem Afp(t:TypeId)(k:Nat):Bw X all (⟨some k,.alloc t,ty,pos,H2,none⟩::rest) K st=HW (some k) (Bw X all rest K) (match zeroOf X.C.P t with
  |some zs=>some (.ptr (nm k) 0,⟨(st.kill [] [nm k]).tmps,(nm k,vals zs)::(st.kill [] [nm k]).Aj⟩)
  |none=>none):=by
 simp only[Bw,Jx,dd,JF];grind
@[go_sem] theorem Aiv(t:TypeId)(x:Operand)(k:Nat):Bw X all (⟨some k,.box t x,ty,pos,H2,none⟩::rest) K st=HW (some k) (Bw X all rest K) (if DD (ev X.C st x).cells=true then some (.ptr (nm k) 0,⟨(st.kill [] [nm k]).tmps,(nm k,NQ [] [nm k] (ev X.C st x).cells)::(st.kill [] [nm k]).Aj⟩) else none):=nd rfl
def W1(C:Ctx)(t:TypeId)(p:AV)(Aj:List (Nat × List AV)):Option AV:=match Bp C.P t,Cn C.P t with
 |some agg,some n=>NS agg n Aj p
 |_,_=>none
@[go_sem] theorem ov(C:Ctx)(t:TypeId)(p:AV)(Aj:List (Nat × List AV)):W1 C t p Aj=(match Bp C.P t,Cn C.P t with
 |some agg,some n=>NS agg n Aj p
 |_,_=>none):=rfl
@[go_sem] theorem xQ(t:TypeId)(x:Operand):Bw X all (⟨d,.load t x,ty,pos,H2,none⟩::rest) K st=HX d (Bw X all rest K) (W1 X.C t (ev X.C st x) st.Aj) st:=by
 simp only[Bw,Jx,dd,JF,W1];rw[<- DG];grind
def qc(o:Option St)(K:St->Prop):Prop:=match o with
 |some st=>K st
 |none=>False
@[go_sem] theorem zP(st:St)(K:St->Prop):qc (some st) K=K st:=nd rfl
@[go_sem] theorem Afw(t:TypeId)(p x:Operand):Bw X all (⟨none,.store t p x,ty,pos,H2,none⟩::rest) K st=(match Cn X.C.P t with
  |some n=>qc (TB n st (ev X.C st p) (ev X.C st x)) (Bw X all rest K)
  |none=>False):=by
 simp only[Bw,Jx,dd,JF];cases Cn X.C.P t with
 |none=>rfl
 |some n=>cases h:TB n st (ev X.C st p) (ev X.C st x)<;>simp[h,HW,qc,eZ]
@[go_sem] theorem Afu(t:TypeId)(x i:Operand):Bw X all (⟨d,.index t x i,ty,pos,H2,none⟩::rest) K st=HX d (Bw X all rest K) (E3 X.C.P t (ev X.C st i) (ev X.C st x)) st:=DG _ _ _ _
@[go_sem] theorem xO(t:TypeId)(x:Operand)(i:Nat):Bw X all (⟨d,.fieldAddr t x i,ty,pos,H2,none⟩::rest) K st=HX d (Bw X all rest K) (match Bq X.C.P t i with
  |some off=>QA off (ev X.C st x)
  |none=>none) st:=by
 simp only[Bw,Jx,dd,JF];cases Bq X.C.P t i with
 |none=>rfl
 |some off=>grind[DG]
def Tb(C:Ctx)(t:TypeId)(x i:AV):Option AV:=match i with
 |.v (.int _ k)=>match AE C.P t with
   |some (_,n)=>Ta n k x
   |none=>match El C.P t with
    |some (len,n)=>S9 len n k x
    |none=>none
 |_=>none
@[go_sem] theorem AbN(C:Ctx)(t:TypeId)(x:AV)(kd:IntKind)(k:Int):Tb C t x (.v (.int kd k))=(match AE C.P t with
  |some (_,n)=>Ta n k x
  |none=>match El C.P t with
   |some (len,n)=>S9 len n k x
   |none=>none):=rfl
@[go_sem] theorem xP(t:TypeId)(x i:Operand):Bw X all (⟨d,.indexAddr t x i,ty,pos,H2,none⟩::rest) K st=HX d (Bw X all rest K) (Tb X.C t (ev X.C st x) (ev X.C st i)) st:=by
 simp only[Bw,Jx,dd,JF,Tb];rw[<- DG];grind
@[go_sem] theorem zz(x:Operand):Bw X all (⟨d,.nilCheck x,ty,pos,H2,none⟩::rest) K st=HX d (Bw X all rest K) (Mq (ev X.C st x)) st:=DG _ _ _ _
@[go_sem] theorem Afq(op:BinOp)(t t2:TypeId)(x y:Operand):Bw X all (⟨d,.binOp op t x y t2,ty,pos,H2,none⟩::rest) K st=HX d (Bw X all rest K) (gD X.C.P op t (ev X.C st x) (ev X.C st y)) st:=DG _ _ _ _
@[go_sem] theorem AgI(op:UnOp)(t:TypeId)(x:Operand):Bw X all (⟨d,.unOp op t x,ty,pos,H2,none⟩::rest) K st=HX d (Bw X all rest K) (unA op (ev X.C st x)) st:=DG _ _ _ _
@[go_sem] theorem Ab6(s t:TypeId)(x:Operand):Bw X all (⟨d,.convert s t x,ty,pos,H2,none⟩::rest) K st=HX d (Bw X all rest K) (V5 X.C.P s t (ev X.C st x)) st:=DG _ _ _ _
def L4(i:Nat):AV->Option AV
 |.BC cs=>cs[i]?
 |_=>none
@[go_sem] theorem vj(i:Nat)(cs:List AV):L4 i (.BC cs)=cs[i]?:=rfl
@[go_sem] theorem Ab7(x:Operand)(i:Nat):Bw X all (⟨d,.extract x i,ty,pos,H2,none⟩::rest) K st=HX d (Bw X all rest K) (L4 i (ev X.C st x)) st:=by
 simp only[Bw,Jx,dd,JF,L4];rw[<- DG];grind
def SF(C:Ctx)(t:TypeId)(ps:List (Nat × AV)):Option AV:=match zeroOf C.P t,Bp C.P t with
  |some zs,some true=>if sized C.P t=true then (Oy (placeOf C.P t) (vals zs) ps).map .agg else none
  |_,_=>none
@[go_sem] theorem zR(C:Ctx)(t:TypeId)(ps:List (Nat × AV)):SF C t ps=(match zeroOf C.P t,Bp C.P t with
  |some zs,some true=>if sized C.P t=true then (Oy (placeOf C.P t) (vals zs) ps).map .agg else none
  |_,_=>none):=rfl
def KT(C:Ctx)(st:St):List (Nat × Operand)->List (Nat × AV)
 |[]=>[]
 |(i,x)::ps=>(i,ev C st x)::KT C st ps
@[go_sem] theorem Aca(C:Ctx):KT C st []=[]:=rfl
@[go_sem] theorem zB(C:Ctx)(i:Nat)(x:Operand)(ps:List (Nat × Operand)):KT C st ((i,x)::ps)=(i,ev C st x)::KT C st ps:=rfl
theorem PO(C:Ctx)(ps:Array (Nat × Operand)):parts C st ps=KT C st ps.toList:=by
 unfold parts
 induction ps.toList<;>grind[KT]
@[go_sem] theorem Afr(t:TypeId)(ps:Array (Nat × Operand)):Bw X all (⟨d,.build t ps,ty,pos,H2,none⟩::rest) K st=HX d (Bw X all rest K) (SF X.C t (KT X.C st ps.toList)) st:=by
 simp only[Bw,Jx,dd,JF,SF,PO];rw[<- DG];grind[Option.map_map,Function.comp_def]
@[go_sem] theorem uK(t:TypeId)(len k:Nat)(ps:Array (Nat × Operand)):Bw X all (⟨some k,.buildSlice t len ps,ty,pos,H2,none⟩::rest) K st=HW (some k) (Bw X all rest K) (match Cs X.C.P t with
  |some (e,n,_)=>match zeroOf X.C.P e with
   |some zs=>sk (nm k) n len zs st (KT X.C st ps.toList)
   |none=>none
  |none=>none):=by
 simp only[Bw,Jx,dd,JF,PO];grind
def sq(C:Ctx)(k:Nat)(t:TypeId)(l c:AV)(st:St):Option (AV × St):=match some k,Cs C.P t,l,c with
  |some d,some (e,n,_),.v (.int _ l),.v (.int _ c)=>match zeroOf C.P e with
   |some zs=>Zl (nm d) n zs st l c
   |none=>none
  |_,_,_,_=>none
@[go_sem] theorem Adm(C:Ctx)(k:Nat)(t:TypeId)(kl kc:IntKind)(l c:Int):sq C k t (.v (.int kl l)) (.v (.int kc c)) st=(match Cs C.P t with
  |some (e,n,_)=>match zeroOf C.P e with
   |some zs=>Zl (nm k) n zs st l c
   |none=>none
  |none=>none):=by
 unfold sq;grind
@[go_sem] theorem xS(t:TypeId)(k:Nat)(l c:Operand):Bw X all (⟨some k,.makeSlice t l c,ty,pos,H2,none⟩::rest) K st=HW (some k) (Bw X all rest K) (sq X.C k t (ev X.C st l) (ev X.C st c) st):=nd rfl
def gJ:Option AV->Option (Option Nat)
 |none=>some none
 |some x=>(P6 x).map some
@[go_sem] theorem yz:gJ none=some none:=rfl
@[go_sem] theorem yA(x:AV):gJ (some x)=(P6 x).map some:=rfl
@[go_sem] theorem zj(C:Ctx)(o:Option Operand):DA C st o=gJ (o.map (ev C st)):=by cases o<;>rfl
@[go_sem] theorem Afv(t:TypeId)(x:Operand)(lo hi mx:Option Operand)(k:Nat):Bw X all (⟨some k,.slice t x lo hi mx,ty,pos,H2,none⟩::rest) K st=(if RU (ev X.C st x)&&mx.isSome then HW (some k) (Bw X all rest K) (ax X.C st t (ev X.C st x) lo hi mx) else HW (some k) (Bw X all rest K) (Jg X.C st t (ev X.C st x) lo hi mx)):=nd rfl
@[go_sem] theorem Af1(C:Ctx)(t:TypeId)(r b k:Nat)(es:List (List AV))(hi mx:Operand):ax C st t (.sl (.own r b) k es) none (some hi) (some mx)=(match P6 (ev C st hi),P6 (ev C st mx),AE C.P t with
  |some h,some m,some (_,n)=>if m=h/\k=n/\h<=es.length then some (.sl (.own r b) n (es.take h),st) else none
  |_,_,_=>none):=by
 simp[ax,DA];cases P6 (ev C st hi) with
 |none=>rfl
 |some h=>cases P6 (ev C st mx)<;>grind
@[go_sem] theorem Acj(C:Ctx)(t:TypeId)(tg:Tag)(n:Nat)(es:List (List AV))(lo hi mx:Option Operand):Jg C st t (.sl tg n es) lo hi mx=(match DA C st lo,DA C st hi,DA C st mx,AE C.P t with
  |some l,some (some h),some none,some (_,m)=>if n=m then K3 m false (l.getD 0) h st (.sl tg n es) else none
  |some l,some none,some none,some (_,m)=>if n=m then K3 m false (l.getD 0) es.length st (.sl tg n es) else none
  |some l,some (some h),some (some x),some (_,m)=>if n=m/\x=h then K3 m true (l.getD 0) h st (.sl tg n es) else none
  |_,_,_,_=>none):=by
 unfold Jg;grind[elems]
@[go_sem] theorem zF(C:Ctx)(t:TypeId)(lo hi mx:Option Operand):Jg C st t (.v (.slice none 0 0)) lo hi mx=(match DA C st lo,DA C st hi,DA C st mx,AE C.P t with
  |some l,some h,some none,some (_,m)=>K3 m false (l.getD 0) (h.getD 0) st (.v (.slice none 0 0))
  |some l,some (some h),some (some x),some (_,m)=>if x=h then K3 m true (l.getD 0) h st (.v (.slice none 0 0)) else none
  |_,_,_,_=>none):=by
 unfold Jg;cases DA C st lo with
 |none=>rfl
 |some l=>cases DA C st hi with
  |none=>rfl
  |some h=>cases DA C st mx with
   |none=>grind
   |some m=>cases AE C.P t with
    |none=>grind
    |some p=>cases h<;>cases m<;>rfl
@[go_sem] theorem xR(f:Nat)(x:Operand):Bw X all (⟨d,.makeFunc (.func f) #[x] #[],ty,pos,H2,none⟩::rest) K st=Bw X all rest K (st.put d (.mv f [ev X.C st x])):=nd rfl
@[go_sem] theorem zy(f:Nat)(CW:Array Operand):Bw X all (⟨d,.makeFunc (.func f) #[] CW,ty,pos,H2,none⟩::rest) K st=Bw X all rest K (st.put d (.fn f (D1 X.C st CW.toList))):=by rw[M4];rfl
@[go_sem] theorem oM(t:TypeId)(x:Operand):Bw X all (⟨d,.makeInterface t x,ty,pos,H2,none⟩::rest) K st=(if X.C.P.concrete t then Bw X all rest K (st.put d (.Kb t (ev X.C st x))) else False):=by
 simp only[Bw,Jx,dd,JF];split<;>rfl
@[go_sem] theorem AgE(f:Operand)(args:Array Operand)(ts:Array TypeId):Bw X all (⟨d,.call ⟨.value f,args,ts⟩,ty,pos,H2,none⟩::rest) K st=cT X d (ev X.C st f) (D1 X.C st args.toList) (Bw X all rest K) st:=nd rfl
@[go_sem] theorem Aix(x:Operand)(t:TypeId):Bw X all (⟨d,.call ⟨.builtin .len,#[x],#[t]⟩,ty,pos,H2,none⟩::rest) K st=(if P5 X.C.P t (ev X.C st x)=true then HX d (Bw X all rest K) (WU (ev X.C st x)) st else False):=by
 simp only[Bw,Jx,dd,JF,LV];split
 ·grind[DG]
 ·rfl
@[go_sem] theorem Ads(x y:Operand)(t t2:TypeId)(k:Nat):Bw X all (⟨some k,.call ⟨.builtin .append,#[x,y],#[t,t2]⟩,ty,pos,H2,none⟩::rest) K st=(match Cs X.C.P t with
  |some (e,n,_)=>if AZ X.C.P t2=true then HW (some k) (Bw X all rest K) (Q9 (nm k) n st (ev X.C st x) (ev X.C st y)) else HW (some k) (Bw X all rest K) (match zeroOf X.C.P e with
   |some zs=>Og X.C.P (nm k) n t2 zs st (ev X.C st x) (ev X.C st y)
   |none=>none)
  |none=>False):=by
 simp only[Bw,Jx,dd,JF,LV];cases Cs X.C.P t with
 |none=>rfl
 |some p =>
  grind
@[go_sem] theorem AgF(x y:Operand)(t t2:TypeId):Bw X all (⟨d,.call ⟨.builtin .copy,#[x,y],#[t,t2]⟩,ty,pos,H2,none⟩::rest) K st=HW d (Bw X all rest K) (cZ X.C.P t st (ev X.C st x) (ev X.C st y)):=nd rfl
@[go_sem] theorem Afs(x:Operand)(t:TypeId):Bw X all (⟨d,.call ⟨.builtin .clear,#[x],#[t]⟩,ty,pos,H2,none⟩::rest) K st=HW d (Bw X all rest K) (V1 X.C.P t st (ev X.C st x)):=nd rfl
@[go_sem] theorem Aiw(x:Operand)(t:TypeId):Bw X all (⟨d,.call ⟨.builtin .cap,#[x],#[t]⟩,ty,pos,H2,none⟩::rest) K st=HX d (Bw X all rest K) (qj X.C.P t (ev X.C st x)) st:=DG _ _ _ _
def oA:AV->AV->Option AV
 |.v (.int k a),.v (.int _ b)=>some (.v (.int k (if b > a then b else a)))
 |_,_=>none
def xG:AV->AV->Option AV
 |.v (.int k a),.v (.int _ b)=>some (.v (.int k (if b<a then b else a)))
 |_,_=>none
@[go_sem] theorem Afk(k k':IntKind)(a b:Int):oA (.v (.int k a)) (.v (.int k' b))=some (.v (.int k (if b > a then b else a))):=rfl
@[go_sem] theorem Afl(k k':IntKind)(a b:Int):xG (.v (.int k a)) (.v (.int k' b))=some (.v (.int k (if b<a then b else a))):=rfl
@[go_sem] theorem Aiy(x y:Operand)(ts:Array TypeId):Bw X all (⟨d,.call ⟨.builtin .max,#[x,y],ts⟩,ty,pos,H2,none⟩::rest) K st=HX d (Bw X all rest K) (oA (ev X.C st x) (ev X.C st y)) st:=by
 simp only[Bw,Jx,dd,JF,LV,oA];rw[<- DG];grind
end
-- values
@[go_sem] theorem Afi(P:Program)(t:TypeId)(tg:Tag)(n:Nat)(es:List (List AV)):P5 P t (.sl tg n es)=AZ P t:=rfl
@[go_sem] theorem Adk(P:Program)(t:TypeId):P5 P t (.v (.slice none 0 0))=AZ P t:=rfl
@[go_sem] theorem Adl(P:Program)(t:TypeId)(s:ByteArray):P5 P t (.v (.string s))=Yi P t:=rfl
@[go_sem] theorem Agw(tg:Tag)(n:Nat)(es:List (List AV)):WU (.sl tg n es)=some (.v (.int .i64 es.length)):=rfl
@[go_sem] theorem Aff(xs:List AV):WU (.mem true xs)=some (.v (.int .i64 xs.length)):=rfl
@[go_sem] theorem Adj(P:Program)(t:TypeId)(b:Bool)(xs:List AV):P5 P t (.mem b xs)=AZ P t:=rfl
@[go_sem] theorem Afg:WU (.v (.slice none 0 0))=some (.v (.int .i64 0)):=rfl
@[go_sem] theorem Afh(s:ByteArray):WU (.v (.string s))=some (.v (.int .i64 s.size)):=rfl
@[go_sem] theorem AgJ(p x y:Bool):O0 (.v (.bool p)) (.v (.bool x)) (.v (.bool y))=some (.v (.bool (bif p then x else y))):=rfl
@[go_sem high] theorem AfA(x y:AV):O0 (.v (.bool true)) x y=some x:=by unfold O0;grind
@[go_sem high] theorem Afz(x y:AV):O0 (.v (.bool false)) x y=some y:=by unfold O0;grind
@[go_sem] theorem Afm(s o:Nat):Mq (.ptr s o)=some (.ptr s o):=rfl
@[go_sem] theorem Agz(t:Tag)(i:Nat)(cs:List AV)(o:Nat):Mq (.ep t i cs o)=some (.ep t i cs o):=rfl
@[go_sem] theorem AgA(f:Nat)(cs:List AV):Mq (.fn f cs)=some (.fn f cs):=rfl
attribute [go_sem] cond_true cond_false bne_self_eq_false pe oE NS QA Ta S9 elems TB sk Zl P6 Q9 K3 Oy Wq E3 AV.cells KR DD H3 cut IG P9 rowsOf vals chunk AV.kill NQ ON JZ St.kill AV.freeze Ng nm unA gD bz O9 bX BT FT AV.Cz F0 AV.Ii AV.C7 AV.Si AV.Eh St.Cz St.setRow St.I1 cZ V1 qj Og Option.isNone_none Option.isNone_some St.freeze V5 List.map_cons List.map_nil List.length_cons List.length_nil List.drop_zero List.drop_succ_cons List.take_succ_cons List.take_zero List.drop_nil List.take_nil List.cons_append List.nil_append List.append_nil List.getElem?_toArray List.getElem?_cons_zero List.getElem?_cons_succ List.flatten_cons List.flatten_nil List.replicate_zero List.replicate_succ Option.map_some Option.map_none Option.getD_some Option.getD_none Option.bind_some Option.bind_none if_true if_false Nat.reduceEqDiff Nat.reduceAdd Nat.reduceMul Nat.reduceLeDiff Nat.reduceSub Nat.reduceLT Nat.zero_add Nat.add_zero and_true true_and and_self List.mem_cons List.mem_nil_iff List.not_mem_nil or_false false_or or_self not_false_eq_true not_true_eq_false Bool.false_eq_true Bool.true_eq_false Bool.not_true Bool.not_false Bool.and_true Bool.true_and Bool.false_and Bool.and_false beq_self_eq_true decide_true decide_false reduceCtorEq forall_const implies_true false_implies
@[go_sem] theorem yB(n:Nat):(0<=(n:Int))=True:=by simp
attribute [go_sem] Int.cast_ofNat_Int Int.reduceBNe Int.reduceBEq Bool.not_not Int.toNat_natCast Int.toNat_zero Int.reduceLE Int.reduceLT Int.reduceToNat Int.reduceAdd Int.reduceSub Int.reduceMul Int.reduceNeg Nat.le_refl Nat.zero_le Nat.sub_zero List.take_length List.length_take List.length_drop List.length_append List.length_map
theorem wrap64(n:Int)(h1:-9223372036854775808<=n)(h2:n<=9223372036854775807):IntKind.i64.wrap n=n:=by
 simp only[IntKind.wrap,IntKind.signed,IntKind.bits,Bool.true_and,decide_eq_true_eq,ge_iff_le,Nat.reduceSub];omega
theorem mD(n:Int)(h1:0<=n)(h2:n<=18446744073709551615):IntKind.u64.wrap n=n:=by
 simp only[IntKind.wrap,IntKind.signed,IntKind.bits,Bool.false_and,Bool.false_eq_true,if_false];omega
@[go_sem] theorem AfD(ρ:Rn):FP ρ []=[]:=rfl
@[go_sem] theorem Adv(ρ:Rn)(k:Nat)(cs:List AV)(o:List (Nat × List AV)):FP ρ ((k,cs)::o)=(match lk k ρ.m with|some s=>(s,JU ρ cs)::FP ρ o|none=>FP ρ o):=by grind[FP]
attribute [go_sem] names XY AV.CX AV.Xw JU ti Se inv rngs Way.back IB HI pack List.filterMap_cons_some List.filterMap_cons_none List.filterMap_nil List.map_map List.mem_singleton
attribute [go_sem ↓] reduceIte
end Go.Abs
