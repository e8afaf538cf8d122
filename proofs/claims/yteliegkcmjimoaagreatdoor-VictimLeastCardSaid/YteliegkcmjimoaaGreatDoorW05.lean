/- part 5 of the proof -/
import Derived.Deep.LoopGhost
import Derived.Scope
import Derived.Test.YteliegkcmjimoaaGreatDoorW04
set_option linter.all false
namespace Go.Abs
inductive Ex where
 | normal
 | exit(id:Nat)
 | ret
structure Env where
 C:Ctx
 ext:List Nat
def UF(K:St->Prop)(Q:Ex->St->Prop):Ex->St->Prop
 |.normal=>K
 |.exit id=>Q (.exit id)
 |.ret=>Q .ret
def SD(id:Nat)(Q:Ex->St->Prop):Ex->St->Prop
 |.normal=>Q .normal
 |.exit i=>if i=id then Q .normal else Q (.exit i)
 |.ret=>Q .ret
def AT(X:Env)(st st':St):Prop:=∀ A N g a w,A.ext=X.ext->R X.C A N g st a w->∃ g',R X.C A N g' st' a w
def FA(ext:List Nat):AV->AV
 |.v x=>.v x
 |.ptr s off=>if s∈ext then .ptr s off else .undef
 |.Kb t (.ptr s off)=>if s∈ext then .Kb t (.ptr s off) else .undef
 |_=>.undef
def Pd(ext:List Nat):List (Nat × AV)->List (Nat × AV)
 |[]=>[]
 |(k,x)::l=>(k,FA ext x)::Pd ext l
def AdH(X:Env)(d:Option Nat)(FF:Nat)(xs:List AV)(K:St->Prop)(st:St):Prop :=
 (∃ fn c,X.C.P.funcs[FF]?=some fn/\(fn.name=="runtime.NumGoroutine")=false/\fn.body=some c) /\
 ∀ A g w us,A.ext=X.ext->Fr X.C A g w->Bf g w xs us->(∀ s cs,lk s st.Aj=some cs->Er g w s cs) ->
  Calls X.C.P FF us.toArray w λe w'=>∃ u g' y os,e=.returned u/\Fr X.C A g' w'/\VR g' w' y u/\(∀ s cs,lk s os=some cs->Er g' w' s cs)/\K (St.put d y ⟨Pd X.ext st.tmps,os⟩)
def Bi(X:Env)(d:Option Nat)(FF:Nat)(xs:List AV)(K:St->Prop)(st:St):Prop :=
 (∃ fz v ob S,v.OK ob/\(rngs v.fm).all (λs=>s%32 !=31)=true/\FnP X.C FF (JU v.ρ (Ng fz xs)) ob S/\Has v (st.freeze fz) ob /\
  ∀ y J3,S y J3->(v.ρ.bs=[]\/(Flat (y.CX v.back)/\Lg (FP v.back J3))) /\
   K (((st.freeze fz).app (rngs v.back.l) (rngs v.fm) (rngs v.back.m) (FP v.back J3)).put d (y.CX v.back))) \/
 (∃ r n es ys P3,xs=.sl (.own r 0) n es::ys/\VG X.C FF n es ys P3/\K ((st.I1 r n 0 P3).put d (.BC [])))\/AdH X d FF xs K st
def cT(X:Env)(d:Option Nat)(f:AV)(xs:List AV)(K:St->Prop)(st:St):Prop :=
 match f with
 |.fn FF CW=>Bi X d FF (xs++CW) K st
 |.mv FF first=>Bi X d FF (first++xs) K st
 |_=>False
def OS(P:Program)(t:TypeId)(name:String):Option (Nat × Option TypeId):=(P.info? t).bind λi=>(i.methods.find? (·.name==name)).bind λm=>if m.path = #[] then match m.func,P.underlying t with
 |some (f,true),some (.pointer _)=>some (f,none)
 |some (f,false),some (.pointer e)=>some (f,some e)
 |_,_=>none else none
def ey(C:Ctx)(t:TypeId)(name:String)(x:AV)(Aj:List (Nat × List AV)):Option (Nat × AV):=match OS C.P t name with
 |some (f,none)=>some (f,x)
 |some (f,some e)=>match Bp C.P e,Cn C.P e with
  |some agg,some n=>(NS agg n Aj x).map λy=>(f,y)
  |_,_=>none
 |_=>none
def xx(X:Env)(d:Option Nat)(name:String)(x:AV)(xs:List AV)(K:St->Prop)(st:St):Prop:=match x with
 |.Kb t y=>match ey X.C t name y st.Aj with
  |some (f,r)=>Bi X d f (r::xs) K st
  |none=>False
 |_=>False
def HW(d:Option Nat)(K:St->Prop):Option (AV × St)->Prop
 |some (x,st)=>K (st.put d x)
 |none=>False
def D1(C:Ctx)(st:St):List Operand->List AV
 |[]=>[]
 | x::xs=>ev C st x::D1 C st xs
def ax(C:Ctx)(st:St)(t:TypeId)(x:AV)(lo hi mx:Option Operand):Option (AV × St):=match DA C st lo,DA C st hi,DA C st mx,AE C.P t,x with
 |some none,some (some h),some (some m),some (_,n),.sl (.own r a) k es=>if m=h/\k=n/\h<=es.length then some (.sl (.own r a) n (es.take h),st) else none
 |_,_,_,_,_=>none
def RU:AV->Bool
 |.sl (.own _ _) _ _=>true
 |_=>false
def dd(X:Env)(o:Oper)(K:St->Prop)(st:St):Prop :=
 match o.op with
 |.call ⟨.value f,args,_⟩=>cT X o.dst (ev X.C st f) (D1 X.C st args.toList) K st
 |.call ⟨.invoke r name,args,_⟩=>xx X o.dst name (ev X.C st r) (D1 X.C st args.toList) K st
 |.slice t x lo hi mx=>if RU (ev X.C st x)&&mx.isSome then HW o.dst K (ax X.C st t (ev X.C st x) lo hi mx) else HW o.dst K (JF X.C o st)
 |_=>HW o.dst K (JF X.C o st)
def GP(b' b:Bool)(p q:Prop):Prop:=(b'=b->p)/\(b'≠b->q)
def pe(d:Nat)(x:AV):List (Nat × AV)->List (Nat × AV)
 |[]=>[]
 |(k,y)::l=>if k=d then (k,x)::l else (k,y)::pe d x l
def ZJ{d:Nat}{x:AV}:∀ {l:List (Nat × AV)},lk d l=some x->pe d x l=l
 |(k,y)::l,h=>by
  simp[lk]at h;simp[pe];split<;>simp_all[ZJ]
def St.learn(d:Option Nat)(b:Bool)(st:St):St:=match d with
 |some k=>⟨pe k (.v (.bool b)) st.tmps,st.Aj⟩
 |none=>st
def gdst(all:Array Oper)(j:Nat):Option Nat:=(all[j]?).bind (·.dst)
def guardOf(all:Array Oper)(j:Nat)(st:St):Option AV:=((all[j]?).bind (·.dst)).bind (lk · st.tmps)
def Jx(X:Env)(all:Array Oper)(o:Oper)(K:St->Prop)(st:St):Prop :=
 match o.guard with
 |none=>dd X o K st
 |some (j,b)=>match guardOf all j st with
  |some (.v (.bool b'))=>GP b' b (dd X o K (st.learn (gdst all j) b)) (K ((st.learn (gdst all j) (!b)).put o.dst (.BC [])))
  |some (.BC [])=>K (st.put o.dst (.BC []))
  |_=>False
def Bw(X:Env)(all:Array Oper):List Oper->(St->Prop)->St->Prop
 |[],K=>K
 | o::rest,K=>Jx X all o (Bw X all rest K)
def TZ(c:AV)(K1 K2:St->Prop)(st:St):Prop :=
 match c with
 |.v (.bool b)=>(b=true->K1 st)/\(b=false->K2 st)
 |_=>False
def lY(X:Env)(body:(Ex->St->Prop)->St->Prop)(Q:Ex->St->Prop)(st:St):Prop :=
 ∃ (α:Type) (I:α->St) (Inv:α->Prop) (μ:α->Nat) (x0:α),Inv x0/\AT X st (I x0) /\
  ∀ x,Inv x->body (UF (λst'=>∃ x',Inv x'/\μ x'<μ x/\AT X st' (I x')) Q) (I x)
def Lj(X:Env)(ops:Array Oper)(K:St->Prop)(st:St):Prop :=
 ∀ A N g a w,A.ext=X.ext->(∀ o∈ops,∀ d,o.dst=some d->d<N)->(∀ s∈X.ext,s%32=31)->R X.C A N g st a w->∀ id (Q:Exit->Act->World->Prop),(∀ g' st' a' w',R X.C A N g' st' a' w'->K st'->Q .normal a' w') ->
  (Code.region id ops true).wp X.C.P Q a w
def Q3(X:Env):Code->(Ex->St->Prop)->St->Prop
 |.skip,Q=>Q .normal
 |.region _ ops false,Q=>Bw X ops ops.toList (Q .normal)
 |.region _ ops true,Q=>Lj X ops (Q .normal)
 |.seq x y,Q=>Q3 X x (UF (Q3 X y Q) Q)
 |.cond c x y,Q=>λst=>TZ (ev X.C st c) (Q3 X x Q) (Q3 X y Q) st
 |.block id c,Q=>Q3 X c (SD id Q)
 |.loop c,Q=>lY X (Q3 X c) Q
 |.exit id,Q=>Q (.exit id)
 |.ret,Q=>Q .ret
 |.scope c,Q=>Q3 X c Q
 |.label _,Q=>Q .normal
 |_,_=>λ_=>False
def KS(N:Nat)(o:Oper):Bool:=match o.dst with
 |some d=>decide (d<N)
 |none=>true
def HA(N:Nat):Code->Bool
 |.region _ ops _=>ops.all (KS N)
 |.seq x y=>HA N x&&HA N y
 |.cond _ x y=>HA N x&&HA N y
 |.block _ c=>HA N c
 |.loop c=>HA N c
 |.scope c=>HA N c
 |_=>true
def s9(X:Env)(A:A0)(N:Nat)(Q:Ex->St->Prop):Exit->Act->World->Prop
 |.normal,a,w=>∃ g st,R X.C A N g st a w/\Q .normal st
 |.exit id,a,w=>∃ g st,R X.C A N g st a w/\Q (.exit id) st
 |.ret,a,w=>∃ g st,R X.C A N g st a w/\Q .ret st
 |_,_,_=>False
section
variable {X:Env} {A:A0} {N:Nat} {g g':Gh} {st:St} {a:Act} {w w':World}
theorem M4(C:Ctx)(st:St):∀ l:List Operand,D1 C st l=l.map (ev C st)
 |[]=>rfl
 | x::l=>by simp[D1,M4 C st l]
def l8(hX:∀ s∈X.ext,s%32=31)(hA:A.ext=X.ext)(d:Nat):jl d∉A.ext:=λh=>by grind[jl]
def sJ(hX:∀ s∈X.ext,s%32=31)(hA:A.ext=X.ext)(d:Nat):nm d∉A.ext:=λh=>by grind[nm]
def Yw{C:Ctx}(hR:R C A N g st a w){t:TypeId}{x:Operand}{lo hi mx:Option Operand}{z:AV}{st':St}(h:ax C st t (ev C st x) lo hi mx=some (z,st')):st'=st/\∃ u,(Instr.sliceAt t (a.eval x) (lo.map a.eval) (hi.map a.eval) (mx.map a.eval)).run C.P w=.ok u w/\VR g w z u:=by
 have hv:=hR.ev x;unfold ax at h;split at h
 ·rename_i h0 m0 e n r b k es hl hh hm gd hxe;split at h
  ·rename_i hc;obtain⟨rfl,rfl,hle⟩:=hc;simp at h;obtain⟨rfl,rfl⟩:=h;refine⟨rfl,?_⟩;obtain⟨lP,IE⟩:=L0 gd;rw[Qh lP];have bl:=IN hR hl;have bh:=IN hR hh;have bm:=IN hR hm;have bl':lo.map a.eval=none:=by grind
   obtain⟨kh,bh'⟩:∃ kh,hi.map a.eval=some (.int kh m0):=by grind
   obtain⟨km,bm'⟩:∃ km,mx.map a.eval=some (.int km m0):=by grind
   rw[bl',bh',bm'];rw[hxe]at hv;simp only[VR,Dr]at hv;obtain⟨hn,hv⟩:=hv;have hlen:(es.take m0).length=m0:=by grind
   rcases hv with ⟨h1,rfl⟩|⟨h1,rfl,a',cap,h2,dy⟩|⟨cap,cur,T,h1,k2,k3,k5,k6,k7,k8⟩
   ·have hz:m0=0:=by grind
    subst hz;rw[h1];refine⟨_,F8 (w:=w) lP IE (a:=none) (len:=0) (cap:=0) (kl:=.i64) (kh:=kh) (km:=km) (lo:=none) (.inl ⟨rfl,rfl⟩) (.inr rfl) true rfl (λ_=>rfl) (Nat.le_refl 0) (Nat.le_refl 0) (Nat.le_refl 0),?_⟩;grind[VR,Dr]
   ·have hz:m0=0:=by grind
    subst hz;rw[h2];refine⟨_,F8 (w:=w) lP IE (a:=a') (len:=0) (cap:=cap) (kl:=.i64) (kh:=kh) (km:=km) (lo:=none) (.inl ⟨rfl,rfl⟩) (.inr rfl) true rfl (λ_=>rfl) (Nat.le_refl 0) (Nat.le_refl 0) (Nat.zero_le _),?_⟩;simp only[VR,Dr];grind
   ·rw[h1];refine⟨_,F8 (w:=w) lP IE (kl:=.i64) (kh:=kh) (km:=km) (lo:=none) (.inl ⟨rfl,rfl⟩) (.inr rfl) true rfl (λ_=>rfl) (Nat.zero_le _) hle k2,?_⟩;simp only[VR,Dr];refine⟨hn,.inr (.inr ⟨m0,cur,T,?_,by omega,by omega,k5,k6,Nat.le_trans (Nat.mul_le_mul_right _ (by omega)) k7,?_⟩)⟩
    ·simp_all[Addr.add]
    ·have:=Ea.sub es _ k 0 k8 0 m0;grind
  grind
 grind
def gR{C:Ctx}(hR:R C A N g st a w){o:Oper}{t:TypeId}{x:Operand}{lo hi mx:Option Operand}(ho:o.op=.slice t x lo hi mx){z:AV}{st':St}(h:ax C st t (ev C st x) lo hi mx=some (z,st')):Steps C A N o a w z st':=by
 have hx:execOp a.eval o=(do Pure.pure (Next.value (<- Instr.sliceAt t (a.eval x) (lo.map a.eval) (hi.map a.eval) (mx.map a.eval)))):=by grind[execOp]
 obtain⟨rfl,u,h1,h2⟩:=Yw hR h;exact .of hx ⟨u,w,g,h1,hR,h2⟩
def ye{C:Ctx}(h:Fr C A g w)(h':Fr C A g' w'):∀ (x:AV) (u:Value),VR g w x u->VR g' w' (FA A.ext x) u
 |.v x,u,hu=>by grind[FA,VR]
 |.ptr s off,u,hu=>by
  simp[FA];split
  ·rename_i hs;simp[VR]at hu ⊢;rw[h'.box s hs,<- h.box s hs];omega
  ·simp[VR]
 |.Kb t (.ptr s off),u,hu=>by
  simp[FA];split
  ·rename_i hs;simp only[VR]at hu ⊢;obtain⟨y,h1,h2⟩:=hu;exact⟨y,h1,by rw[h'.box s hs,<- h.box s hs];omega⟩
  ·simp[VR]
 |.undef,_,_=>by simp[FA,VR]
 |.agg _,_,_=>by simp[FA,VR]
 |.BC _,_,_=>by simp[FA,VR]
 |.sl _ _ _,_,_=>by simp[FA,VR]
 |.ep _ _ _ _,_,_=>by simp[FA,VR]
 |.fn _ _,_,_=>by simp[FA,VR]
 |.mv _ _,_,_=>by simp[FA,VR]
 |.mp _,_,_=>by simp[FA,VR]
 |.mem _ _,_,_=>by simp[FA,VR]
 |.Kb _ .undef,_,_=>by simp[FA,VR]
 |.Kb _ (.v _),_,_=>by simp[FA,VR]
 |.Kb _ (.agg _),_,_=>by simp[FA,VR]
 |.Kb _ (.BC _),_,_=>by simp[FA,VR]
 |.Kb _ (.sl _ _ _),_,_=>by simp[FA,VR]
 |.Kb _ (.ep _ _ _ _),_,_=>by simp[FA,VR]
 |.Kb _ (.fn _ _),_,_=>by simp[FA,VR]
 |.Kb _ (.mv _ _),_,_=>by simp[FA,VR]
 |.Kb _ (.mp _),_,_=>by simp[FA,VR]
 |.Kb _ (.mem _ _),_,_=>by simp[FA,VR]
 |.Kb _ (.Kb _ _),_,_=>by simp[FA,VR]
def lX(ext:List Nat)(k:Nat):∀ l:List (Nat × AV),lk k (Pd ext l)=(lk k l).map (FA ext)
 |[]=>rfl
 |(j,x)::l=>by
  simp only[Pd,lk];split
  ·rfl
  ·exact lX ext k l
theorem Om(hA:A.ext=X.ext)(hX:∀ s∈X.ext,s%32=31){o:Oper}(Vp:∀ k,o.dst=some k->k<N){K:St->Prop}{FF:Nat}{xs:List AV}(fj:Oa X.C o a g w FF xs)(h:Bi X o.dst FF xs K st)(hR:R X.C A N g st a w){K':Act->World->Prop}{Q:Exit->Act->World->Prop}
 (hk:∀ g' st' a' w',R X.C A N g' st' a' w'->K st'->K' a' w'):o.wp X.C.P a w K' Q:=by
 rcases h with ⟨fz,v,ob,S,h1,h2,h3,h4,h5⟩|⟨r,n,es,ys,P3,h1,h2,h3⟩|⟨⟨fn,cd,hfn,Gj,hb⟩,KN⟩
 ·have Ahp:Oa X.C o a (g.freeze fz) w FF (Ng fz xs):=by
   obtain⟨us,k1,k2⟩:=fj;exact⟨us,Bf.freeze _ _ k1,k2⟩
  refine AdY Ahp h1 h3 h4 (λy J3 hS=>(h5 y J3 hS).1) (hR.freeze fz) (λs hs hT=>?_) Vp λy J3 g' a' w' hS hr=>hk g' _ a' w' hr (h5 y J3 hS).2
  grind
 ·grind[AdZ]
 ·obtain⟨us,Hh,hex⟩:=fj;unfold Oper.wp;rw[hex,Mv hfn Gj hb,Oper.upon_enter];refine Calls.mono (KN A g w us hA hR.fr Hh hR.ob) λe w' he=>?_
  obtain⟨u,g',y,os,rfl,Ig,hy,xj,hK⟩:=he;have hr:R X.C A N g' ⟨Pd X.ext st.tmps,os⟩ a w':=⟨hR.size,hR.defs,λk x hx=>by
   simp only[lX]at hx;obtain⟨z,hz,rfl⟩:=Option.map_eq_some_iff.1 hx;obtain⟨v,hv1,W8⟩:=hR.tm k z hz;exact⟨v,hv1,by rw[<- hA];exact ye hR.fr Ig z v W8⟩,xj,Ig⟩
  exact hk g' _ _ w' (hr.put Vp hy) hK
def XA{P:Program}{t:TypeId}{name:String}{i:TypeInfo}(hi:P.info? t=some i){m:Method}(hm:i.methods.find? (·.name==name)=some m)(hp:m.path = #[]){f:Nat}{b:Bool}(hf:m.func=some (f,b))(fuel:Nat)(v:Value)(w:World) :
 (method (fuel+1) t v name).run P w=(do pure (f,<- receiverAt t (.val v) b (some ((name.splitOn ".").getLastD name))):Sem (FuncId × Value)).run P w:=by
 simp_all[method,run_typeInfo,follow]
theorem ya{P:Program}(xt:TypeId)(ad:Addr)(s m:String)(w:World):(Builtin.ssaWrapNilChk_ #[xt] xt #[.pointer (some ad),strVal s,strVal m]).run P w=.ok (.pointer (some ad)) w:=rfl
def eB{C:Ctx}(hR:R C A N g st a w){t:TypeId}{name:String}{x r:AV}{f:Nat}{u:Value}(h:ey C t name x st.Aj=some (f,r))(hx:VR g w x u)(fuel:Nat):∃ v,(method (fuel+1) t u name).run C.P w=.ok (f,v) w/\VR g w r v:=by
 have spec:∀ f o,OS C.P t name=some (f,o)->∃ i m b e,C.P.info? t=some i/\i.methods.find? (·.name==name)=some m/\m.path = #[]/\m.func=some (f,b)/\C.P.underlying t=some (.pointer e)/\((b=true/\o=none)\/(b=false/\o=some e)):=by
  intro f o hm;obtain⟨i,hi,hm⟩:=Option.bind_eq_some_iff.1 hm;obtain⟨m,hmm,hm⟩:=Option.bind_eq_some_iff.1 hm;grind
 unfold ey at h;split at h
 ·rename_i f' hm;simp at h;obtain⟨rfl,rfl⟩:=h;obtain⟨i,m,b,e,hi,hmm,hp,hf,hu,⟨rfl,_⟩|⟨_,h0⟩⟩:=spec _ _ hm
  ·exact⟨u,by rw[XA hi hmm hp hf];simp[receiverAt,run_underlying hu,Place.get],hx⟩
  grind
 ·rename_i f' e' hm;split at h
  ·rename_i agg n h1 h2;obtain⟨y,hy,h⟩:=Option.map_eq_some_iff.1 h;obtain⟨rfl,rfl⟩:=Prod.mk.inj h;obtain⟨i,m,b,e,hi,hmm,hp,hf,hu,⟨_,h0⟩|⟨rfl,h0⟩⟩:=spec _ _ hm
   ·grind
   ·injection h0 with h0
    subst h0;obtain⟨v,k1,k2⟩:=Nq hR h1 h2 hx hy;have Ah3:=Zj hx hy;obtain⟨ad,rfl⟩:=Ah3;refine⟨v,?_,k2⟩;have k3:(loadVar e' ad).run C.P w=.ok v w:=by grind[Instr.loadAt,Instr.sureAddr]
    rw[XA hi hmm hp hf];simp[receiverAt,run_underlying hu,Place.get,ya,asAddr,k3]
  grind
 grind
theorem Po(hA:A.ext=X.ext)(hX:∀ s∈X.ext,s%32=31){o:Oper}(hd:KS N o=true){K:St->Prop}(h:dd X o K st)(hR:R X.C A N g st a w){K':Act->World->Prop}{Q:Exit->Act->World->Prop}
 (hk:∀ g' st' a' w',R X.C A N g' st' a' w'->K st'->K' a' w'):o.wp X.C.P a w K' Q:=by
 have Vp:∀ k,o.dst=some k->k<N:=λk hk=>by grind[KS]
 unfold dd at h;split at h
 ·rename_i f args ts ho;unfold cT at h;split at h
  ·rename_i FF CW hf;have:=Oa.val ho rfl (.inl ⟨hf,rfl⟩:cu (ev X.C st f) FF [] CW) hR;grind[M4,Om]
  ·rename_i FF first hf;have:=Oa.val ho rfl (.inr ⟨hf,rfl⟩:cu (ev X.C st f) FF first []) hR;grind[M4,Om]
  grind
 ·rename_i r name args ts ho;unfold xx at h;split at h
  ·rename_i t y hy;split at h
   ·rename_i f rv hm;have hv:=hR.ev r;rw[hy]at hv;simp[VR]at hv;obtain⟨u,hu,hv⟩:=hv;obtain⟨v,k1,k2⟩:=eB hR hm hv (X.C.P.types.size+Made.depth-1);have e1:X.C.P.types.size+Made.depth-1+1=X.C.P.types.size+Made.depth:=by simp[Made.depth]
    rw[e1]at k1;refine Om hA hX Vp ⟨v::args.toList.map a.eval,?_,?_⟩ h hR hk
    ·grind[Bf,M4,Hx]
    ·unfold execOp;rw[ho];have e2:(#[a.eval r]++args.map a.eval)[0]?=some (.iface t u):=by grind
     have e3:(#[a.eval r]++args.map a.eval).extract 1 (#[a.eval r]++args.map a.eval).size=args.map a.eval:=by simp
     simp only[resolve,invoke,Sem.run_bind,Sem.run_pure,Result.andThen_ok,e2,e3,callMethod,run_program,k1];congr 2;simp
   grind
  grind
 ·rename_i t y lo hi mx ho;split at h<;>unfold HW at h
  ·split at h
   ·rename_i x st' hs;exact(gR hR ho hs).wp Vp λg' a' w' hr=>hk g' _ a' w' hr h
   grind
  ·split at h
   ·rename_i x st' hs;exact(UE hR (λd _=>⟨sJ hX hA d,l8 hX hA d⟩) hs).wp Vp λg' a' w' hr=>hk g' _ a' w' hr h
   grind
 ·unfold HW at h;split at h
  ·rename_i x st' hs;exact(UE hR (λd _=>⟨sJ hX hA d,l8 hX hA d⟩) hs).wp Vp λg' a' w' hr=>hk g' _ a' w' hr h
  grind
theorem Nh{all:Array Oper}{j:Nat}{b:Bool}(hR:R X.C A N g st a w)(h:guardOf all j st=some (.v (.bool b))):yielded all a.tmps j=some b:=by
 unfold guardOf at h;obtain⟨d,h1,h2⟩:=Option.bind_eq_some_iff.1 h;obtain⟨u,hu,hv⟩:=hR.tm d _ h2;grind[VR,yielded]
theorem SZ{all:Array Oper}{j:Nat}(hR:R X.C A N g st a w)(h:guardOf all j st=some (.BC [])):yielded all a.tmps j=none:=by
 unfold guardOf at h;obtain⟨d,h1,h2⟩:=Option.bind_eq_some_iff.1 h;obtain⟨u,hu,hv⟩:=hR.tm d _ h2;simp[VR]at hv;obtain⟨us,rfl,hv⟩:=hv;grind[yielded]
def VI:VR g w (.BC []) undef:=by simp_all[VR,undef,Bf]
theorem KP{all:Array Oper}{j:Nat}{st:St}{b:Bool}(h:guardOf all j st=some (.v (.bool b))):st.learn (gdst all j) b=st:=by
 unfold guardOf at h;obtain⟨d,h1,h2⟩:=Option.bind_eq_some_iff.1 h;simp_all[gdst,St.learn,ZJ]
theorem QV(hA:A.ext=X.ext)(hX:∀ s∈X.ext,s%32=31){all:Array Oper}{Q:Exit->Act->World->Prop}{K:St->Prop}(hk:∀ g' st' a' w',R X.C A N g' st' a' w'->K st'->Q .normal a' w') :
 ∀ (l:List Oper) (g:Gh) (st:St) (a:Act) (w:World),(∀ o∈l,KS N o=true)->Bw X all l K st->R X.C A N g st a w->wpList X.C.P all Q l a w
 |[],g,st,a,w,_,h,hR=>hk g st a w hR h
 | o::l,g,st,a,w,CC,h,hR=>by
  have hd:=CC o (by simp);have za:=λg' st' a' w' hr (hK:Bw X all l K st')=>QV hA hX hk l g' st' a' w' (λo' y7=>CC o' (by grind)) hK hr
  simp[Bw,Jx]at h;unfold wpList;split at h
  ·rename_i hg;have:Region.wanted o (yielded all a.tmps)=true:=by simp[Region.wanted,hg]
   simp only[this,if_true];grind[Po]
  ·rename_i j b hg;split at h
   ·rename_i b' hb;have hy:=Nh hR hb
    by_cases he:b'=b
    ·have:Region.wanted o (yielded all a.tmps)=true:=by grind[Region.wanted]
     simp only[this,if_true];have h1:=h.1 he;grind[KP,Po]
    ·have:Region.wanted o (yielded all a.tmps)=false:=by grind[Region.wanted]
     simp only[this,Bool.false_eq_true,if_false];have Vp:∀ k,o.dst=some k->k<N:=λk hk=>by grind[KS]
     have h1:=h.2 he;have sS:(!b)=b':=by cases b<;>cases b'<;>first|rfl|grind
     rw[sS,KP hb]at h1;exact za g _ _ w (hR.put Vp VI) h1
   ·rename_i hb;have hy:=SZ hR hb;have:Region.wanted o (yielded all a.tmps)=false:=by grind[Region.wanted]
    simp only[this,Bool.false_eq_true,if_false];have Vp:∀ k,o.dst=some k->k<N:=λk hk=>by grind[KS]
    exact za g _ _ w (hR.put Vp VI) h
   grind
def Z2(hA:A.ext=X.ext)(hX:∀ s∈X.ext,s%32=31):∀ (c:Code) (Q:Ex->St->Prop) (g:Gh) (st:St) (a:Act) (w:World),HA N c=true->Q3 X c Q st->R X.C A N g st a w->c.wp X.C.P (s9 X A N Q) a w:=by
 intro c
 induction c with
 | skip=>intro Q g st a w _ h hR;exact wp_skip ⟨g,st,hR,h⟩
 | region id ops d =>
  intro Q g st a w CC h hR;have rO:∀ o∈ops.toList,KS N o=true:=λo ho=>by grind[HA,Array.all_eq_true']
  cases d with
  | false =>
   exact wp_region_list (QV hA hX (Q:=s9 X A N Q) (λg' st' a' w' hr hK=>⟨g',st',hr,hK⟩) ops.toList g st a w rO h hR)
  | true =>
   exact h A N g a w hA (λo ho d hd=>by have:=rO o (by grind);grind[KS]) hX hR id (s9 X A N Q) λg' st' a' w' hr hK=>⟨g',st',hr,hK⟩
 | seq x y ihx ihy =>
  intro Q g st a w CC h hR;simp[HA]at CC;refine wp_seq (wp_mono (ihx _ g st a w CC.1 h hR) λe a' w' hq=>?_);cases e with
  | normal =>
   obtain⟨g',st',hr,hk⟩:=hq;exact ihy Q g' st' a' w' CC.2 hk hr
  | exit id=>exact hq
  | ret=>exact hq
  | goto l=>exact hq.elim
  | panic ch=>exact hq.elim
  | outgrown=>exact hq.elim
 | cond c x y ihx ihy =>
  intro Q g st a w CC h hR;simp[HA]at CC;simp[Q3,TZ]at h;split at h
  ·rename_i b hb;have hc:=hR.ev c;rw[hb]at hc;simp[VR]at hc;exact wp_cond_split hc (λht=>ihx Q g st a w CC.1 (h.1 ht) hR) (λht=>ihy Q g st a w CC.2 (h.2 ht) hR)
  grind
 | block id c ih =>
  intro Q g st a w CC h hR;refine wp_block (wp_mono (ih _ g st a w CC h hR) λe a' w' hq=>?_);cases e with
  | normal=>exact hq
  | exit i =>
   obtain⟨g',st',hr,hk⟩:=hq;simp[SD]at hk;simp[Exit.inBlock];split at hk
   ·rename_i hi;simp[hi];exact⟨g',st',hr,hk⟩
   ·rename_i hi;simp[hi];exact⟨g',st',hr,hk⟩
  | ret=>exact hq
  | goto l=>exact hq.elim
  | panic ch=>exact hq.elim
  | outgrown=>exact hq.elim
 | loop c ih =>
  intro Q g st a w CC h hR;obtain⟨α,I,Inv,μ,x0,h0,hi,AbB⟩:=h;obtain⟨g0,hR0⟩:=hi A N g a w hA hR;refine wp_loop_ghost (λn a w=>∃ x g,Inv x/\μ x=n/\R X.C A N g (I x) a w) (μ x0) ⟨x0,g0,h0,rfl,hR0⟩ λn a w ⟨x,g,hx,hn,hr⟩=>?_
  refine wp_mono (ih _ g (I x) a w CC (AbB x hx) hr) λe a' w' hq=>?_
  cases e with
  | normal =>
   obtain⟨g',st',hr',x',xp,AP,dB⟩:=hq;obtain⟨g'',Ah4⟩:=dB A N g' a' w' hA hr';exact⟨μ x',by omega,x',g'',xp,rfl,Ah4⟩
  | exit id=>exact hq
  | ret=>exact hq
  | goto l=>exact hq.elim
  | panic ch=>exact hq.elim
  | outgrown=>exact hq.elim
 | exit id=>intro Q g st a w _ h hR;exact wp_exit ⟨g,st,hR,h⟩
 | ret=>intro Q g st a w _ h hR;exact wp_ret ⟨g,st,hR,h⟩
 | scope c ih =>
  intro Q g st a w CC h hR;refine wp_scope_straight (wp_mono (ih Q g st a w CC h hR) λe a' w' hq=>?_);cases e<;>first|exact hq|exact hq.elim
 | label l=>intro Q g st a w _ h hR;exact wp_label ⟨g,st,hR,h⟩
 | goto l=>intro Q g st a w _ h;exact h.elim
 | rangeFunc=>intro Q g st a w _ h;exact h.elim
 | refuse=>intro Q g st a w _ h;exact h.elim
end
end Go.Abs
namespace Go.Abs
def Ci(x y:AV):Prop:=∀ g w u,VR g w x u->VR g w y u
def Oe(xs ys:List AV):Prop:=∀ g w us,Bf g w xs us->Bf g w ys us
section
variable {g:Gh} {w:World}
def Ci.rfl{x:AV}:Ci x x:=λ_ _ _ h=>h
theorem Ci.eq{x y:AV}(h:x=y):Ci x y:=h▸.rfl
def Ci.undef{x:AV}:Ci x .undef:=λ_ _ _ _=>by simp[VR]
def Ci.Cr{r lo n:Nat}(hn:0<n):Ci (.v (.slice none 0 0)) (.sl (.own r lo) n []):=λ_ _ u h=>by grind[VR,Dr]
def Ci.A8{n:Nat}(hn:0<n):Ci (.v (.slice none 0 0)) (.sl .no n []):=λ_ _ u h=>by grind[VR,PR]
def Ci.full{n:Nat}{es:List (List AV)}:Ci (.sl .full n es) (.sl .no n es):=λ_ _ u h=>by grind[VR,PR]
def Oe.nil:Oe [] []:=λ_ _ _ h=>h
def Oe.cons{x y:AV}{xs ys:List AV}(h:Ci x y)(hs:Oe xs ys):Oe (x::xs) (y::ys):=λg w us hu=>by
 match us,hu with
 | u::us,hu =>
  simp[Bf]at hu ⊢;exact⟨h g w u hu.1,hs g w us hu.2⟩
 |[],hu=>grind[Bf]
def Ci.agg{xs ys:List AV}(h:Oe xs ys):Ci (.agg xs) (.agg ys):=λg w u hu=>by
 simp[VR]at hu ⊢;obtain⟨us,h1,h2⟩:=hu;exact⟨us,h1,h g w _ h2⟩
def Ci.BC{xs ys:List AV}(h:Oe xs ys):Ci (.BC xs) (.BC ys):=λg w u hu=>by
 simp[VR]at hu ⊢;obtain⟨us,h1,h2⟩:=hu;exact⟨us,h1,h g w _ h2⟩
end
def Ae:List AV->List AV->Prop
 |[],[]=>True
 | x::xs,y::ys=>Ci x y/\Ae xs ys
 |_,_=>False
def Ae.AJ:∀ {xs ys:List AV},Ae xs ys->Oe xs ys
 |[],[],_=>.nil
 |[],_::_,h=>h.elim
 |_::_,[],h=>h.elim
 |_::_,_::_,h=>.cons h.1 h.2.AJ
def Ae.self:∀ xs:List AV,Ae xs xs
 |[]=>trivial
 |_::xs=>⟨.rfl,Ae.self xs⟩
def IB(st:St):List (Nat × AV)->Prop
 |[]=>True
 |(k,y)::l=>(∃ x,lk k st.tmps=some x/\Ci x y)/\IB st l
def HI(st:St):List (Nat × List AV)->Prop
 |[]=>True
 |(k,y)::l=>(∃ x,lk k st.Aj=some x/\Ae x y)/\HI st l
def ti(ρ:Rn):List (Nat × AV)->List (Nat × AV)
 |[]=>[]
 |(k,x)::l=>(k,x.CX ρ)::ti ρ l
def Se(ρ:Rn)(st:St):St:=⟨ti ρ st.tmps,FP ρ st.Aj⟩
section
variable {X:Env} {C:Ctx} {A:A0} {N:Nat} {g g':Gh} {st st':St} {a:Act} {w w':World}
theorem IB.lk:∀ {l:List (Nat × AV)} {k:Nat} {y:AV},IB st l->lk k l=some y->∃ x,lk k st.tmps=some x/\Ci x y
 |(j,c)::l,k,y,hf,h=>by
  simp only[Abs.lk]at h;split at h
  ·rename_i hj;injection h with h;subst h;subst hj;exact hf.1
  ·exact IB.lk hf.2 h
theorem HI.lk:∀ {l:List (Nat × List AV)} {k:Nat} {y:List AV},HI st l->lk k l=some y->∃ x,lk k st.Aj=some x/\Ae x y
 |(j,c)::l,k,y,hf,h=>by
  simp only[Abs.lk]at h;split at h
  ·rename_i hj;injection h with h;subst h;subst hj;exact hf.1
  ·exact HI.lk hf.2 h
def lW(ρ:Rn)(k:Nat):∀ l:List (Nat × AV),lk k (ti ρ l)=(lk k l).map (·.CX ρ)
 |[]=>rfl
 |(j,x)::l=>by
  simp only[ti,lk];split
  ·rfl
  ·exact lW ρ k l
def R.Aq(h:R C A N g st a w)(ht:IB st st'.tmps)(ho:HI st st'.Aj):R C A N g st' a w where
 size:=h.size
 defs:=h.defs
 tm:=λk x hx=>by
  obtain⟨y,hy,hw⟩:=ht.lk hx;obtain⟨u,hu,hv⟩:=h.tm k y hy;exact⟨u,hu,hw _ _ _ hv⟩
 ob:=λs cs hs=>by
  obtain⟨y,hy,hw⟩:=ho.lk hs;exact(h.ob s y hy).lift rfl (h.ob s y hy).1 rfl (λus hu=>hw.AJ _ _ _ hu)
 fr:=h.fr
theorem Fr.CX{ρ:Rn}(hρ:ρ.OK)(JR:∀ s,s∈A.ext->lk s ρ.m=some s)(h:Fr C A g w):Fr C A (g.CX ρ g) w where
 os:=h.os
 tape:=h.tape
 output:=h.output
 size:=h.size
 FD:=λb hb hf=>by
  have:=h.FD b hb hf;refine⟨this.1,?_⟩;rcases hf with hf|hf<;>grind[LN,HS]
 box:=λs hs=>by rw[<- h.box s hs];grind[O8]
 glob:=λi cs hi=>by
  obtain⟨h1,h2,h3⟩:=h.glob i cs hi;exact⟨h1,LN h2,EG.mono Ut _ ⟨i,0,none⟩ 0 h2 h3⟩
def R.renamed{ρ:Rn}(hρ:ρ.OK)(JR:∀ s,s∈A.ext->lk s ρ.m=some s)(h:R C A N g st a w):R C A N (g.CX ρ g) (Se ρ st) a w where
 size:=h.size
 defs:=h.defs
 tm:=λk x hx=>by
  simp only[Se,lW]at hx;obtain⟨y,hy,rfl⟩:=Option.map_eq_some_iff.1 hx;obtain⟨u,hu,hv⟩:=h.tm k y hy;grind[VR.CX]
 ob:=λs cs hs=>by
  obtain⟨s0,cb,h1,h2,rfl⟩:=Np hρ hs;exact Er.CX hρ h1 (h.ob s0 cb h2)
 fr:=h.fr.CX hρ JR
def AT.Aq(ht:IB st st'.tmps)(ho:HI st st'.Aj):AT X st st':=λ_ _ _ _ _ _ h=>⟨_,h.Aq ht ho⟩
theorem AT.CX(ρ:Rn)(hρ:ρ.OK)(JR:∀ s,s∈X.ext->lk s ρ.m=some s)(ht:IB (Se ρ st) st'.tmps)(ho:HI (Se ρ st) st'.Aj):AT X st st' :=
 λ_ _ _ _ _ hA h=>⟨_,(h.renamed hρ (λs hs=>JR s (hA▸hs))).Aq ht ho⟩
def XY:Nat->List AV->List (Nat × AV)
 |_,[]=>[]
 | i,x::xs=>(i,x)::XY (i+1) xs
def bE{k:Nat}{x:AV}:∀ {xs:List AV} {i:Nat},lk k (XY i xs)=some x->i<=k/\xs[k-i]?=some x
 |[],_,h=>by cases h
 | y::xs,i,h=>by
  simp[XY,lk]at h;split at h
  ·grind
  ·rename_i hi;obtain⟨h1,h2⟩:=bE h;grind
def Gv(C:Ctx)(st:St):ResultVar->Option AV
 |.tmp t=>lk t st.tmps
 |.cell a t=>match Bp C.P t,Cn C.P t,lk a st.tmps with
  |some agg,some n,some p=>NS agg n st.Aj p
  |_,_,_=>none
def Cx(C:Ctx)(st:St):List ResultVar->Option (List AV)
 |[]=>some []
 | r::rs=>match Gv C st r,Cx C st rs with
  |some x,some xs=>some (x::xs)
  |_,_=>none
def pack:List AV->AV
 |[x]=>x
 | xs=>.BC xs
def wW{α:Type}{a:Array α}{i:Nat}{x d:α}(h:a[i]?=some x):a.getD i d=x:=by simp_all
def tq(tmps:Array Value):ResultVar->Sem Value
 |.tmp t=>pure (tmps.getD t undef)
 |.cell p t=>do loadVar t (<- asAddr (tmps.getD p undef))
def jv(fn:Func)(tmps:Array Value):results fn tmps=(do
 let vs <- fn.results.mapM (tq tmps)
 pure (if h:vs.size=1 then vs[0] else .tuple vs)):=by
 unfold results;congr 1
def ju(hR:R C A N g st a w){r:ResultVar}{x:AV}(h:Gv C st r=some x):∃ u,(tq a.tmps r).run C.P w=.ok u w/\VR g w x u:=by
 cases r with
 | tmp t =>
  obtain⟨u,hu,hv⟩:=hR.tm t x h;simp_all[tq]
 | cell p t =>
  simp[Gv]at h;split at h
  ·rename_i agg n q h1 h2 hp;obtain⟨up,hu,hv⟩:=hR.tm p q hp;obtain⟨u,k1,k2⟩:=Nq hR h1 h2 hv h;refine⟨u,?_,k2⟩;simp only[tq,wW hu];have hp:=Zj hv h;obtain⟨ad,rfl⟩:=hp;grind[Instr.loadAt,Instr.sureAddr,asAddr]
  grind
def Us(hR:R C A N g st a w):∀ {rs:List ResultVar} {xs:List AV},Cx C st rs=some xs->∃ us,(rs.mapM (tq a.tmps)).run C.P w=.ok us w/\Bf g w xs us
 |[],xs,h=>by simp_all[Cx,Bf]
 | r::rs,xs,h=>by
  simp only[Cx]at h;split at h
  ·rename_i y ys h1 h2;simp at h;subst h;obtain⟨u,k1,k2⟩:=ju hR h1;obtain⟨us,m1,m2⟩:=Us hR h2;refine⟨u::us,?_,by simp only[Bf];exact⟨k2,m2⟩⟩;rw[List.mapM_cons];simp only[Sem.run_bind,k1,m1,Result.andThen_ok,Sem.run_pure]
  ·cases h
def Qb(hR:R C A N g st a w){fn:Func}{xs:List AV}(h:Cx C st fn.results.toList=some xs):∃ u,(results fn a.tmps).run C.P w=.ok u w/\VR g w (pack xs) u:=by
 obtain⟨us,k1,k2⟩:=Us hR h;have hl:=Bf.length k2;rw[jv,Array.mapM_eq_mapM_toList];simp only[Sem.run_bind,Sem.run_map,k1,Result.andThen_ok,Sem.run_pure]
 match xs,us,k2 with
 |[x],[u],k2 =>
  grind[Bf,pack]
 |[],[],k2=>simp_all[pack,VR]
 | x::y::xs,u::v::us,k2=>simp_all[pack,VR]
 |[],_::_,k2=>grind
 |_::_,[],k2=>grind
 |[_],_::_::_,k2=>grind
 |_::_::_,[_],k2=>grind
def Xx(X:Env)(rs:List ResultVar)(y:AV)(o':List (Nat × List AV)):Ex->St->Prop
 |.exit _=>λ_=>False
 |_=>λst=>∃ xs ρ,Cx X.C st rs=some xs/\ρ.OK/\(∀ s∈X.ext,lk s ρ.m=some s)/\Ci ((pack xs).CX ρ) y/\HI (Se ρ st) o'
def Ad.intro{f:Nat}{fn:Func}{c:Code}{xs:List AV}{o o':List (Nat × List AV)}{y:AV}(hf:C.P.funcs[f]?=some fn)(Gj:(fn.name=="runtime.NumGoroutine")=false)(hb:fn.body=some c)
 (CC:HA fn.ntmps c=true) (Hh:xs.length<=fn.ntmps) (JR:∀ s∈names o,s%32=31) (h:Q3 ⟨C,names o⟩ c (Xx ⟨C,names o⟩ fn.results.toList y o') ⟨XY 0 xs,o⟩):Ad C f xs o y o':=by
 refine⟨⟨fn,c,hf,Gj,hb⟩,λg w us hg hv ho=>calls_of_wp hf hb ?_⟩;have hl:=Bf.length hv;have hR:R C ⟨w,g,names o⟩ fn.ntmps g ⟨XY 0 xs,o⟩ { tmps:=us.toArray++Array.replicate (fn.ntmps-us.toArray.size) undef,defers:=[] } w:=by
  refine⟨by grind,rfl,λk x hx=>?_,ho,⟨rfl,⟨rfl,Nat.le_refl _⟩,rfl,Nat.le_refl _,λ_ _ _=>⟨rfl,rfl⟩,λ_ _=>rfl,hg⟩⟩;obtain⟨_,h2⟩:=bE hx;obtain⟨u,hu,Vs⟩:=hv.get k x (by omega);grind
 have key:∀ (g':Gh) (st':St) (a':Act) (w':World),R C ⟨w,g,names o⟩ fn.ntmps g' st' a' w' ->
  (∃ Sr ρ,Cx C st' fn.results.toList=some Sr/\ρ.OK/\(∀ s∈names o,lk s ρ.m=some s)/\Ci ((pack Sr).CX ρ) y/\HI (Se ρ st') o') ->
  a'.defers=[]/\∃ v,(results fn a'.tmps).run C.P w'=.ok v w'/\(∃ u g2,Ending.returned v=.returned u/\Fr C ⟨w,g,names o⟩ g2 w'/\VR g2 w' y u/\∀ s cs,lk s o'=some cs->Er g2 w' s cs):=by
  intro g' st' a' w' hr ⟨Sr,ρ,h1,h2,h3,h4,h5⟩;obtain⟨u,k1,k2⟩:=Qb hr h1;have hr2:=hr.renamed h2 h3;refine⟨hr.defs,u,k1,u,g'.CX ρ g',rfl,hr2.fr,h4 _ _ _ (VR.CX h2 _ _ k2),λs cs hs=>?_⟩;obtain⟨z,hz,hw⟩:=h5.lk hs;exact(hr2.ob s z hz).lift rfl (hr2.ob s z hz).1 rfl (λus hu=>hw.AJ _ _ _ hu)
 refine wp_mono (Z2 (X:=⟨C,names o⟩) (A:=⟨w,g,names o⟩) rfl JR c _ g _ _ w CC h hR) λe a' w' hq=>?_
 cases e with
 | normal=>obtain⟨g',st',hr,hk⟩:=hq;exact key g' st' a' w' hr hk
 | ret=>obtain⟨g',st',hr,hk⟩:=hq;exact key g' st' a' w' hr hk
 | exit id=>obtain⟨g',st',hr,hk⟩:=hq;exact hk.elim
 | goto l=>exact hq.elim
 | panic ch=>exact hq.elim
 | outgrown=>exact hq.elim
end
end Go.Abs
