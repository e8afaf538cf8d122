/- part 6 of the proof -/
import Derived.Deep.LoopGhost
import Derived.Scope
import Derived.Test.YthachdiockkofaaGreatDoorW05
set_option linter.all false
namespace Go.Abs
inductive Ex where
 | normal
 | exit(id:Nat)
 | ret
structure Env where
 C:Ctx
 ext:List Nat
 deep:List Nat
def Q0(K:St→Prop)(Q:Ex→St→Prop):Ex→St→Prop
 |.normal=>K
 |.exit id=>Q (.exit id)
 |.ret=>Q .ret
def NN(id:Nat)(Q:Ex→St→Prop):Ex→St→Prop
 |.normal=>Q .normal
 |.exit i=>if i=id then Q .normal else Q (.exit i)
 |.ret=>Q .ret
def Imp(X:Env)(st st':St):Prop:=∀ A N g a w,A.ext=X.ext→R X.C A N g st a w→∃ g',R X.C A N g' st' a w
def AY(X:Env)(d:Option Nat)(fid:Nat)(xs:List AV)(K:St→Prop)(st:St):Prop :=
 (∃ fz v ob S,v.OK ob∧(rngs v.fm).all (fun s=>s%64 !=63)=true∧FnP X.C fid (EY v.ρ (B9 fz xs)) ob S∧Has v (st.freeze fz) ob ∧
  ∀ y ob',S y ob'→(v.ρ.bs=[]∨(Flat (y.ren v.back)∧Ie (Ee v.back ob'))) ∧
   K (((st.freeze fz).app (rngs v.back.l) (rngs v.fm) (rngs v.back.m) (Ee v.back ob')).put d (y.ren v.back))) ∨
 ∃ r n es ys es',xs=.sl (.own r 0) n es::ys∧PD X.C fid n es ys es'∧K ((st.AQ r n 0 es').put d (.tup []))
def TY(X:Env)(d:Option Nat)(f:AV)(xs:List AV)(K:St→Prop)(st:St):Prop :=
 match f with
 |.fn fid AU=>AY X d fid (xs++AU) K st
 |.mv fid first=>AY X d fid (first++xs) K st
 |_=>False
def DY(d:Option Nat)(K:St→Prop):Option (AV × St)→Prop
 |some (x,st)=>K (st.put d x)
 |none=>False
def CL(C:Ctx)(st:St):List Operand→List AV
 |[]=>[]
 | x::xs=>ev C st x::CL C st xs
def Mh(X:Env)(d:Option Nat):Prop:=match d with
 |some k=>k∈X.deep
 |none=>False
instance (X:Env) (d:Option Nat):Decidable (Mh X d):=by unfold Mh;split<;>infer_instance
def Pu(C:Ctx)(d:Option Nat)(t:TypeId)(len:Nat)(ps:Array (Nat × Operand))(st:St):Option (AV × St):=match d,Bg C.P t with
 |some k,some (e,1,_)=>match zeroOf C.P e with
  |some _=>Zw (nm k) st len (parts C st ps)
  |none=>none
 |_,_=>none
def Pt(C:Ctx)(d:Option Nat)(args:List Operand)(ts:List TypeId)(st:St):Option (AV × St):=match d,args,ts with
 |some k,[x,y],[t,t2]=>match Bg C.P t with
  |some (_,1,_)=>if AI C.P t2=true then MD (nm k) st (ev C st x) (ev C st y) else none
  |_=>none
 |_,_,_=>none
def SZ(C:Ctx)(st:St)(t:TypeId)(x:AV)(lo hi mx:Option Operand):Option (AV × St):=match B4 C st lo,B4 C st hi,B4 C st mx,Au C.P t,x with
 |some none,some (some h),some (some m),some (_,n),.sl (.own r a) k es=>if m=h∧k=n∧h≤es.length then some (.sl (.own r a) n (es.take h),st) else none
 |_,_,_,_,_=>none
def doA(X:Env)(o:Oper)(K:St→Prop)(st:St):Prop :=
 match o.op with
 |.call ⟨.value f,args,_⟩=>TY X o.dst (ev X.C st f) (CL X.C st args.toList) K st
 |.call ⟨.builtin .append,args,ts⟩=>if Mh X o.dst then DY o.dst K (Pt X.C o.dst args.toList ts.toList st) else DY o.dst K (Gk X.C o st)
 |.buildSlice t len ps=>if Mh X o.dst then DY o.dst K (Pu X.C o.dst t len ps st) else DY o.dst K (Gk X.C o st)
 |.slice t x lo hi mx=>if Mh X o.dst then DY o.dst K (SZ X.C st t (ev X.C st x) lo hi mx) else DY o.dst K (Gk X.C o st)
 |_=>DY o.dst K (Gk X.C o st)
def Ff(b' b:Bool)(p q:Prop):Prop:=(b'=b→p)∧(b'≠b→q)
def Yt(d:Nat)(x:AV):List (Nat × AV)→List (Nat × AV)
 |[]=>[]
 |(k,y)::l=>if k=d then (k,x)::l else (k,y)::Yt d x l
theorem Sr{d:Nat}{x:AV}:∀ {l:List (Nat × AV)},lk d l=some x→Yt d x l=l
 |(k,y)::l,h=>by
  simp only[lk]at h;simp only[Yt];split
  ·rename_i hk;simp only[hk,if_true]at h;injection h with h;rw[h]
  ·rename_i hk;simp only[hk,if_false]at h;rw[Sr h]
def St.learn(d:Option Nat)(b:Bool)(st:St):St:=match d with
 |some k=>⟨Yt k (.v (.bool b)) st.tmps,st.Al⟩
 |none=>st
def gdst(all:Array Oper)(j:Nat):Option Nat:=(all[j]?).bind (·.dst)
def guardOf(all:Array Oper)(j:Nat)(st:St):Option AV:=((all[j]?).bind (·.dst)).bind (lk · st.tmps)
def Hl(X:Env)(all:Array Oper)(o:Oper)(K:St→Prop)(st:St):Prop :=
 match o.guard with
 |none=>doA X o K st
 |some (j,b)=>match guardOf all j st with
  |some (.v (.bool b'))=>Ff b' b (doA X o K (st.learn (gdst all j) b)) (K ((st.learn (gdst all j) (!b)).put o.dst (.tup [])))
  |some (.tup [])=>K (st.put o.dst (.tup []))
  |_=>False
def A9(X:Env)(all:Array Oper):List Oper→(St→Prop)→St→Prop
 |[],K=>K
 | o::rest,K=>Hl X all o (A9 X all rest K)
def ON(c:AV)(K1 K2:St→Prop)(st:St):Prop :=
 match c with
 |.v (.bool b)=>(b=true→K1 st)∧(b=false→K2 st)
 |_=>False
def Zz(X:Env)(body:(Ex→St→Prop)→St→Prop)(Q:Ex→St→Prop)(st:St):Prop :=
 ∃ (α:Type) (I:α→St) (Inv:α→Prop) (μ:α→Nat) (x0:α),Inv x0∧Imp X st (I x0) ∧
  ∀ x,Inv x→body (Q0 (fun st'=>∃ x',Inv x'∧μ x'<μ x∧Imp X st' (I x')) Q) (I x)
def IX(X:Env)(ops:Array Oper)(K:St→Prop)(st:St):Prop :=
 ∀ A N g a w,A.ext=X.ext→(∀ o∈ops,∀ d,o.dst=some d→d<N)→(∀ s∈X.ext,s%64=63)→R X.C A N g st a w→∀ id (Q:Exit→Act→World→Prop),(∀ g' st' a' w',R X.C A N g' st' a' w'→K st'→Q .normal a' w') →
  (Code.region id ops true).wp X.C.P Q a w
def wpA(X:Env):Code→(Ex→St→Prop)→St→Prop
 |.skip,Q=>Q .normal
 |.region _ ops false,Q=>A9 X ops ops.toList (Q .normal)
 |.region _ ops true,Q=>IX X ops (Q .normal)
 |.seq x y,Q=>wpA X x (Q0 (wpA X y Q) Q)
 |.cond c x y,Q=>fun st=>ON (ev X.C st c) (wpA X x Q) (wpA X y Q) st
 |.block id c,Q=>wpA X c (NN id Q)
 |.loop c,Q=>Zz X (wpA X c) Q
 |.exit id,Q=>Q (.exit id)
 |.ret,Q=>Q .ret
 |.scope c,Q=>wpA X c Q
 |.label _,Q=>Q .normal
 |_,_=>fun _=>False
def Ic(N:Nat)(o:Oper):Bool:=match o.dst with
 |some d=>decide (d<N)
 |none=>true
def E1(N:Nat):Code→Bool
 |.region _ ops _=>ops.all (Ic N)
 |.seq x y=>E1 N x&&E1 N y
 |.cond _ x y=>E1 N x&&E1 N y
 |.block _ c=>E1 N c
 |.loop c=>E1 N c
 |.scope c=>E1 N c
 |_=>true
def ZY(X:Env)(A:A0)(N:Nat)(Q:Ex→St→Prop):Exit→Act→World→Prop
 |.normal,a,w=>∃ g st,R X.C A N g st a w∧Q .normal st
 |.exit id,a,w=>∃ g st,R X.C A N g st a w∧Q (.exit id) st
 |.ret,a,w=>∃ g st,R X.C A N g st a w∧Q .ret st
 |_,_,_=>False
section
variable {X:Env} {A:A0} {N:Nat} {g g':Gh} {st:St} {a:Act} {w w':World}
theorem Ll(C:Ctx)(st:St):∀ l:List Operand,CL C st l=l.map (ev C st)
 |[]=>rfl
 | x::l=>by simp[CL,Ll C st l]
theorem RL(C:Ctx)(S:List Nat)(st:St)(p:Operand):ev C (st.freeze S) p=(ev C st p).freeze S:=by
 cases p with
 | tmp k =>
  simp only[ev,St.freeze,KN];cases lk k st.tmps<;>rfl
 | const v=>rfl
 | func f=>rfl
 | global i =>
  simp only[ev];cases C.G i<;>rfl
theorem OZ(C:Ctx)(S:List Nat)(st:St):∀ l:List Operand,B9 S (CL C st l)=CL C (st.freeze S) l
 |[]=>rfl
 | x::l=>by simp only[CL,B9,RL,OZ C S st l]
theorem HV(S:List Nat):∀ xs ys:List AV,B9 S (xs++ys)=B9 S xs++B9 S ys
 |[],_=>rfl
 | x::xs,ys=>by simp only[List.cons_append,B9,HV S xs ys]
theorem Pz(hX:∀ s∈X.ext,s%64=63)(hA:A.ext=X.ext)(d:Nat):nmM d∉A.ext:=fun h=>by
 rw[hA]at h;have:=hX _ h;simp only[nmM]at this;omega
theorem Tk(hX:∀ s∈X.ext,s%64=63)(hA:A.ext=X.ext)(d:Nat):nm d∉A.ext:=fun h=>by
 rw[hA]at h;have:=hX _ h;simp only[nm]at this;omega
theorem Re{C:Ctx}(hR:R C A N g st a w){o:Oper}{t:TypeId}{len:Nat}{ps:Array (Nat × Operand)}(ho:o.op=.buildSlice t len ps){x:AV}{st':St}(h:Pu C o.dst t len ps st=some (x,st')):Steps C A N o a w x st':=by
 unfold Pu at h;split at h
 ·rename_i d e b k _ hd hr;split at h
  ·rename_i zs hz;exact .of (Ha a ho) (V8 hR hr hz (by simp[parts]) (IQ hR ps) h)
  ·cases h
 ·cases h
theorem Rc{C:Ctx}(hR:R C A N g st a w){o:Oper}{args:Array Operand}{ts:Array TypeId}(ho:o.op=.call { callee:=.builtin .append,args,argTypes:=ts }){x:AV}{st':St}(h:Pt C o.dst args.toList ts.toList st=some (x,st')):Steps C A N o a w x st':=by
 obtain⟨consts,he⟩:=Hu a ho;unfold Pt at h;split at h
 ·rename_i k y z t t2 hd hy ht;split at h
  ·rename_i e b hr;split at h
   ·rename_i hs;refine .of he ?_;rw[NM hy,NM ht];simp only[List.map_toArray,List.map_cons,List.map_nil];exact Q6 hR hr hs (hR.ev y) (hR.ev z) h
   ·cases h
  ·cases h
 ·cases h
theorem RG{C:Ctx}(hR:R C A N g st a w){t:TypeId}{x:Operand}{lo hi mx:Option Operand}{z:AV}{st':St}(h:SZ C st t (ev C st x) lo hi mx=some (z,st')):st'=st∧∃ u,(Instr.sliceAt t (a.eval x) (lo.map a.eval) (hi.map a.eval) (mx.map a.eval)).run C.P w=.ok u w∧VR g w z u:=by
 have hv:=hR.ev x;unfold SZ at h;split at h
 ·rename_i h0 m0 e n r b k es hl hh hm hen hxe;split at h
  ·rename_i hc;obtain⟨rfl,rfl,hle⟩:=hc;simp only[Option.some.injEq,Prod.mk.injEq]at h;obtain⟨rfl,rfl⟩:=h;refine⟨rfl,?_⟩;obtain⟨ht1,ht2⟩:=IZ hen;rw[LX ht1];have bl:=Gp hR hl;have bh:=Gp hR hh;have bm:=Gp hR hm;have bl':lo.map a.eval=none:=by
    rcases bl with ⟨h1,_⟩|⟨_,_,hc,_⟩
    ·exact h1
    ·cases hc
   obtain⟨kh,bh'⟩:∃ kh,hi.map a.eval=some (.int kh m0):=by
    rcases bh with ⟨_,hc⟩|⟨n',kh,hc,h2⟩
    ·cases hc
    ·injection hc with hc;subst hc;exact⟨kh,h2⟩
   obtain⟨km,bm'⟩:∃ km,mx.map a.eval=some (.int km m0):=by
    rcases bm with ⟨_,hc⟩|⟨n',kh,hc,h2⟩
    ·cases hc
    ·injection hc with hc;subst hc;exact⟨kh,h2⟩
   rw[bl',bh',bm'];rw[hxe]at hv;simp only[VR,Cq]at hv;obtain⟨hn,hv⟩:=hv;have hlen:(es.take m0).length=m0:=by simp;omega
   rcases hv with ⟨h1,rfl⟩|⟨h1,rfl,a',cap,h2,hcap⟩|⟨cap,cur,T,h1,k2,k3,k5,k6,k7,k8⟩
   ·have hz:m0=0:=by simpa using hle
    subst hz;rw[h1];refine⟨_,EH (w:=w) ht1 ht2 (a:=none) (len:=0) (cap:=0) (kl:=.i64) (kh:=kh) (km:=km) (lo:=none) (.inl ⟨rfl,rfl⟩) (.inr rfl) true rfl (fun _=>rfl) (Nat.le_refl 0) (Nat.le_refl 0) (Nat.le_refl 0),?_⟩;simp only[VR,Cq];exact⟨hn,.inl ⟨by simp,by simp⟩⟩
   ·have hz:m0=0:=by simpa using hle
    subst hz;rw[h2];refine⟨_,EH (w:=w) ht1 ht2 (a:=a') (len:=0) (cap:=cap) (kl:=.i64) (kh:=kh) (km:=km) (lo:=none) (.inl ⟨rfl,rfl⟩) (.inr rfl) true rfl (fun _=>rfl) (Nat.le_refl 0) (Nat.le_refl 0) (Nat.zero_le _),?_⟩;simp only[VR,Cq];exact⟨hn,.inr (.inl ⟨h1,by simp,_,_,rfl,by simp[maxLen]⟩)⟩
   ·rw[h1];refine⟨_,EH (w:=w) ht1 ht2 (kl:=.i64) (kh:=kh) (km:=km) (lo:=none) (.inl ⟨rfl,rfl⟩) (.inr rfl) true rfl (fun _=>rfl) (Nat.zero_le _) hle k2,?_⟩;simp only[VR,Cq];refine⟨hn,.inr (.inr ⟨m0,cur,T,?_,by rw[hlen];exact Nat.le_refl _,by omega,k5,k6,Nat.le_trans (Nat.mul_le_mul_right _ (by omega)) k7,?_⟩)⟩
    ·rw[hlen];simp only[if_true,Nat.sub_zero,Nat.zero_mul];split<;>simp[Addr.add]
    ·have:=PRe.sub es _ k 0 k8 0 m0;simpa using this
  ·cases h
 ·cases h
theorem VQ{C:Ctx}(hR:R C A N g st a w){o:Oper}{t:TypeId}{x:Operand}{lo hi mx:Option Operand}(ho:o.op=.slice t x lo hi mx){z:AV}{st':St}(h:SZ C st t (ev C st x) lo hi mx=some (z,st')):Steps C A N o a w z st':=by
 have hx:execOp a.eval o=(do Pure.pure (Next.value (← Instr.sliceAt t (a.eval x) (lo.map a.eval) (hi.map a.eval) (mx.map a.eval)))):=by
  unfold execOp;rw[ho]
 obtain⟨rfl,u,h1,h2⟩:=RG hR h;exact .of hx ⟨u,w,g,h1,hR,h2⟩
theorem Lg(hA:A.ext=X.ext)(hX:∀ s∈X.ext,s%64=63){o:Oper}(hd:Ic N o=true){K:St→Prop}(h:doA X o K st)(hR:R X.C A N g st a w){K':Act→World→Prop}{Q:Exit→Act→World→Prop}
 (hk:∀ g' st' a' w',R X.C A N g' st' a' w'→K st'→K' a' w'):o.wp X.C.P a w K' Q:=by
 have hd':∀ k,o.dst=some k→k<N:=fun k hk=>by simp[Ic,hk]at hd;exact hd
 unfold doA at h;split at h
 ·rename_i f args ts ho;have key:∀ fid first AU,Rr (ev X.C st f) fid first AU→AY X o.dst fid (first++CL X.C st args.toList++AU) K st→o.wp X.C.P a w K' Q:=fun fid first AU hf h=>by
   rcases h with ⟨fz,v,ob,S,h1,h2,h3,h4,h5⟩|⟨r,n,es,ys,es',h1,h2,h3⟩
   ·rw[HV,HV,OZ,Ll]at h3;have hf':Rr (ev X.C (st.freeze fz) f) fid (B9 fz first) (B9 fz AU):=by
     rw[RL];rcases hf with ⟨hf,rfl⟩|⟨hf,rfl⟩
     ·exact .inl ⟨by rw[hf];rfl,rfl⟩
     ·exact .inr ⟨by rw[hf];rfl,rfl⟩
    refine eC ho rfl hf' h1 h3 h4 (fun y ob' hS=>(h5 y ob' hS).1) (hR.freeze fz) (fun s hs hT=>?_) hd' fun y ob' g' a' w' hS hr=>hk g' _ a' w' hr (h5 y ob' hS).2
    have h7:=hX s (hA▸hs);have h8:=List.all_eq_true.1 h2 s hT;simp[h7]at h8
   ·rw[Ll]at h1;exact eD ho rfl hf h1 h2 hR hd' fun g' a' w' hr=>hk g' _ a' w' hr h3
  unfold TY at h;split at h
  ·rename_i fid AU hf;exact key fid [] AU (.inl ⟨hf,rfl⟩) h
  ·rename_i fid first hf;exact key fid first [] (.inr ⟨hf,rfl⟩) (by rw[List.append_nil];exact h)
  ·cases h
 ·rename_i args ts ho;split at h<;>unfold DY at h
  ·split at h
   ·rename_i x st' hs;exact(Rc hR ho hs).wp hd' fun g' a' w' hr=>hk g' _ a' w' hr h
   ·cases h
  ·split at h
   ·rename_i x st' hs;exact(IA hR (fun d _=>⟨Tk hX hA d,Pz hX hA d⟩) hs).wp hd' fun g' a' w' hr=>hk g' _ a' w' hr h
   ·cases h
 ·rename_i t len ps ho;split at h<;>unfold DY at h
  ·split at h
   ·rename_i x st' hs;exact(Re hR ho hs).wp hd' fun g' a' w' hr=>hk g' _ a' w' hr h
   ·cases h
  ·split at h
   ·rename_i x st' hs;exact(IA hR (fun d _=>⟨Tk hX hA d,Pz hX hA d⟩) hs).wp hd' fun g' a' w' hr=>hk g' _ a' w' hr h
   ·cases h
 ·rename_i t y lo hi mx ho;split at h<;>unfold DY at h
  ·split at h
   ·rename_i x st' hs;exact(VQ hR ho hs).wp hd' fun g' a' w' hr=>hk g' _ a' w' hr h
   ·cases h
  ·split at h
   ·rename_i x st' hs;exact(IA hR (fun d _=>⟨Tk hX hA d,Pz hX hA d⟩) hs).wp hd' fun g' a' w' hr=>hk g' _ a' w' hr h
   ·cases h
 ·unfold DY at h;split at h
  ·rename_i x st' hs;exact(IA hR (fun d _=>⟨Tk hX hA d,Pz hX hA d⟩) hs).wp hd' fun g' a' w' hr=>hk g' _ a' w' hr h
  ·cases h
theorem JG{all:Array Oper}{j:Nat}{b:Bool}(hR:R X.C A N g st a w)(h:guardOf all j st=some (.v (.bool b))):yielded all a.tmps j=some b:=by
 unfold guardOf at h;obtain⟨d,h1,h2⟩:=Option.bind_eq_some_iff.1 h;obtain⟨u,hu,hv⟩:=hR.tm d _ h2;simp only[VR]at hv;subst hv;simp[yielded,h1,hu]
theorem N6{all:Array Oper}{j:Nat}(hR:R X.C A N g st a w)(h:guardOf all j st=some (.tup [])):yielded all a.tmps j=none:=by
 unfold guardOf at h;obtain⟨d,h1,h2⟩:=Option.bind_eq_some_iff.1 h;obtain⟨u,hu,hv⟩:=hR.tm d _ h2;simp only[VR]at hv;obtain⟨us,rfl,hv⟩:=hv;simp[yielded,h1,hu]
theorem PG:VR g w (.tup []) undef:=by
 simp only[VR,undef];exact⟨#[],rfl,by simp[VRs]⟩
theorem HY{all:Array Oper}{j:Nat}{st:St}{b:Bool}(h:guardOf all j st=some (.v (.bool b))):st.learn (gdst all j) b=st:=by
 unfold guardOf at h;obtain⟨d,h1,h2⟩:=Option.bind_eq_some_iff.1 h;unfold gdst;rw[h1];simp only[St.learn,Sr h2]
theorem Mr(hA:A.ext=X.ext)(hX:∀ s∈X.ext,s%64=63){all:Array Oper}{Q:Exit→Act→World→Prop}{K:St→Prop}(hk:∀ g' st' a' w',R X.C A N g' st' a' w'→K st'→Q .normal a' w') :
 ∀ (l:List Oper) (g:Gh) (st:St) (a:Act) (w:World),(∀ o∈l,Ic N o=true)→A9 X all l K st→R X.C A N g st a w→wpList X.C.P all Q l a w
 |[],g,st,a,w,_,h,hR=>hk g st a w hR h
 | o::l,g,st,a,w,hok,h,hR=>by
  have hd:=hok o (by simp);have hrest:=fun g' st' a' w' hr (hK:A9 X all l K st')=>Mr hA hX hk l g' st' a' w' (fun o' ho'=>hok o' (by simp[ho'])) hK hr
  simp only[A9,Hl]at h;unfold wpList;split at h
  ·rename_i hg;have:Region.wanted o (yielded all a.tmps)=true:=by simp[Region.wanted,hg]
   simp only[this,if_true];exact .inl (Lg hA hX hd h hR hrest)
  ·rename_i j b hg;split at h
   ·rename_i b' hb;have hy:=JG hR hb
    by_cases he:b'=b
    ·have:Region.wanted o (yielded all a.tmps)=true:=by simp[Region.wanted,hg,hy,he]
     simp only[this,if_true];have h1:=h.1 he;subst he;rw[HY hb]at h1;exact .inl (Lg hA hX hd h1 hR hrest)
    ·have:Region.wanted o (yielded all a.tmps)=false:=by simp[Region.wanted,hg,hy,he]
     simp only[this,Bool.false_eq_true,if_false];have hd':∀ k,o.dst=some k→k<N:=fun k hk=>by simp[Ic,hk]at hd;exact hd
     have h1:=h.2 he;have hbb:(!b)=b':=by cases b<;>cases b'<;>first|rfl|exact absurd rfl he
     rw[hbb,HY hb]at h1;exact hrest g _ _ w (hR.put hd' PG) h1
   ·rename_i hb;have hy:=N6 hR hb;have:Region.wanted o (yielded all a.tmps)=false:=by simp[Region.wanted,hg,hy]
    simp only[this,Bool.false_eq_true,if_false];have hd':∀ k,o.dst=some k→k<N:=fun k hk=>by simp[Ic,hk]at hd;exact hd
    exact hrest g _ _ w (hR.put hd' PG) h
   ·cases h
theorem SD(hA:A.ext=X.ext)(hX:∀ s∈X.ext,s%64=63):∀ (c:Code) (Q:Ex→St→Prop) (g:Gh) (st:St) (a:Act) (w:World),E1 N c=true→wpA X c Q st→R X.C A N g st a w→c.wp X.C.P (ZY X A N Q) a w:=by
 intro c
 induction c with
 | skip=>intro Q g st a w _ h hR;exact wp_skip ⟨g,st,hR,h⟩
 | region id ops d =>
  intro Q g st a w hok h hR;have hok':∀ o∈ops.toList,Ic N o=true:=fun o ho=>by
   simp only[E1,Array.all_eq_true']at hok;exact hok o (by simpa using ho)
  cases d with
  | false =>
   exact wp_region_list (Mr hA hX (Q:=ZY X A N Q) (fun g' st' a' w' hr hK=>⟨g',st',hr,hK⟩) ops.toList g st a w hok' h hR)
  | true =>
   exact h A N g a w hA (fun o ho d hd=>by have:=hok' o (by simpa using ho);simp[Ic,hd]at this;exact this) hX hR id (ZY X A N Q) fun g' st' a' w' hr hK=>⟨g',st',hr,hK⟩
 | seq x y ihx ihy =>
  intro Q g st a w hok h hR;simp only[E1,Bool.and_eq_true]at hok;refine wp_seq (wp_mono (ihx _ g st a w hok.1 h hR) fun e a' w' hq=>?_);cases e with
  | normal =>
   obtain⟨g',st',hr,hk⟩:=hq;exact ihy Q g' st' a' w' hok.2 hk hr
  | exit id=>exact hq
  | ret=>exact hq
  | goto l=>exact hq.elim
  | panic ch=>exact hq.elim
  | outgrown=>exact hq.elim
 | cond c x y ihx ihy =>
  intro Q g st a w hok h hR;simp only[E1,Bool.and_eq_true]at hok;simp only[wpA,ON]at h;split at h
  ·rename_i b hb;have hc:=hR.ev c;rw[hb]at hc;simp only[VR]at hc;exact wp_cond_split hc (fun ht=>ihx Q g st a w hok.1 (h.1 ht) hR) (fun ht=>ihy Q g st a w hok.2 (h.2 ht) hR)
  ·cases h
 | block id c ih =>
  intro Q g st a w hok h hR;refine wp_block (wp_mono (ih _ g st a w hok h hR) fun e a' w' hq=>?_);cases e with
  | normal=>exact hq
  | exit i =>
   obtain⟨g',st',hr,hk⟩:=hq;simp only[NN]at hk;simp only[Exit.inBlock];split at hk
   ·rename_i hi;simp only[hi,if_true];exact⟨g',st',hr,hk⟩
   ·rename_i hi;simp only[hi,if_false];exact⟨g',st',hr,hk⟩
  | ret=>exact hq
  | goto l=>exact hq.elim
  | panic ch=>exact hq.elim
  | outgrown=>exact hq.elim
 | loop c ih =>
  intro Q g st a w hok h hR;obtain⟨α,I,Inv,μ,x0,h0,hi,hround⟩:=h;obtain⟨g0,hR0⟩:=hi A N g a w hA hR;refine wp_loop_ghost (fun n a w=>∃ x g,Inv x∧μ x=n∧R X.C A N g (I x) a w) (μ x0) ⟨x0,g0,h0,rfl,hR0⟩ fun n a w ⟨x,g,hx,hn,hr⟩=>?_
  refine wp_mono (ih _ g (I x) a w hok (hround x hx) hr) fun e a' w' hq=>?_
  cases e with
  | normal =>
   obtain⟨g',st',hr',x',hx',hlt,him⟩:=hq;obtain⟨g'',hr''⟩:=him A N g' a' w' hA hr';exact⟨μ x',by omega,x',g'',hx',rfl,hr''⟩
  | exit id=>exact hq
  | ret=>exact hq
  | goto l=>exact hq.elim
  | panic ch=>exact hq.elim
  | outgrown=>exact hq.elim
 | exit id=>intro Q g st a w _ h hR;exact wp_exit ⟨g,st,hR,h⟩
 | ret=>intro Q g st a w _ h hR;exact wp_ret ⟨g,st,hR,h⟩
 | scope c ih =>
  intro Q g st a w hok h hR;refine wp_scope_straight (wp_mono (ih Q g st a w hok h hR) fun e a' w' hq=>?_);cases e<;>first|exact hq|exact hq.elim
 | label l=>intro Q g st a w _ h hR;exact wp_label ⟨g,st,hR,h⟩
 | goto l=>intro Q g st a w _ h;exact h.elim
 | rangeFunc=>intro Q g st a w _ h;exact h.elim
 | refuse=>intro Q g st a w _ h;exact h.elim
end
end Go.Abs
namespace Go.Abs
def BW(x y:AV):Prop:=∀ g w u,VR g w x u→VR g w y u
def Ig(xs ys:List AV):Prop:=∀ g w us,VRs g w xs us→VRs g w ys us
section
variable {g:Gh} {w:World}
theorem BW.rfl{x:AV}:BW x x:=fun _ _ _ h=>h
theorem BW.eq{x y:AV}(h:x=y):BW x y:=h▸.rfl
theorem BW.undef{x:AV}:BW x .undef:=fun _ _ _ _=>by simp[VR]
theorem BW.AG{r lo n:Nat}(hn:0<n):BW (.v (.slice none 0 0)) (.sl (.own r lo) n []):=fun _ _ u h=>by
 simp only[VR,Cq]at h ⊢;exact⟨hn,.inl ⟨h,by trivial⟩⟩
theorem BW.Az{n:Nat}(hn:0<n):BW (.v (.slice none 0 0)) (.sl .no n []):=fun _ _ u h=>by
 simp only[VR,PR]at h ⊢;exact⟨(fun _ _ h=>by cases h),none,0,h,by simp,by simp[maxLen],(by intro h;cases h),hn,.inl True.intro⟩
theorem BW.full{n:Nat}{es:List (List AV)}:BW (.sl .full n es) (.sl .no n es):=fun _ _ u h=>by
 simp only[VR,PR]at h ⊢;obtain⟨_,a,cap,h1,h2,h3,h4,h5,h6⟩:=h;exact⟨(fun _ _ h=>by cases h),a,cap,h1,h2,h3,(by intro h;cases h),h5,h6⟩
theorem Ig.nil:Ig [] []:=fun _ _ _ h=>h
theorem Ig.cons{x y:AV}{xs ys:List AV}(h:BW x y)(hs:Ig xs ys):Ig (x::xs) (y::ys):=fun g w us hu=>by
 match us,hu with
 | u::us,hu =>
  simp only[VRs]at hu ⊢;exact⟨h g w u hu.1,hs g w us hu.2⟩
 |[],hu=>simp[VRs]at hu
theorem BW.agg{xs ys:List AV}(h:Ig xs ys):BW (.agg xs) (.agg ys):=fun g w u hu=>by
 simp only[VR]at hu ⊢;obtain⟨us,h1,h2⟩:=hu;exact⟨us,h1,h g w _ h2⟩
theorem BW.tup{xs ys:List AV}(h:Ig xs ys):BW (.tup xs) (.tup ys):=fun g w u hu=>by
 simp only[VR]at hu ⊢;obtain⟨us,h1,h2⟩:=hu;exact⟨us,h1,h g w _ h2⟩
theorem Ig.rfl{xs:List AV}:Ig xs xs:=fun _ _ _ h=>h
end
def Aj:List AV→List AV→Prop
 |[],[]=>True
 | x::xs,y::ys=>BW x y∧Aj xs ys
 |_,_=>False
theorem Aj.AM:∀ {xs ys:List AV},Aj xs ys→Ig xs ys
 |[],[],_=>.nil
 |[],_::_,h=>h.elim
 |_::_,[],h=>h.elim
 |_::_,_::_,h=>.cons h.1 h.2.AM
theorem Aj.self:∀ xs:List AV,Aj xs xs
 |[]=>trivial
 |_::xs=>⟨.rfl,Aj.self xs⟩
def IS(st:St):List (Nat × AV)→Prop
 |[]=>True
 |(k,y)::l=>(∃ x,lk k st.tmps=some x∧BW x y)∧IS st l
def FR(st:St):List (Nat × List AV)→Prop
 |[]=>True
 |(k,y)::l=>(∃ x,lk k st.Al=some x∧Aj x y)∧FR st l
def Z3(ρ:Rn):List (Nat × AV)→List (Nat × AV)
 |[]=>[]
 |(k,x)::l=>(k,x.ren ρ)::Z3 ρ l
def K5(ρ:Rn)(st:St):St:=⟨Z3 ρ st.tmps,Ee ρ st.Al⟩
section
variable {X:Env} {C:Ctx} {A:A0} {N:Nat} {g g':Gh} {st st':St} {a:Act} {w w':World}
theorem IS.lk:∀ {l:List (Nat × AV)} {k:Nat} {y:AV},IS st l→lk k l=some y→∃ x,lk k st.tmps=some x∧BW x y
 |(j,c)::l,k,y,hf,h=>by
  simp only[Abs.lk]at h;split at h
  ·rename_i hj;injection h with h;subst h;subst hj;exact hf.1
  ·exact IS.lk hf.2 h
theorem FR.lk:∀ {l:List (Nat × List AV)} {k:Nat} {y:List AV},FR st l→lk k l=some y→∃ x,lk k st.Al=some x∧Aj x y
 |(j,c)::l,k,y,hf,h=>by
  simp only[Abs.lk]at h;split at h
  ·rename_i hj;injection h with h;subst h;subst hj;exact hf.1
  ·exact FR.lk hf.2 h
theorem W2(ρ:Rn)(k:Nat):∀ l:List (Nat × AV),lk k (Z3 ρ l)=(lk k l).map (·.ren ρ)
 |[]=>rfl
 |(j,x)::l=>by
  simp only[Z3,lk];split
  ·rfl
  ·exact W2 ρ k l
theorem R.Am(h:R C A N g st a w)(ht:IS st st'.tmps)(ho:FR st st'.Al):R C A N g st' a w where
 size:=h.size
 defs:=h.defs
 tm:=fun k x hx=>by
  obtain⟨y,hy,hw⟩:=ht.lk hx;obtain⟨u,hu,hv⟩:=h.tm k y hy;exact⟨u,hu,hw _ _ _ hv⟩
 ob:=fun s cs hs=>by
  obtain⟨y,hy,hw⟩:=ho.lk hs;exact(h.ob s y hy).lift rfl (h.ob s y hy).1 rfl (fun us hu=>hw.AM _ _ _ hu)
 fr:=h.fr
theorem Fr.ren{ρ:Rn}(hρ:ρ.OK)(hext:∀ s,s∈A.ext→lk s ρ.m=some s)(h:Fr C A g w):Fr C A (g.ren ρ g) w where
 os:=h.os
 tape:=h.tape
 output:=h.output
 size:=h.size
 keep:=fun b hb hf=>by
  have:=h.keep b hb hf;refine⟨this.1,?_⟩;rcases hf with hf|hf
  ·rw[hf];exact EK (this.2.trans hf)
  ·rw[hf];exact C5 (this.2.trans hf)
 box:=fun s hs=>by rw[← h.box s hs];exact K4 hρ (hext s hs)
 glob:=fun i cs hi=>by
  obtain⟨h1,h2,h3⟩:=h.glob i cs hi;exact⟨h1,EK h2,PRc.mono J6 _ ⟨i,0,none⟩ 0 h2 h3⟩
theorem R.renamed{ρ:Rn}(hρ:ρ.OK)(hext:∀ s,s∈A.ext→lk s ρ.m=some s)(h:R C A N g st a w):R C A N (g.ren ρ g) (K5 ρ st) a w where
 size:=h.size
 defs:=h.defs
 tm:=fun k x hx=>by
  simp only[K5,W2]at hx;obtain⟨y,hy,rfl⟩:=Option.map_eq_some_iff.1 hx;obtain⟨u,hu,hv⟩:=h.tm k y hy;exact⟨u,hu,VR.ren hρ _ _ hv⟩
 ob:=fun s cs hs=>by
  obtain⟨s0,cs0,h1,h2,rfl⟩:=Ir hρ hs;exact DE.ren hρ h1 (h.ob s0 cs0 h2)
 fr:=h.fr.ren hρ hext
theorem Imp.Am(ht:IS st st'.tmps)(ho:FR st st'.Al):Imp X st st':=fun _ _ _ _ _ _ h=>⟨_,h.Am ht ho⟩
theorem Imp.ren(ρ:Rn)(hρ:ρ.OK)(hext:∀ s,s∈X.ext→lk s ρ.m=some s)(ht:IS (K5 ρ st) st'.tmps)(ho:FR (K5 ρ st) st'.Al):Imp X st st' :=
 fun _ _ _ _ _ hA h=>⟨_,(h.renamed hρ (fun s hs=>hext s (hA▸hs))).Am ht ho⟩
def Pe:Nat→List AV→List (Nat × AV)
 |_,[]=>[]
 | i,x::xs=>(i,x)::Pe (i+1) xs
theorem Te{k:Nat}{x:AV}:∀ {xs:List AV} {i:Nat},lk k (Pe i xs)=some x→i≤k∧xs[k-i]?=some x
 |[],_,h=>by cases h
 | y::xs,i,h=>by
  simp only[Pe,lk]at h;split at h
  ·rename_i hi;subst hi;exact⟨Nat.le_refl _,by simpa using h⟩
  ·rename_i hi;obtain⟨h1,h2⟩:=Te h;refine⟨by omega,?_⟩;have:k-i=(k-(i+1))+1:=by omega
   rw[this];simpa using h2
def IJ(C:Ctx)(st:St):ResultVar→Option AV
 |.tmp t=>lk t st.tmps
 |.cell a t=>match AZ C.P t,BJ C.P t,lk a st.tmps with
  |some agg,some n,some p=>O6 agg n st.Al p
  |_,_,_=>none
def C6(C:Ctx)(st:St):List ResultVar→Option (List AV)
 |[]=>some []
 | r::rs=>match IJ C st r,C6 C st rs with
  |some x,some xs=>some (x::xs)
  |_,_=>none
def pack:List AV→AV
 |[x]=>x
 | xs=>.tup xs
theorem WV{α:Type}{a:Array α}{i:Nat}{x d:α}(h:a[i]?=some x):a.getD i d=x:=by simp[Array.getD_eq_getD_getElem?,h]
def Z4(tmps:Array Value):ResultVar→Sem Value
 |.tmp t=>pure (tmps.getD t undef)
 |.cell p t=>do loadVar t (← asAddr (tmps.getD p undef))
theorem Ww(fn:Func)(tmps:Array Value):results fn tmps=(do
 let vs ← fn.results.mapM (Z4 tmps)
 pure (if h:vs.size=1 then vs[0] else .tuple vs)):=by
 unfold results;congr 1
theorem Wv(hR:R C A N g st a w){r:ResultVar}{x:AV}(h:IJ C st r=some x):∃ u,(Z4 a.tmps r).run C.P w=.ok u w∧VR g w x u:=by
 cases r with
 | tmp t =>
  obtain⟨u,hu,hv⟩:=hR.tm t x h;exact⟨u,by simp only[Z4,WV hu,Sem.run_pure],hv⟩
 | cell p t =>
  simp only[IJ]at h;split at h
  ·rename_i agg n q h1 h2 hp;obtain⟨up,hu,hv⟩:=hR.tm p q hp;obtain⟨u,k1,k2⟩:=Ml hR h1 h2 hv h;refine⟨u,?_,k2⟩;simp only[Z4,WV hu];have hp:∃ ad,up=.pointer (some ad):=by
    unfold O6 at h;split at h
    ·simp only[VR]at hv;exact⟨_,hv.2⟩
    ·simp only[VR]at hv;unfold Fg at hv;split at hv
     ·obtain⟨_,_,hx,_⟩:=hv;exact⟨_,hx⟩
     ·obtain⟨_,hx,_⟩:=hv;exact⟨_,hx⟩
    ·simp only[VR]at hv;obtain⟨_,_,_,_,_,_,hx,_⟩:=hv;exact⟨_,hx⟩
    ·simp only[VR]at hv;obtain⟨_,_,_,_,_,_,hx,_⟩:=hv;exact⟨_,hx⟩
    ·simp only[VR,Vx]at hv;obtain⟨_,_,_,_,_,hx⟩:=hv;exact⟨_,hx⟩
    ·cases h
   obtain⟨ad,rfl⟩:=hp;simpa [Instr.loadAt,Instr.sureAddr,asAddr]using k1
  ·cases h
theorem O8(hR:R C A N g st a w):∀ {rs:List ResultVar} {xs:List AV},C6 C st rs=some xs→∃ us,(rs.mapM (Z4 a.tmps)).run C.P w=.ok us w∧VRs g w xs us
 |[],xs,h=>by simp[C6]at h;subst h;exact⟨[],by simp,by simp[VRs]⟩
 | r::rs,xs,h=>by
  simp only[C6]at h;split at h
  ·rename_i y ys h1 h2;simp at h;subst h;obtain⟨u,k1,k2⟩:=Wv hR h1;obtain⟨us,m1,m2⟩:=O8 hR h2;refine⟨u::us,?_,by simp only[VRs];exact⟨k2,m2⟩⟩;rw[List.mapM_cons];simp only[Sem.run_bind,k1,m1,Result.andThen_ok,Sem.run_pure]
  ·cases h
theorem LV(hR:R C A N g st a w){fn:Func}{xs:List AV}(h:C6 C st fn.results.toList=some xs):∃ u,(results fn a.tmps).run C.P w=.ok u w∧VR g w (pack xs) u:=by
 obtain⟨us,k1,k2⟩:=O8 hR h;have hl:=VRs.length k2;rw[Ww,Array.mapM_eq_mapM_toList];simp only[Sem.run_bind,Sem.run_map,k1,Result.andThen_ok,Sem.run_pure]
 match xs,us,k2 with
 |[x],[u],k2 =>
  simp only[VRs]at k2;exact⟨u,by simp,by simpa [pack]using k2.1⟩
 |[],[],k2=>exact⟨_,rfl,by simp only[pack,VR];exact⟨_,rfl,k2⟩⟩
 | x::y::xs,u::v::us,k2=>exact⟨_,by simp;rfl,by simp only[pack,VR];exact⟨_,rfl,k2⟩⟩
 |[],_::_,k2=>simp[VRs]at k2
 |_::_,[],k2=>simp[VRs]at k2
 |[_],_::_::_,k2=>simp[VRs]at k2
 |_::_::_,[_],k2=>simp[VRs]at k2
def Rp(X:Env)(rs:List ResultVar)(y:AV)(o':List (Nat × List AV)):Ex→St→Prop
 |.exit _=>fun _=>False
 |_=>fun st=>∃ xs ρ,C6 X.C st rs=some xs∧ρ.OK∧(∀ s∈X.ext,lk s ρ.m=some s)∧BW ((pack xs).ren ρ) y∧FR (K5 ρ st) o'
def de(X:Env)(rs:List ResultVar)(S:AV→List (Nat × List AV)→Prop):Ex→St→Prop
 |.exit _=>fun _=>False
 |_=>fun st=>∃ xs ρ y o',S y o'∧C6 X.C st rs=some xs∧ρ.OK∧(∀ s∈X.ext,lk s ρ.m=some s)∧BW ((pack xs).ren ρ) y∧FR (K5 ρ st) o'
theorem FnP.mk'(ds:List Nat){f:Nat}{fn:Func}{c:Code}{xs:List AV}{o:List (Nat × List AV)}{S:AV→List (Nat × List AV)→Prop}(hf:C.P.funcs[f]?=some fn)(hname:(fn.name=="runtime.NumGoroutine")=false)(hb:fn.body=some c)
 (hok:E1 fn.ntmps c=true) (hargs:xs.length≤fn.ntmps) (hext:∀ s∈names o,s%64=63) (h:wpA ⟨C,names o,ds⟩ c (de ⟨C,names o,ds⟩ fn.results.toList S) ⟨Pe 0 xs,o⟩):FnP C f xs o S:=by
 refine⟨⟨fn,c,hf,hname,hb⟩,fun g w us hg hv ho=>calls_of_wp hf hb ?_⟩;have hl:=VRs.length hv;have hR:R C ⟨w,g,names o⟩ fn.ntmps g ⟨Pe 0 xs,o⟩ { tmps:=us.toArray++Array.replicate (fn.ntmps-us.toArray.size) undef,defers:=[] } w:=by
  refine⟨by simp;omega,rfl,fun k x hx=>?_,ho,⟨rfl,⟨rfl,Nat.le_refl _⟩,rfl,Nat.le_refl _,fun _ _ _=>⟨rfl,rfl⟩,fun _ _=>rfl,hg⟩⟩;obtain⟨_,h2⟩:=Te hx;obtain⟨u,hu,hv'⟩:=hv.get k x (by simpa using h2);refine⟨u,?_,hv'⟩;have hk:k<us.length:=by
   rcases Nat.lt_or_ge k us.length with h|h
   ·exact h
   ·rw[List.getElem?_eq_none h]at hu;cases hu
  rw[Array.getElem?_append_left (by simpa using hk)];simpa using hu
 have fin:∀ a' w',(∃ g st,R C ⟨w,g,names o⟩ fn.ntmps g st a' w'∧True)→True:=fun _ _ _=>trivial
 have key:∀ (g':Gh) (st':St) (a':Act) (w':World),R C ⟨w,g,names o⟩ fn.ntmps g' st' a' w' →
  (∃ xs' ρ y o',S y o'∧C6 C st' fn.results.toList=some xs'∧ρ.OK∧(∀ s∈names o,lk s ρ.m=some s)∧BW ((pack xs').ren ρ) y∧FR (K5 ρ st') o') →
  a'.defers=[]∧∃ v,(results fn a'.tmps).run C.P w'=.ok v w'∧(∃ y o',S y o'∧∃ u g2,Ending.returned v=.returned u∧Fr C ⟨w,g,names o⟩ g2 w'∧VR g2 w' y u∧∀ s cs,lk s o'=some cs→DE g2 w' s cs):=by
  intro g' st' a' w' hr ⟨xs',ρ,y,o',hS,h1,h2,h3,h4,h5⟩;obtain⟨u,k1,k2⟩:=LV hr h1;have hr2:=hr.renamed h2 h3;refine⟨hr.defs,u,k1,y,o',hS,u,g'.ren ρ g',rfl,hr2.fr,h4 _ _ _ (VR.ren h2 _ _ k2),fun s cs hs=>?_⟩;obtain⟨z,hz,hw⟩:=h5.lk hs;exact(hr2.ob s z hz).lift rfl (hr2.ob s z hz).1 rfl (fun us hu=>hw.AM _ _ _ hu)
 refine wp_mono (SD (X:=⟨C,names o,ds⟩) (A:=⟨w,g,names o⟩) rfl hext c _ g _ _ w hok h hR) fun e a' w' hq=>?_
 cases e with
 | normal=>obtain⟨g',st',hr,hk⟩:=hq;exact key g' st' a' w' hr hk
 | ret=>obtain⟨g',st',hr,hk⟩:=hq;exact key g' st' a' w' hr hk
 | exit id=>obtain⟨g',st',hr,hk⟩:=hq;exact hk.elim
 | goto l=>exact hq.elim
 | panic ch=>exact hq.elim
 | outgrown=>exact hq.elim
theorem Ad.mk'(ds:List Nat){f:Nat}{fn:Func}{c:Code}{xs:List AV}{o o':List (Nat × List AV)}{y:AV}(hf:C.P.funcs[f]?=some fn)(hname:(fn.name=="runtime.NumGoroutine")=false)(hb:fn.body=some c)
 (hok:E1 fn.ntmps c=true) (hargs:xs.length≤fn.ntmps) (hext:∀ s∈names o,s%64=63) (h:wpA ⟨C,names o,ds⟩ c (Rp ⟨C,names o,ds⟩ fn.results.toList y o') ⟨Pe 0 xs,o⟩):Ad C f xs o y o':=by
 refine⟨⟨fn,c,hf,hname,hb⟩,fun g w us hg hv ho=>calls_of_wp hf hb ?_⟩;have hl:=VRs.length hv;have hR:R C ⟨w,g,names o⟩ fn.ntmps g ⟨Pe 0 xs,o⟩ { tmps:=us.toArray++Array.replicate (fn.ntmps-us.toArray.size) undef,defers:=[] } w:=by
  refine⟨by simp;omega,rfl,fun k x hx=>?_,ho,⟨rfl,⟨rfl,Nat.le_refl _⟩,rfl,Nat.le_refl _,fun _ _ _=>⟨rfl,rfl⟩,fun _ _=>rfl,hg⟩⟩;obtain⟨_,h2⟩:=Te hx;obtain⟨u,hu,hv'⟩:=hv.get k x (by simpa using h2);refine⟨u,?_,hv'⟩;have hk:k<us.length:=by
   rcases Nat.lt_or_ge k us.length with h|h
   ·exact h
   ·rw[List.getElem?_eq_none h]at hu;cases hu
  rw[Array.getElem?_append_left (by simpa using hk)];simpa using hu
 have fin:∀ a' w',(∃ g st,R C ⟨w,g,names o⟩ fn.ntmps g st a' w'∧True)→True:=fun _ _ _=>trivial
 have key:∀ (g':Gh) (st':St) (a':Act) (w':World),R C ⟨w,g,names o⟩ fn.ntmps g' st' a' w' →
  (∃ xs' ρ,C6 C st' fn.results.toList=some xs'∧ρ.OK∧(∀ s∈names o,lk s ρ.m=some s)∧BW ((pack xs').ren ρ) y∧FR (K5 ρ st') o') →
  a'.defers=[]∧∃ v,(results fn a'.tmps).run C.P w'=.ok v w'∧(∃ u g2,Ending.returned v=.returned u∧Fr C ⟨w,g,names o⟩ g2 w'∧VR g2 w' y u∧∀ s cs,lk s o'=some cs→DE g2 w' s cs):=by
  intro g' st' a' w' hr ⟨xs',ρ,h1,h2,h3,h4,h5⟩;obtain⟨u,k1,k2⟩:=LV hr h1;have hr2:=hr.renamed h2 h3;refine⟨hr.defs,u,k1,u,g'.ren ρ g',rfl,hr2.fr,h4 _ _ _ (VR.ren h2 _ _ k2),fun s cs hs=>?_⟩;obtain⟨z,hz,hw⟩:=h5.lk hs;exact(hr2.ob s z hz).lift rfl (hr2.ob s z hz).1 rfl (fun us hu=>hw.AM _ _ _ hu)
 refine wp_mono (SD (X:=⟨C,names o,ds⟩) (A:=⟨w,g,names o⟩) rfl hext c _ g _ _ w hok h hR) fun e a' w' hq=>?_
 cases e with
 | normal=>obtain⟨g',st',hr,hk⟩:=hq;exact key g' st' a' w' hr hk
 | ret=>obtain⟨g',st',hr,hk⟩:=hq;exact key g' st' a' w' hr hk
 | exit id=>obtain⟨g',st',hr,hk⟩:=hq;exact hk.elim
 | goto l=>exact hq.elim
 | panic ch=>exact hq.elim
 | outgrown=>exact hq.elim
theorem Ad.intro{f:Nat}{fn:Func}{c:Code}{xs:List AV}{o o':List (Nat × List AV)}{y:AV}(hf:C.P.funcs[f]?=some fn)(hname:(fn.name=="runtime.NumGoroutine")=false)(hb:fn.body=some c)
 (hok:E1 fn.ntmps c=true) (hargs:xs.length≤fn.ntmps) (hext:∀ s∈names o,s%64=63) (h:wpA ⟨C,names o,[]⟩ c (Rp ⟨C,names o,[]⟩ fn.results.toList y o') ⟨Pe 0 xs,o⟩):Ad C f xs o y o':=Ad.mk' [] hf hname hb hok hargs hext h
theorem FnP.intro{f:Nat}{fn:Func}{c:Code}{xs:List AV}{o:List (Nat × List AV)}{S:AV→List (Nat × List AV)→Prop}(hf:C.P.funcs[f]?=some fn)(hname:(fn.name=="runtime.NumGoroutine")=false)(hb:fn.body=some c)
 (hok:E1 fn.ntmps c=true) (hargs:xs.length≤fn.ntmps) (hext:∀ s∈names o,s%64=63) (h:wpA ⟨C,names o,[]⟩ c (de ⟨C,names o,[]⟩ fn.results.toList S) ⟨Pe 0 xs,o⟩):FnP C f xs o S:=FnP.mk' [] hf hname hb hok hargs hext h
end
end Go.Abs
