/- part 9 of the proof -/
import Derived.ChangeShapes
import Derived.OpenShut
import Derived.RowKit
import Derived.Below
import Derived.ChangeSame
import Derived.WideKeyArgs
import Derived.KernelRfl
import Derived.Test.YteliegkcmjimoaaGreatDoorV08
set_option linter.all false
namespace Go.Abs
def EI(v:Option AV)(p:List Nat)(cr:List (Nat × List Nat × List Nat))(d:Option Nat)(K:St->Prop)(st:St):Prop:=match v with
 |some x=>away cr p ⟨x,[],[],[]⟩/\K (st.put d x)
 |none=>False
def Bc(X:Env)(d:Option Nat)(EG:Nat)(xs:List AV)(Ah:List (Nat × List AV))(p:List Nat)(i:Nat)(cr:List (Nat × List Nat × List Nat))(K:List (Nat × List Nat × List Nat)->St->Prop)(st:St):Prop :=
 ∃ v ob y IC,v.OK ob/\(rngs v.fm).all (λs=>s%32 !=31)=true/\v.ρ.m=[]/\Ac X.C EG (E2 v.ρ xs) ob y IC/\Has v ⟨[],Ah⟩ ob/\(v.ρ.bs=[]\/(Flat (y.BS v.back)/\Jy (ET v.back IC))) /\
  Mx (rngs v.back.l) (rngs v.fm) st.tmps/\Gb (rngs v.back.l) (rngs v.fm) st.Ah/\away cr p ⟨y.BS v.back,rngs v.back.l,rngs v.fm,ET v.back IC⟩ /\
  K (Ir i ⟨y.BS v.back,rngs v.back.l,rngs v.fm,ET v.back IC⟩ cr) ⟨(St.put d (y.BS v.back) st).tmps,ET v.back IC++st.Ah⟩
def PG(X:Env)(d:Option Nat)(f:AV)(xs:List AV)(Ah:List (Nat × List AV))(p:List Nat)(i:Nat)(cr:List (Nat × List Nat × List Nat))(K:List (Nat × List Nat × List Nat)->St->Prop)(st:St):Prop :=
 match f with
 |.fn EG Bi=>Bc X d EG (xs++Bi) Ah p i cr K st
 |_=>False
def QK(k:Nat)(zs:List Value)(p:List Nat)(i:Nat)(cr:List (Nat × List Nat × List Nat))(K:List (Nat × List Nat × List Nat)->St->Prop)(st:St):Prop :=
 Mx [] [nm k] st.tmps/\Gb [] [nm k] st.Ah/\away cr p ⟨.ptr (nm k) 0,[],[nm k],[(nm k,vals zs)]⟩ /\
  K (Ir i ⟨.ptr (nm k) 0,[],[nm k],[(nm k,vals zs)]⟩ cr) ⟨(k,.ptr (nm k) 0)::st.tmps,(nm k,vals zs)::st.Ah⟩
def Iu(X:Env)(o:Oper)(Ah:List (Nat × List AV))(r:St)(p:List Nat)(i:Nat)(cr:List (Nat × List Nat × List Nat))(K:List (Nat × List Nat × List Nat)->St->Prop)(st:St):Prop :=
 match o.op with
 |.call ⟨.value f,args,_⟩=>PG X o.dst (ev X.C r f) (Dk X.C r args.toList) Ah p i cr K st
 |.alloc t=>match o.dst,zeroOf X.C.P t with
  |some k,some zs=>QK k zs p i cr K st
  |_,_=>False
 |.call ⟨.builtin .append,args,tys⟩=>match args.toList,tys.toList with
  |[x,y],[t,t2]=>EI (O3 X.C.P t t2 (ev X.C r x) (ev X.C r y)) p cr o.dst (K cr) st
  |_,_=>False
 |.buildSlice t len ps=>EI (lg X.C.P t len (parts X.C r ps)) p cr o.dst (K cr) st
 |_=>EI (fh X.C o r) p cr o.dst (K cr) st
def Bj(X:Env)(all:Array Oper)(Ah:List (Nat × List AV)):List Oper->List (List Nat × List Nat)->Nat->(St->Prop)->List (Nat × List Nat × List Nat)->St->Prop
 |[],_,_,K,_,st=>K st
 |_::_,[],_,_,_,_=>False
 | o::os,(p,ts)::tab,i,K,cr,st =>
  o.dst.isSome=true/\match o.guard with
  |none=>Iu X o Ah ⟨restr st ts,Ah⟩ p i cr (Bj X all Ah os tab (i+1) K) st
  |some (j,b)=>match guardOf all j ⟨restr st ts,Ah⟩ with
   |some (.v (.bool b'))=>FT b' b (Iu X o Ah ⟨restr (st.learn (gdst all j) b) ts,Ah⟩ p i cr (Bj X all Ah os tab (i+1) K) (st.learn (gdst all j) b)) (away cr p ⟨.Bl [],[],[],[]⟩/\Bj X all Ah os tab (i+1) K cr ((st.learn (gdst all j) (!b)).put o.dst (.Bl [])))
   |some (.Bl [])=>away cr p ⟨.Bl [],[],[],[]⟩/\Bj X all Ah os tab (i+1) K cr (st.put o.dst (.Bl []))
   |_=>False
section
variable {X:Env} {all:Array Oper} {Ah:List (Nat × List AV)}
def OO{ρ:Rn}:∀ {o:List (Nat × List AV)} {s:Nat},s∈names (ET ρ o)->s∈rngs ρ.m
 |[],s,h=>by simp[ET,names]at h
 |(k,c)::o,s,h=>by
  simp only[ET,List.filterMap_cons]at h;cases hk:lk k ρ.m with
  |none=>rw[hk]at h;exact OO (o:=o) h
  |some k' =>
   rw[hk]at h;simp only[Option.map_some,names,List.map_cons,List.mem_cons]at h;rcases h with h|h
   ·subst h;simp only[rngs,List.mem_map];exact⟨_,Jk hk,rfl⟩
   ·exact OO (o:=o) h
def QL{o:Oper}{r st:St}{p:List Nat}{i:Nat}{cr:List (Nat × List Nat × List Nat)}{K:List (Nat × List Nat × List Nat)->St->Prop}(hr:r.Ah=Ah)(hd:o.dst.isSome=true)(h:Iu X o Ah r p i cr K st) :
 Ls X o r st p cr λe=>o.dst.isSome=true/\K (Ir i e cr) ⟨(St.put o.dst e.x st).tmps,e.GY++st.Ah⟩:=by
 subst hr;unfold Iu at h;split at h
 ·rename_i f args ts ho;unfold PG at h;split at h
  ·rename_i EG Bi hf;obtain⟨v,ob,y,IC,h1,h2,hm,h3,h4,h5,h6,h7,h8,h9⟩:=h;rw[Lh]at h3;have Cc:rngs v.back.m=rngs v.fm:=by simp[Way.back,hm,inv]
   refine⟨⟨y.BS v.back,rngs v.back.l,rngs v.fm,ET v.back IC⟩,?_,h2,λs hs=>?_,h6,h7,h8,hd,h9⟩
   ·have:=wZ (st:=r) ho rfl hf h1 h3 (λs' cs hs=>h4 s' cs hs) h5;rw[Cc]at this;exact this
   ·rw[<- Cc];exact OO hs
  ·cases h
 ·rename_i t ho;split at h
  ·rename_i k zs xL hz;obtain⟨h6,h7,h8,h9⟩:=h;refine⟨⟨.ptr (nm k) 0,[],[nm k],[(nm k,vals zs)]⟩,si ho xL hz,?_,λs hs=>by simpa [names]using hs,h6,h7,h8,hd,?_⟩
   ·simp only[nm,List.all_cons,List.all_nil,Bool.and_true,bne_iff_ne,ne_eq];omega
   ·simp only[xL,St.put];exact h9
  ·cases h
 ·rename_i args tys ho;split at h
  ·rename_i x y t t2 hxy htt;unfold EI at h;split at h
   ·rename_i z hz;obtain⟨h8,h9⟩:=h;rw[Qy hxy,Qy htt]at ho;refine⟨⟨z,[],[],[]⟩,jb ho hz,rfl,(λs hs=>by simp[names]at hs),My _,Kz _,h8,hd,?_⟩;have e:∀ s:St,(St.put o.dst z s)=⟨(St.put o.dst z s).tmps,s.Ah⟩:=λs=>by cases o.dst<;>rfl
    simp only[Ir,List.nil_append];rw[<- e];exact h9
   ·cases h
  ·cases h
 ·rename_i t len ps ho;unfold EI at h;split at h
  ·rename_i x hx;obtain⟨h8,h9⟩:=h;refine⟨⟨x,[],[],[]⟩,lh ho hx,rfl,(λs hs=>by simp[names]at hs),My _,Kz _,h8,hd,?_⟩;have e:∀ s:St,(St.put o.dst x s)=⟨(St.put o.dst x s).tmps,s.Ah⟩:=λs=>by cases o.dst<;>rfl
   simp only[Ir,List.nil_append];rw[<- e];exact h9
  ·cases h
 ·unfold EI at h;split at h
  ·rename_i x hx;obtain⟨h8,h9⟩:=h;refine⟨⟨x,[],[],[]⟩,yX hx,rfl,(λs hs=>by simp[names]at hs),My _,Kz _,h8,hd,?_⟩;have e:∀ s:St,(St.put o.dst x s)=⟨(St.put o.dst x s).tmps,s.Ah⟩:=λs=>by cases o.dst<;>rfl
   simp only[Ir,List.nil_append];rw[<- e];exact h9
  ·cases h
def Ls.mono{o:Oper}{r st:St}{p:List Nat}{cr:List (Nat × List Nat × List Nat)}{K K':Bo->Prop}(h:Ls X o r st p cr K)(hk:∀ e,K e->K' e):Ls X o r st p cr K':=by
 obtain⟨e,h1,h2,h3,h4,h5,h6,h7⟩:=h;exact⟨e,h1,h2,h3,h4,h5,h6,hk e h7⟩
def GN{K:St->Prop}:∀ (os:List Oper) (tab:List (List Nat × List Nat)) (i:Nat) (cr:List (Nat × List Nat × List Nat)) (st:St),Bj X all Ah os tab i K cr st->FG X all Ah os tab i cr K st
 |[],tab,i,cr,st,h=>h
 |_::_,[],_,_,_,h=>h
 | o::os,(p,ts)::tab,i,cr,st,h=>by
  simp only[Bj]at h;obtain⟨hd,h⟩:=h;simp only[FG];have run:=fun(st:St) (h:Iu X o Ah ⟨restr st ts,Ah⟩ p i cr (Bj X all Ah os tab (i+1) K) st)=>(QL rfl hd h).mono λe he=>(⟨he.1,GN os tab (i+1) _ _ he.2⟩:o.dst.isSome=true/\FG X all Ah os tab (i+1) (Ir i e cr) K ⟨(St.put o.dst e.x st).tmps,e.GY++st.Ah⟩)
  split at h
  ·rename_i hg;(try rw[hg]);exact run st h
  ·rename_i j b hg
   (try rw[hg])
   try simp only
   split at h
   ·rename_i b' hb
    (try rw[hb])
    exact⟨λhe=>run _ (h.1 he),λhe=>⟨hd,(h.2 he).1,GN os tab (i+1) _ _ (h.2 he).2⟩⟩
   ·rename_i hb
    (try rw[hb])
    exact⟨hd,h.1,GN os tab (i+1) _ _ h.2⟩
   ·exact h.elim
def zq{ops:List Oper}{K:St->Prop}{st:St}(k:Nat)(tab:List (List Nat × List Nat))(hm:X.C.P.follows .mixedOrders=true)(Ce:UA ops.toArray k tab=true)
 (h:Bj X ops.toArray st.Ah (ops.take k) tab 0 (Bg X ops.toArray (ops.drop k) K) [] st):JG X ops.toArray K st :=
 Tx k tab hm Ce (by simpa using GN _ _ _ _ _ h)
def AF{d:Option Nat}{EG:Nat}{xs Qq:List AV}{p:List Nat}{i:Nat}{cr:List (Nat × List Nat × List Nat)}{K:List (Nat × List Nat × List Nat)->St->Prop}{st:St}{y:AV}{ob IC:List (Nat × List AV)}(v:Way)(Ce:Ac X.C EG Qq ob y IC)(hx:Af (E2 v.ρ xs) Qq)(hv:Im v ob=true)(hm:v.ρ.m=[])(hh:fx v ⟨[],Ah⟩ ob)
 (NW:v.ρ.bs=[]\/(Flat (y.BS v.back)/\Jy (ET v.back IC)))
 (h:Mx (rngs v.back.l) (rngs v.fm) st.tmps/\Gb (rngs v.back.l) (rngs v.fm) st.Ah/\away cr p ⟨y.BS v.back,rngs v.back.l,rngs v.fm,ET v.back IC⟩ /\
  K (Ir i ⟨y.BS v.back,rngs v.back.l,rngs v.fm,ET v.back IC⟩ cr) ⟨(St.put d (y.BS v.back) st).tmps,ET v.back IC++st.Ah⟩):Bc X d EG xs Ah p i cr K st:=by
 exact⟨v,ob,y,IC,(Im.ok hv).1,(Im.ok hv).2,hm,Ce.An hx.AI,hh.has,NW,h⟩
end
@[go_sem] theorem tG(x:AV)(p:List Nat)(cr:List (Nat × List Nat × List Nat))(d:Option Nat)(K:St->Prop)(st:St):EI (some x) p cr d K st=(away cr p ⟨x,[],[],[]⟩/\K (st.put d x)):=rfl
@[go_sem] theorem rf(X:Env)(d:Option Nat)(EG:Nat)(Bi xs:List AV)(Ah:List (Nat × List AV))(p:List Nat)(i:Nat)(cr:List (Nat × List Nat × List Nat))(K:List (Nat × List Nat × List Nat)->St->Prop)(st:St):PG X d (.fn EG Bi) xs Ah p i cr K st=Bc X d EG (xs++Bi) Ah p i cr K st:=rfl
@[go_sem] theorem wU(p:List Nat)(r:Bo):away [] p r=True:=rfl
@[go_sem] theorem vx(i:Nat)(S T:List Nat)(l:List (Nat × List Nat × List Nat))(p:List Nat)(r:Bo):away ((i,S,T)::l) p r=((i∈p\/(r.x.kill S T=r.x/\Gb S T r.GY))/\away l p r):=rfl
@[go_sem] theorem wz(st:St):restr st []=[]:=rfl
@[go_sem] theorem vi(st:St)(t:Nat)(ts:List Nat):restr st (t::ts)=(match lk t st.tmps with
 |some x=>(t,x)::restr st ts
 |none=>restr st ts):=rfl
@[go_sem] theorem xb(i:Nat)(x:AV)(u:List (Nat × List AV))(cr:List (Nat × List Nat × List Nat)):Ir i ⟨x,[],[],u⟩ cr=cr:=rfl
@[go_sem] theorem Aat(i s:Nat)(S T:List Nat)(x:AV)(u:List (Nat × List AV))(cr:List (Nat × List Nat × List Nat)):Ir i ⟨x,s::S,T,u⟩ cr=(i,s::S,T)::cr:=rfl
@[go_sem] theorem Aau(i s:Nat)(T:List Nat)(x:AV)(u:List (Nat × List AV))(cr:List (Nat × List Nat × List Nat)):Ir i ⟨x,[],s::T,u⟩ cr=(i,[],s::T)::cr:=rfl
attribute [go_sem] QK Mx Gb
section
variable (X:Env) (all:Array Oper) (Ah:List (Nat × List AV)) (K:St->Prop) (os:List Oper) (p ts:List Nat) (tab:List (List Nat × List Nat)) (i:Nat) (cr:List (Nat × List Nat × List Nat)) (st:St) (d:Nat) (ty:TypeId) (pos:String) (GX:Array Edge)
@[go_sem] theorem vO(tab:List (List Nat × List Nat)):Bj X all Ah [] tab i K cr st=K st:=rfl
@[go_sem] theorem vM(op:Op)(j:Nat)(b:Bool):Bj X all Ah (⟨some d,op,ty,pos,GX,some (j,b)⟩::os) ((p,ts)::tab) i K cr st =
 (match guardOf all j ⟨restr st ts,Ah⟩ with
  |some (.v (.bool b'))=>FT b' b (Bj X all Ah (⟨some d,op,ty,pos,GX,none⟩::os) ((p,ts)::tab) i K cr (st.learn (gdst all j) b)) (away cr p ⟨.Bl [],[],[],[]⟩/\Bj X all Ah os tab (i+1) K cr ((st.learn (gdst all j) (!b)).put (some d) (.Bl [])))
  |some (.Bl [])=>away cr p ⟨.Bl [],[],[],[]⟩/\Bj X all Ah os tab (i+1) K cr (st.put (some d) (.Bl []))
  |_=>False):=by
 have e:∀ r KK st,Iu X ⟨some d,op,ty,pos,GX,some (j,b)⟩ Ah r p i cr KK st=Iu X ⟨some d,op,ty,pos,GX,none⟩ Ah r p i cr KK st:=λr KK st=>by cases op<;>rfl
 simp only[Bj,Option.isSome_some,true_and,e]
@[go_sem] theorem xp(f:Operand)(args:Array Operand)(tys:Array TypeId):Bj X all Ah (⟨some d,.call ⟨.value f,args,tys⟩,ty,pos,GX,none⟩::os) ((p,ts)::tab) i K cr st=PG X (some d) (ev X.C ⟨restr st ts,Ah⟩ f) (Dk X.C ⟨restr st ts,Ah⟩ args.toList) Ah p i cr (Bj X all Ah os tab (i+1) K) st:=by
 simp only[Bj,Option.isSome_some,true_and];rfl
@[go_sem] theorem vJ(t:TypeId):Bj X all Ah (⟨some d,.alloc t,ty,pos,GX,none⟩::os) ((p,ts)::tab) i K cr st=(match zeroOf X.C.P t with
  |some zs=>QK d zs p i cr (Bj X all Ah os tab (i+1) K) st
  |none=>False):=by
 simp only[Bj,Option.isSome_some,true_and,Iu];cases zeroOf X.C.P t<;>rfl
@[go_sem] theorem xr(x:Operand):Bj X all Ah (⟨some d,.move x,ty,pos,GX,none⟩::os) ((p,ts)::tab) i K cr st=EI (some (ev X.C ⟨restr st ts,Ah⟩ x)) p cr (some d) (Bj X all Ah os tab (i+1) K cr) st:=by
 simp only[Bj,Option.isSome_some,true_and];rfl
@[go_sem] theorem tF(x:Operand):Bj X all Ah (⟨some d,.assign x,ty,pos,GX,none⟩::os) ((p,ts)::tab) i K cr st=EI (some (ev X.C ⟨restr st ts,Ah⟩ x)) p cr (some d) (Bj X all Ah os tab (i+1) K cr) st:=by
 simp only[Bj,Option.isSome_some,true_and];rfl
@[go_sem] theorem xu(c a b:Operand):Bj X all Ah (⟨some d,.pick c a b,ty,pos,GX,none⟩::os) ((p,ts)::tab) i K cr st=EI (MU (ev X.C ⟨restr st ts,Ah⟩ c) (ev X.C ⟨restr st ts,Ah⟩ a) (ev X.C ⟨restr st ts,Ah⟩ b)) p cr (some d) (Bj X all Ah os tab (i+1) K cr) st:=by
 simp only[Bj,Option.isSome_some,true_and];rfl
@[go_sem] theorem xq(t:TypeId)(x:Operand):Bj X all Ah (⟨some d,.load t x,ty,pos,GX,none⟩::os) ((p,ts)::tab) i K cr st=EI (Ug X.C t (ev X.C ⟨restr st ts,Ah⟩ x) Ah) p cr (some d) (Bj X all Ah os tab (i+1) K cr) st:=by
 simp only[Bj,Option.isSome_some,true_and];rfl
@[go_sem] theorem mJ(t:TypeId)(x:Operand)(n:Nat):Bj X all Ah (⟨some d,.fieldAddr t x n,ty,pos,GX,none⟩::os) ((p,ts)::tab) i K cr st=EI ((match Bk X.C.P t n with
  |some off=>Oz off (ev X.C ⟨restr st ts,Ah⟩ x)
  |none=>none)) p cr (some d) (Bj X all Ah os tab (i+1) K cr) st:=by
 simp only[Bj,Option.isSome_some,true_and];rfl
@[go_sem] theorem mK(t:TypeId)(x y:Operand):Bj X all Ah (⟨some d,.indexAddr t x y,ty,pos,GX,none⟩::os) ((p,ts)::tab) i K cr st=EI (QZ X.C t (ev X.C ⟨restr st ts,Ah⟩ x) (ev X.C ⟨restr st ts,Ah⟩ y)) p cr (some d) (Bj X all Ah os tab (i+1) K cr) st:=by
 simp only[Bj,Option.isSome_some,true_and];rfl
@[go_sem] theorem pj(x:Operand):Bj X all Ah (⟨some d,.nilCheck x,ty,pos,GX,none⟩::os) ((p,ts)::tab) i K cr st=EI (KN (ev X.C ⟨restr st ts,Ah⟩ x)) p cr (some d) (Bj X all Ah os tab (i+1) K cr) st:=by
 simp only[Bj,Option.isSome_some,true_and];rfl
@[go_sem] theorem vK(op:BinOp)(t t2:TypeId)(x y:Operand):Bj X all Ah (⟨some d,.binOp op t x y t2,ty,pos,GX,none⟩::os) ((p,ts)::tab) i K cr st=EI (bj X.C.P op t (ev X.C ⟨restr st ts,Ah⟩ x) (ev X.C ⟨restr st ts,Ah⟩ y)) p cr (some d) (Bj X all Ah os tab (i+1) K cr) st:=by
 simp only[Bj,Option.isSome_some,true_and];rfl
@[go_sem] theorem xv(op:UnOp)(t:TypeId)(x:Operand):Bj X all Ah (⟨some d,.unOp op t x,ty,pos,GX,none⟩::os) ((p,ts)::tab) i K cr st=EI (vq op (ev X.C ⟨restr st ts,Ah⟩ x)) p cr (some d) (Bj X all Ah os tab (i+1) K cr) st:=by
 simp only[Bj,Option.isSome_some,true_and];rfl
@[go_sem] theorem rb(s t:TypeId)(x:Operand):Bj X all Ah (⟨some d,.convert s t x,ty,pos,GX,none⟩::os) ((p,ts)::tab) i K cr st=EI (Y6 X.C.P s t (ev X.C ⟨restr st ts,Ah⟩ x)) p cr (some d) (Bj X all Ah os tab (i+1) K cr) st:=by
 simp only[Bj,Option.isSome_some,true_and];rfl
@[go_sem] theorem re(x:Operand)(n:Nat):Bj X all Ah (⟨some d,.extract x n,ty,pos,GX,none⟩::os) ((p,ts)::tab) i K cr st=EI (Kx n (ev X.C ⟨restr st ts,Ah⟩ x)) p cr (some d) (Bj X all Ah os tab (i+1) K cr) st:=by
 simp only[Bj,Option.isSome_some,true_and];rfl
@[go_sem] theorem vL(t:TypeId)(ps:Array (Nat × Operand)):Bj X all Ah (⟨some d,.build t ps,ty,pos,GX,none⟩::os) ((p,ts)::tab) i K cr st=EI (QB X.C t (Ix X.C ⟨restr st ts,Ah⟩ ps.toList)) p cr (some d) (Bj X all Ah os tab (i+1) K cr) st:=by
 simp only[Bj,Option.isSome_some,true_and];rfl
@[go_sem] theorem vN(t:TypeId)(x:Operand)(lo hi mx:Option Operand):Bj X all Ah (⟨some d,.slice t x lo hi mx,ty,pos,GX,none⟩::os) ((p,ts)::tab) i K cr st=EI ((if X1 (ev X.C ⟨restr st ts,Ah⟩ x)&&mx.isSome then (Xi X.C ⟨restr st ts,Ah⟩ t (ev X.C ⟨restr st ts,Ah⟩ x) lo hi mx).map (·.1) else (HW X.C ⟨restr st ts,Ah⟩ t (ev X.C ⟨restr st ts,Ah⟩ x) lo hi mx).map (·.1))) p cr (some d) (Bj X all Ah os tab (i+1) K cr) st:=by
 simp only[Bj,Option.isSome_some,true_and];rfl
@[go_sem] theorem ey(t:TypeId)(x:Operand):Bj X all Ah (⟨some d,.makeInterface t x,ty,pos,GX,none⟩::os) ((p,ts)::tab) i K cr st=EI ((if X.C.P.concrete t then some (.Gc t (ev X.C ⟨restr st ts,Ah⟩ x)) else none)) p cr (some d) (Bj X all Ah os tab (i+1) K cr) st:=by
 simp only[Bj,Option.isSome_some,true_and];rfl
@[go_sem] theorem zu(x:Operand)(t:TypeId):Bj X all Ah (⟨some d,.call ⟨.builtin .len,#[x],#[t]⟩,ty,pos,GX,none⟩::os) ((p,ts)::tab) i K cr st=EI ((if MJ X.C.P t (ev X.C ⟨restr st ts,Ah⟩ x)=true then Q4 (ev X.C ⟨restr st ts,Ah⟩ x) else none)) p cr (some d) (Bj X all Ah os tab (i+1) K cr) st:=by
 simp only[Bj,Option.isSome_some,true_and];rfl
@[go_sem] theorem tE(x y:Operand)(t t2:TypeId):Bj X all Ah (⟨some d,.call ⟨.builtin .append,#[x,y],#[t,t2]⟩,ty,pos,GX,none⟩::os) ((p,ts)::tab) i K cr st=EI ((O3 X.C.P t t2 (ev X.C ⟨restr st ts,Ah⟩ x) (ev X.C ⟨restr st ts,Ah⟩ y))) p cr (some d) (Bj X all Ah os tab (i+1) K cr) st:=by
 simp only[Bj,Option.isSome_some,true_and];rfl
@[go_sem] theorem kj(t:TypeId)(len:Nat)(ps:Array (Nat × Operand)):Bj X all Ah (⟨some d,.buildSlice t len ps,ty,pos,GX,none⟩::os) ((p,ts)::tab) i K cr st=EI (lg X.C.P t len (Ix X.C ⟨restr st ts,Ah⟩ ps.toList)) p cr (some d) (Bj X all Ah os tab (i+1) K cr) st:=by
 simp only[Bj,Option.isSome_some,true_and,Iu,KR]
end
attribute [go_sem] Y6 X1 O3 lg X3
end Go.Abs
namespace Go.Abs
open Go Go.ChangeShapes Go.WideShapes Go.RowKit
mutual
def wH{H:Type}:DataW H->Nat
 |.lit (.string b)=>b.length+1
 |.lit _=>1
 |.nil=>1
 |.ptr d=>wH d+1
 |.slice a b=>iM a+iM b+1
 |.agg a=>iM a+1
 |.iface _ d=>wH d+1
 |.map _=>1
 |.held _=>1
def iM{H:Type}:List (DataW H)->Nat
 |[]=>0
 | d::r=>wH d+iM r
end
def Ut{ro:Nat->Prop}{w:World}{ad:Addr}:∀ {xs:List AV} {us:List Value} {j:Nat},B3 ro w xs us->(∀ k,k<us.length->w.cell? (ad.add (j+k))=us[k]?)->Cu ro w xs ad j
 |[],[],_,_,_=>by simp[Cu]
 | x::xs,u::us,j,h,hc=>by
  simp only[Cu];refine⟨⟨u,by simpa using hc 0 (by simp),h.1⟩,Ut h.2 λk hk=>?_⟩;have:=hc (k+1) (by simp;omega);rw[show j+1+k=j+(k+1) by omega];simpa using this
 |[],_::_,_,h,_=>False.elim h
 |_::_,[],_,h,_=>False.elim h
def Cod(P:Program)(t:TypeId){α:Type}(e:α->List AV)(m:α->Nat)(Q:α->Prop):Prop :=
 ∀ (H:Type) (enc:TypeId × Value->H) (w:World) (fuel:Nat) (cs:List Value) (x:DataW H × List MemPlace),DataW.trod enc P w 0 (λ_=>true) true fuel t cs=some x ->
  ∃ a,Q a/\m a<=wH x.1/\B3 (λb=>b<w.heap.size) w (e a) cs
variable {P:Program} {t:TypeId}
def yj{k:IntKind}(ht:P.underlying t=some (.int k)):Cod P t (λn:Int=>[.v (.int k n)]) (λ_=>1) (λn=>(Lit.int k n).wf=true):=by
 intro H enc w fuel cs x h;obtain⟨n,rfl,rfl,hw⟩:=DataW.trod_int ht h;exact⟨n,hw,by simp[wH],⟨rfl,by simp[Value.oneCell']⟩,trivial⟩
def xx(ht:P.underlying t=some .string):Cod P t (λs:ByteArray=>[.v (.string s)]) (λs=>s.size+1) (λs=>s.size<=maxLen):=by
 intro H enc w fuel cs x h;obtain⟨s,rfl,rfl,hs⟩:=DataW.trod_string ht h;exact⟨s,hs,by simp only[wH,Array.length_toList];exact Nat.le_refl _,⟨rfl,by simp[Value.oneCell']⟩,trivial⟩
def YC(a:Addr)(i j:Nat):(a.add i).add j=a.add (i+j):=Addr.add_add a i j
def P8{ro:Nat->Prop}{w:World}{ad:Addr}{n:Nat}{α:Type}{e:α->List AV} :
 ∀ {xs:List α} {i:Nat},(∀ k x,xs[k]?=some x->∃ cs,w.cells? 0 (ad.add ((i+k)*n)) n=some cs/\B3 ro w (e x) cs)->CH ro w (xs.map e) ad n i
 |[],_,_=>by simp[CH]
 | x::xs,i,h=>by
  simp only[List.map_cons,CH];obtain⟨cs,RR,hp⟩:=h 0 x rfl;obtain⟨_,hl,hc⟩:=World.cells?_some RR;refine⟨hp.length.trans hl,Ut hp λk hk=>?_,P8 λk y hy=>?_⟩
  ·rw[<- YC];exact hc k (by omega)
  ·have:=h (k+1) y (by simpa using hy)
   rwa [show i+1+k=i+(k+1) by omega]
def sj{H:Type}:∀ {ds:List (DataW H)} {α:Type} {m:α->Nat} {xs:List α},xs.length=ds.length->(∀ (k:Nat) (x:α) (d:DataW H),xs[k]?=some x->ds[k]?=some d->m x<=wH d)->(xs.map m).sum<=iM ds
 |[],_,_,[],_,_=>by simp
 | d::ds,α,m,x::xs,hl,h=>by
  simp only[List.map_cons,List.sum_cons,iM];have h0:=h 0 x d rfl rfl;have:=sj (m:=m) (xs:=xs) (ds:=ds) (by simpa using hl) λk y d hy hd=>h (k+1) y d (by simpa using hy) (by simpa using hd)
  omega
 |[],_,_,_::_,hl,_=>by simp at hl
 |_::_,_,_,[],hl,_=>by simp at hl
def pick{α β:Type}{q:Nat->β->Prop}{R:Nat->α->β->Prop}:∀ (n:Nat) (l:List β),l.length=n->(∀ i y,l[i]?=some y->∃ x,R i x y)->∃ xs:List α,xs.length=n/\∀ i x y,xs[i]?=some x->l[i]?=some y->R i x y:=by
 intro n
 induction n generalizing R with
 | zero=>intro l hl h;exact⟨[],rfl,λi x y hx=>by simp at hx⟩
 | succ n ih =>
  intro l hl h;cases l with
  | nil=>simp at hl
  | cons y l =>
   obtain⟨x,hx⟩:=h 0 y rfl;obtain⟨xs,iU,mT⟩:=ih (R:=λi=>R (i+1)) l (by simpa using hl) λi y hy=>h (i+1) y (by simpa using hy)
   refine⟨x::xs,by simp[iU],λi a b ha hb=>?_⟩;cases i with
   | zero=>simp at ha hb;subst ha;subst hb;exact hx
   | succ i=>exact mT i a b (by simpa using ha) (by simpa using hb)
def Aad{el:TypeId}{α:Type}{e:α->List AV}{m:α->Nat}{Q:α->Prop}{n:Nat}(he:Cod P el e m Q)(ht:P.underlying t=some (.slice el))(hc:P.cellsOf el=n)(hn:0<n) :
 Cod P t (λxs:List α=>[.sl .no n (xs.map e)]) (λxs=>(xs.map m).sum+1) (λxs=>∀ x∈xs,Q x):=by
 intro H enc w fuel cs x h;rcases DataW.trod_slice ht h with ⟨rfl,rfl⟩|⟨a,len,cap,elems,rest,k,rfl,rfl,rfl,_,hl,hm,hlen,a6,_,_⟩
 ·refine⟨[],by simp,by simp[wH],?_,trivial⟩;simp only[List.map_nil,PR];exact⟨by simp,none,0,rfl,by simp,by simp,by simp,hn,Or.inl trivial⟩
 ·subst hlen;obtain⟨xs,iU,mT⟩:=pick (α:=α) (q:=λ_ _=>True) (R:=λi x y=>Q x/\m x<=wH y.1/\∃ cs,w.cells? 0 (a.add (i*n)) n=some cs/\B3 (λb=>b<w.heap.size) w (e x) cs) elems.length elems rfl (by
   intro i y hy;have hi:i<elems.length:=by
    rcases Nat.lt_or_ge i elems.length with h|h
    ·exact h
    ·rw[List.getElem?_eq_none h]at hy;cases hy
   have:=a6 i hi;rw[hy,hc,Option.bind_eq_some_iff]at this;obtain⟨cs,h1,h2⟩:=this;obtain⟨x,q1,q2,q3⟩:=he H enc w k cs y h2;exact⟨x,q1,q2,cs,h1,q3⟩)
  have Jw:∀ i x,xs[i]?=some x->∃ y,elems[i]?=some y:=λi x hx=>by
   have:i<elems.length:=by
    rcases Nat.lt_or_ge i xs.length with h|h
    ·omega
    ·rw[List.getElem?_eq_none h]at hx;cases hx
   exact⟨_,List.getElem?_eq_getElem this⟩
  refine⟨xs,λx hx=>?_,?_,?_,trivial⟩
  ·obtain⟨i,hi⟩:=List.mem_iff_getElem?.1 hx;obtain⟨y,hy⟩:=Jw i x hi;exact(mT i x y hi hy).1
  ·simp only[wH];have:=sj (m:=m) (xs:=xs) (ds:=elems.map (·.1)) (by simp[iU]) λi x d hx hd=>by
    obtain⟨y,hy⟩:=Jw i x hx;simp only[List.getElem?_map,hy,Option.map_some,Option.some.injEq]at hd;subst hd;exact(mT i x y hx hy).2.1
   omega
  ·simp only[PR];refine⟨by simp,some a,cap,by simp[iU],by simp[iU,hl],hm,by simp,hn,?_⟩;cases xs with
   | nil=>exact Or.inl rfl
   | cons x xs =>
    refine Or.inr ⟨a,rfl,?_,P8 λi x hx=>?_⟩
    ·obtain⟨y,hy⟩:=Jw 0 x rfl;obtain⟨_,_,cs,h1,_⟩:=mT 0 x y rfl hy;obtain⟨_,hl,Hu⟩:=World.cells?_some h1;have h0:=Hu 0 hn;cases cs with
     | nil=>simp at hl;omega
     | cons c cs=>exact(show (a.add (0*n+0)).block=a.block by simp[Addr.add])▸FK (by rw[YC]at h0;simpa using h0)
    ·obtain⟨y,hy⟩:=Jw i x hx;obtain⟨_,_,cs,h1,h2⟩:=mT i x y hx hy;exact⟨cs,by simpa using h1,h2⟩
def kr(w:World):Gh:=⟨λb=>if b<w.heap.size then .ro else .other,λ_=>w.heap.size,λ_=>w.heap.size,λ_ _=>w.heap.size⟩
def T5(w:World):BX (kr w)=λb=>b<w.heap.size:=by
 funext b;simp only[BX,kr];split<;>simp_all
def Arg(P:Program)(t:TypeId){α:Type}(e:α->AV)(m:α->Nat)(Q:α->Prop):Prop :=
 ∀ (H:Type) (enc:TypeId × Value->H) (w:World) (base:Nat) (v:Value) (d:DataW H) (ps:List MemPlace),Value.okWide P w .any base t v->DataW.Trod enc P w 0 (λ_=>true) true t v d ps ->
  ∃ a,Q a/\m a<=wH d/\VR (kr w) w (e a) v
def pM{el:TypeId}{α:Type}{e:α->List AV}{m:α->Nat}{Q:α->Prop}{n:Nat}(he:Cod P el e m Q)(ht:P.underlying t=some (.slice el))(hc:P.cellsOf el=n)(hn:0<n) :
 Arg P t (λxs:List α=>.sl .no n (xs.map e)) (λxs=>(xs.map m).sum+1) (λxs=>∀ x∈xs,Q x):=by
 intro H enc w base v d ps hv hd;obtain⟨a,len,cap,rfl⟩:=okWide_slice ht hv;obtain⟨fuel,hf⟩:=hd;obtain⟨xs,h,hm,hp⟩:=Aad he ht hc hn H enc w fuel _ _ hf;simp only[B3,Value.cells]at hp;refine⟨xs,h,hm,?_⟩;simp only[VR,T5];exact hp.1
def Arg.map{α β:Type}{e:α->AV}{e':β->AV}{m:α->Nat}{m':β->Nat}{Q:α->Prop}{Q':β->Prop}(h:Arg P t e m Q)(hf:∀ a,Q a->∃ b,Q' b/\m' b<=m a/\e' b=e a):Arg P t e' m' Q':=by
 intro H enc w base v d ps hv hd;obtain⟨a,q1,q2,q3⟩:=h H enc w base v d ps hv hd;obtain⟨b,h1,h2,h3⟩:=hf a q1;exact⟨b,h1,Nat.le_trans h2 q2,h3▸q3⟩
def Args(P:Program):List TypeId->{α:Type}->(α->List AV)->(α->Nat)->(α->Prop)->Prop
 | ts,α,e,m,Q=>∀ (H:Type) (enc:TypeId × Value->H) (w:World) (base:Nat) (vs:List Value) (ds:List (DataW H)) (ps:List MemPlace),
  (∀ (j:Nat) t v,ts[j]?=some t->vs[j]?=some v->Value.okWide P w .any base t v)->DataW.TrodAll enc P w 0 (λ_=>true) true ts vs ds ps ->
  ∃ a:α,Q a/\m a<=iM ds/\Az (kr w) w (e a) vs
def Aak:Args P [] (λ_:Unit=>[]) (λ_=>0) (λ_=>True):=by
 intro H enc w base vs ds ps hv h;obtain⟨rfl,rfl,rfl⟩:=trodAll_nil h;exact⟨(),trivial,by simp,by simp[Az]⟩
def L1{ts:List TypeId}{α β:Type}{e:α->AV}{m:α->Nat}{Q:α->Prop}{e':β->List AV}{m':β->Nat}{Q':β->Prop}(h:Arg P t e m Q)(hs:Args P ts e' m' Q') :
 Args P (t::ts) (λx:α × β=>e x.1::e' x.2) (λx=>m x.1+m' x.2) (λx=>Q x.1/\Q' x.2):=by
 intro H enc w base vs ds ps hv hd;obtain⟨v,vs,d,ds,p,q,rfl,rfl,rfl,h1,h2⟩:=trodAll_cons hd;obtain⟨a,a1,a2,a3⟩:=h H enc w base v d p (hv 0 t v rfl rfl) h1;obtain⟨b,b1,b2,b3⟩:=hs H enc w base vs ds q (λj t v hj hjv=>hv (j+1) t v (by simpa using hj) (by simpa using hjv)) h2;exact⟨(a,b),⟨a1,b1⟩,by simp only[iM];omega,by simp only[Az];exact⟨a3,b3⟩⟩
def Og{H:Type}{enc:TypeId × Value->H}(hl:laidOutB P=true){W W':World}{sp':Nat->Bool}:∀ {ts:List TypeId} {vs:List Value} {ds:List (DataW H)} {ps:List MemPlace},
 (∀ t∈ts,P.readableRec t=true/\t<P.types.size)->DataW.TrodAll enc P W 0 (λ_=>true) true ts vs ds ps->(∀ p∈ps,W.sameAt W' p)->(∀ p∈ps,sp' p.block=true)->DataW.TrodAll enc P W' 0 sp' true ts vs ds ps
 |[],vs,ds,ps,_,h,_,_=>by
  obtain⟨rfl,rfl,rfl⟩:=trodAll_nil h;exact trodAll_mk0
 | t::ts,vs,ds,ps,hr,h,hs,zL=>by
  obtain⟨v,vs,d,ds,p,q,rfl,rfl,rfl,h1,h2⟩:=trodAll_cons h;exact⟨p,q,WideElems.Trod_stays hl (hr t (by simp)).1 (hr t (by simp)).2 h1 (λx hx=>hs x (by simp[hx])) (λx hx=>zL x (by simp[hx])),
   Og hl (λt ht=>hr t (by simp[ht])) h2 (λx hx=>hs x (by simp[hx])) (λx hx=>zL x (by simp[hx])),rfl⟩
def bg{H:Type}{enc:TypeId × Value->H}{f:Func}{s:ChangeSpec}{apart fresh handsOn again:Bool}{W W':World}{args:Array Value}{v:Value}{ds gs:List (DataW H)}{before pa pv:List MemPlace}
 (hW:DataW.Whole enc P f.params.toList s.vars apart W args.toList ds gs before)
 (PL:∀ (b:Nat) (sp:Nat->Bool) (hd:Bool),DataW.TrodAll enc P W' b sp hd f.resultTypes.toList (v.resultList f.resultTypes.size) (s.fn H (ds++gs)).results [])
 (Fm:∀ sp:Nat->Bool,(∀ p∈before,sp p.block=true)->DataW.TrodAll enc P W' 0 sp true f.params.toList args.toList (s.fn H (ds++gs)).args pa)
 (rO:∀ sp:Nat->Bool,(∀ p∈before,sp p.block=true)->DataW.TrodVars enc P W' sp s.vars (s.fn H (ds++gs)).vars pv)
 (Vf:before=pa++pv) (hb:Below W.heap.size W W')
 (Ce:∀ (j:Nat) (t:TypeId) (r:Value),f.resultTypes[j]?=some t->(v.resultList f.resultTypes.size)[j]?=some r->Value.okWide P W' .any 0 t r) :
 s.post enc P f apart fresh handsOn again W args v W':=by
 have Au:∀ p∈before,p.block<W.heap.size:=λp hp=>hW.lt p hp
 have hold:∀ p∈before,(λb=>decide (b<W.heap.size)) p.block=true:=λp hp=>by simpa using Au p hp
 refine⟨ds,gs,before,[],pa,pv,hW,PL _ _ _,Fm _ hold,rO _ hold,World.keptBut_mono (λp hp=>⟨hp,?_⟩) (hb.frame (·∈before)),λ_=>?_⟩
 ·rw[Vf,List.mem_append]at hp;exact Or.inr hp
 ·obtain⟨_,_,_,_,_,hz,hn⟩:=hW;refine⟨Ce,_,_,([]++pa)++pv,⟨[]++pa,pv,trodAll_append (Fm _ (λ_ _=>rfl)) (PL _ _ _),rO _ (λ_ _=>rfl),rfl,?_,?_⟩,?_⟩
  ·intro b off hp;have HT:MemPlace.cell b off∈before:=by rw[Vf];simpa using hp
   rw[hb.frozen (Au _ HT)];exact hz b off HT
  ·intro ha;have:=hn ha;rw[Vf]at this;simpa using this
  ·intro p hp _;rw[Vf];simpa using hp
end Go.Abs
namespace Go.Abs
inductive OT where
 | done
 | pick(l:List (Nat × OT))
mutual
def wt(ops:Array Oper)(dn:List Nat):OT->Bool
 |.done=>(List.range ops.size).all λi=>dn.contains i
 |.pick l=>(List.range ops.size).any (λi=>!dn.contains i&&(Bq ops i).all λe=>dn.contains e)&&(List.range ops.size).all (λi=>dn.contains i||!((Bq ops i).all λe=>dn.contains e)||(Wd l).contains i)&&ql ops dn l
def ql(ops:Array Oper)(dn:List Nat):List (Nat × OT)->Bool
 |[]=>true
 |(i,t)::l=>wt ops (i::dn) t&&ql ops dn l
def Wd:List (Nat × OT)->List Nat
 |[]=>[]
 |(i,_)::l=>i::Wd l
end
def L6(ops:Array Oper)(i:Nat):List Oper:=match ops[i]? with
 |some o=>[o]
 |none=>[]
mutual
def aV(X:Env)(ops:Array Oper)(K:St->Prop):OT->St->Prop
 |.done=>K
 |.pick l=>iN X ops K l
def iN(X:Env)(ops:Array Oper)(K:St->Prop):List (Nat × OT)->St->Prop
 |[]=>λ_=>True
 |(i,t)::l=>λst=>Bg X ops (L6 ops i) (aV X ops K t) st/\iN X ops K l st
end
section
variable {X:Env} {A:A0} {N:Nat} {ops:Array Oper}
def bf(N:Nat)(ops:Array Oper):Prop:=(∀ o∈ops,Jn N o=true)/\∀ i,i<ops.size->∀ e∈Bq ops i,e<ops.size
def Po(h:bf N ops){i:Nat}(e:Nat)(he:e∈Bq ops i)(hi:i<ops.size):e<ops.size:=h.2 i hi e he
def MT(hA:A.ext=X.ext)(hX:∀ s∈X.ext,s%32=31){Q:Exit->Act->World->Prop}{K:St->Prop}{K':Act->World->Prop}{i:Nat}{o:Oper}(ho:ops[i]?=some o)(hk:∀ g' st' a' w',R X.C A N g' st' a' w'->K st'->K' a' w')
 {g:Gh} {st:St} {a:Act} {w:World} (hd:Jn N o=true) (h:Ie X ops o K st) (hR:R X.C A N g st a w):wpOp X.C.P ops Q i K' a w:=by
 unfold wpOp;simp only[ho];unfold Ie at h;split at h
 ·rename_i hg;have:Region.wanted o (yielded ops a.tmps)=true:=by simp[Region.wanted,hg]
  simp only[this,if_true];exact .inl (Nf hA hX hd h hR hk)
 ·rename_i j b hg;split at h
  ·rename_i b' hb;have hy:=Lt hR hb
   by_cases he:b'=b
   ·have:Region.wanted o (yielded ops a.tmps)=true:=by simp[Region.wanted,hg,hy,he]
    simp only[this,if_true];have h1:=h.1 he;subst he;rw[Ji hb]at h1;exact .inl (Nf hA hX hd h1 hR hk)
   ·have:Region.wanted o (yielded ops a.tmps)=false:=by simp[Region.wanted,hg,hy,he]
    simp only[this,Bool.false_eq_true,if_false];have LV:∀ k,o.dst=some k->k<N:=λk hk=>by simp[Jn,hk]at hd;exact hd
    have h1:=h.2 he;have ky:(!b)=b':=by cases b<;>cases b'<;>first|rfl|exact absurd rfl he
    rw[ky,Ji hb]at h1;exact hk g _ _ w (hR.put LV S7) h1
  ·rename_i hb;have hy:=QR hR hb;have:Region.wanted o (yielded ops a.tmps)=false:=by simp[Region.wanted,hg,hy]
   simp only[this,Bool.false_eq_true,if_false];have LV:∀ k,o.dst=some k->k<N:=λk hk=>by simp[Jn,hk]at hd;exact hd
   exact hk g _ _ w (hR.put LV S7) h
  ·cases h
mutual
def Ol(hA:A.ext=X.ext)(hX:∀ s∈X.ext,s%32=31)(hN:bf N ops){Q:Exit->Act->World->Prop}{K:St->Prop}(hQ:∀ g st a w,R X.C A N g st a w->K st->Q .normal a w) :
 ∀ (t:OT) (fuel:Nat) (dn:List Nat) (Ae:Array Bool) (g:Gh) (st:St) (a:Act) (w:World),Ae.size=ops.size->UR Ae<=fuel->(∀ j,j<ops.size->DE Ae j=dn.contains j)->wt ops dn t=true->aV X ops K t st->R X.C A N g st a w ->
  wpAny X.C.P .any ops Q fuel Ae a w
 |.done,fuel,dn,Ae,g,st,a,w,hs,hu,hd,Ce,h,hR=>by
  simp only[wt,List.all_eq_true,List.mem_range]at Ce;have h0:Region.ready .any ops Ae=[]:=by
   cases pJ:Region.ready .any ops Ae with
   | nil=>rfl
   | cons j l =>
    have hj:j∈Region.ready .any ops Ae:=by rw[pJ];simp
    have:=(BI hs).1 hj;rw[hd j this.1,Ce j this.1]at this;simp at this
  simp only[aV]at h;cases fuel with
  | zero=>exact⟨h0,hQ g st a w hR h⟩
  | succ fuel=>exact⟨λ_=>hQ g st a w hR h,λj hj=>by rw[h0]at hj;cases hj⟩
 |.pick l,fuel,dn,Ae,g,st,a,w,hs,hu,hd,Ce,h,hR=>by
  simp only[wt,Bool.and_eq_true,List.all_eq_true,List.any_eq_true,List.mem_range]at Ce;obtain⟨⟨⟨i,hi,PJ,Lu⟩,Abj⟩,Abk⟩:=Ce;simp only[aV]at h;have HG:i∈Region.ready .any ops Ae:=(BI hs).2 ⟨hi,by rw[hd i hi];simpa using PJ,λe he=>by
   have h4:=Lu e he;have Au:=Po hN e he hi;rw[hd e Au];exact h4⟩
  have XP:∀ j∈Region.ready .any ops Ae,j∈Wd l:=λj hj=>by
   obtain⟨h1,h2,h3⟩:=(BI hs).1 hj;have:=Abj j h1;rw[hd j h1]at h2;rw[h2]at this;have he:(Bq ops j).all (λe=>dn.contains e)=true:=List.all_eq_true.2 λe he=>by
    have h4:=h3 e he;have Au:=Po hN e he h1;rw[hd e Au]at h4;exact h4
   rw[he]at this;simpa using this
  cases fuel with
  | zero =>
   obtain⟨h1,h2,_⟩:=(BI hs).1 HG;rw[Ho (by omega) (by omega:i<Ae.size)]at h2;cases h2
  | succ fuel =>
   refine⟨λh0=>(by rw[h0]at HG;cases HG),λj hj=>?_⟩;obtain⟨h1,h2,_⟩:=(BI hs).1 hj;exact Rs hA hX hN hQ l fuel dn Ae g st a w hs (by have:=HY (by omega:j<Ae.size) h2;omega) hd Abk h hR j h1 h2 (XP j hj)
def Rs(hA:A.ext=X.ext)(hX:∀ s∈X.ext,s%32=31)(hN:bf N ops){Q:Exit->Act->World->Prop}{K:St->Prop}(hQ:∀ g st a w,R X.C A N g st a w->K st->Q .normal a w) :
 ∀ (l:List (Nat × OT)) (fuel:Nat) (dn:List Nat) (Ae:Array Bool) (g:Gh) (st:St) (a:Act) (w:World),Ae.size=ops.size->UR Ae<=fuel+1->(∀ j,j<ops.size->DE Ae j=dn.contains j)->ql ops dn l=true->iN X ops K l st->R X.C A N g st a w ->
  ∀ j,j<ops.size->DE Ae j=false->j∈Wd l->wpOp X.C.P ops Q j (wpAny X.C.P .any ops Q fuel (Ae.setIfInBounds j true)) a w
 |[],_,_,_,_,_,_,_,_,_,_,_,_,_,j,_,_,hm=>by simp[Wd]at hm
 |(i,t)::l,fuel,dn,Ae,g,st,a,w,hs,hu,hd,Ce,h,hR,j,hj,El,hm=>by
  simp only[ql,Bool.and_eq_true]at Ce;simp only[iN]at h
  by_cases Sg:j=i
  ·subst Sg;have ho:ops[j]?=some ops[j]:=Array.getElem?_eq_getElem hj;have h1:=h.1;simp only[L6,ho,Bg]at h1;refine MT hA hX ho (λg' st' a' w' SP mL=>?_) (hN.1 _ (Array.getElem_mem hj)) h1 hR;refine Ol hA hX hN hQ t fuel (j::dn) _ g' st' a' w' (by simp[hs]) (by have:=HY (by omega:j<Ae.size) El;omega) (λq hq=>?_) Ce.1 mL SP;rw[En (by omega)];simp only[H3,List.contains_cons]
   by_cases hqj:q=j
   ·subst hqj;simp
   ·simp[hqj,hd q hq]
  ·refine Rs hA hX hN hQ l fuel dn Ae g st a w hs hu hd Ce.2 h.2 hR j hj El ?_;simp only[Wd,List.mem_cons]at hm;rcases hm with hm|hm
   ·exact absurd hm Sg
   ·exact hm
end
end
def IJ(ops:Array Oper):Bool:=(List.range ops.size).all λi=>(Bq ops i).all λe=>decide (e<ops.size)
def Tv{X:Env}{ops:Array Oper}{K:St->Prop}{st:St}(t:OT)(hm:X.C.P.follows .mixedOrders=true)(Ce:(IJ ops&&wt ops [] t)=true)
 (h:aV X ops K t st):JG X ops K st:=by
 intro A N g a w hA hN hX hR id Q hQ;simp only[Bool.and_eq_true]at Ce;refine wp_region_any hm ?_;refine Ol hA hX (N:=N) (K:=K) ⟨λo ho=>?_,λi hi e he=>?_⟩ hQ t ops.size [] (Array.replicate ops.size false) g st a _ (by simp) (by simp[UR]) (λj hj=>by simp[DE,Array.getD,hj]) Ce.2 h hR.drew
 ·unfold Jn;cases hd:o.dst with
  |none=>rfl
  |some d=>simp;exact hN o ho d hd
 ·have:=Ce.1;simp only[IJ,List.all_eq_true,List.mem_range,decide_eq_true_eq]at this;exact this i hi e he
@[go_sem] theorem zm(X:Env)(ops:Array Oper)(K:St->Prop)(st:St):aV X ops K .done st=K st:=by simp only[aV]
@[go_sem] theorem Aag(X:Env)(ops:Array Oper)(K:St->Prop)(i:Nat)(t:OT)(st:St):aV X ops K (.pick [(i,t)]) st=Bg X ops (L6 ops i) (aV X ops K t) st:=by simp only[aV,iN,and_true]
@[go_sem] theorem Aah(X:Env)(ops:Array Oper)(K:St->Prop)(i j:Nat)(t t':OT)(l:List (Nat × OT))(st:St):aV X ops K (.pick ((i,t)::(j,t')::l)) st=(Bg X ops (L6 ops i) (aV X ops K t) st/\aV X ops K (.pick ((j,t')::l)) st):=by simp only[aV,iN]
attribute [go_sem] L6
end Go.Abs
open Go Go.Abs
namespace Go.Rd
abbrev Bs:=List UInt8
def str(l:Bs):ByteArray:=⟨l.toArray⟩
def nf(bs:ByteArray):∀ (n i:Nat) (r:List UInt8),bs.size-i=n->ByteArray.toList.loop bs i r=r.reverse++bs.data.toList.drop i:=by
 intro n
 induction n with
 | zero =>
  intro i r h;rw[ByteArray.toList.loop];have hs:bs.size=bs.data.size:=rfl;rw[if_neg (by omega),List.drop_eq_nil_of_le (by simp;omega)];simp
 | succ n ih =>
  intro i r h;rw[ByteArray.toList.loop];have hs:bs.size=bs.data.size:=rfl;rw[if_pos (by omega),ih (i+1) _ (by omega)];rw[List.drop_eq_getElem_cons (l:=bs.data.toList) (i:=i) (by simp;omega)];have:bs.get! i=bs.data.toList[i]'(by simp;omega):=by
   show bs.data[i]! = _;rw[getElem!_pos bs.data i (by omega)];simp
  simp[this]
def Vv(l:List UInt8):(⟨l.toArray⟩:ByteArray).toList=l:=by
 unfold ByteArray.toList;rw[nf _ _ 0 [] rfl];simp
theorem mr(l:Bs):(str l).size=l.length:=rfl
def cV(l:Bs):(str l).toList=l:=Vv l
structure Ad where
 site:Int
 inc:Int
 num:Int
 deriving DecidableEq
structure BO where
 mode:Int
 Ax:Int
 deriving DecidableEq
structure AX where
 proc:Ad
 AN:BO
 deriving DecidableEq
structure Ba where
 proc:Ad
 AN:BO
 prio:Int
 DW:Int
 deriving DecidableEq
structure Bo where
 name:Bs
 kind:Int
 Ax:Int
 home:Int
 deriving DecidableEq
structure Queue where
 res:Bo
 holds:List AX
 Ak:List Ba
 waits:List Ba
 gen:Int
 deriving DecidableEq
structure Atom where
 name:Bs
 AN:BO
 deriving DecidableEq
inductive Expr where
 | mk(k:Int)(atom:Atom)(kids:List Expr)
structure Need where
 proc:Ad
 expr:Expr
 gen:Int
structure WS where
 Aa:List Queue
 AB:List Need
def Ad.c(p:Ad):List AV:=[.v (.int .i64 p.site),.v (.int .i64 p.inc),.v (.int .i64 p.num)]
def BO.c(a:BO):List AV:=[.v (.int .i64 a.mode),.v (.int .i64 a.Ax)]
def AX.c(h:AX):List AV:=[.v (.int .i64 h.proc.site),.v (.int .i64 h.proc.inc),.v (.int .i64 h.proc.num),.v (.int .i64 h.AN.mode),.v (.int .i64 h.AN.Ax)]
def Ba.c(h:Ba):List AV:=[.v (.int .i64 h.proc.site),.v (.int .i64 h.proc.inc),.v (.int .i64 h.proc.num),.v (.int .i64 h.AN.mode),.v (.int .i64 h.AN.Ax),.v (.int .i64 h.prio),.v (.int .i64 h.DW)]
def Bo.c(r:Bo):List AV:=[.v (.string (str r.name)),.v (.int .i64 r.kind),.v (.int .i64 r.Ax),.v (.int .i64 r.home)]
@[reducible] def AY(l:List AX):AV:=.sl .no 5 (l.map AX.c)
@[reducible] def BZ(l:List Ba):AV:=.sl .no 7 (l.map Ba.c)
@[reducible] def AA(l:List Ad):AV:=.sl .no 3 (l.map Ad.c)
@[reducible] def Rt(l:List BO):AV:=.sl .no 2 (l.map BO.c)
def Queue.c(q:Queue):List AV:=[.v (.string (str q.res.name)),.v (.int .i64 q.res.kind),.v (.int .i64 q.res.Ax),.v (.int .i64 q.res.home),AY q.holds,BZ q.Ak,BZ q.waits,.v (.int .i64 q.gen)]
@[reducible] def AW(l:List Queue):AV:=.sl .no 8 (l.map Queue.c)
def Atom.c(a:Atom):List AV:=[.v (.string (str a.name)),.v (.int .i64 a.AN.mode),.v (.int .i64 a.AN.Ax)]
@[reducible] def BN(l:List Atom):AV:=.sl .no 3 (l.map Atom.c)
def Expr.k:Expr->Int
 |.mk k _ _=>k
def Expr.atom:Expr->Atom
 |.mk _ a _=>a
def Expr.kids:Expr->List Expr
 |.mk _ _ l=>l
mutual
def Expr.eV:List Expr->List (List AV)
 |[]=>[]
 | e::l=>Expr.c e::Expr.eV l
def Expr.c:Expr->List AV
 |.mk k a l=>[.v (.int .i64 k),.v (.string (str a.name)),.v (.int .i64 a.AN.mode),.v (.int .i64 a.AN.Ax),.sl .no 5 (Expr.eV l)]
end
def Wg:∀ l,Expr.eV l=l.map Expr.c
 |[]=>rfl
 | e::l=>by simp[Expr.eV,Wg l]
@[reducible] def It(l:List Expr):AV:=.sl .no 5 (l.map Expr.c)
theorem Expr.Cf(e:Expr):e.c=[.v (.int .i64 e.k),.v (.string (str e.atom.name)),.v (.int .i64 e.atom.AN.mode),.v (.int .i64 e.atom.AN.Ax),It e.kids]:=by
 cases e with
 | mk k a l=>simp[Expr.c,Expr.k,Expr.atom,Expr.kids,Wg]
def Need.c(n:Need):List AV:=[.v (.int .i64 n.proc.site),.v (.int .i64 n.proc.inc),.v (.int .i64 n.proc.num),.v (.int .i64 n.expr.k),.v (.string (str n.expr.atom.name)),.v (.int .i64 n.expr.atom.AN.mode),.v (.int .i64 n.expr.atom.AN.Ax),It n.expr.kids,.v (.int .i64 n.gen)]
@[reducible] def MP(l:List Need):AV:=.sl .no 9 (l.map Need.c)
def WS.c(s:WS):List AV:=[AW s.Aa,MP s.AB]
attribute [go_sem] Ad.c BO.c AX.c Ba.c Bo.c Queue.c Atom.c Expr.Cf Need.c WS.c mr cV Vv
@[go_sem] theorem AbQ(k:IntKind)(n:Int):(Value.int k n).oneCell'=true:=rfl
@[go_sem] theorem zV(b:Bool):(Value.bool b).oneCell'=true:=rfl
@[go_sem] theorem AbR(s:ByteArray):(Value.string s).oneCell'=true:=rfl
@[go_sem] theorem Adf(a:Option Addr)(n m:Nat):(Value.slice a n m).oneCell'=true:=rfl
@[reducible] def I(n:Int):AV:=.v (.int .i64 n)
@[reducible] def B(b:Bool):AV:=.v (.bool b)
end Go.Rd
namespace Go.Abs
mutual
def lens:AV->Prop
 |.sl _ _ es=>es.length<=9223372036854775807
 |.agg cs=>E0 cs
 |_=>True
def E0:List AV->Prop
 |[]=>True
 | c::cs=>lens c/\E0 cs
end
mutual
def VR.lens{g:Gh}{w:World}:∀ (x:AV) (u:Value),VR g w x u->lens x
 |.sl (.own r lo) n es,u,h=>by
  simp only[VR,CM]at h;simp only[Abs.lens];rcases h.2 with ⟨_,h2⟩|⟨_,h2,_⟩|⟨cap,cur,T,_,h2,h3,_⟩
  ·subst h2;simp
  ·subst h2;simp
  ·simp only[maxLen]at h3;omega
 |.sl .no n es,u,h=>by
  simp only[VR,PR]at h;simp only[Abs.lens];obtain⟨_,a,cap,_,h2,h3,_⟩:=h;simp only[maxLen]at h3;omega
 |.sl .full n es,u,h=>by
  simp only[VR,PR]at h;simp only[Abs.lens];obtain⟨_,a,cap,_,h2,h3,_⟩:=h;simp only[maxLen]at h3;omega
 |.agg cs,u,h=>by
  simp only[VR]at h;simp only[Abs.lens];obtain⟨us,_,h⟩:=h;exact Az.lens cs us.toList h
 |.undef,_,_=>by simp[Abs.lens]
 |.v _,_,_=>by simp[Abs.lens]
 |.Bl _,_,_=>by simp[Abs.lens]
 |.ptr _ _,_,_=>by simp[Abs.lens]
 |.ep _ _ _ _,_,_=>by simp[Abs.lens]
 |.fn _ _,_,_=>by simp[Abs.lens]
 |.mv _ _,_,_=>by simp[Abs.lens]
 |.mp _,_,_=>by simp[Abs.lens]
 |.Gc _ _,_,_=>by simp[Abs.lens]
 |.El _ _ _ _ _ _ _,_,_=>by simp[Abs.lens]
 |.mem _ _,_,_=>by simp[Abs.lens]
def Az.lens{g:Gh}{w:World}:∀ (xs:List AV) (us:List Value),Az g w xs us->E0 xs
 |[],_,_=>by simp[Abs.E0]
 | c::cs,[],h=>by simp[Az]at h
 | c::cs,u::us,h=>by
  simp only[Az]at h;simp only[Abs.E0];exact⟨VR.lens c u h.1,Az.lens cs us h.2⟩
end
def Ac.assume{C:Ctx}{f:Nat}{fn:Func}{c:Code}{xs:List AV}{o o':List (Nat × List AV)}{y:AV}(hf:C.P.funcs[f]?=some fn)(EY:(fn.name=="runtime.NumGoroutine")=false)(hb:fn.body=some c)
 (h:E0 xs->Ac C f xs o y o'):Ac C f xs o y o' :=
 ⟨⟨fn,c,hf,EY,hb⟩,λg w us hg hv ho=>(h (Az.lens xs us hv)).2 g w us hg hv ho⟩
end Go.Abs
namespace Go.Abs
def Ac.go{C:Ctx}{f:Nat}{xs:List AV}{o o':List (Nat × List AV)}{y:AV}(fn:Func)(h:Oi ⟨C,names o,[]⟩ (fn.body.getD .skip) (UD ⟨C,names o,[]⟩ fn.results.toList y o') ⟨Ta 0 xs,o⟩)
 (hf:C.P.funcs[f]?=some fn:=by kernel_rfl) (EY:(fn.name=="runtime.NumGoroutine")=false:=by kernel_rfl) (hb:fn.body=some (fn.body.getD .skip):=by kernel_rfl)
 (Ce:F9 fn.ntmps (fn.body.getD .skip)=true:=by kernel_rfl) (Fm:Nat.ble xs.length fn.ntmps=true:=by kernel_rfl) (H6:∀ s∈names o,s%32=31:=by simp[names]):Ac C f xs o y o' :=
 Ac.intro hf EY hb Ce (Nat.le_of_ble_eq_true Fm) H6 h
def Ac.lens{C:Ctx}{f:Nat}{xs:List AV}{o o':List (Nat × List AV)}{y:AV}(fn:Func)(h:E0 xs->Ac C f xs o y o')
 (hf:C.P.funcs[f]?=some fn:=by kernel_rfl) (EY:(fn.name=="runtime.NumGoroutine")=false:=by kernel_rfl) (hb:fn.body=some (fn.body.getD .skip):=by kernel_rfl):Ac C f xs o y o' :=
 Ac.assume hf EY hb h
section
variable {X:Env} {d:Option Nat} {EG:Nat} {xs Qq:List AV} {K:St->Prop} {st st':St} {y y':AV} {ob IC:List (Nat × List AV)}
def CK{rs:List ResultVar}(ρ:Rn)(xs:List AV)(h4:B8 ((pack xs).BS ρ) y)(h1:Cr X.C st rs=some xs:=by(try simp(disch:=omega)only[go_sem,Cr,GH])<;>rfl)(h2:ρ.OK:=by exact⟨rfl,rfl⟩)(h3:∀ s∈X.ext,lk s ρ.m=some s:=by simp):UD X rs y [] .ret st :=
 AZ ρ xs h1 h2 h3 h4 trivial
def CD{rs:List ResultVar}(xs:List AV)(h4:B8 ((pack xs).BS ⟨[],[],[]⟩) y)(h1:Cr X.C st rs=some xs:=by(try simp(disch:=omega)only[go_sem,Cr,GH])<;>rfl)(h3:∀ s∈X.ext,lk s []=some s:=by simp):UD X rs y [] .ret st :=
 AZ ⟨[],[],[]⟩ xs h1 ⟨rfl,rfl⟩ h3 h4 trivial
def CE{rs:List ResultVar}(ρ:Rn)(xs:List AV)(h4:B8 ((pack xs).BS ρ) y)(h5:GZ (Qb ρ st) IC)(h1:Cr X.C st rs=some xs:=by(try simp(disch:=omega)only[go_sem,Cr,GH])<;>rfl)(h2:ρ.OK:=by exact⟨rfl,rfl⟩)(h3:∀ s∈X.ext,lk s ρ.m=some s:=by simp[lk,names]):UD X rs y IC .ret st :=
 AZ ρ xs h1 h2 h3 h4 h5
def Ab(Ce:Ac X.C EG Qq [] y [])(hk:K (st.put d y'))(hx:Af (E2 ⟨[],[],[]⟩ xs) Qq:=by simp(disch:=omega)only[go_sem])(hy:y.BS ⟨[],[],[]⟩=y':=by rfl):A8 X d EG xs K st :=
 Ag Ce hx hy hk
def Aq{Ah:List (Nat × List AV)}{p:List Nat}{i:Nat}{cr:List (Nat × List Nat × List Nat)}{K:List (Nat × List Nat × List Nat)->St->Prop}(Ce:Ac X.C EG Qq [] y [])
 (h:Mx (rngs (Way.back ⟨⟨[],[],[]⟩,[],[]⟩).l) (rngs []) st.tmps/\Gb (rngs (Way.back ⟨⟨[],[],[]⟩,[],[]⟩).l) (rngs []) st.Ah/\away cr p ⟨y.BS (Way.back ⟨⟨[],[],[]⟩,[],[]⟩),rngs (Way.back ⟨⟨[],[],[]⟩,[],[]⟩).l,rngs [],ET (Way.back ⟨⟨[],[],[]⟩,[],[]⟩) []⟩ /\
  K (Ir i ⟨y.BS (Way.back ⟨⟨[],[],[]⟩,[],[]⟩),rngs (Way.back ⟨⟨[],[],[]⟩,[],[]⟩).l,rngs [],ET (Way.back ⟨⟨[],[],[]⟩,[],[]⟩) []⟩ cr) ⟨(St.put d (y.BS (Way.back ⟨⟨[],[],[]⟩,[],[]⟩)) st).tmps,ET (Way.back ⟨⟨[],[],[]⟩,[],[]⟩) []++st.Ah⟩)
 (hx:Af (E2 ⟨[],[],[]⟩ xs) Qq:=by simp(disch:=omega)only[go_sem]):Bc X d EG xs Ah p i cr K st :=
 AF ⟨⟨[],[],[]⟩,[],[]⟩ Ce hx rfl rfl trivial (.inl rfl) h
def AS(ht:H2 st st'.tmps:=by simp(disch:=omega)only[go_sem])(ho:GZ st st'.Ah:=by simp(disch:=omega)only[go_sem]):AQ X st st':=AQ.An ht ho
def call2(v:Way)(Ce:Ac X.C EG Qq ob y IC)(hk:K ((st.app (rngs v.back.l) (rngs v.fm) (rngs v.back.m) (ET v.back IC)).put d (y.BS v.back)))
 (hx:Af (E2 v.ρ xs) Qq:=by simp(disch:=omega)only[go_sem]) (hh:Yy v st ob:=by simp(disch:=omega)only[go_sem]) (hv:Im v ob=true:=by rfl) (NW:v.ρ.bs=[]\/(Flat (y.BS v.back)/\Jy (ET v.back IC)):=by exact .inl rfl):A8 X d EG xs K st :=
 Bh v Ce hx hv hh NW hk
end
def mw:List (List Nat × List Nat)->List (List Nat × List Nat)->Bool
 |[],_=>true
 |_::_,[]=>false
 |(p,ts)::t,(q,us)::u=>p.all (λj=>q.contains j)&&ts==us&&mw t u
def xm(ops:Array Oper)(t l:List (List Nat × List Nat))(i:Nat):List (List Nat × List Nat):=l++[((List.range i).filter (λj=>(Bq ops i).any λe=>j==e||(DX l e).contains j),(t.getD i ([],[])).2)]
def j9(ops:Array Oper)(t:List (List Nat × List Nat)):Nat->List (List Nat × List Nat)
 | 0=>[]
 | i+1=>xm ops t (j9 ops t i) i
def Pa{p q:List Nat}(h:∀ j∈p,j∈q){r:Bo}:∀ {cr:List (Nat × List Nat × List Nat)},away cr p r->away cr q r
 |[],_=>trivial
 |(i,S,T)::l,ha=>⟨ha.1.imp (h i) id,Pa h ha.2⟩
def Nw{X:Env}{all:Array Oper}{Ah:List (Nat × List AV)}{K:St->Prop}:∀ (os:List Oper) (t u:List (List Nat × List Nat)) (i:Nat) (cr:List (Nat × List Nat × List Nat)) (st:St),mw t u=true->FG X all Ah os t i cr K st->FG X all Ah os u i cr K st
 |[],_,_,_,_,_,_,h=>by simpa [FG]using h
 |_::_,[],_,_,_,_,_,h=>by simp[FG]at h
 |_::_,_::_,[],_,_,_,hs,_=>by simp[mw]at hs
 | o::os,(p,ts)::t,(q,us)::u,i,cr,st,hs,h=>by
  simp only[mw,Bool.and_eq_true,List.all_eq_true,beq_iff_eq]at hs;obtain⟨⟨h1,rfl⟩,h2⟩:=hs;have hpq:∀ j∈p,j∈q:=λj hj=>by simpa using h1 j hj
  have run:∀ st:St,(Ls X o ⟨restr st ts,Ah⟩ st p cr λe=>o.dst.isSome=true/\FG X all Ah os t (i+1) (Ir i e cr) K ⟨(St.put o.dst e.x st).tmps,e.GY++st.Ah⟩)->Ls X o ⟨restr st ts,Ah⟩ st q cr λe=>o.dst.isSome=true/\FG X all Ah os u (i+1) (Ir i e cr) K ⟨(St.put o.dst e.x st).tmps,e.GY++st.Ah⟩:=λst h=>by
   obtain⟨e,a,b,c,d,f,g,k⟩:=h;exact⟨e,a,b,c,d,f,Pa hpq g,k.1,Nw os t u _ _ _ h2 k.2⟩
  simp only[FG]at h ⊢;split at h
  ·exact run st h
  ·split at h
   ·exact⟨λhe=>run _ (h.1 he),λhe=>⟨(h.2 he).1,Pa hpq (h.2 he).2.1,Nw os t u _ _ _ h2 (h.2 he).2.2⟩⟩
   ·exact⟨h.1,Pa hpq h.2.1,Nw os t u _ _ _ h2 h.2.2⟩
   ·exact h.elim
def Av{X:Env}{ops:List Oper}{K:St->Prop}{st:St}(k:Nat)(t:List (List Nat × List Nat))(hm:X.C.P.follows .mixedOrders=true)(h:Bj X ops.toArray st.Ah (ops.take k) t 0 (Bg X ops.toArray (ops.drop k) K) [] st)
 (Ce:(mw t (j9 ops.toArray t ops.length)&&UA ops.toArray k (j9 ops.toArray t ops.length))=true:=by kernel_rfl):JG X ops.toArray K st:=by
 rw[Bool.and_eq_true]at Ce;exact Tx k _ hm Ce.2 (by simpa using Nw _ _ _ _ _ _ Ce.1 (GN _ _ _ _ _ h))
def gI{p:Prop}(h:p:=by simp(disch:=omega)only[go_sem]):p:=h
def gO{p q:Prop}(h:q)(e:p=q:=by conv=>lhs;simp(disch:=omega)only[go_sem]):p:=e▸h
section
variable {X:Env} {st st':St} {y:AV} {rs:List ResultVar}
def AM(xs:List AV)(h1:Cr X.C st rs=some xs:=by(try simp(disch:=omega)only[go_sem,Cr,GH])<;>rfl)(h4:B8 ((pack xs).BS ⟨[],[],[]⟩) y:=by simp(disch:=omega)only[go_sem])(h3:∀ s∈X.ext,lk s []=some s:=by simp):UD X rs y [] .ret st:=CD xs h4 h1 h3
def Aj(xs:List AV){q:Prop}(h4:q)(h1:Cr X.C st rs=some xs:=by(try simp(disch:=omega)only[go_sem,Cr,GH])<;>rfl)(e:B8 ((pack xs).BS ⟨[],[],[]⟩) y=q:=by conv=>lhs;simp(disch:=omega)only[go_sem])(h3:∀ s∈X.ext,lk s []=some s:=by simp):UD X rs y [] .ret st:=CD xs (e▸h4) h1 h3
def Fy(xs:List AV)(h1:Cr X.C st rs=some xs:=by(try simp(disch:=omega)only[go_sem,Cr,GH])<;>rfl) (h4:B8 ((pack xs).BS ⟨[],[],[]⟩) y:=by
 refine gO ?_;refine .Bl (Af.AI ?_);simp(disch:=omega)only[go_sem]
 repeat'(with_reducible apply And.intro)
 all_goals(first|exact .AD (by omega)|exact .agg (Af.AI (by simp(disch:=omega)only[go_sem])))) (h3:∀ s∈X.ext,lk s []=some s:=by simp):UD X rs y [] .ret st:=CD xs h4 h1 h3
def B9 (h:H2 st st'.tmps/\GZ st st'.Ah:=by
 refine⟨?_,?_⟩
 all_goals(try simp(disch:=omega)only[go_sem])
 all_goals(try(repeat'(with_reducible apply And.intro)))
 all_goals(first|exact .AU (by omega)|exact .AD (by omega)|exact .sl (by simp[])|exact .int (by simp[])|exact .eq (by simp[]))):AQ X st st':=AQ.An h.1 h.2
end
def gm{α β:Type}(f:α->β)(l:List α)(i:Nat):(l.map f)[i]?=l[i]?.map f:=List.getElem?_map
def gE{α:Type}{l:List α}{i:Nat}(h:i<l.length):l[i]?=some l[i]:=List.getElem?_eq_getElem h
def mG{α:Type}{l:List α}{i:Nat}{a:α}(h:l[i]?=some a):a∈l:=List.mem_of_getElem? h
def AH{X:Env}{st:St}{body:(Ex->St->Prop)->St->Prop}{Q:Ex->St->Prop}{α:Type}(l:List α)(I:Nat->St)(Inv:Nat->Prop)(h0:Inv 0)(hi:AQ X st (I 0))
 (hr:∀ i,i<=l.length/\Inv i->∀ J:St->Prop,(∀ st' x',x'<=l.length/\Inv x'->l.length-x'<l.length-i->AQ X st' (I x')->J st')->body (Sa J Q) (I i)):eY X body Q st:=Ao I _ (λi=>l.length-i) 0 ⟨Nat.zero_le _,h0⟩ hi hr
def Bp{α:Type}{l:List α}{i:Nat}{c:Bool}{P Q:Prop}(hi:i<=l.length)(h1:c=true->∀ b,l[i]?=some b->b∈l->i<l.length->P)(h2:i=l.length->Q)(hc:c=decide (i<l.length):=by simp):(c=true->P)/\(c=false->Q) :=
 ⟨λh=>have hl:=of_decide_eq_true (hc.symm.trans h);h1 h _ (List.getElem?_eq_getElem hl) (List.getElem_mem hl) hl,λh=>h2 (Nat.le_antisymm hi (Nat.le_of_not_lt (of_decide_eq_false (hc.symm.trans h))))⟩
end Go.Abs
