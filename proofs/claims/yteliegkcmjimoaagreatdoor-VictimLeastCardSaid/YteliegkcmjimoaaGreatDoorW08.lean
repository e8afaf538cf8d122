/- part 8 of the proof -/
import Derived.ChangeShapes
import Derived.OpenShut
import Derived.RowKit
import Derived.Below
import Derived.ChangeSame
import Derived.WideKeyArgs
import Derived.KernelRfl
import Derived.Test.YteliegkcmjimoaaGreatDoorW07
set_option linter.all false
namespace Go.Abs
def FH(v:Option AV)(p:List Nat)(cr:List (Nat × List Nat × List Nat))(d:Option Nat)(K:St->Prop)(st:St):Prop:=match v with
 |some x=>away cr p ⟨x,[],[],[]⟩/\K (st.put d x)
 |none=>False
def Bn(X:Env)(d:Option Nat)(FF:Nat)(xs:List AV)(Aj:List (Nat × List AV))(p:List Nat)(i:Nat)(cr:List (Nat × List Nat × List Nat))(K:List (Nat × List Nat × List Nat)->St->Prop)(st:St):Prop :=
 ∃ v ob y J3,v.OK ob/\(rngs v.fm).all (λs=>s%32 !=31)=true/\v.ρ.m=[]/\Ad X.C FF (JU v.ρ xs) ob y J3/\Has v ⟨[],Aj⟩ ob/\(v.ρ.bs=[]\/(Flat (y.CX v.back)/\Lg (FP v.back J3))) /\
  OB (rngs v.back.l) (rngs v.fm) st.tmps/\G9 (rngs v.back.l) (rngs v.fm) st.Aj/\away cr p ⟨y.CX v.back,rngs v.back.l,rngs v.fm,FP v.back J3⟩ /\
  K (JO i ⟨y.CX v.back,rngs v.back.l,rngs v.fm,FP v.back J3⟩ cr) ⟨(St.put d (y.CX v.back) st).tmps,FP v.back J3++st.Aj⟩
def RM(X:Env)(d:Option Nat)(f:AV)(xs:List AV)(Aj:List (Nat × List AV))(p:List Nat)(i:Nat)(cr:List (Nat × List Nat × List Nat))(K:List (Nat × List Nat × List Nat)->St->Prop)(st:St):Prop :=
 match f with
 |.fn FF CW=>Bn X d FF (xs++CW) Aj p i cr K st
 |_=>False
def SR(k:Nat)(zs:List Value)(p:List Nat)(i:Nat)(cr:List (Nat × List Nat × List Nat))(K:List (Nat × List Nat × List Nat)->St->Prop)(st:St):Prop :=
 OB [] [nm k] st.tmps/\G9 [] [nm k] st.Aj/\away cr p ⟨.ptr (nm k) 0,[],[nm k],[(nm k,vals zs)]⟩ /\
  K (JO i ⟨.ptr (nm k) 0,[],[nm k],[(nm k,vals zs)]⟩ cr) ⟨(k,.ptr (nm k) 0)::st.tmps,(nm k,vals zs)::st.Aj⟩
def JQ(X:Env)(o:Oper)(Aj:List (Nat × List AV))(r:St)(p:List Nat)(i:Nat)(cr:List (Nat × List Nat × List Nat))(K:List (Nat × List Nat × List Nat)->St->Prop)(st:St):Prop :=
 match o.op with
 |.call ⟨.value f,args,_⟩=>RM X o.dst (ev X.C r f) (D1 X.C r args.toList) Aj p i cr K st
 |.alloc t=>match o.dst,zeroOf X.C.P t with
  |some k,some zs=>SR k zs p i cr K st
  |_,_=>False
 |.call ⟨.builtin .append,args,tys⟩=>match args.toList,tys.toList with
  |[x,y],[t,t2]=>FH (Q8 X.C.P t t2 (ev X.C r x) (ev X.C r y)) p cr o.dst (K cr) st
  |_,_=>False
 |.buildSlice t len ps=>FH (sm X.C.P t len (parts X.C r ps)) p cr o.dst (K cr) st
 |_=>FH (mj X.C o r) p cr o.dst (K cr) st
def BB(X:Env)(all:Array Oper)(Aj:List (Nat × List AV)):List Oper->List (List Nat × List Nat)->Nat->(St->Prop)->List (Nat × List Nat × List Nat)->St->Prop
 |[],_,_,K,_,st=>K st
 |_::_,[],_,_,_,_=>False
 | o::os,(p,ts)::tab,i,K,cr,st =>
  o.dst.isSome=true/\match o.guard with
  |none=>JQ X o Aj ⟨restr st ts,Aj⟩ p i cr (BB X all Aj os tab (i+1) K) st
  |some (j,b)=>match guardOf all j ⟨restr st ts,Aj⟩ with
   |some (.v (.bool b'))=>GP b' b (JQ X o Aj ⟨restr (st.learn (gdst all j) b) ts,Aj⟩ p i cr (BB X all Aj os tab (i+1) K) (st.learn (gdst all j) b)) (away cr p ⟨.BC [],[],[],[]⟩/\BB X all Aj os tab (i+1) K cr ((st.learn (gdst all j) (!b)).put o.dst (.BC [])))
   |some (.BC [])=>away cr p ⟨.BC [],[],[],[]⟩/\BB X all Aj os tab (i+1) K cr (st.put o.dst (.BC []))
   |_=>False
section
variable {X:Env} {all:Array Oper} {Aj:List (Nat × List AV)}
theorem QQ{ρ:Rn}:∀ {o:List (Nat × List AV)} {s:Nat},s∈names (FP ρ o)->s∈rngs ρ.m
 |[],s,h=>by grind[FP,names]
 |(k,c)::o,s,h=>by
  simp[FP,List.filterMap_cons]at h;cases hk:lk k ρ.m with
  |none=>rw[hk]at h;exact QQ (o:=o) h
  |some k' =>
   rw[hk]at h;simp only[Option.map_some,names,List.map_cons,List.mem_cons]at h;rcases h with h|h
   ·subst h;simp only[rngs,List.mem_map];exact⟨_,LI hk,rfl⟩
   ·exact QQ (o:=o) h
def SS{o:Oper}{r st:St}{p:List Nat}{i:Nat}{cr:List (Nat × List Nat × List Nat)}{K:List (Nat × List Nat × List Nat)->St->Prop}(hr:r.Aj=Aj)(hd:o.dst.isSome=true)(h:JQ X o Aj r p i cr K st) :
 Nf X o r st p cr λe=>o.dst.isSome=true/\K (JO i e cr) ⟨(St.put o.dst e.x st).tmps,e.H3++st.Aj⟩:=by
 subst hr;unfold JQ at h;split at h
 ·rename_i f args ts ho;unfold RM at h;split at h
  ·rename_i FF CW hf;obtain⟨v,ob,y,J3,h1,h2,hm,h3,h4,h5,h6,h7,h8,h9⟩:=h;rw[M4]at h3;have Cg:rngs v.back.m=rngs v.fm:=by simp[Way.back,hm,inv]
   refine⟨⟨y.CX v.back,rngs v.back.l,rngs v.fm,FP v.back J3⟩,?_,h2,λs hs=>?_,h6,h7,h8,hd,h9⟩
   ·have:=AdX (st:=r) ho rfl hf h1 h3 (λs' cs hs=>h4 s' cs hs) h5;grind
   grind[QQ]
  grind
 ·rename_i t ho;split at h
  ·rename_i k zs hdk hz;obtain⟨h6,h7,h8,h9⟩:=h;refine⟨⟨.ptr (nm k) 0,[],[nm k],[(nm k,vals zs)]⟩,zK ho hdk hz,?_,λs hs=>by grind[names],h6,h7,h8,hd,?_⟩
   ·simp[nm];omega
   grind[St.put]
  grind
 ·rename_i args tys ho;split at h
  ·rename_i x y t t2 od htt;unfold FH at h;split at h
   ·rename_i z hz;obtain⟨h8,h9⟩:=h;rw[ag od,ag htt]at ho;refine⟨⟨z,[],[],[]⟩,pV ho hz,rfl,(λs hs=>by grind[names]),OC _,L7 _,h8,hd,?_⟩;have e:∀ s:St,(St.put o.dst z s)=⟨(St.put o.dst z s).tmps,s.Aj⟩:=λs=>by cases o.dst<;>rfl
    grind[JO]
   grind
  grind
 ·rename_i t len ps ho;unfold FH at h;split at h
  ·rename_i x hx;obtain⟨h8,h9⟩:=h;refine⟨⟨x,[],[],[]⟩,sn ho hx,rfl,(λs hs=>by grind[names]),OC _,L7 _,h8,hd,?_⟩;have e:∀ s:St,(St.put o.dst x s)=⟨(St.put o.dst x s).tmps,s.Aj⟩:=λs=>by cases o.dst<;>rfl
   grind[JO]
  grind
 ·unfold FH at h;split at h
  ·rename_i x hx;obtain⟨h8,h9⟩:=h;refine⟨⟨x,[],[],[]⟩,AfB hx,rfl,(λs hs=>by grind[names]),OC _,L7 _,h8,hd,?_⟩;have e:∀ s:St,(St.put o.dst x s)=⟨(St.put o.dst x s).tmps,s.Aj⟩:=λs=>by cases o.dst<;>rfl
   grind[JO]
  grind
theorem Nf.mono{o:Oper}{r st:St}{p:List Nat}{cr:List (Nat × List Nat × List Nat)}{K K':BE->Prop}(h:Nf X o r st p cr K)(hk:∀ e,K e->K' e):Nf X o r st p cr K':=by
 obtain⟨e,h1,h2,h3,h4,h5,h6,h7⟩:=h;exact⟨e,h1,h2,h3,h4,h5,h6,hk e h7⟩
theorem HM{K:St->Prop}:∀ (os:List Oper) (tab:List (List Nat × List Nat)) (i:Nat) (cr:List (Nat × List Nat × List Nat)) (st:St),BB X all Aj os tab i K cr st->GH X all Aj os tab i cr K st
 |[],tab,i,cr,st,h=>h
 |_::_,[],_,_,_,h=>h
 | o::os,(p,ts)::tab,i,cr,st,h=>by
  simp[BB]at h;obtain⟨hd,h⟩:=h;simp[GH];have run:=fun(st:St) (h:JQ X o Aj ⟨restr st ts,Aj⟩ p i cr (BB X all Aj os tab (i+1) K) st)=>(SS rfl hd h).mono λe he=>(⟨he.1,HM os tab (i+1) _ _ he.2⟩:o.dst.isSome=true/\GH X all Aj os tab (i+1) (JO i e cr) K ⟨(St.put o.dst e.x st).tmps,e.H3++st.Aj⟩)
  split at h
  ·grind
  ·rename_i j b hg
   (try rw[hg])
   try simp only
   split at h
   ·rename_i b' hb
    (try rw[hb])
    exact⟨λhe=>run _ (h.1 he),λhe=>⟨hd,(h.2 he).1,HM os tab (i+1) _ _ (h.2 he).2⟩⟩
   ·rename_i hb
    (try rw[hb])
    exact⟨hd,h.1,HM os tab (i+1) _ _ h.2⟩
   grind
def Af2{ops:List Oper}{K:St->Prop}{st:St}(k:Nat)(tab:List (List Nat × List Nat))(hm:X.C.P.follows .mixedOrders=true)(CC:Xt ops.toArray k tab=true)
 (h:BB X ops.toArray st.Aj (ops.take k) tab 0 (Bw X ops.toArray (ops.drop k) K) [] st):Lj X ops.toArray K st :=
 We k tab hm CC (by grind[HM])
def AO{d:Option Nat}{FF:Nat}{xs Sr:List AV}{p:List Nat}{i:Nat}{cr:List (Nat × List Nat × List Nat)}{K:List (Nat × List Nat × List Nat)->St->Prop}{st:St}{y:AV}{ob J3:List (Nat × List AV)}(v:Way)(CC:Ad X.C FF Sr ob y J3)(hx:Ae (JU v.ρ xs) Sr)(hv:JK v ob=true)(hm:v.ρ.m=[])(hh:mE v ⟨[],Aj⟩ ob)
 (Me:v.ρ.bs=[]\/(Flat (y.CX v.back)/\Lg (FP v.back J3)))
 (h:OB (rngs v.back.l) (rngs v.fm) st.tmps/\G9 (rngs v.back.l) (rngs v.fm) st.Aj/\away cr p ⟨y.CX v.back,rngs v.back.l,rngs v.fm,FP v.back J3⟩ /\
  K (JO i ⟨y.CX v.back,rngs v.back.l,rngs v.fm,FP v.back J3⟩ cr) ⟨(St.put d (y.CX v.back) st).tmps,FP v.back J3++st.Aj⟩):Bn X d FF xs Aj p i cr K st:=by
 exact⟨v,ob,y,J3,(JK.ok hv).1,(JK.ok hv).2,hm,CC.Aq hx.AJ,hh.has,Me,h⟩
end
@[go_sem] theorem AaT(x:AV)(p:List Nat)(cr:List (Nat × List Nat × List Nat))(d:Option Nat)(K:St->Prop)(st:St):FH (some x) p cr d K st=(away cr p ⟨x,[],[],[]⟩/\K (st.put d x)):=rfl
@[go_sem] theorem yM(X:Env)(d:Option Nat)(FF:Nat)(CW xs:List AV)(Aj:List (Nat × List AV))(p:List Nat)(i:Nat)(cr:List (Nat × List Nat × List Nat))(K:List (Nat × List Nat × List Nat)->St->Prop)(st:St):RM X d (.fn FF CW) xs Aj p i cr K st=Bn X d FF (xs++CW) Aj p i cr K st:=rfl
@[go_sem] theorem AdU(p:List Nat)(r:BE):away [] p r=True:=rfl
@[go_sem] theorem AcE(i:Nat)(S T:List Nat)(l:List (Nat × List Nat × List Nat))(p:List Nat)(r:BE):away ((i,S,T)::l) p r=((i∈p\/(r.x.kill S T=r.x/\G9 S T r.H3))/\away l p r):=rfl
@[go_sem] theorem Adw(st:St):restr st []=[]:=rfl
@[go_sem] theorem Acg(st:St)(t:Nat)(ts:List Nat):restr st (t::ts)=(match lk t st.tmps with
 |some x=>(t,x)::restr st ts
 |none=>restr st ts):=rfl
@[go_sem] theorem Ad1(i:Nat)(x:AV)(u:List (Nat × List AV))(cr:List (Nat × List Nat × List Nat)):JO i ⟨x,[],[],u⟩ cr=cr:=rfl
@[go_sem] theorem AgZ(i s:Nat)(S T:List Nat)(x:AV)(u:List (Nat × List AV))(cr:List (Nat × List Nat × List Nat)):JO i ⟨x,s::S,T,u⟩ cr=(i,s::S,T)::cr:=rfl
@[go_sem] theorem Ag0(i s:Nat)(T:List Nat)(x:AV)(u:List (Nat × List AV))(cr:List (Nat × List Nat × List Nat)):JO i ⟨x,[],s::T,u⟩ cr=(i,[],s::T)::cr:=rfl
attribute [go_sem] SR OB G9
section
variable (X:Env) (all:Array Oper) (Aj:List (Nat × List AV)) (K:St->Prop) (os:List Oper) (p ts:List Nat) (tab:List (List Nat × List Nat)) (i:Nat) (cr:List (Nat × List Nat × List Nat)) (st:St) (d:Nat) (ty:TypeId) (pos:String) (H2:Array Edge)
@[go_sem] theorem AcR(tab:List (List Nat × List Nat)):BB X all Aj [] tab i K cr st=K st:=rfl
@[go_sem] theorem AcP(op:Op)(j:Nat)(b:Bool):BB X all Aj (⟨some d,op,ty,pos,H2,some (j,b)⟩::os) ((p,ts)::tab) i K cr st =
 (match guardOf all j ⟨restr st ts,Aj⟩ with
  |some (.v (.bool b'))=>GP b' b (BB X all Aj (⟨some d,op,ty,pos,H2,none⟩::os) ((p,ts)::tab) i K cr (st.learn (gdst all j) b)) (away cr p ⟨.BC [],[],[],[]⟩/\BB X all Aj os tab (i+1) K cr ((st.learn (gdst all j) (!b)).put (some d) (.BC [])))
  |some (.BC [])=>away cr p ⟨.BC [],[],[],[]⟩/\BB X all Aj os tab (i+1) K cr (st.put (some d) (.BC []))
  |_=>False):=by
 have e:∀ r KK st,JQ X ⟨some d,op,ty,pos,H2,some (j,b)⟩ Aj r p i cr KK st=JQ X ⟨some d,op,ty,pos,H2,none⟩ Aj r p i cr KK st:=λr KK st=>by cases op<;>rfl
 simp_all[BB]
@[go_sem] theorem Aek(f:Operand)(args:Array Operand)(tys:Array TypeId):BB X all Aj (⟨some d,.call ⟨.value f,args,tys⟩,ty,pos,H2,none⟩::os) ((p,ts)::tab) i K cr st=RM X (some d) (ev X.C ⟨restr st ts,Aj⟩ f) (D1 X.C ⟨restr st ts,Aj⟩ args.toList) Aj p i cr (BB X all Aj os tab (i+1) K) st:=by simp only[BB,Option.isSome_some,true_and];rfl
@[go_sem] theorem AcM(t:TypeId):BB X all Aj (⟨some d,.alloc t,ty,pos,H2,none⟩::os) ((p,ts)::tab) i K cr st=(match zeroOf X.C.P t with
  |some zs=>SR d zs p i cr (BB X all Aj os tab (i+1) K) st
  |none=>False):=by
 simp only[BB,Option.isSome_some,true_and,JQ];grind
@[go_sem] theorem Aem(x:Operand):BB X all Aj (⟨some d,.move x,ty,pos,H2,none⟩::os) ((p,ts)::tab) i K cr st=FH (some (ev X.C ⟨restr st ts,Aj⟩ x)) p cr (some d) (BB X all Aj os tab (i+1) K cr) st:=by simp only[BB,Option.isSome_some,true_and];rfl
@[go_sem] theorem AaS(x:Operand):BB X all Aj (⟨some d,.assign x,ty,pos,H2,none⟩::os) ((p,ts)::tab) i K cr st=FH (some (ev X.C ⟨restr st ts,Aj⟩ x)) p cr (some d) (BB X all Aj os tab (i+1) K cr) st:=by simp only[BB,Option.isSome_some,true_and];rfl
@[go_sem] theorem Aen(c a b:Operand):BB X all Aj (⟨some d,.pick c a b,ty,pos,H2,none⟩::os) ((p,ts)::tab) i K cr st=FH (O0 (ev X.C ⟨restr st ts,Aj⟩ c) (ev X.C ⟨restr st ts,Aj⟩ a) (ev X.C ⟨restr st ts,Aj⟩ b)) p cr (some d) (BB X all Aj os tab (i+1) K cr) st:=by simp only[BB,Option.isSome_some,true_and];rfl
@[go_sem] theorem Ael(t:TypeId)(x:Operand):BB X all Aj (⟨some d,.load t x,ty,pos,H2,none⟩::os) ((p,ts)::tab) i K cr st=FH (W1 X.C t (ev X.C ⟨restr st ts,Aj⟩ x) Aj) p cr (some d) (BB X all Aj os tab (i+1) K cr) st:=by simp only[BB,Option.isSome_some,true_and];rfl
@[go_sem] theorem ui(t:TypeId)(x:Operand)(n:Nat):BB X all Aj (⟨some d,.fieldAddr t x n,ty,pos,H2,none⟩::os) ((p,ts)::tab) i K cr st=FH ((match Bq X.C.P t n with
  |some off=>QA off (ev X.C ⟨restr st ts,Aj⟩ x)
  |none=>none)) p cr (some d) (BB X all Aj os tab (i+1) K cr) st:=by
 simp only[BB,Option.isSome_some,true_and];rfl
@[go_sem] theorem uj(t:TypeId)(x y:Operand):BB X all Aj (⟨some d,.indexAddr t x y,ty,pos,H2,none⟩::os) ((p,ts)::tab) i K cr st=FH (Tb X.C t (ev X.C ⟨restr st ts,Aj⟩ x) (ev X.C ⟨restr st ts,Aj⟩ y)) p cr (some d) (BB X all Aj os tab (i+1) K cr) st:=by simp only[BB,Option.isSome_some,true_and];rfl
@[go_sem] theorem wV(x:Operand):BB X all Aj (⟨some d,.nilCheck x,ty,pos,H2,none⟩::os) ((p,ts)::tab) i K cr st=FH (Mq (ev X.C ⟨restr st ts,Aj⟩ x)) p cr (some d) (BB X all Aj os tab (i+1) K cr) st:=by simp only[BB,Option.isSome_some,true_and];rfl
@[go_sem] theorem AcN(op:BinOp)(t t2:TypeId)(x y:Operand):BB X all Aj (⟨some d,.binOp op t x y t2,ty,pos,H2,none⟩::os) ((p,ts)::tab) i K cr st=FH (gD X.C.P op t (ev X.C ⟨restr st ts,Aj⟩ x) (ev X.C ⟨restr st ts,Aj⟩ y)) p cr (some d) (BB X all Aj os tab (i+1) K cr) st:=by simp only[BB,Option.isSome_some,true_and];rfl
@[go_sem] theorem Aeo(op:UnOp)(t:TypeId)(x:Operand):BB X all Aj (⟨some d,.unOp op t x,ty,pos,H2,none⟩::os) ((p,ts)::tab) i K cr st=FH (cL op (ev X.C ⟨restr st ts,Aj⟩ x)) p cr (some d) (BB X all Aj os tab (i+1) K cr) st:=by simp only[BB,Option.isSome_some,true_and];rfl
@[go_sem] theorem yK(s t:TypeId)(x:Operand):BB X all Aj (⟨some d,.convert s t x,ty,pos,H2,none⟩::os) ((p,ts)::tab) i K cr st=FH (V5 X.C.P s t (ev X.C ⟨restr st ts,Aj⟩ x)) p cr (some d) (BB X all Aj os tab (i+1) K cr) st:=by simp only[BB,Option.isSome_some,true_and];rfl
@[go_sem] theorem yL(x:Operand)(n:Nat):BB X all Aj (⟨some d,.extract x n,ty,pos,H2,none⟩::os) ((p,ts)::tab) i K cr st=FH (L4 n (ev X.C ⟨restr st ts,Aj⟩ x)) p cr (some d) (BB X all Aj os tab (i+1) K cr) st:=by simp only[BB,Option.isSome_some,true_and];rfl
@[go_sem] theorem AcO(t:TypeId)(ps:Array (Nat × Operand)):BB X all Aj (⟨some d,.build t ps,ty,pos,H2,none⟩::os) ((p,ts)::tab) i K cr st=FH (SF X.C t (KT X.C ⟨restr st ts,Aj⟩ ps.toList)) p cr (some d) (BB X all Aj os tab (i+1) K cr) st:=by simp only[BB,Option.isSome_some,true_and];rfl
@[go_sem] theorem AcQ(t:TypeId)(x:Operand)(lo hi mx:Option Operand):BB X all Aj (⟨some d,.slice t x lo hi mx,ty,pos,H2,none⟩::os) ((p,ts)::tab) i K cr st=FH ((if RU (ev X.C ⟨restr st ts,Aj⟩ x)&&mx.isSome then (ax X.C ⟨restr st ts,Aj⟩ t (ev X.C ⟨restr st ts,Aj⟩ x) lo hi mx).map (·.1) else (Jg X.C ⟨restr st ts,Aj⟩ t (ev X.C ⟨restr st ts,Aj⟩ x) lo hi mx).map (·.1))) p cr (some d) (BB X all Aj os tab (i+1) K cr) st:=by simp only[BB,Option.isSome_some,true_and];rfl
@[go_sem] theorem lC(t:TypeId)(x:Operand):BB X all Aj (⟨some d,.makeInterface t x,ty,pos,H2,none⟩::os) ((p,ts)::tab) i K cr st=FH ((if X.C.P.concrete t then some (.Kb t (ev X.C ⟨restr st ts,Aj⟩ x)) else none)) p cr (some d) (BB X all Aj os tab (i+1) K cr) st:=by simp only[BB,Option.isSome_some,true_and];rfl
@[go_sem] theorem Af5(x:Operand)(t:TypeId):BB X all Aj (⟨some d,.call ⟨.builtin .len,#[x],#[t]⟩,ty,pos,H2,none⟩::os) ((p,ts)::tab) i K cr st=FH ((if P5 X.C.P t (ev X.C ⟨restr st ts,Aj⟩ x)=true then WU (ev X.C ⟨restr st ts,Aj⟩ x) else none)) p cr (some d) (BB X all Aj os tab (i+1) K cr) st:=by simp only[BB,Option.isSome_some,true_and];rfl
@[go_sem] theorem AaR(x y:Operand)(t t2:TypeId):BB X all Aj (⟨some d,.call ⟨.builtin .append,#[x,y],#[t,t2]⟩,ty,pos,H2,none⟩::os) ((p,ts)::tab) i K cr st=FH ((Q8 X.C.P t t2 (ev X.C ⟨restr st ts,Aj⟩ x) (ev X.C ⟨restr st ts,Aj⟩ y))) p cr (some d) (BB X all Aj os tab (i+1) K cr) st:=by simp only[BB,Option.isSome_some,true_and];rfl
@[go_sem] theorem rn(t:TypeId)(len:Nat)(ps:Array (Nat × Operand)):BB X all Aj (⟨some d,.buildSlice t len ps,ty,pos,H2,none⟩::os) ((p,ts)::tab) i K cr st=FH (sm X.C.P t len (KT X.C ⟨restr st ts,Aj⟩ ps.toList)) p cr (some d) (BB X all Aj os tab (i+1) K cr) st:=by simp[BB,Option.isSome_some,true_and,JQ,PO]
end
attribute [go_sem] RU Q8 sm bD
end Go.Abs
namespace Go.Abs
open Go Go.ChangeShapes Go.WideShapes Go.RowKit
mutual
def fV{H:Type}:DataW H->Nat
 |.lit (.string b)=>b.length+1
 |.lit _=>1
 |.nil=>1
 |.ptr d=>fV d+1
 |.slice a b=>b9 a+b9 b+1
 |.agg a=>b9 a+1
 |.iface _ d=>fV d+1
 |.map _=>1
 |.held _=>1
def b9{H:Type}:List (DataW H)->Nat
 |[]=>0
 | d::r=>fV d+b9 r
end
def Xn{ro:Nat->Prop}{w:World}{ad:Addr}:∀ {xs:List AV} {us:List Value} {j:Nat},CR ro w xs us->(∀ k,k<us.length->w.cell? (ad.add (j+k))=us[k]?)->EG ro w xs ad j
 |[],[],_,_,_=>by simp[EG]
 | x::xs,u::us,j,h,hc=>by
  simp only[EG];refine⟨⟨u,by simpa using hc 0 (by simp),h.1⟩,Xn h.2 λk hk=>?_⟩;have:=hc (k+1) (by simp;omega);rw[show j+1+k=j+(k+1) by omega];simpa using this
 |[],_::_,_,h,_=>False.elim h
 |_::_,[],_,h,_=>False.elim h
def yt(P:Program)(t:TypeId){α:Type}(e:α->List AV)(m:α->Nat)(Q:α->Prop):Prop :=
 ∀ (H:Type) (enc:TypeId × Value->H) (w:World) (fuel:Nat) (cs:List Value) (x:DataW H × List MemPlace),DataW.trod enc P w 0 (λ_=>true) true fuel t cs=some x ->
  ∃ a,Q a/\m a<=fV x.1/\CR (λb=>b<w.heap.size) w (e a) cs
variable {P:Program} {t:TypeId}
def av{k:IntKind}(ht:P.underlying t=some (.int k)):yt P t (λn:Int=>[.v (.int k n)]) (λ_=>1) (λn=>(Lit.int k n).wf=true):=by
 intro H enc w fuel cs x h;obtain⟨n,rfl,rfl,hw⟩:=DataW.trod_int ht h;exact⟨n,hw,by simp[fV],⟨rfl,by simp[Value.oneCell']⟩,trivial⟩
def gN(ht:P.underlying t=some .string):yt P t (λs:ByteArray=>[.v (.string s)]) (λs=>s.size+1) (λs=>s.size<=maxLen):=by
 intro H enc w fuel cs x h;obtain⟨s,rfl,rfl,hs⟩:=DataW.trod_string ht h;exact⟨s,hs,by simp_all[fV],⟨rfl,by simp[Value.oneCell']⟩,trivial⟩
theorem pT(a:Addr)(i j:Nat):(a.add i).add j=a.add (i+j):=Addr.add_add a i j
def Ny{ro:Nat->Prop}{w:World}{ad:Addr}{n:Nat}{α:Type}{e:α->List AV} :
 ∀ {xs:List α} {i:Nat},(∀ k x,xs[k]?=some x->∃ cs,w.cells? 0 (ad.add ((i+k)*n)) n=some cs/\CR ro w (e x) cs)->Ea ro w (xs.map e) ad n i
 |[],_,_=>by simp[Ea]
 | x::xs,i,h=>by
  simp[Ea];obtain⟨cs,bc,hp⟩:=h 0 x rfl;obtain⟨_,hl,hc⟩:=World.cells?_some bc;refine⟨hp.length.trans hl,Xn hp λk hk=>?_,Ny λk y hy=>?_⟩
  ·grind[pT]
  ·have:=h (k+1) y (by grind);grind
def fW{H:Type}:∀ {ds:List (DataW H)} {α:Type} {m:α->Nat} {xs:List α},xs.length=ds.length->(∀ (k:Nat) (x:α) (d:DataW H),xs[k]?=some x->ds[k]?=some d->m x<=fV d)->(xs.map m).sum<=b9 ds
 |[],_,_,[],_,_=>by simp
 | d::ds,α,m,x::xs,hl,h=>by
  simp[b9];have h0:=h 0 x d rfl rfl;have:=fW (m:=m) (xs:=xs) (ds:=ds) (by grind) λk y d hy hd=>h (k+1) y d (by grind) (by grind)
  omega
 |[],_,_,_::_,hl,_=>by grind
 |_::_,_,_,[],hl,_=>by grind
def pick{α β:Type}{q:Nat->β->Prop}{R:Nat->α->β->Prop}:∀ (n:Nat) (l:List β),l.length=n->(∀ i y,l[i]?=some y->∃ x,R i x y)->∃ xs:List α,xs.length=n/\∀ i x y,xs[i]?=some x->l[i]?=some y->R i x y:=by
 intro n
 induction n generalizing R with
 | zero=>simp
 | succ n ih =>
  intro l hl h;cases l with
  | nil=>grind
  | cons y l =>
   obtain⟨x,hx⟩:=h 0 y rfl;obtain⟨xs,hxl,zg⟩:=ih (R:=λi=>R (i+1)) l (by grind) λi y hy=>h (i+1) y (by grind)
   refine⟨x::xs,by grind,λi a b ha hb=>?_⟩;grind
def na{el:TypeId}{α:Type}{e:α->List AV}{m:α->Nat}{Q:α->Prop}{n:Nat}(he:yt P el e m Q)(ht:P.underlying t=some (.slice el))(hc:P.cellsOf el=n)(hn:0<n) :
 yt P t (λxs:List α=>[.sl .no n (xs.map e)]) (λxs=>(xs.map m).sum+1) (λxs=>∀ x∈xs,Q x):=by
 intro H enc w fuel cs x h;rcases DataW.trod_slice ht h with ⟨rfl,rfl⟩|⟨a,len,cap,elems,rest,k,rfl,rfl,rfl,_,hl,hm,hlen,nW,_,_⟩
 ·refine⟨[],by simp,by simp[fV],?_,trivial⟩;simp only[List.map_nil,PR];grind
 ·subst hlen;obtain⟨xs,hxl,zg⟩:=pick (α:=α) (q:=λ_ _=>True) (R:=λi x y=>Q x/\m x<=fV y.1/\∃ cs,w.cells? 0 (a.add (i*n)) n=some cs/\CR (λb=>b<w.heap.size) w (e x) cs) elems.length elems rfl (by
   intro i y hy;have hi:i<elems.length:=by grind
   have:=nW i hi;rw[hy,hc,Option.bind_eq_some_iff]at this;obtain⟨cs,h1,h2⟩:=this;obtain⟨x,q1,q2,q3⟩:=he H enc w k cs y h2;grind)
  have S5:∀ i x,xs[i]?=some x->∃ y,elems[i]?=some y:=λi x hx=>by
   have:i<elems.length:=by
    rcases Nat.lt_or_ge i xs.length with h|h
    ·omega
    ·rw[List.getElem?_eq_none h]at hx;grind
   exact⟨_,List.getElem?_eq_getElem this⟩
  refine⟨xs,λx hx=>?_,?_,?_,trivial⟩
  ·grind[List.mem_iff_getElem?]
  ·simp only[fV];have:=fW (m:=m) (xs:=xs) (ds:=elems.map (·.1)) (by grind) λi x d hx hd=>by grind
   omega
  ·simp only[PR];refine⟨by simp,some a,cap,by grind,by grind,hm,by simp,hn,?_⟩;cases xs with
   | nil=>grind
   | cons x xs =>
    refine Or.inr ⟨a,rfl,?_,Ny λi x hx=>?_⟩
    ·obtain⟨y,hy⟩:=S5 0 x rfl;obtain⟨_,_,cs,h1,_⟩:=zg 0 x y rfl hy;obtain⟨_,hl,Ue⟩:=World.cells?_some h1;have h0:=Ue 0 hn;simp_all[Addr.add,GM]
    grind
def nJ(w:World):Gh:=⟨λb=>if b<w.heap.size then .ro else .other,λ_=>w.heap.size,λ_=>w.heap.size⟩
theorem WN(w:World):CK (nJ w)=λb=>b<w.heap.size:=by
 funext b;grind[CK,nJ]
def Arg(P:Program)(t:TypeId){α:Type}(e:α->AV)(m:α->Nat)(Q:α->Prop):Prop :=
 ∀ (H:Type) (enc:TypeId × Value->H) (w:World) (base:Nat) (v:Value) (d:DataW H) (ps:List MemPlace),Value.okWide P w .any base t v->DataW.Trod enc P w 0 (λ_=>true) true t v d ps ->
  ∃ a,Q a/\m a<=fV d/\VR (nJ w) w (e a) v
def uQ{k:IntKind}(ht:P.underlying t=some (.int k)):Arg P t (λn:Int=>.v (.int k n)) (λ_=>1) (λn=>(Lit.int k n).wf=true):=by
 intro H enc w base v d ps hv hd;obtain⟨n,rfl⟩:=okWide_int ht hv;obtain⟨fuel,hf⟩:=hd;obtain⟨a,h,hm,hp⟩:=av ht H enc w fuel _ _ hf;simp_all[CR,PR,Value.cells,VR]
def SB{el:TypeId}{α:Type}{e:α->List AV}{m:α->Nat}{Q:α->Prop}{n:Nat}(he:yt P el e m Q)(ht:P.underlying t=some (.slice el))(hc:P.cellsOf el=n)(hn:0<n) :
 Arg P t (λxs:List α=>.sl .no n (xs.map e)) (λxs=>(xs.map m).sum+1) (λxs=>∀ x∈xs,Q x):=by
 intro H enc w base v d ps hv hd;obtain⟨a,len,cap,rfl⟩:=okWide_slice ht hv;obtain⟨fuel,hf⟩:=hd;obtain⟨xs,h,hm,hp⟩:=na he ht hc hn H enc w fuel _ _ hf;grind[CR,Value.cells,VR,WN]
def Arg.map{α β:Type}{e:α->AV}{e':β->AV}{m:α->Nat}{m':β->Nat}{Q:α->Prop}{Q':β->Prop}(h:Arg P t e m Q)(hf:∀ a,Q a->∃ b,Q' b/\m' b<=m a/\e' b=e a):Arg P t e' m' Q':=by
 intro H enc w base v d ps hv hd;obtain⟨a,q1,q2,q3⟩:=h H enc w base v d ps hv hd;grind
def Args(P:Program):List TypeId->{α:Type}->(α->List AV)->(α->Nat)->(α->Prop)->Prop
 | ts,α,e,m,Q=>∀ (H:Type) (enc:TypeId × Value->H) (w:World) (base:Nat) (vs:List Value) (ds:List (DataW H)) (ps:List MemPlace),
  (∀ (j:Nat) t v,ts[j]?=some t->vs[j]?=some v->Value.okWide P w .any base t v)->DataW.TrodAll enc P w 0 (λ_=>true) true ts vs ds ps ->
  ∃ a:α,Q a/\m a<=b9 ds/\Bf (nJ w) w (e a) vs
def Ra:Args P [] (λ_:Unit=>[]) (λ_=>0) (λ_=>True):=by
 intro H enc w base vs ds ps hv h;obtain⟨rfl,rfl,rfl⟩:=trodAll_nil h;simp_all[Bf]
def IK{ts:List TypeId}{α β:Type}{e:α->AV}{m:α->Nat}{Q:α->Prop}{e':β->List AV}{m':β->Nat}{Q':β->Prop}(h:Arg P t e m Q)(hs:Args P ts e' m' Q') :
 Args P (t::ts) (λx:α × β=>e x.1::e' x.2) (λx=>m x.1+m' x.2) (λx=>Q x.1/\Q' x.2):=by
 intro H enc w base vs ds ps hv hd;obtain⟨v,vs,d,ds,p,q,rfl,rfl,rfl,h1,h2⟩:=trodAll_cons hd;obtain⟨a,a1,a2,a3⟩:=h H enc w base v d p (hv 0 t v rfl rfl) h1;obtain⟨b,b1,b2,b3⟩:=hs H enc w base vs ds q (λj t v hj hjv=>hv (j+1) t v (by grind) (by grind)) h2;exact⟨(a,b),⟨a1,b1⟩,by grind[b9],by grind[Bf]⟩
def Qj{H:Type}{enc:TypeId × Value->H}(hl:laidOutB P=true){W W':World}{sp':Nat->Bool}:∀ {ts:List TypeId} {vs:List Value} {ds:List (DataW H)} {ps:List MemPlace},
 (∀ t∈ts,P.readableRec t=true/\t<P.types.size)->DataW.TrodAll enc P W 0 (λ_=>true) true ts vs ds ps->(∀ p∈ps,W.sameAt W' p)->(∀ p∈ps,sp' p.block=true)->DataW.TrodAll enc P W' 0 sp' true ts vs ds ps
 |[],vs,ds,ps,_,h,_,_=>by
  obtain⟨rfl,rfl,rfl⟩:=trodAll_nil h;exact trodAll_mk0
 | t::ts,vs,ds,ps,hr,h,hs,hsp=>by
  obtain⟨v,vs,d,ds,p,q,rfl,rfl,rfl,h1,h2⟩:=trodAll_cons h;exact⟨p,q,WideElems.Trod_stays hl (hr t (by simp)).1 (hr t (by simp)).2 h1 (λx hx=>hs x (by grind)) (λx hx=>hsp x (by grind)),
   Qj hl (λt ht=>hr t (by grind)) h2 (λx hx=>hs x (by grind)) (λx hx=>hsp x (by grind)),rfl⟩
def gB{H:Type}{enc:TypeId × Value->H}{f:Func}{s:ChangeSpec}{apart fresh handsOn again:Bool}{W W':World}{args:Array Value}{v:Value}{ds gs:List (DataW H)}{before pa pv:List MemPlace}
 (hW:DataW.Whole enc P f.params.toList s.vars apart W args.toList ds gs before)
 (N2:∀ (b:Nat) (sp:Nat->Bool) (hd:Bool),DataW.TrodAll enc P W' b sp hd f.resultTypes.toList (v.resultList f.resultTypes.size) (s.fn H (ds++gs)).results [])
 (Hh:∀ sp:Nat->Bool,(∀ p∈before,sp p.block=true)->DataW.TrodAll enc P W' 0 sp true f.params.toList args.toList (s.fn H (ds++gs)).args pa)
 (ze:∀ sp:Nat->Bool,(∀ p∈before,sp p.block=true)->DataW.TrodVars enc P W' sp s.vars (s.fn H (ds++gs)).vars pv)
 (iL:before=pa++pv) (hb:Below W.heap.size W W')
 (CC:∀ (j:Nat) (t:TypeId) (r:Value),f.resultTypes[j]?=some t->(v.resultList f.resultTypes.size)[j]?=some r->Value.okWide P W' .any 0 t r) :
 s.post enc P f apart fresh handsOn again W args v W':=by
 have AP:∀ p∈before,p.block<W.heap.size:=λp hp=>hW.lt p hp
 have hold:∀ p∈before,(λb=>decide (b<W.heap.size)) p.block=true:=λp hp=>by grind
 refine⟨ds,gs,before,[],pa,pv,hW,N2 _ _ _,Hh _ hold,ze _ hold,World.keptBut_mono (λp hp=>⟨hp,?_⟩) (hb.frame (·∈before)),λ_=>?_⟩
 ·grind
 ·obtain⟨_,_,_,_,_,hz,hn⟩:=hW;refine⟨CC,_,_,([]++pa)++pv,⟨[]++pa,pv,trodAll_append (Hh _ (λ_ _=>rfl)) (N2 _ _ _),ze _ (λ_ _=>rfl),rfl,?_,?_⟩,?_⟩
  ·intro b off hp;have Hf:MemPlace.cell b off∈before:=by grind
   rw[hb.frozen (AP _ Hf)];exact hz b off Hf
  ·grind
  grind
end Go.Abs
namespace Go.Abs
inductive OT where
 | done
 | pick(l:List (Nat × OT))
mutual
def pS(ops:Array Oper)(dn:List Nat):OT->Bool
 |.done=>(List.range ops.size).all λi=>dn.contains i
 |.pick l=>(List.range ops.size).any (λi=>!dn.contains i&&(BL ops i).all λe=>dn.contains e)&&(List.range ops.size).all (λi=>dn.contains i||!((BL ops i).all λe=>dn.contains e)||(Zb l).contains i)&&xN ops dn l
def xN(ops:Array Oper)(dn:List Nat):List (Nat × OT)->Bool
 |[]=>true
 |(i,t)::l=>pS ops (i::dn) t&&xN ops dn l
def Zb:List (Nat × OT)->List Nat
 |[]=>[]
 |(i,_)::l=>i::Zb l
end
def N3(ops:Array Oper)(i:Nat):List Oper:=match ops[i]? with
 |some o=>[o]
 |none=>[]
mutual
def fZ(X:Env)(ops:Array Oper)(K:St->Prop):OT->St->Prop
 |.done=>K
 |.pick l=>pt X ops K l
def pt(X:Env)(ops:Array Oper)(K:St->Prop):List (Nat × OT)->St->Prop
 |[]=>λ_=>True
 |(i,t)::l=>λst=>Bw X ops (N3 ops i) (fZ X ops K t) st/\pt X ops K l st
end
section
variable {X:Env} {A:A0} {N:Nat} {ops:Array Oper}
def gy(N:Nat)(ops:Array Oper):Prop:=(∀ o∈ops,KS N o=true)/\∀ i,i<ops.size->∀ e∈BL ops i,e<ops.size
theorem U8(h:gy N ops){i:Nat}(e:Nat)(he:e∈BL ops i)(hi:i<ops.size):e<ops.size:=h.2 i hi e he
def OZ(hA:A.ext=X.ext)(hX:∀ s∈X.ext,s%32=31){Q:Exit->Act->World->Prop}{K:St->Prop}{K':Act->World->Prop}{i:Nat}{o:Oper}(ho:ops[i]?=some o)(hk:∀ g' st' a' w',R X.C A N g' st' a' w'->K st'->K' a' w')
 {g:Gh} {st:St} {a:Act} {w:World} (hd:KS N o=true) (h:Jx X ops o K st) (hR:R X.C A N g st a w):wpOp X.C.P ops Q i K' a w:=by
 unfold wpOp;simp[ho];unfold Jx at h;split at h
 ·rename_i hg;have:Region.wanted o (yielded ops a.tmps)=true:=by simp[Region.wanted,hg]
  simp only[this,if_true];grind[Po]
 ·rename_i j b hg;split at h
  ·rename_i b' hb;have hy:=Nh hR hb
   by_cases he:b'=b
   ·have:Region.wanted o (yielded ops a.tmps)=true:=by grind[Region.wanted]
    simp only[this,if_true];have h1:=h.1 he;grind[KP,Po]
   ·have:Region.wanted o (yielded ops a.tmps)=false:=by grind[Region.wanted]
    simp only[this,Bool.false_eq_true,if_false];have Vp:∀ k,o.dst=some k->k<N:=λk hk=>by grind[KS]
    have h1:=h.2 he;have sS:(!b)=b':=by cases b<;>cases b'<;>first|rfl|grind
    rw[sS,KP hb]at h1;exact hk g _ _ w (hR.put Vp VI) h1
  ·rename_i hb;have hy:=SZ hR hb;have:Region.wanted o (yielded ops a.tmps)=false:=by grind[Region.wanted]
   simp only[this,Bool.false_eq_true,if_false];have Vp:∀ k,o.dst=some k->k<N:=λk hk=>by grind[KS]
   exact hk g _ _ w (hR.put Vp VI) h
  grind
mutual
def Qo(hA:A.ext=X.ext)(hX:∀ s∈X.ext,s%32=31)(hN:gy N ops){Q:Exit->Act->World->Prop}{K:St->Prop}(hQ:∀ g st a w,R X.C A N g st a w->K st->Q .normal a w) :
 ∀ (t:OT) (fuel:Nat) (dn:List Nat) (Af:Array Bool) (g:Gh) (st:St) (a:Act) (w:World),Af.size=ops.size->XU Af<=fuel->(∀ j,j<ops.size->ES Af j=dn.contains j)->pS ops dn t=true->fZ X ops K t st->R X.C A N g st a w ->
  wpAny X.C.P .any ops Q fuel Af a w
 |.done,fuel,dn,Af,g,st,a,w,hs,hu,hd,CC,h,hR=>by
  simp only[pS,List.all_eq_true,List.mem_range]at CC;have h0:Region.ready .any ops Af=[]:=by
   cases hrd:Region.ready .any ops Af with
   | nil=>rfl
   | cons j l =>
    have hj:j∈Region.ready .any ops Af:=by grind
    grind[Cj]
  simp[fZ]at h;cases fuel with
  | zero=>exact⟨h0,hQ g st a w hR h⟩
  | succ fuel=>exact⟨λ_=>hQ g st a w hR h,λj hj=>by grind⟩
 |.pick l,fuel,dn,Af,g,st,a,w,hs,hu,hd,CC,h,hR=>by
  simp only[pS,Bool.and_eq_true,List.all_eq_true,List.any_eq_true,List.mem_range]at CC;obtain⟨⟨⟨i,hi,QJ,NP⟩,AlQ⟩,AhX⟩:=CC;simp[fZ]at h;have Ha:i∈Region.ready .any ops Af:=(Cj hs).2 ⟨hi,by grind,λe he=>by grind[U8]⟩;have Abj:∀ j∈Region.ready .any ops Af,j∈Zb l:=λj hj=>by grind[Cj,U8]
  cases fuel with
  | zero =>
   grind[Iv]
  | succ fuel =>
   refine⟨λh0=>(by grind),λj hj=>?_⟩;obtain⟨h1,h2,_⟩:=(Cj hs).1 hj;exact TJ hA hX hN hQ l fuel dn Af g st a w hs (by have:=Jh (by omega:j<Af.size) h2;omega) hd AhX h hR j h1 h2 (Abj j hj)
def TJ(hA:A.ext=X.ext)(hX:∀ s∈X.ext,s%32=31)(hN:gy N ops){Q:Exit->Act->World->Prop}{K:St->Prop}(hQ:∀ g st a w,R X.C A N g st a w->K st->Q .normal a w) :
 ∀ (l:List (Nat × OT)) (fuel:Nat) (dn:List Nat) (Af:Array Bool) (g:Gh) (st:St) (a:Act) (w:World),Af.size=ops.size->XU Af<=fuel+1->(∀ j,j<ops.size->ES Af j=dn.contains j)->xN ops dn l=true->pt X ops K l st->R X.C A N g st a w ->
  ∀ j,j<ops.size->ES Af j=false->j∈Zb l->wpOp X.C.P ops Q j (wpAny X.C.P .any ops Q fuel (Af.setIfInBounds j true)) a w
 |[],_,_,_,_,_,_,_,_,_,_,_,_,_,j,_,_,hm=>by grind[Zb]
 |(i,t)::l,fuel,dn,Af,g,st,a,w,hs,hu,hd,CC,h,hR,j,hj,UO,hm=>by
  simp[xN]at CC;simp[pt]at h
  by_cases UN:j=i
  ·subst UN;have ho:ops[j]?=some ops[j]:=Array.getElem?_eq_getElem hj;have h1:=h.1;simp[N3,ho,Bw]at h1;refine OZ hA hX ho (λg' st' a' w' WC um=>?_) (hN.1 _ (Array.getElem_mem hj)) h1 hR;refine Qo hA hX hN hQ t fuel (j::dn) _ g' st' a' w' (by grind) (by grind[Jh]) (λq hq=>?_) CC.1 um WC;simp_all[Ff,Jk]
  ·refine TJ hA hX hN hQ l fuel dn Af g st a w hs hu hd CC.2 h.2 hR j hj UO ?_;simp only[Zb,List.mem_cons]at hm;rcases hm with hm|hm
   ·exact absurd hm UN
   ·exact hm
end
end
def J7(ops:Array Oper):Bool:=(List.range ops.size).all λi=>(BL ops i).all λe=>decide (e<ops.size)
def Wc{X:Env}{ops:Array Oper}{K:St->Prop}{st:St}(t:OT)(hm:X.C.P.follows .mixedOrders=true)(CC:(J7 ops&&pS ops [] t)=true)
 (h:fZ X ops K t st):Lj X ops K st:=by
 intro A N g a w hA hN hX hR id Q hQ;simp at CC;refine wp_region_any hm ?_;refine Qo hA hX (N:=N) (K:=K) ⟨λo ho=>?_,λi hi e he=>?_⟩ hQ t ops.size [] (Array.replicate ops.size false) g st a _ (by simp) (by simp[XU]) (λj hj=>by simp[ES,Array.getD,hj]) CC.2 h hR.drew
 ·grind[KS]
 ·have:=CC.1;simp[J7]at this;grind
@[go_sem] theorem AfY(X:Env)(ops:Array Oper)(K:St->Prop)(st:St):fZ X ops K .done st=K st:=by simp[fZ]
@[go_sem] theorem AgP(X:Env)(ops:Array Oper)(K:St->Prop)(i:Nat)(t:OT)(st:St):fZ X ops K (.pick [(i,t)]) st=Bw X ops (N3 ops i) (fZ X ops K t) st:=by simp[fZ,pt,and_true]
@[go_sem] theorem AgQ(X:Env)(ops:Array Oper)(K:St->Prop)(i j:Nat)(t t':OT)(l:List (Nat × OT))(st:St):fZ X ops K (.pick ((i,t)::(j,t')::l)) st=(Bw X ops (N3 ops i) (fZ X ops K t) st/\fZ X ops K (.pick ((j,t')::l)) st):=by grind[fZ,pt]
attribute [go_sem] N3
end Go.Abs
open Go Go.Abs
namespace Go.Rd
abbrev Bs:=List UInt8
def str(l:Bs):ByteArray:=⟨l.toArray⟩
def uT(bs:ByteArray):∀ (n i:Nat) (r:List UInt8),bs.size-i=n->ByteArray.toList.loop bs i r=r.reverse++bs.data.toList.drop i:=by
 intro n
 induction n with
 | zero =>
  intro i r h;rw[ByteArray.toList.loop];have hs:bs.size=bs.data.size:=rfl;rw[if_neg (by omega),List.drop_eq_nil_of_le (by simp;omega)];simp
 | succ n ih =>
  intro i r h;rw[ByteArray.toList.loop];have hs:bs.size=bs.data.size:=rfl;rw[if_pos (by omega),ih (i+1) _ (by omega)];rw[List.drop_eq_getElem_cons (l:=bs.data.toList) (i:=i) (by simp;omega)];have:bs.get! i=bs.data.toList[i]'(by simp;omega):=by
   show bs.data[i]! = _;rw[getElem!_pos bs.data i (by omega)];simp
  simp[this]
def Yn(l:List UInt8):(⟨l.toArray⟩:ByteArray).toList=l:=by
 unfold ByteArray.toList;rw[uT _ _ 0 [] rfl];simp
theorem tO(l:Bs):(str l).size=l.length:=rfl
def XL(l:Bs):(str l).toList=l:=Yn l
structure Ac where
 site:Int
 inc:Int
 num:Int
 deriving DecidableEq
structure BR where
 mode:Int
 AG:Int
 deriving DecidableEq
structure A9 where
 proc:Ac
 AH:BR
 deriving DecidableEq
structure Bh where
 proc:Ac
 AH:BR
 prio:Int
 Ec:Int
 deriving DecidableEq
structure BE where
 name:Bs
 kind:Int
 AG:Int
 home:Int
 deriving DecidableEq
structure Queue where
 res:BE
 holds:List A9
 As:List Bh
 waits:List Bh
 gen:Int
 deriving DecidableEq
structure Atom where
 name:Bs
 AH:BR
 deriving DecidableEq
inductive Expr where
 | mk(k:Int)(atom:Atom)(kids:List Expr)
structure Need where
 proc:Ac
 expr:Expr
 gen:Int
structure WS where
 Aa:List Queue
 Aw:List Need
def Ac.c(p:Ac):List AV:=[.v (.int .i64 p.site),.v (.int .i64 p.inc),.v (.int .i64 p.num)]
def BR.c(a:BR):List AV:=[.v (.int .i64 a.mode),.v (.int .i64 a.AG)]
def A9.c(h:A9):List AV:=[.v (.int .i64 h.proc.site),.v (.int .i64 h.proc.inc),.v (.int .i64 h.proc.num),.v (.int .i64 h.AH.mode),.v (.int .i64 h.AH.AG)]
def Bh.c(h:Bh):List AV:=[.v (.int .i64 h.proc.site),.v (.int .i64 h.proc.inc),.v (.int .i64 h.proc.num),.v (.int .i64 h.AH.mode),.v (.int .i64 h.AH.AG),.v (.int .i64 h.prio),.v (.int .i64 h.Ec)]
def BE.c(r:BE):List AV:=[.v (.string (str r.name)),.v (.int .i64 r.kind),.v (.int .i64 r.AG),.v (.int .i64 r.home)]
@[reducible] def Bg(l:List A9):AV:=.sl .no 5 (l.map A9.c)
@[reducible] def Ct(l:List Bh):AV:=.sl .no 7 (l.map Bh.c)
@[reducible] def AL(l:List Ac):AV:=.sl .no 3 (l.map Ac.c)
@[reducible] def TK(l:List BR):AV:=.sl .no 2 (l.map BR.c)
def Queue.c(q:Queue):List AV:=[.v (.string (str q.res.name)),.v (.int .i64 q.res.kind),.v (.int .i64 q.res.AG),.v (.int .i64 q.res.home),Bg q.holds,Ct q.As,Ct q.waits,.v (.int .i64 q.gen)]
@[reducible] def AN(l:List Queue):AV:=.sl .no 8 (l.map Queue.c)
def Atom.c(a:Atom):List AV:=[.v (.string (str a.name)),.v (.int .i64 a.AH.mode),.v (.int .i64 a.AH.AG)]
@[reducible] def BG(l:List Atom):AV:=.sl .no 3 (l.map Atom.c)
def Expr.k:Expr->Int
 |.mk k _ _=>k
def Expr.atom:Expr->Atom
 |.mk _ a _=>a
def Expr.kids:Expr->List Expr
 |.mk _ _ l=>l
mutual
def Expr.lT:List Expr->List (List AV)
 |[]=>[]
 | e::l=>Expr.c e::Expr.lT l
def Expr.c:Expr->List AV
 |.mk k a l=>[.v (.int .i64 k),.v (.string (str a.name)),.v (.int .i64 a.AH.mode),.v (.int .i64 a.AH.AG),.sl .no 5 (Expr.lT l)]
end
def Ze:∀ l,Expr.lT l=l.map Expr.c
 |[]=>rfl
 | e::l=>by simp[Expr.lT,Ze l]
@[reducible] def JP(l:List Expr):AV:=.sl .no 5 (l.map Expr.c)
theorem Expr.Dg(e:Expr):e.c=[.v (.int .i64 e.k),.v (.string (str e.atom.name)),.v (.int .i64 e.atom.AH.mode),.v (.int .i64 e.atom.AH.AG),JP e.kids]:=by
 cases e with
 | mk k a l=>simp[Expr.c,Expr.k,Expr.atom,Expr.kids,Ze]
def Need.c(n:Need):List AV:=[.v (.int .i64 n.proc.site),.v (.int .i64 n.proc.inc),.v (.int .i64 n.proc.num),.v (.int .i64 n.expr.k),.v (.string (str n.expr.atom.name)),.v (.int .i64 n.expr.atom.AH.mode),.v (.int .i64 n.expr.atom.AH.AG),JP n.expr.kids,.v (.int .i64 n.gen)]
@[reducible] def Io(l:List Need):AV:=.sl .no 9 (l.map Need.c)
def WS.c(s:WS):List AV:=[AN s.Aa,Io s.Aw]
attribute [go_sem] Ac.c BR.c A9.c Bh.c BE.c Queue.c Atom.c Expr.Dg Need.c WS.c tO XL Yn
@[go_sem] theorem Ais(k:IntKind)(n:Int):(Value.int k n).oneCell'=true:=rfl
@[go_sem] theorem AgB(b:Bool):(Value.bool b).oneCell'=true:=rfl
@[go_sem] theorem Ait(s:ByteArray):(Value.string s).oneCell'=true:=rfl
@[go_sem] theorem Akg(a:Option Addr)(n m:Nat):(Value.slice a n m).oneCell'=true:=rfl
@[reducible] def I(n:Int):AV:=.v (.int .i64 n)
@[reducible] def B(b:Bool):AV:=.v (.bool b)
end Go.Rd
namespace Go.Abs
mutual
def lens:AV->Prop
 |.sl _ _ es=>es.length<=9223372036854775807
 |.agg cs=>FZ cs
 |_=>True
def FZ:List AV->Prop
 |[]=>True
 | c::cs=>lens c/\FZ cs
end
mutual
theorem VR.lens{g:Gh}{w:World}:∀ (x:AV) (u:Value),VR g w x u->lens x
 |.sl (.own r lo) n es,u,h=>by grind[VR,Dr,Abs.lens,maxLen]
 |.sl .no n es,u,h=>by grind[VR,PR,Abs.lens,maxLen]
 |.sl .full n es,u,h=>by grind[VR,PR,Abs.lens,maxLen]
 |.agg cs,u,h=>by
  simp only[VR]at h;simp only[Abs.lens];obtain⟨us,_,h⟩:=h;exact Bf.lens cs us.toList h
 |.undef,_,_=>by simp[Abs.lens]
 |.v _,_,_=>by simp[Abs.lens]
 |.BC _,_,_=>by simp[Abs.lens]
 |.ptr _ _,_,_=>by simp[Abs.lens]
 |.ep _ _ _ _,_,_=>by simp[Abs.lens]
 |.fn _ _,_,_=>by simp[Abs.lens]
 |.mv _ _,_,_=>by simp[Abs.lens]
 |.mp _,_,_=>by simp[Abs.lens]
 |.Kb _ _,_,_=>by simp[Abs.lens]
 |.mem _ _,_,_=>by simp[Abs.lens]
theorem Bf.lens{g:Gh}{w:World}:∀ (xs:List AV) (us:List Value),Bf g w xs us->FZ xs
 |[],_,_=>by simp[Abs.FZ]
 | c::cs,[],h=>by grind[Bf]
 | c::cs,u::us,h=>by
  simp only[Bf]at h;simp only[Abs.FZ];exact⟨VR.lens c u h.1,Bf.lens cs us h.2⟩
end
def Ad.assume{C:Ctx}{f:Nat}{fn:Func}{c:Code}{xs:List AV}{o o':List (Nat × List AV)}{y:AV}(hf:C.P.funcs[f]?=some fn)(Gj:(fn.name=="runtime.NumGoroutine")=false)(hb:fn.body=some c)
 (h:FZ xs->Ad C f xs o y o'):Ad C f xs o y o' :=
 ⟨⟨fn,c,hf,Gj,hb⟩,λg w us hg hv ho=>(h (Bf.lens xs us hv)).2 g w us hg hv ho⟩
end Go.Abs
namespace Go.Abs
def Ad.go{C:Ctx}{f:Nat}{xs:List AV}{o o':List (Nat × List AV)}{y:AV}(fn:Func)(h:Q3 ⟨C,names o⟩ (fn.body.getD .skip) (Xx ⟨C,names o⟩ fn.results.toList y o') ⟨XY 0 xs,o⟩)
 (hf:C.P.funcs[f]?=some fn:=by kernel_rfl) (Gj:(fn.name=="runtime.NumGoroutine")=false:=by kernel_rfl) (hb:fn.body=some (fn.body.getD .skip):=by kernel_rfl)
 (CC:HA fn.ntmps (fn.body.getD .skip)=true:=by kernel_rfl) (Hh:Nat.ble xs.length fn.ntmps=true:=by kernel_rfl) (JR:∀ s∈names o,s%32=31:=by simp[names]):Ad C f xs o y o' :=
 Ad.intro hf Gj hb CC (Nat.le_of_ble_eq_true Hh) JR h
theorem Ad.lens{C:Ctx}{f:Nat}{xs:List AV}{o o':List (Nat × List AV)}{y:AV}(fn:Func)(h:FZ xs->Ad C f xs o y o')
 (hf:C.P.funcs[f]?=some fn:=by kernel_rfl) (Gj:(fn.name=="runtime.NumGoroutine")=false:=by kernel_rfl) (hb:fn.body=some (fn.body.getD .skip):=by kernel_rfl):Ad C f xs o y o' :=
 Ad.assume hf Gj hb h
section
variable {X:Env} {d:Option Nat} {FF:Nat} {xs Sr:List AV} {K:St->Prop} {st st':St} {y y':AV} {ob J3:List (Nat × List AV)}
def CU{rs:List ResultVar}(ρ:Rn)(xs:List AV)(h4:Ci ((pack xs).CX ρ) y)(h1:Cx X.C st rs=some xs:=by(try simp(disch:=omega)only[go_sem,Cx,Gv])<;>rfl)(h2:ρ.OK:=by exact⟨rfl,rfl⟩)(h3:∀ s∈X.ext,lk s ρ.m=some s:=by simp):Xx X rs y [] .ret st :=
 AY ρ xs h1 h2 h3 h4 trivial
def CT{rs:List ResultVar}(xs:List AV)(h4:Ci ((pack xs).CX ⟨[],[],[]⟩) y)(h1:Cx X.C st rs=some xs:=by(try simp(disch:=omega)only[go_sem,Cx,Gv])<;>rfl)(h3:∀ s∈X.ext,lk s []=some s:=by simp):Xx X rs y [] .ret st :=
 AY ⟨[],[],[]⟩ xs h1 ⟨rfl,rfl⟩ h3 h4 trivial
def C8{rs:List ResultVar}(ρ:Rn)(xs:List AV)(h4:Ci ((pack xs).CX ρ) y)(h5:HI (Se ρ st) J3)(h1:Cx X.C st rs=some xs:=by(try simp(disch:=omega)only[go_sem,Cx,Gv])<;>rfl)(h2:ρ.OK:=by exact⟨rfl,rfl⟩)(h3:∀ s∈X.ext,lk s ρ.m=some s:=by simp[lk,names]):Xx X rs y J3 .ret st :=
 AY ρ xs h1 h2 h3 h4 h5
def Ab(CC:Ad X.C FF Sr [] y [])(hk:K (st.put d y'))(hx:Ae (JU ⟨[],[],[]⟩ xs) Sr:=by simp(disch:=omega)only[go_sem])(hy:y.CX ⟨[],[],[]⟩=y':=by rfl):Bi X d FF xs K st :=
 Ai CC hx hy hk
def Ax{Aj:List (Nat × List AV)}{p:List Nat}{i:Nat}{cr:List (Nat × List Nat × List Nat)}{K:List (Nat × List Nat × List Nat)->St->Prop}(CC:Ad X.C FF Sr [] y [])
 (h:OB (rngs (Way.back ⟨⟨[],[],[]⟩,[],[]⟩).l) (rngs []) st.tmps/\G9 (rngs (Way.back ⟨⟨[],[],[]⟩,[],[]⟩).l) (rngs []) st.Aj/\away cr p ⟨y.CX (Way.back ⟨⟨[],[],[]⟩,[],[]⟩),rngs (Way.back ⟨⟨[],[],[]⟩,[],[]⟩).l,rngs [],FP (Way.back ⟨⟨[],[],[]⟩,[],[]⟩) []⟩ /\
  K (JO i ⟨y.CX (Way.back ⟨⟨[],[],[]⟩,[],[]⟩),rngs (Way.back ⟨⟨[],[],[]⟩,[],[]⟩).l,rngs [],FP (Way.back ⟨⟨[],[],[]⟩,[],[]⟩) []⟩ cr) ⟨(St.put d (y.CX (Way.back ⟨⟨[],[],[]⟩,[],[]⟩)) st).tmps,FP (Way.back ⟨⟨[],[],[]⟩,[],[]⟩) []++st.Aj⟩)
 (hx:Ae (JU ⟨[],[],[]⟩ xs) Sr:=by simp(disch:=omega)only[go_sem]):Bn X d FF xs Aj p i cr K st :=
 AO ⟨⟨[],[],[]⟩,[],[]⟩ CC hx rfl rfl trivial (.inl rfl) h
def AK(ht:IB st st'.tmps:=by simp(disch:=omega)only[go_sem])(ho:HI st st'.Aj:=by simp(disch:=omega)only[go_sem]):AT X st st':=AT.Aq ht ho
def call2(v:Way)(CC:Ad X.C FF Sr ob y J3)(hk:K ((st.app (rngs v.back.l) (rngs v.fm) (rngs v.back.m) (FP v.back J3)).put d (y.CX v.back)))
 (hx:Ae (JU v.ρ xs) Sr:=by simp(disch:=omega)only[go_sem]) (hh:cw v st ob:=by simp(disch:=omega)only[go_sem]) (hv:JK v ob=true:=by rfl) (Me:v.ρ.bs=[]\/(Flat (y.CX v.back)/\Lg (FP v.back J3)):=by exact .inl rfl):Bi X d FF xs K st :=
 By v CC hx hv hh Me hk
end
def tP:List (List Nat × List Nat)->List (List Nat × List Nat)->Bool
 |[],_=>true
 |_::_,[]=>false
 |(p,ts)::t,(q,us)::u=>p.all (λj=>q.contains j)&&ts==us&&tP t u
def Aeh(ops:Array Oper)(t l:List (List Nat × List Nat))(i:Nat):List (List Nat × List Nat):=l++[((List.range i).filter (λj=>(BL ops i).any λe=>j==e||(Ey l e).contains j),(t.getD i ([],[])).2)]
def ri(ops:Array Oper)(t:List (List Nat × List Nat)):Nat->List (List Nat × List Nat)
 | 0=>[]
 | i+1=>Aeh ops t (ri ops t i) i
def Rf{p q:List Nat}(h:∀ j∈p,j∈q){r:BE}:∀ {cr:List (Nat × List Nat × List Nat)},away cr p r->away cr q r
 |[],_=>trivial
 |(i,S,T)::l,ha=>⟨ha.1.imp (h i) id,Rf h ha.2⟩
theorem PD{X:Env}{all:Array Oper}{Aj:List (Nat × List AV)}{K:St->Prop}:∀ (os:List Oper) (t u:List (List Nat × List Nat)) (i:Nat) (cr:List (Nat × List Nat × List Nat)) (st:St),tP t u=true->GH X all Aj os t i cr K st->GH X all Aj os u i cr K st
 |[],_,_,_,_,_,_,h=>by grind[GH]
 |_::_,[],_,_,_,_,_,h=>by grind[GH]
 |_::_,_::_,[],_,_,_,hs,_=>by grind[tP]
 | o::os,(p,ts)::t,(q,us)::u,i,cr,st,hs,h=>by
  simp only[tP,Bool.and_eq_true,List.all_eq_true,beq_iff_eq]at hs;obtain⟨⟨h1,rfl⟩,h2⟩:=hs;have hpq:∀ j∈p,j∈q:=λj hj=>by grind
  have run:∀ st:St,(Nf X o ⟨restr st ts,Aj⟩ st p cr λe=>o.dst.isSome=true/\GH X all Aj os t (i+1) (JO i e cr) K ⟨(St.put o.dst e.x st).tmps,e.H3++st.Aj⟩)->Nf X o ⟨restr st ts,Aj⟩ st q cr λe=>o.dst.isSome=true/\GH X all Aj os u (i+1) (JO i e cr) K ⟨(St.put o.dst e.x st).tmps,e.H3++st.Aj⟩:=λst h=>by
   obtain⟨e,a,b,c,d,f,g,k⟩:=h;exact⟨e,a,b,c,d,f,Rf hpq g,k.1,PD os t u _ _ _ h2 k.2⟩
  simp[GH]at h ⊢;split at h
  ·grind
  ·split at h
   ·exact⟨λhe=>run _ (h.1 he),λhe=>⟨(h.2 he).1,Rf hpq (h.2 he).2.1,PD os t u _ _ _ h2 (h.2 he).2.2⟩⟩
   ·exact⟨h.1,Rf hpq h.2.1,PD os t u _ _ _ h2 h.2.2⟩
   omega
def Ay{X:Env}{ops:List Oper}{K:St->Prop}{st:St}(k:Nat)(t:List (List Nat × List Nat))(hm:X.C.P.follows .mixedOrders=true)(h:BB X ops.toArray st.Aj (ops.take k) t 0 (Bw X ops.toArray (ops.drop k) K) [] st)
 (CC:(tP t (ri ops.toArray t ops.length)&&Xt ops.toArray k (ri ops.toArray t ops.length))=true:=by kernel_rfl):Lj X ops.toArray K st:=by
 rw[Bool.and_eq_true]at CC;grind[We,PD,HM]
def gI{p:Prop}(h:p:=by simp(disch:=omega)only[go_sem]):p:=h
def gO{p q:Prop}(h:q)(e:p=q:=by conv=>lhs;simp(disch:=omega)only[go_sem]):p:=e▸h
def gC{p:Prop}(h:p:=by simp(disch:=omega)only[go_sem, *]):p:=h
def gS{p q:Prop}(h:q)(e:p=q:=by conv=>lhs;simp(disch:=omega)only[go_sem, *]):p:=e▸h
section
variable {X:Env} {st st':St} {y:AV} {rs:List ResultVar}
def AQ(xs:List AV)(h1:Cx X.C st rs=some xs:=by(try simp(disch:=omega)only[go_sem,Cx,Gv])<;>rfl)(h4:Ci ((pack xs).CX ⟨[],[],[]⟩) y:=by simp(disch:=omega)only[go_sem])(h3:∀ s∈X.ext,lk s []=some s:=by simp):Xx X rs y [] .ret st:=CT xs h4 h1 h3
def Al(xs:List AV){q:Prop}(h4:q)(h1:Cx X.C st rs=some xs:=by(try simp(disch:=omega)only[go_sem,Cx,Gv])<;>rfl)(e:Ci ((pack xs).CX ⟨[],[],[]⟩) y=q:=by conv=>lhs;simp(disch:=omega)only[go_sem])(h3:∀ s∈X.ext,lk s []=some s:=by simp):Xx X rs y [] .ret st:=CT xs (e▸h4) h1 h3
def Gw(xs:List AV)(h1:Cx X.C st rs=some xs:=by(try simp(disch:=omega)only[go_sem,Cx,Gv])<;>rfl) (h4:Ci ((pack xs).CX ⟨[],[],[]⟩) y:=by
 refine gO ?_;refine .BC (Ae.AJ ?_);simp(disch:=omega)only[go_sem]
 repeat'(with_reducible apply And.intro)
 all_goals(first|exact .A8 (by omega)|exact .agg (Ae.AJ (by simp(disch:=omega)only[go_sem])))) (h3:∀ s∈X.ext,lk s []=some s:=by simp):Xx X rs y [] .ret st:=CT xs h4 h1 h3
def Gd (h:IB st st'.tmps/\HI st st'.Aj:=by
 refine⟨?_,?_⟩
 all_goals(try simp(disch:=omega)only[go_sem])
 all_goals(try(repeat'(with_reducible apply And.intro)))
 all_goals(first|exact .Cr (by omega)|exact .A8 (by omega)|exact .sl (by simp[*])|exact .int (by simp[*])|exact .eq (by simp[*]))):AT X st st':=AT.Aq h.1 h.2
def Ce (h:IB st st'.tmps/\HI st st'.Aj:=by
 refine⟨?_,?_⟩
 all_goals(try simp(disch:=omega)only[go_sem])
 all_goals(try(repeat'(with_reducible apply And.intro)))
 all_goals(first|exact .Cr (by omega)|exact .A8 (by omega)|exact .sl (by simp[])|exact .int (by simp[])|exact .eq (by simp[]))):AT X st st':=AT.Aq h.1 h.2
end
def gm{α β:Type}(f:α->β)(l:List α)(i:Nat):(l.map f)[i]?=l[i]?.map f:=List.getElem?_map
def gE{α:Type}{l:List α}{i:Nat}(h:i<l.length):l[i]?=some l[i]:=List.getElem?_eq_getElem h
def mG{α:Type}{l:List α}{i:Nat}{a:α}(h:l[i]?=some a):a∈l:=List.mem_of_getElem? h
def AF{X:Env}{st:St}{body:(Ex->St->Prop)->St->Prop}{Q:Ex->St->Prop}{α:Type}(l:List α)(I:Nat->St)(Inv:Nat->Prop)(h0:Inv 0)(hi:AT X st (I 0))
 (hr:∀ i,i<=l.length/\Inv i->∀ J:St->Prop,(∀ st' x',x'<=l.length/\Inv x'->l.length-x'<l.length-i->AT X st' (I x')->J st')->body (UF J Q) (I i)):lY X body Q st:=Ao I _ (λi=>l.length-i) 0 ⟨Nat.zero_le _,h0⟩ hi hr
def Bo{α:Type}{l:List α}{i:Nat}{c:Bool}{P Q:Prop}(hi:i<=l.length)(h1:c=true->∀ b,l[i]?=some b->b∈l->i<l.length->P)(h2:i=l.length->Q)(hc:c=decide (i<l.length):=by simp):(c=true->P)/\(c=false->Q) :=
 ⟨λh=>have hl:=of_decide_eq_true (hc.symm.trans h);h1 h _ (List.getElem?_eq_getElem hl) (List.getElem_mem hl) hl,λh=>h2 (Nat.le_antisymm hi (Nat.le_of_not_lt (of_decide_eq_false (hc.symm.trans h))))⟩
attribute [go_sem] decide_false List.length_map List.getElem?_map
end Go.Abs
