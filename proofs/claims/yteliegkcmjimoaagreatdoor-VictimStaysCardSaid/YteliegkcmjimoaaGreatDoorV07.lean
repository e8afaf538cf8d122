/- part 7 of the proof -/
import Derived.Test.YteliegkcmjimoaaGreatDoorV06
set_option linter.all false
namespace Go.Abs
def Hm(d:Option Nat)(K:St->Prop):Option AV->St->Prop
 |some x,st=>K (st.put d x)
 |none,_=>False
def nd{α:Sort _}{a b:α}(h:a=b):a=b:=h
@[go_sem] theorem cU(d:Option Nat)(K:St->Prop)(x:AV)(st:St):Hm d K (some x) st=K (st.put d x):=nd rfl
@[go_sem] theorem vm(d:Option Nat)(K:St->Prop)(x:AV)(st:St):Ea d K (some (x,st))=K (st.put d x):=nd rfl
theorem Db(d:Option Nat)(K:St->Prop)(o:Option AV)(st:St):Ea d K (o.map (·,st))=Hm d K o st:=by cases o<;>rfl
@[go_sem] theorem lY(k:Nat)(x:AV)(t:List (Nat × AV))(o:List (Nat × List AV)):St.put (some k) x ⟨t,o⟩=⟨(k,x)::t,o⟩:=rfl
@[go_sem] theorem ai(x:AV)(st:St):St.put none x st=st:=rfl
@[go_sem] theorem p9{α:Type}(k j:Nat)(x:α)(l:List (Nat × α)):lk k ((j,x)::l)=if j=k then some x else lk k l:=rfl
@[go_sem] theorem zR{α:Type}(k:Nat):lk k ([]:List (Nat × α))=none:=rfl
@[go_sem] theorem sM(C:Ctx)(k:Nat)(t:List (Nat × AV))(o:List (Nat × List AV)):ev C ⟨t,o⟩ (.tmp k)=(lk k t).getD .undef:=rfl
@[go_sem] theorem xf(C:Ctx)(st:St)(v:Value):ev C st (.const v)=.v v:=rfl
@[go_sem] theorem zr(C:Ctx)(st:St)(f:Nat):ev C st (.func f)=.fn f []:=rfl
@[go_sem] theorem vG(C:Ctx)(st:St)(i:Nat):ev C st (.global i)=(match C.G i with
  |some cs=>.ep .no 0 cs 0
  |none=>.undef):=rfl
section
variable (X:Env) (Q:Ex->St->Prop) (K:St->Prop) (st:St)
@[go_sem] theorem zl:Oi X .skip Q=Q .normal:=nd rfl
@[go_sem] theorem vu(id:Nat)(ops:Array Oper):Oi X (.region id ops false) Q=Bg X ops ops.toList (Q .normal):=nd rfl
@[go_sem] theorem zi(id:Nat)(ops:Array Oper):Oi X (.region id ops true) Q=JG X ops (Q .normal):=nd rfl
@[go_sem] theorem Aaf(x y:Code):Oi X (.seq x y) Q=Oi X x (Sa (Oi X y Q) Q):=nd rfl
@[go_sem] theorem zh(c:Operand)(x y:Code):Oi X (.cond c x y) Q st=RE (ev X.C st c) (Oi X x Q) (Oi X y Q) st:=nd rfl
@[go_sem] theorem wI(id:Nat)(c:Code):Oi X (.block id c) Q=Oi X c (Qz id Q):=nd rfl
@[go_sem] theorem zk(c:Code):Oi X (.loop c) Q=eY X (Oi X c) Q:=nd rfl
@[go_sem] theorem zj(id:Nat):Oi X (.exit id) Q=Q (.exit id):=nd rfl
@[go_sem] theorem Aae:Oi X .ret Q=Q .ret:=nd rfl
@[go_sem] theorem wK(c:Code):Oi X (.scope c) Q=Oi X c Q:=nd rfl
@[go_sem] theorem wJ(l:Nat):Oi X (.label l) Q=Q .normal:=nd rfl
@[go_sem] theorem qI:Sa K Q .normal=K:=nd rfl
@[go_sem] theorem vn(i:Nat):Sa K Q (.exit i)=Q (.exit i):=nd rfl
@[go_sem] theorem wG:Sa K Q .ret=Q .ret:=nd rfl
@[go_sem] theorem mI(id:Nat):Qz id Q .normal=Q .normal:=nd rfl
@[go_sem] theorem qS(id i:Nat):Qz id Q (.exit i)=if i=id then Q .normal else Q (.exit i):=nd rfl
@[go_sem] theorem sq(id:Nat):Qz id Q .ret=Q .ret:=nd rfl
@[go_sem] theorem zo(b:Bool)(K1 K2:St->Prop):RE (.v (.bool b)) K1 K2 st=((b=true->K1 st)/\(b=false->K2 st)):=nd rfl
@[go_sem high] theorem sB(K1 K2:St->Prop):RE (.v (.bool true)) K1 K2 st=K1 st:=by simp[RE]
@[go_sem high] theorem qX(K1 K2:St->Prop):RE (.v (.bool false)) K1 K2 st=K2 st:=by simp[RE]
@[go_sem] theorem yT(all:Array Oper):Bg X all [] K=K:=nd rfl
@[go_sem] theorem zt(C:Ctx):Dk C st []=[]:=rfl
@[go_sem] theorem xh(C:Ctx)(x:Operand)(xs:List Operand):Dk C st (x::xs)=ev C st x::Dk C st xs:=rfl
@[go_sem] theorem wY(d:Option Nat)(f:Nat)(first xs:List AV):YY X d (.mv f first) xs K st=A8 X d f (first++xs) K st:=nd rfl
@[go_sem] theorem wX(d:Option Nat)(f:Nat)(Bi xs:List AV):YY X d (.fn f Bi) xs K st=A8 X d f (xs++Bi) K st:=nd rfl
variable (all:Array Oper) (rest:List Oper) (d:Option Nat) (ty:TypeId) (pos:String) (GX:Array Edge)
@[go_sem] theorem yP(op:Op)(j:Nat)(b:Bool):Bg X all (⟨d,op,ty,pos,GX,some (j,b)⟩::rest) K st =
 (match guardOf all j st with
 |some (.v (.bool b'))=>FT b' b (Bg X all (⟨d,op,ty,pos,GX,none⟩::rest) K (st.learn (gdst all j) b)) (Bg X all rest K ((st.learn (gdst all j) (!b)).put d (.Bl [])))
 |some (.Bl [])=>Bg X all rest K (st.put d (.Bl []))
 |_=>False):=nd rfl
@[go_sem ↓] theorem za(p q:Prop):FT true true p q=p:=by simp[FT]
@[go_sem ↓] theorem zb(p q:Prop):FT false true p q=q:=by simp[FT]
@[go_sem ↓] theorem zc(p q:Prop):FT true false p q=q:=by simp[FT]
@[go_sem ↓] theorem zd(p q:Prop):FT false false p q=p:=by simp[FT]
@[go_sem] theorem xw(j:Nat):gdst all j=(all[j]?).bind (·.dst):=rfl
@[go_sem] theorem uP(k:Nat)(b:Bool)(t:List (Nat × AV))(o:List (Nat × List AV)):St.learn (some k) b ⟨t,o⟩=⟨iy k (.v (.bool b)) t,o⟩:=rfl
def lkO(d:Option Nat)(l:List (Nat × AV)):Option AV:=match d with
 |some k=>lk k l
 |none=>none
@[go_sem] theorem yD(k:Nat)(l:List (Nat × AV)):lkO (some k) l=lk k l:=rfl
@[go_sem] theorem ri(j:Nat):guardOf all j st=lkO ((all[j]?).bind (·.dst)) st.tmps:=by
 unfold guardOf lkO;cases (all[j]?).bind (·.dst)<;>rfl
@[go_sem] theorem wE(b':Bool)(p q:Prop):FT b' true p q=((b'=true->p)/\(b'=false->q)):=by cases b'<;>simp[FT]
@[go_sem] theorem wD(b':Bool)(p q:Prop):FT b' false p q=((b'=false->p)/\(b'=true->q)):=by cases b'<;>simp[FT]
@[go_sem] theorem z6(x:Operand):Bg X all (⟨d,.move x,ty,pos,GX,none⟩::rest) K st=Bg X all rest K (st.put d (ev X.C st x)):=nd rfl
@[go_sem] theorem wv(x:Operand):Bg X all (⟨d,.assign x,ty,pos,GX,none⟩::rest) K st=Bg X all rest K (st.put d (ev X.C st x)):=nd rfl
@[go_sem] theorem va(t:TypeId)(k:Nat):Bg X all (⟨some k,.makeMap t none,ty,pos,GX,none⟩::rest) K st=Ea (some k) (Bg X all rest K) (some (.mp (cD k),⟨(st.kill [] [cD k]).tmps,(cD k,[])::(st.kill [] [cD k]).Ah⟩)):=nd rfl
@[go_sem] theorem r7(t:TypeId)(m k:Operand):Bg X all (⟨d,.lookup t m k true,ty,pos,GX,none⟩::rest) K st=Hm d (Bg X all rest K) (NB X.C.P t st.Ah (ev X.C st m) (ev X.C st k)) st:=Db _ _ _ _
@[go_sem] theorem mW(xt t:TypeId)(x:Operand)(ok:Bool):Bg X all (⟨d,.typeAssert x xt t ok,ty,pos,GX,none⟩::rest) K st=Hm d (Bg X all rest K) (Nc X.C.P t ok (ev X.C st x)) st:=Db _ _ _ _
@[go_sem] theorem wx(r:Operand)(name:String)(args:Array Operand)(ts:Array TypeId):Bg X all (⟨d,.call ⟨.invoke r name,args,ts⟩,ty,pos,GX,none⟩::rest) K st=pV X d name (ev X.C st r) (Dk X.C st args.toList) (Bg X all rest K) st:=nd rfl
def jg(t:List (Nat × AV))(o:Option (List (Nat × List AV)))(K:St->Prop):Prop:=match o with
 |some os=>K ⟨t,os⟩
 |none=>False
@[go_sem] theorem sn(t:List (Nat × AV))(os:List (Nat × List AV))(K:St->Prop):jg t (some os) K=K ⟨t,os⟩:=nd rfl
@[go_sem] theorem qt(t:TypeId)(m k v:Operand):Bg X all (⟨none,.mapUpdate t m k v,ty,pos,GX,none⟩::rest) K st=jg st.tmps (PS X.C.P t st.Ah (ev X.C st m) (ev X.C st k) (ev X.C st v)) (Bg X all rest K):=by
 simp only[Bg,Ie,Zd,Hn];cases h:PS X.C.P t st.Ah (ev X.C st m) (ev X.C st k) (ev X.C st v)<;>simp[h,Ea,jg,ai]
@[go_sem] theorem uQ(P:Program)(t:TypeId)(Ah:List (Nat × List AV))(s:Nat)(k:AV):X5 P t Ah (.mp s) k=(lk s Ah).bind λcs=>SZ P t cs k:=rfl
@[go_sem] theorem qc(P:Program)(t:TypeId)(Ah:List (Nat × List AV))(s:Nat)(k:AV):NB P t Ah (.mp s) k=(lk s Ah).bind λcs=>GR P t cs k:=rfl
@[go_sem] theorem qR(P:Program)(t t':TypeId)(ok:Bool)(y:AV):Nc P t ok (.Gc t' y)=if P.concrete t=true/\t'=t then some (if ok=true then .Bl [y,.v (.bool true)] else y) else none:=rfl
@[go_sem] theorem yu(name:String)(t:TypeId)(y:AV)(xs:List AV):pV X d name (.Gc t y) xs K st=(match ZU X.C t name y st.Ah with
  |some (f,r)=>A8 X d f (r::xs) K st
  |none=>False):=nd rfl
@[go_sem] theorem wj(C:Ctx)(t:TypeId)(name:String)(x:AV)(Ah:List (Nat × List AV)):ZU C t name x Ah=(match MM C.P t name with
 |some (f,none)=>some (f,x)
 |some (f,some e)=>match Be C.P e,BW C.P e with
  |some agg,some n=>(LX agg n Ah x).map λy=>(f,y)
  |_,_=>none
 |_=>none):=rfl
@[go_sem] theorem uM(P:Program)(t:TypeId)(Ah:List (Nat × List AV))(s:Nat)(k v:AV):PS P t Ah (.mp s) k v=(lk s Ah).bind λcs=>(Ny P t cs k v).map λMp=>GY s Mp Ah:=rfl
@[go_sem] theorem z7(c a b:Operand):Bg X all (⟨d,.pick c a b,ty,pos,GX,none⟩::rest) K st=Hm d (Bg X all rest K) (MU (ev X.C st c) (ev X.C st a) (ev X.C st b)) st:=Db _ _ _ _
@[go_sem] theorem yL(t:TypeId)(k:Nat):Bg X all (⟨some k,.alloc t,ty,pos,GX,none⟩::rest) K st=Ea (some k) (Bg X all rest K) (match zeroOf X.C.P t with
  |some zs=>some (.ptr (nm k) 0,⟨(st.kill [] [nm k]).tmps,(nm k,vals zs)::(st.kill [] [nm k]).Ah⟩)
  |none=>none):=by
 simp only[Bg,Ie,Zd,Hn];cases zeroOf X.C.P t<;>rfl
@[go_sem] theorem AbS(t:TypeId)(x:Operand)(k:Nat):Bg X all (⟨some k,.box t x,ty,pos,GX,none⟩::rest) K st=Ea (some k) (Bg X all rest K) (if Cx (ev X.C st x).cells=true then some (.ptr (nm k) 0,⟨(st.kill [] [nm k]).tmps,(nm k,EK [] [nm k] (ev X.C st x).cells)::(st.kill [] [nm k]).Ah⟩) else none):=nd rfl
def Ug(C:Ctx)(t:TypeId)(p:AV)(Ah:List (Nat × List AV)):Option AV:=match Be C.P t,BW C.P t with
 |some agg,some n=>LX agg n Ah p
 |_,_=>none
@[go_sem] theorem gW(C:Ctx)(t:TypeId)(p:AV)(Ah:List (Nat × List AV)):Ug C t p Ah=(match Be C.P t,BW C.P t with
 |some agg,some n=>LX agg n Ah p
 |_,_=>none):=rfl
@[go_sem] theorem qo(t:TypeId)(x:Operand):Bg X all (⟨d,.load t x,ty,pos,GX,none⟩::rest) K st=Hm d (Bg X all rest K) (Ug X.C t (ev X.C st x) st.Ah) st:=by
 simp only[Bg,Ie,Zd,Hn,Ug];rw[<- Db];congr 1;cases Be X.C.P t<;>cases BW X.C.P t<;>rfl
def jh(o:Option St)(K:St->Prop):Prop:=match o with
 |some st=>K st
 |none=>False
@[go_sem] theorem so(st:St)(K:St->Prop):jh (some st) K=K st:=nd rfl
@[go_sem] theorem yS(t:TypeId)(p x:Operand):Bg X all (⟨none,.store t p x,ty,pos,GX,none⟩::rest) K st=(match BW X.C.P t with
  |some n=>jh (Rk n st (ev X.C st p) (ev X.C st x)) (Bg X all rest K)
  |none=>False):=by
 simp only[Bg,Ie,Zd,Hn];cases BW X.C.P t with
 |none=>rfl
 |some n=>cases h:Rk n st (ev X.C st p) (ev X.C st x)<;>simp[h,Ea,jh,ai]
@[go_sem] theorem yQ(t:TypeId)(x i:Operand):Bg X all (⟨d,.index t x i,ty,pos,GX,none⟩::rest) K st=Hm d (Bg X all rest K) (NQ X.C.P t (ev X.C st i) (ev X.C st x)) st:=Db _ _ _ _
@[go_sem] theorem qm(t:TypeId)(x:Operand)(i:Nat):Bg X all (⟨d,.fieldAddr t x i,ty,pos,GX,none⟩::rest) K st=Hm d (Bg X all rest K) (match Bk X.C.P t i with
  |some off=>Oz off (ev X.C st x)
  |none=>none) st:=by
 simp only[Bg,Ie,Zd,Hn];cases Bk X.C.P t i with
 |none=>rfl
 |some off=>exact Db _ _ _ _
def QZ(C:Ctx)(t:TypeId)(x i:AV):Option AV:=match i with
 |.v (.int _ k)=>match As C.P t with
   |some (_,n)=>QY n k x
   |none=>match Dj C.P t with
    |some (len,n)=>QX len n k x
    |none=>none
 |_=>none
@[go_sem] theorem uL(C:Ctx)(t:TypeId)(x:AV)(kd:IntKind)(k:Int):QZ C t x (.v (.int kd k))=(match As C.P t with
  |some (_,n)=>QY n k x
  |none=>match Dj C.P t with
   |some (len,n)=>QX len n k x
   |none=>none):=rfl
@[go_sem] theorem qn(t:TypeId)(x i:Operand):Bg X all (⟨d,.indexAddr t x i,ty,pos,GX,none⟩::rest) K st=Hm d (Bg X all rest K) (QZ X.C t (ev X.C st x) (ev X.C st i)) st:=by
 simp only[Bg,Ie,Zd,Hn,QZ];rw[<- Db];congr 1;generalize ev X.C st i=v;cases v<;>try rfl
 rename_i u;cases u<;>try rfl
 simp only;cases As X.C.P t<;>cases Dj X.C.P t<;>rfl
@[go_sem] theorem r9(x:Operand):Bg X all (⟨d,.nilCheck x,ty,pos,GX,none⟩::rest) K st=Hm d (Bg X all rest K) (KN (ev X.C st x)) st:=Db _ _ _ _
@[go_sem] theorem yM(op:BinOp)(t t2:TypeId)(x y:Operand):Bg X all (⟨d,.binOp op t x y t2,ty,pos,GX,none⟩::rest) K st=Hm d (Bg X all rest K) (bj X.C.P op t (ev X.C st x) (ev X.C st y)) st:=Db _ _ _ _
@[go_sem] theorem z8(op:UnOp)(t:TypeId)(x:Operand):Bg X all (⟨d,.unOp op t x,ty,pos,GX,none⟩::rest) K st=Hm d (Bg X all rest K) (vq op (ev X.C st x)) st:=Db _ _ _ _
@[go_sem] theorem u7(s t:TypeId)(x:Operand):Bg X all (⟨d,.convert s t x,ty,pos,GX,none⟩::rest) K st=Ea d (Bg X all rest K) (Y5 X.C.P s t st (ev X.C st x)):=nd rfl
def Kx(i:Nat):AV->Option AV
 |.Bl cs=>cs[i]?
 |_=>none
@[go_sem] theorem nz(i:Nat)(cs:List AV):Kx i (.Bl cs)=cs[i]?:=rfl
@[go_sem] theorem u9(x:Operand)(i:Nat):Bg X all (⟨d,.extract x i,ty,pos,GX,none⟩::rest) K st=Hm d (Bg X all rest K) (Kx i (ev X.C st x)) st:=by
 simp only[Bg,Ie,Zd,Hn,Kx];rw[<- Db];congr 1;generalize ev X.C st x=v;cases v<;>rfl
def QB(C:Ctx)(t:TypeId)(ps:List (Nat × AV)):Option AV:=match zeroOf C.P t,Be C.P t with
  |some zs,some true=>if sized C.P t=true then (Mu (placeOf C.P t) (vals zs) ps).map .agg else none
  |_,_=>none
@[go_sem] theorem sv(C:Ctx)(t:TypeId)(ps:List (Nat × AV)):QB C t ps=(match zeroOf C.P t,Be C.P t with
  |some zs,some true=>if sized C.P t=true then (Mu (placeOf C.P t) (vals zs) ps).map .agg else none
  |_,_=>none):=rfl
def Ix(C:Ctx)(st:St):List (Nat × Operand)->List (Nat × AV)
 |[]=>[]
 |(i,x)::ps=>(i,ev C st x)::Ix C st ps
@[go_sem] theorem vd(C:Ctx):Ix C st []=[]:=rfl
@[go_sem] theorem sa(C:Ctx)(i:Nat)(x:Operand)(ps:List (Nat × Operand)):Ix C st ((i,x)::ps)=(i,ev C st x)::Ix C st ps:=rfl
theorem KR(C:Ctx)(ps:Array (Nat × Operand)):parts C st ps=Ix C st ps.toList:=by
 unfold parts
 induction ps.toList with
 | nil=>rfl
 | cons p l ih=>obtain⟨i,x⟩:=p;simp only[List.map_cons,Ix,ih]
@[go_sem] theorem yN(t:TypeId)(ps:Array (Nat × Operand)):Bg X all (⟨d,.build t ps,ty,pos,GX,none⟩::rest) K st=Hm d (Bg X all rest K) (QB X.C t (Ix X.C st ps.toList)) st:=by
 simp only[Bg,Ie,Zd,Hn,QB,KR];rw[<- Db];congr 1;cases zeroOf X.C.P t with
 |none=>rfl
 |some zs=>cases Be X.C.P t with
  |none=>rfl
  |some b=>cases b with
   | false=>rfl
   | true =>
    simp only;split
    ·simp[Option.map_map,Function.comp_def]
    ·rfl
@[go_sem] theorem mV(t:TypeId)(len k:Nat)(ps:Array (Nat × Operand)):Bg X all (⟨some k,.buildSlice t len ps,ty,pos,GX,none⟩::rest) K st=(if k∈X.deep then Ea (some k) (Bg X all rest K) (match Bz X.C.P t with
  |some (e,1,_)=>match zeroOf X.C.P e with
   |some _=>lf (nm k) st len (Ix X.C st ps.toList)
   |none=>none
  |_=>none) else Ea (some k) (Bg X all rest K) (match Bz X.C.P t with
  |some (e,n,_)=>match zeroOf X.C.P e with
   |some zs=>lb (nm k) n len zs st (Ix X.C st ps.toList)
   |none=>none
  |none=>none)):=by
 simp only[Bg,Ie,Zd,OG]
 by_cases hk:k∈X.deep<;>simp only[hk,if_true,if_false]
 ·simp only[Sz,KR];cases Bz X.C.P t with
  |none=>rfl
  |some p =>
   obtain⟨e,n,b⟩:=p;rcases n with _|_|n<;>rfl
 ·simp only[Hn,KR];cases Bz X.C.P t with
  |none=>rfl
  |some p=>rfl
def lp(C:Ctx)(k:Nat)(t:TypeId)(l c:AV)(st:St):Option (AV × St):=match some k,Bz C.P t,l,c with
  |some d,some (e,n,_),.v (.int _ l),.v (.int _ c)=>match zeroOf C.P e with
   |some zs=>Wj (nm d) n zs st l c
   |none=>none
  |_,_,_,_=>none
@[go_sem] theorem wh(C:Ctx)(k:Nat)(t:TypeId)(kl kc:IntKind)(l c:Int):lp C k t (.v (.int kl l)) (.v (.int kc c)) st=(match Bz C.P t with
  |some (e,n,_)=>match zeroOf C.P e with
   |some zs=>Wj (nm k) n zs st l c
   |none=>none
  |none=>none):=by
 unfold lp;cases Bz C.P t<;>rfl
@[go_sem] theorem qq(t:TypeId)(k:Nat)(l c:Operand):Bg X all (⟨some k,.makeSlice t l c,ty,pos,GX,none⟩::rest) K st=Ea (some k) (Bg X all rest K) (lp X.C k t (ev X.C st l) (ev X.C st c) st):=nd rfl
def bp:Option AV->Option (Option Nat)
 |none=>some none
 |some x=>(N1 x).map some
@[go_sem] theorem qU:bp none=some none:=rfl
@[go_sem] theorem qV(x:AV):bp (some x)=(N1 x).map some:=rfl
@[go_sem] theorem rR(C:Ctx)(o:Option Operand):Cp C st o=bp (o.map (ev C st)):=by cases o<;>rfl
@[go_sem] theorem yR(t:TypeId)(x:Operand)(lo hi mx:Option Operand)(k:Nat):Bg X all (⟨some k,.slice t x lo hi mx,ty,pos,GX,none⟩::rest) K st=(if k∈X.deep then Ea (some k) (Bg X all rest K) (Xi X.C st t (ev X.C st x) lo hi mx) else Ea (some k) (Bg X all rest K) (HW X.C st t (ev X.C st x) lo hi mx)):=nd rfl
@[go_sem] theorem zp(C:Ctx)(t:TypeId)(r b k:Nat)(es:List (List AV))(hi mx:Operand):Xi C st t (.sl (.own r b) k es) none (some hi) (some mx)=(match N1 (ev C st hi),N1 (ev C st mx),As C.P t with
  |some h,some m,some (_,n)=>if m=h/\k=n/\h<=es.length then some (.sl (.own r b) n (es.take h),st) else none
  |_,_,_=>none):=by
 simp only[Xi,Cp];cases N1 (ev C st hi) with
 |none=>rfl
 |some h=>cases N1 (ev C st mx) with
  |none=>rfl
  |some m=>cases As C.P t with
   |none=>rfl
   |some p=>rfl
@[go_sem] theorem vl(C:Ctx)(t:TypeId)(tg:Tag)(n:Nat)(es:List (List AV))(lo hi mx:Option Operand):HW C st t (.sl tg n es) lo hi mx=(match Cp C st lo,Cp C st hi,Cp C st mx,As C.P t with
  |some l,some (some h),some none,some (_,m)=>if n=m then Js m false (l.getD 0) h st (.sl tg n es) else none
  |some l,some none,some none,some (_,m)=>if n=m then Js m false (l.getD 0) es.length st (.sl tg n es) else none
  |some l,some (some h),some (some x),some (_,m)=>if n=m/\x=h then Js m true (l.getD 0) h st (.sl tg n es) else none
  |_,_,_,_=>none):=by
 unfold HW;cases Cp C st lo with
 |none=>rfl
 |some l=>cases Cp C st hi with
  |none=>rfl
  |some h=>cases Cp C st mx with
   |none=>cases h<;>rfl
   |some m=>cases As C.P t with
    |none=>cases h<;>cases m<;>rfl
    |some p =>
     obtain⟨e,k⟩:=p;simp only[elems]
     by_cases hn:n=k
     ·cases h<;>cases m<;>simp[hn]
     ·cases h<;>cases m<;>simp[hn]
@[go_sem] theorem sd(C:Ctx)(t:TypeId)(lo hi mx:Option Operand):HW C st t (.v (.slice none 0 0)) lo hi mx=(match Cp C st lo,Cp C st hi,Cp C st mx,As C.P t with
  |some l,some h,some none,some (_,m)=>Js m false (l.getD 0) (h.getD 0) st (.v (.slice none 0 0))
  |some l,some (some h),some (some x),some (_,m)=>if x=h then Js m true (l.getD 0) h st (.v (.slice none 0 0)) else none
  |_,_,_,_=>none):=by
 unfold HW;cases Cp C st lo with
 |none=>rfl
 |some l=>cases Cp C st hi with
  |none=>rfl
  |some h=>cases Cp C st mx with
   |none=>cases h<;>rfl
   |some m=>cases As C.P t with
    |none=>cases h<;>cases m<;>rfl
    |some p=>cases h<;>cases m<;>rfl
@[go_sem] theorem qp(f:Nat)(x:Operand):Bg X all (⟨d,.makeFunc (.func f) #[x] #[],ty,pos,GX,none⟩::rest) K st=Bg X all rest K (st.put d (.mv f [ev X.C st x])):=nd rfl
@[go_sem] theorem r8(f:Nat)(Bi:Array Operand):Bg X all (⟨d,.makeFunc (.func f) #[] Bi,ty,pos,GX,none⟩::rest) K st=Bg X all rest K (st.put d (.fn f (Dk X.C st Bi.toList))):=by
 rw[Lh];rfl
@[go_sem] theorem ib(t:TypeId)(x:Operand):Bg X all (⟨d,.makeInterface t x,ty,pos,GX,none⟩::rest) K st=(if X.C.P.concrete t then Bg X all rest K (st.put d (.Gc t (ev X.C st x))) else False):=by
 simp only[Bg,Ie,Zd,Hn];split<;>rfl
@[go_sem] theorem zY(f:Operand)(args:Array Operand)(ts:Array TypeId):Bg X all (⟨d,.call ⟨.value f,args,ts⟩,ty,pos,GX,none⟩::rest) K st=YY X d (ev X.C st f) (Dk X.C st args.toList) (Bg X all rest K) st:=nd rfl
@[go_sem] theorem AbU(x:Operand)(t:TypeId):Bg X all (⟨d,.call ⟨.builtin .len,#[x],#[t]⟩,ty,pos,GX,none⟩::rest) K st=(if MJ X.C.P t (ev X.C st x)=true then Hm d (Bg X all rest K) (Q4 (ev X.C st x)) st else False):=by
 simp only[Bg,Ie,Zd,Hn,Kp];split
 ·exact Db _ _ _ _
 ·rfl
@[go_sem] theorem wu(x y:Operand)(t t2:TypeId)(k:Nat):Bg X all (⟨some k,.call ⟨.builtin .append,#[x,y],#[t,t2]⟩,ty,pos,GX,none⟩::rest) K st=(if k∈X.deep then Ea (some k) (Bg X all rest K) (match Bz X.C.P t with
  |some (_,1,_)=>if AJ X.C.P t2=true then O5 (nm k) st (ev X.C st x) (ev X.C st y) else none
  |_=>none) else (match Bz X.C.P t with
  |some (e,n,_)=>if AJ X.C.P t2=true then Ea (some k) (Bg X all rest K) (O4 (nm k) n st (ev X.C st x) (ev X.C st y)) else Ea (some k) (Bg X all rest K) (match zeroOf X.C.P e with
   |some zs=>Mf X.C.P (nm k) n t2 zs st (ev X.C st x) (ev X.C st y)
   |none=>none)
  |none=>False)):=by
 simp only[Bg,Ie,Zd,OG]
 by_cases hk:k∈X.deep<;>simp only[hk,if_true,if_false]
 ·simp only[Sy];cases Bz X.C.P t with
  |none=>rfl
  |some p =>
   obtain⟨e,n,b⟩:=p;rcases n with _|_|n<;>rfl
 ·simp only[Hn,Kp];cases Bz X.C.P t with
  |none=>rfl
  |some p =>
   obtain⟨e,n,b⟩:=p;simp only;split<;>rfl
@[go_sem] theorem zZ(x y:Operand)(t t2:TypeId):Bg X all (⟨d,.call ⟨.builtin .copy,#[x,y],#[t,t2]⟩,ty,pos,GX,none⟩::rest) K st=Ea d (Bg X all rest K) (Y8 X.C.P t st (ev X.C st x) (ev X.C st y)):=nd rfl
@[go_sem] theorem yO(x:Operand)(t:TypeId):Bg X all (⟨d,.call ⟨.builtin .clear,#[x],#[t]⟩,ty,pos,GX,none⟩::rest) K st=Ea d (Bg X all rest K) (Tn X.C.P t st (ev X.C st x)):=nd rfl
@[go_sem] theorem AbT(x:Operand)(t:TypeId):Bg X all (⟨d,.call ⟨.builtin .cap,#[x],#[t]⟩,ty,pos,GX,none⟩::rest) K st=Hm d (Bg X all rest K) (jq X.C.P t (ev X.C st x)) st:=Db _ _ _ _
def gX:AV->AV->Option AV
 |.v (.int k a),.v (.int _ b)=>some (.v (.int k (if b > a then b else a)))
 |_,_=>none
def qe:AV->AV->Option AV
 |.v (.int k a),.v (.int _ b)=>some (.v (.int k (if b<a then b else a)))
 |_,_=>none
@[go_sem] theorem yF(k k':IntKind)(a b:Int):gX (.v (.int k a)) (.v (.int k' b))=some (.v (.int k (if b > a then b else a))):=rfl
@[go_sem] theorem yG(k k':IntKind)(a b:Int):qe (.v (.int k a)) (.v (.int k' b))=some (.v (.int k (if b<a then b else a))):=rfl
@[go_sem] theorem AbV(x y:Operand)(ts:Array TypeId):Bg X all (⟨d,.call ⟨.builtin .max,#[x,y],ts⟩,ty,pos,GX,none⟩::rest) K st=Hm d (Bg X all rest K) (gX (ev X.C st x) (ev X.C st y)) st:=by
 simp only[Bg,Ie,Zd,Hn,Kp,gX];rw[<- Db];congr 1;generalize ev X.C st x=v;generalize ev X.C st y=v';cases v with
 | v u=>cases v' with
  | v u'=>cases u<;>cases u'<;>rfl
  |_=>cases u<;>rfl
 |_=>rfl
end
-- values
@[go_sem] theorem yC(P:Program)(t:TypeId)(tg:Tag)(n:Nat)(es:List (List AV)):MJ P t (.sl tg n es)=AJ P t:=rfl
@[go_sem] theorem we(P:Program)(t:TypeId):MJ P t (.v (.slice none 0 0))=AJ P t:=rfl
@[go_sem] theorem wg(P:Program)(t:TypeId)(s:ByteArray):MJ P t (.v (.string s))=LK P t:=rfl
@[go_sem] theorem zQ(tg:Tag)(n:Nat)(es:List (List AV)):Q4 (.sl tg n es)=some (.v (.int .i64 es.length)):=rfl
@[go_sem] theorem yz(xs:List AV):Q4 (.mem true xs)=some (.v (.int .i64 xs.length)):=rfl
@[go_sem] theorem wc(P:Program)(t:TypeId)(b:Bool)(xs:List AV):MJ P t (.mem b xs)=AJ P t:=rfl
@[go_sem] theorem yA:Q4 (.v (.slice none 0 0))=some (.v (.int .i64 0)):=rfl
@[go_sem] theorem yB(s:ByteArray):Q4 (.v (.string s))=some (.v (.int .i64 s.size)):=rfl
@[go_sem] theorem yx(r i j off m:Nat)(bss:List (List (List AV))):Q4 (.El .Xl r i j off m bss)=some (.v (.int .i64 bss.length)):=rfl
@[go_sem] theorem yy(r i j off m:Nat)(b:List (List AV)):Q4 (.El .iW r i j off m [b])=some (.v (.int .i64 b.length)):=rfl
@[go_sem] theorem wa(P:Program)(t:TypeId)(k:HK)(r i j off m:Nat)(b:List (List (List AV))):MJ P t (.El k r i j off m b)=AJ P t:=rfl
@[go_sem] theorem Aaa(p x y:Bool):MU (.v (.bool p)) (.v (.bool x)) (.v (.bool y))=some (.v (.bool (bif p then x else y))):=rfl
@[go_sem high] theorem yW(x y:AV):MU (.v (.bool true)) x y=some x:=by unfold MU;split<;>simp_all
@[go_sem high] theorem yV(x y:AV):MU (.v (.bool false)) x y=some y:=by unfold MU;split<;>simp_all
@[go_sem] theorem yI(s o:Nat):KN (.ptr s o)=some (.ptr s o):=rfl
@[go_sem] theorem zT(t:Tag)(i:Nat)(cs:List AV)(o:Nat):KN (.ep t i cs o)=some (.ep t i cs o):=rfl
@[go_sem] theorem zU(f:Nat)(cs:List AV):KN (.fn f cs)=some (.fn f cs):=rfl
attribute [go_sem] cond_true cond_false bne_self_eq_false iy cz LX Oz QY QX elems Rk lb Wj N1 O4 Js Mu TJ NQ AV.cells Jm Cx GY cut Hx MY rowsOf vals chunk AV.kill EK MH IB St.kill AV.freeze DF nm vq bj XZ M5 Yl BD EW AV.setRow Hk St.setRow AV.AP EV Qg Qf St.AP Y8 Tn jq Mf Option.isNone_none Option.isNone_some AV.BR Hj St.BR Hset Rb lf O5 frozen St.freeze Y5 List.map_cons List.map_nil List.length_cons List.length_nil List.drop_zero List.drop_succ_cons List.take_succ_cons List.take_zero List.drop_nil List.take_nil List.cons_append List.nil_append List.append_nil List.getElem?_toArray List.getElem?_cons_zero List.getElem?_cons_succ List.flatten_cons List.flatten_nil List.replicate_zero List.replicate_succ Option.map_some Option.map_none Option.getD_some Option.getD_none Option.bind_some Option.bind_none if_true if_false Nat.reduceEqDiff Nat.reduceAdd Nat.reduceMul Nat.reduceLeDiff Nat.reduceSub Nat.reduceLT Nat.zero_add Nat.add_zero and_true true_and and_self List.mem_cons List.mem_nil_iff List.not_mem_nil or_false false_or or_self not_false_eq_true not_true_eq_false Bool.false_eq_true Bool.true_eq_false Bool.not_true Bool.not_false Bool.and_true Bool.true_and Bool.false_and Bool.and_false beq_self_eq_true decide_true decide_false reduceCtorEq forall_const implies_true false_implies
@[go_sem] theorem qW(n:Nat):(0<=(n:Int))=True:=by simp
attribute [go_sem] Int.cast_ofNat_Int Int.reduceBNe Int.reduceBEq Bool.not_not Int.toNat_natCast Int.toNat_zero Int.reduceLE Int.reduceLT Int.reduceToNat Int.reduceAdd Int.reduceSub Int.reduceMul Int.reduceNeg Nat.le_refl Nat.zero_le Nat.sub_zero List.take_length List.length_take List.length_drop List.length_append List.length_map
def wrap64(n:Int)(h1:-9223372036854775808<=n)(h2:n<=9223372036854775807):IntKind.i64.wrap n=n:=by
 simp only[IntKind.wrap,IntKind.signed,IntKind.bits,Bool.true_and,decide_eq_true_eq,ge_iff_le,Nat.reduceSub];split<;>omega
def fw(n:Int)(h1:0<=n)(h2:n<=18446744073709551615):IntKind.u64.wrap n=n:=by
 simp only[IntKind.wrap,IntKind.signed,IntKind.bits,Bool.false_and,Bool.false_eq_true,if_false];omega
@[go_sem] theorem yY(ρ:Rn):ET ρ []=[]:=rfl
@[go_sem] theorem wy(ρ:Rn)(k:Nat)(cs:List AV)(o:List (Nat × List AV)):ET ρ ((k,cs)::o)=(match lk k ρ.m with|some s=>(s,E2 ρ cs)::ET ρ o|none=>ET ρ o):=by
 simp only[ET,List.filterMap_cons];cases lk k ρ.m<;>rfl
attribute [go_sem] names Ta AV.BS E2 l3 Qb inv rngs Way.back H2 GZ pack List.filterMap_cons_some List.filterMap_cons_none List.filterMap_nil List.map_map List.mem_singleton
attribute [go_sem ↓] reduceIte
end Go.Abs
namespace Go.Abs
def fx(v:Way)(st:St):List (Nat × List AV)->Prop
 |[]=>True
 |(s,cs)::l=>lk s (ET v.ρ st.Ah)=some cs/\fx v st l
def fx.has{v:Way}{st:St}:∀ {ob:List (Nat × List AV)},fx v st ob->Has v st ob
 |(s,c)::l,h,s',cs,hs=>by
  simp only[lk]at hs;split at hs
  ·rename_i he;injection hs with hs;subst hs;subst he;exact h.1
  ·exact fx.has h.2 s' cs hs
def Im(v:Way)(ob:List (Nat × List AV)):Bool :=
 Ey v.ρ.l&&Ey v.ρ.m&&Ey v.back.l&&Ey v.back.m&&(rngs v.ρ.m).all (λs=>(names ob).contains s)&&(rngs v.fm).all (λs=>s%32 !=31)
def Im.ok{v:Way}{ob:List (Nat × List AV)}(h:Im v ob=true):v.OK ob/\(rngs v.fm).all (λs=>s%32 !=31)=true:=by
 simp only[Im,Bool.and_eq_true]at h;obtain⟨⟨⟨⟨⟨h1,h2⟩,h3⟩,h4⟩,h5⟩,h6⟩:=h;refine⟨⟨⟨h1,h2⟩,⟨h3,h4⟩,λs hs=>?_⟩,h6⟩;have:=List.all_eq_true.1 h5 s hs;simpa using this
section
variable {X:Env} {d:Option Nat} {EG:Nat} {xs Qq:List AV} {K:St->Prop} {st:St} {y y':AV} {ob IC:List (Nat × List AV)}
def Ac.An{C:Ctx}{f:Nat}{xs ys:List AV}{o o':List (Nat × List AV)}{y:AV}(h:Ac C f ys o y o')(hw:Mc xs ys):Ac C f xs o y o' :=
 ⟨h.1,λg w us hg hv ho=>h.2 g w us hg (hw g w us hv) ho⟩
def Yy(v:Way)(st:St):List (Nat × List AV)->Prop
 |[]=>True
 |(s,cs)::l=>(∃ x,lk s (ET v.ρ st.Ah)=some x/\Af x cs)/\Yy v st l
def Qu:List (Nat × List AV)->List (Nat × List AV)->Prop
 |[],[]=>True
 |(s,x)::l,(s',y)::l'=>s=s'/\Mc x y/\Qu l l'
 |_,_=>False
def Yy.split{v:Way}{st:St}:∀ {ob:List (Nat × List AV)},Yy v st ob->∃ o2,names o2=names ob/\fx v st o2/\Qu o2 ob
 |[],_=>⟨[],rfl,trivial,trivial⟩
 |(s,cs)::l,⟨⟨x,h1,h2⟩,h3⟩=>by
  obtain⟨o2,a,b,c⟩:=Yy.split h3;exact⟨(s,x)::o2,by simp only[names,List.map_cons]at a ⊢;rw[a],⟨h1,b⟩,rfl,h2.AI,c⟩
def Qu.get:∀ {o2 ob:List (Nat × List AV)},Qu o2 ob->∀ s cs,lk s ob=some cs->∃ x,lk s o2=some x/\Mc x cs
 |[],[],_,s,cs,h=>by cases h
 |(k,x)::o2,(k',y)::ob,⟨e,hw,hr⟩,s,cs,h=>by
  subst e;simp only[lk]at h ⊢;split at h
  ·rename_i he;injection h with h;subst h
   exact⟨x,by simp[he],hw⟩
  ·rename_i he;obtain⟨x',h1,h2⟩:=Qu.get hr s cs h;exact⟨x',by simp[he,h1],h2⟩
 |[],_::_,h,_,_,_=>h.elim
 |_::_,[],h,_,_,_=>h.elim
def Ac.se{C:Ctx}{f:Nat}{xs:List AV}{o o2 o':List (Nat × List AV)}{y:AV}(h:Ac C f xs o y o')(hn:names o2=names o)(hw:Qu o2 o):Ac C f xs o2 y o' :=
 ⟨h.1,λg w us hg hv ho=>by
  have:=h.2 g w us hg hv λs cs hs=>by
   obtain⟨x,h1,h2⟩:=hw.get s cs hs;exact(ho s x h1).lift rfl (ho s x h1).1 rfl (λus hu=>h2 g w _ hu)
  rw[hn];exact this⟩
mutual
def GB:∀ x:AV,x.freeze []=x
 |.undef=>rfl
 |.v x=>rfl
 |.agg cs=>by simp only[AV.freeze,EJ cs]
 |.Bl cs=>by simp only[AV.freeze,EJ cs]
 |.sl (.own r lo) n es=>by simp[AV.freeze]
 |.sl .no n es=>rfl
 |.sl .full n es=>rfl
 |.ptr s off=>rfl
 |.ep (.own r lo) i cells off=>by simp[AV.freeze]
 |.ep .no i cells off=>rfl
 |.ep .full i cells off=>rfl
 |.fn f Bi=>by simp only[AV.freeze,EJ Bi]
 |.mv f Bi=>by simp only[AV.freeze,EJ Bi]
 |.mp o=>rfl
 |.Gc t x=>by simp only[AV.freeze,GB x]
 |.El k r i j off m bss=>by simp[AV.freeze]
 |.mem b xs=>by simp only[AV.freeze,EJ xs]
def EJ:∀ xs:List AV,DF [] xs=xs
 |[]=>rfl
 | x::xs=>by simp only[DF,GB x,EJ xs]
end
def St.GB(st:St):st.freeze []=st:=by
 simp[St.freeze,Abs.GB,Abs.EJ]
def Bh(v:Way)(Ce:Ac X.C EG Qq ob y IC)(hx:Af (E2 v.ρ xs) Qq)(hv:Im v ob=true)(hh:Yy v st ob)(NW:v.ρ.bs=[]\/(Flat (y.BS v.back)/\Jy (ET v.back IC)))
 (hk:K ((st.app (rngs v.back.l) (rngs v.fm) (rngs v.back.m) (ET v.back IC)).put d (y.BS v.back))):A8 X d EG xs K st:=by
 obtain⟨o2,a,b,c⟩:=hh.split;have L8:Im v o2=true:=by unfold Im at hv ⊢;rw[a];exact hv
 refine .inl ⟨[],v,o2,(λy2 o3=>y2=y/\o3=IC),(Im.ok L8).1,(Im.ok L8).2,?_,?_,λy2 o3 hS=>?_⟩
 ·rw[EJ];exact((Ce.An hx.AI).se a c).toP
 ·rw[St.GB];exact b.has
 ·obtain⟨h1,h2⟩:=hS;subst h1;subst h2;rw[St.GB];exact⟨NW,hk⟩
def Ti(fz:List Nat)(v:Way)(Ce:Ac X.C EG Qq ob y IC)(hx:Af (E2 v.ρ (DF fz xs)) Qq)(hv:Im v ob=true)(hh:Yy v (st.freeze fz) ob)(NW:v.ρ.bs=[]\/(Flat (y.BS v.back)/\Jy (ET v.back IC)))
 (hk:K (((st.freeze fz).app (rngs v.back.l) (rngs v.fm) (rngs v.back.m) (ET v.back IC)).put d (y.BS v.back))):A8 X d EG xs K st:=by
 obtain⟨o2,a,b,c⟩:=hh.split;have L8:Im v o2=true:=by unfold Im at hv ⊢;rw[a];exact hv
 refine .inl ⟨fz,v,o2,(λy2 o3=>y2=y/\o3=IC),(Im.ok L8).1,(Im.ok L8).2,((Ce.An hx.AI).se a c).toP,b.has,λy2 o3 hS=>?_⟩;obtain⟨h1,h2⟩:=hS;subst h1;subst h2;exact⟨NW,hk⟩
def jl{r n:Nat}{es NK:List (List AV)}{ys:List AV}(Ce:S4 X.C EG n es ys NK)(hx:xs=.sl (.own r 0) n es::ys)(hk:K ((st.AP r n 0 NK).put d (.Bl []))):A8 X d EG xs K st :=
 .inr (.inl ⟨r,n,es,ys,NK,hx,Ce,hk⟩)
def Nh:∀ l:List (Nat × List AV),H4 [] l=l
 |[]=>rfl
 |(k,x)::l=>by simp[H4,Nh l]
def W5:st.app [] [] [] []=st:=by simp[St.app,Nh,KE,KD]
def yZ(X:Env)(rs:List ResultVar)(K:AV->List (Nat × List AV)->Prop):Ex->St->Prop
 |.exit _=>λ_=>False
 |_=>λst=>∃ xs,Cr X.C st rs=some xs/\K (pack xs) st.Ah
def jk(ds:List Nat){fn:Func}{c:Code}(hX:∀ s∈X.ext,s%32=31)(hf:X.C.P.funcs[EG]?=some fn)(EY:(fn.name=="runtime.NumGoroutine")=false)(hb:fn.body=some c)(Ce:F9 fn.ntmps c=true)(Fm:xs.length<=fn.ntmps)
 (h:Oi ⟨X.C,X.ext,ds⟩ c (yZ X fn.results.toList λy os=>K (St.put d y ⟨M9 X.ext st.tmps,os⟩)) ⟨Ta 0 xs,st.Ah⟩):A8 X d EG xs K st:=by
 refine .inr (.inr ⟨⟨fn,c,hf,EY,hb⟩,λA g w us hA Gq hv ho=>calls_of_wp hf hb ?_⟩);have hl:=Az.length hv;have hR:R X.C A fn.ntmps g ⟨Ta 0 xs,st.Ah⟩ { tmps:=us.toArray++Array.replicate (fn.ntmps-us.toArray.size) undef,defers:=[] } w:=by
  refine⟨by simp;omega,rfl,λk x hx=>?_,ho,Gq⟩;obtain⟨_,h2⟩:=X4 hx;obtain⟨u,hu,L8⟩:=hv.get k x (by simpa using h2);refine⟨u,?_,L8⟩;have hk:k<us.length:=by
   rcases Nat.lt_or_ge k us.length with h|h
   ·exact h
   ·rw[List.getElem?_eq_none h]at hu;cases hu
  rw[Array.getElem?_append_left (by simpa using hk)];simpa using hu
 have key:∀ (g':Gh) (st':St) (a':Act) (w':World),R X.C A fn.ntmps g' st' a' w'->(∃ ys,Cr X.C st' fn.results.toList=some ys/\K (St.put d (pack ys) ⟨M9 X.ext st.tmps,st'.Ah⟩)) ->
  a'.defers=[]/\∃ v,(results fn a'.tmps).run X.C.P w'=.ok v w'/\(∃ u g' y os,Ending.returned v=.returned u/\Fr X.C A g' w'/\VR g' w' y u/\(∀ s cs,lk s os=some cs->DO g' w' s cs)/\K (St.put d y ⟨M9 X.ext st.tmps,os⟩)):=by
  intro g' st' a' w' hr ⟨ys,h1,h2⟩;obtain⟨u,k1,k2⟩:=N8 hr h1;exact⟨hr.defs,u,k1,u,g',_,_,rfl,hr.fr,k2,hr.ob,h2⟩
 refine wp_mono (WY (X:=⟨X.C,X.ext,ds⟩) (A:=A) hA hX c _ g _ _ w Ce h hR) λe a' w' hq=>?_
 cases e with
 | normal=>obtain⟨g',st',hr,hk⟩:=hq;exact key g' st' a' w' hr hk
 | ret=>obtain⟨g',st',hr,hk⟩:=hq;exact key g' st' a' w' hr hk
 | exit id=>obtain⟨g',st',hr,hk⟩:=hq;exact hk.elim
 | goto l=>exact hq.elim
 | panic ch=>exact hq.elim
 | outgrown=>exact hq.elim
def Ag(Ce:Ac X.C EG Qq [] y [])(hx:Af (E2 ⟨[],[],[]⟩ xs) Qq)(hy:y.BS ⟨[],[],[]⟩=y')(hk:K (st.put d y')):A8 X d EG xs K st:=by
 refine Bh ⟨⟨[],[],[]⟩,[],[]⟩ Ce hx rfl trivial (.inl rfl) ?_;show K ((st.app [] [] [] []).put d (y.BS ⟨[],[],[]⟩));rw[W5,hy];exact hk
def FC(fz:List Nat)(Ce:Ac X.C EG Qq [] y [])(hx:Af (E2 ⟨[],[],[]⟩ (DF fz xs)) Qq)(hy:y.BS ⟨[],[],[]⟩=y')(hk:K ((st.freeze fz).put d y')):A8 X d EG xs K st:=by
 refine Ti fz ⟨⟨[],[],[]⟩,[],[]⟩ Ce hx rfl trivial (.inl rfl) ?_;show K (((st.freeze fz).app [] [] [] []).put d (y.BS ⟨[],[],[]⟩));rw[W5,hy];exact hk
def Cb(bs:List Nat)(Ce:Ac X.C EG Qq [] y [])(hx:Af (E2 ⟨[],[],bs⟩ xs) Qq)(hy:y.BS ⟨[],[],[]⟩=y')(hf:Flat y')(hk:K (st.put d y')):A8 X d EG xs K st:=by
 refine Bh ⟨⟨[],[],bs⟩,[],[]⟩ Ce hx rfl trivial (.inr ?_) ?_
 ·show Flat (y.BS ⟨[],[],[]⟩)/\True;rw[hy];exact⟨hf,trivial⟩
 ·show K ((st.app [] [] [] []).put d (y.BS ⟨[],[],[]⟩));rw[W5,hy];exact hk
def Ao{body:(Ex->St->Prop)->St->Prop}{Q:Ex->St->Prop}{α:Type}(I:α->St)(Inv:α->Prop)(μ:α->Nat)(x0:α)(h0:Inv x0)(hi:AQ X st (I x0))
 (hr:∀ x,Inv x->∀ J:St->Prop,(∀ st' x',Inv x'->μ x'<μ x->AQ X st' (I x')->J st')->body (Sa J Q) (I x)):eY X body Q st :=
 ⟨α,I,Inv,μ,x0,h0,hi,λx hx=>hr x hx _ λ_ x' h1 h2 h3=>⟨x',h1,h2,h3⟩⟩
end
@[go_sem] theorem q9{α:Type}(a:α)(p:α->Prop):(∃ x,some a=some x/\p x)=p a:=by simp
@[go_sem] theorem vt(x:AV):B8 x x=True:=eq_true .rfl
@[go_sem] theorem sg(x:AV):B8 x .undef=True:=eq_true .undef
@[go_sem] theorem qM(r lo n:Nat):B8 (.v (.slice none 0 0)) (.sl (.own r lo) (n+1) [])=True:=eq_true (.AU (by omega))
@[go_sem] theorem sf(n:Nat):B8 (.v (.slice none 0 0)) (.sl .no (n+1) [])=True:=eq_true (.AD (by omega))
theorem B8.int{k:IntKind}{a b:Int}(h:a=b):B8 (.v (.int k a)) (.v (.int k b)):=.eq (by rw[h])
def B8.sl{t:Tag}{n:Nat}{a b:List (List AV)}(h:a=b):B8 (.sl t n a) (.sl t n b):=.eq (by rw[h])
def AZ{X:Env}{rs:List ResultVar}{y:AV}{o':List (Nat × List AV)}{st:St}(ρ:Rn)(xs:List AV)(h1:Cr X.C st rs=some xs)(h2:ρ.OK)(h3:∀ s∈X.ext,lk s ρ.m=some s)(h4:B8 ((pack xs).BS ρ) y)(h5:GZ (Qb ρ st) o'):UD X rs y o' .ret st :=
 ⟨xs,ρ,h1,h2,h3,h4,h5⟩
@[go_sem high] theorem mY(xs:List AV):Af xs xs=True:=eq_true (.self xs)
@[go_sem] theorem mX(x y:AV)(xs ys:List AV):Af (x::xs) (y::ys)=(B8 x y/\Af xs ys):=rfl
attribute [go_sem] M9 D9 Yy St.app H4 Nh KE KD
end Go.Abs
namespace Go.Abs
def Y6(P:Program)(src dst:TypeId):AV->Option AV
 |.v (.int _ n)=>match Vg P src,Vg P dst with
  |some _,some k=>some (.v (.int k (k.wrap n)))
  |_,_=>none
 |.v (.string s)=>if LK P src/\LK P dst then some (.v (.string s)) else none
 |.v (.slice none 0 0)=>if H8 P src/\LK P dst then some (.v (.string ⟨#[]⟩)) else none
 |.sl _ n es=>if n=1/\H8 P src/\LK P dst then (unbytes es).map λl=>.v (.string ⟨l.toArray⟩) else none
 |_=>none
def X1:AV->Bool
 |.sl (.own _ _) _ _=>true
 |_=>false
def rh:Fn->List Operand->Option Nat
 |.func f,[]=>some f
 |_,_=>none
def Tf(C:Ctx)(b:Builtin)(xs:List Operand)(ts:List TypeId)(st:St):Option AV :=
 match b with
 |.len=>match xs,ts with
  |[x],[t]=>if MJ C.P t (ev C st x)=true then Q4 (ev C st x) else none
  |_,_=>none
 |.max=>match xs with
  |[x,y]=>gX (ev C st x) (ev C st y)
  |_=>none
 |.min=>match xs with
  |[x,y]=>qe (ev C st x) (ev C st y)
  |_=>none
 |_=>none
def fh(C:Ctx)(o:Oper)(st:St):Option AV :=
 match o.op with
 |.move x=>some (ev C st x)
 |.assign x=>some (ev C st x)
 |.pick c a b=>MU (ev C st c) (ev C st a) (ev C st b)
 |.load t a=>Ug C t (ev C st a) st.Ah
 |.fieldAddr t x i=>match Bk C.P t i with
  |some off=>Oz off (ev C st x)
  |none=>none
 |.indexAddr t x i=>QZ C t (ev C st x) (ev C st i)
 |.nilCheck x=>KN (ev C st x)
 |.binOp op t x y _=>bj C.P op t (ev C st x) (ev C st y)
 |.unOp op _ x=>vq op (ev C st x)
 |.convert src dst x=>Y6 C.P src dst (ev C st x)
 |.extract x i=>Kx i (ev C st x)
 |.field t x i=>TJ C.P t i (ev C st x)
 |.index t x i=>NQ C.P t (ev C st i) (ev C st x)
 |.build t ps=>QB C t (Ix C st ps.toList)
 |.slice t x lo hi mx=>if X1 (ev C st x)&&mx.isSome then (Xi C st t (ev C st x) lo hi mx).map (·.1) else (HW C st t (ev C st x) lo hi mx).map (·.1)
 |.makeFunc fn first Bi=>(rh fn first.toList).map λf=>.fn f (Dk C st Bi.toList)
 |.makeInterface t x=>if C.P.concrete t then some (.Gc t (ev C st x)) else none
 |.typeAssert x _ t ok=>Nc C.P t ok (ev C st x)
 |.call c=>match c.callee with
  |.builtin b=>Tf C b c.args.toList c.argTypes.toList st
  |_=>none
 |_=>none
section
variable {C:Ctx} {A:A0} {N:Nat} {g g':Gh} {st st':St} {a:Act} {w w':World} {P:Program}
def Y7{src dst:TypeId}{x r:AV}{ux:Value}(hx:VR g w x ux)(h:Y6 P src dst x=some r):∃ u,(convert src dst ux).run P w=.ok u w/\VR g w r u:=by
 unfold Y6 at h;split at h
 ·simp only[VR]at hx;subst hx;split at h
  ·rename_i k1 k2 h1 h2;simp at h;subst h;refine⟨.int k2 (k2.wrap _),?_,by simp only[VR];rfl⟩;simp[convert,run_underlying (Nz h1),run_underlying (Nz h2),Conv.intToInt]
  ·cases h
 ·simp only[VR]at hx;subst hx;split at h
  ·rename_i hc;simp at h;subst h;exact⟨_,by simp[convert,run_underlying (Dv hc.1),run_underlying (Dv hc.2)];rfl,by simp[VR]⟩
  ·cases h
 ·simp only[VR]at hx;subst hx;split at h
  ·rename_i hc;simp at h;subst h;obtain⟨e,h1,h2,h3⟩:=Fa hc.1;exact⟨.string .empty,by simp[convert,run_underlying h1,run_underlying h2,run_underlying (Dv hc.2),Conv.bytesToString],by simp[VR];rfl⟩
  ·cases h
 ·rename_i t n es;split at h
  ·rename_i hc;obtain⟨rfl,hc⟩:=hc;obtain⟨l,hl,rfl⟩:=Option.map_eq_some_iff.1 h;obtain⟨e,h1,h2,h3⟩:=Fa hc.1;obtain⟨us,hs,hp,_⟩:=HC (n:=1) (es:=es) (by omega) (by simp[elems]) hx;obtain⟨ns,rfl,rfl⟩:=LL hl hp;obtain⟨hlen,uE⟩:=hs;refine⟨.string ⟨(ns.map (λn=>UInt8.ofNat n.toNat)).toArray⟩,?_,by simp only[VR]⟩;rcases uE with ⟨ad,c,rfl,Hu⟩|⟨h0,c,rfl⟩
   ·rw[run_convert_bytes_string w src dst e _ _ _ h1 h2 (Dv hc.2)];have x4:(loadCells ad es.length).run P w=.ok (ns.map (Value.int .u8)).toArray w:=by
     have:=run_loadCells_list (P:=P) w ad (ns.map (Value.int .u8)) Hu
     rwa [hlen,Nat.mul_one]at this
    rw[run_bytesToString w ad es.length c ns x4,foldl_push];simp[ByteArray.empty,ByteArray.emptyWithCapacity]
    try rfl
   ·have:ns=[]:=by
     have:ns.length=0:=by simpa [h0]using hlen
     exact List.eq_nil_of_length_eq_zero this
    subst this;simp[convert,run_underlying h1,run_underlying h2,run_underlying (Dv hc.2),Conv.bytesToString];rfl
  ·cases h
 ·cases h
def W0(C:Ctx)(o:Oper)(a:Act)(g:Gh)(w:World)(x:AV):Prop:=∃ u,Does C.P o a w u w/\VR g w x u
def W0.of{o:Oper}{x:AV}{s:Sem Value}(ho:execOp a.eval o=(do Pure.pure (Next.value (<- s))))(h:∃ u,s.run C.P w=.ok u w/\VR g w x u):W0 C o a g w x:=by
 obtain⟨u,h1,h2⟩:=h;exact⟨u,IV ho h1,h2⟩
def cu{x y r:AV}{ux uy:Value}{ts:Array TypeId}{ty:TypeId}(hx:VR g w x ux)(hy:VR g w y uy)(h:gX x y=some r):∃ u,(Builtin.max_ ts ty #[ux,uy]).run P w=.ok u w/\VR g w r u:=by
 unfold gX at h;split at h
 ·simp only[VR]at hx hy;subst hx;subst hy;have h':=Option.some.inj h;subst h';exact⟨_,by simp[Builtin.max_,Builtin.max2];rfl,by simp only[VR]⟩
 ·cases h
def cw{x y r:AV}{ux uy:Value}{ts:Array TypeId}{ty:TypeId}(hx:VR g w x ux)(hy:VR g w y uy)(h:qe x y=some r):∃ u,(Builtin.min_ ts ty #[ux,uy]).run P w=.ok u w/\VR g w r u:=by
 unfold qe at h;split at h
 ·simp only[VR]at hx hy;subst hx;subst hy;have h':=Option.some.inj h;subst h';exact⟨_,by simp[Builtin.min_,Builtin.min2];rfl,by simp only[VR]⟩
 ·cases h
def Tg(hR:R C A N g st a w){o:Oper}{b:Builtin}{xs:Array Operand}{ts:Array TypeId}{consts:Array Bool}(he:execOp a.eval o=builtin b ts o.type consts (xs.map a.eval)){x:AV}
 (h:Tf C b xs.toList ts.toList st=some x):W0 C o a g w x:=by
 unfold Tf at h;split at h
 ·split at h
  ·rename_i y t hy ht;split at h
   ·rename_i Ce;refine .of he ?_;rw[YJ hy,YJ ht];simp only[List.map_toArray,List.map_cons,List.map_nil];exact T9 Ce (hR.ev y) h
   ·cases h
  ·cases h
 ·split at h
  ·rename_i y z hy;refine .of he ?_;rw[Qy hy];simp only[List.map_toArray,List.map_cons,List.map_nil];exact cu (hR.ev y) (hR.ev z) h
  ·cases h
 ·split at h
  ·rename_i y z hy;refine .of he ?_;rw[Qy hy];simp only[List.map_toArray,List.map_cons,List.map_nil];exact cw (hR.ev y) (hR.ev z) h
  ·cases h
 ·cases h
def af(hR:R C A N g st a w){o:Oper}{x:AV}(h:fh C o st=some x):W0 C o a g w x:=by
 obtain⟨dst,op,ty,after,x2,x3⟩:=o;cases op<;>simp only[fh]at h
 case move y=>simp at h;subst h;exact⟨_,.inl rfl,hR.ev y⟩
 case assign y=>simp at h;subst h;exact⟨_,.inl rfl,hR.ev y⟩
 case pick c y z =>
  obtain⟨u,k1,k2⟩:=Us (P:=C.P) (hR.ev c) (hR.ev y) (hR.ev z) h;exact⟨u,.inl k1,k2⟩
 case load t p =>
  unfold Ug at h;split at h
  ·rename_i agg n h1 h2;exact .of rfl (LA hR h1 h2 (hR.ev p) h)
  ·cases h
 case fieldAddr t p i =>
  split at h
  ·rename_i off h1;exact .of rfl (RK h1 (hR.ev p) h)
  ·cases h
 case indexAddr t p i =>
  unfold QZ at h;split at h
  ·rename_i k ki hi;have pD:=hR.ev i;rw[hi]at pD;simp only[VR]at pD;split at h
   ·rename_i e n he;exact .of rfl (by rw[pD];exact PQ he (hR.ev p) h)
   ·split at h
    ·rename_i len n he;exact .of rfl (by rw[pD];exact PO he (hR.ev p) h)
    ·cases h
  ·cases h
 case nilCheck y =>
  have:=Wt (C:=C) (a:=a) (hR.ev y) h (o:=⟨dst,.nilCheck y,ty,after,x2,x3⟩) rfl rfl;exact⟨_,.inl this.1,this.2⟩
 case binOp op t y z _=>exact .of rfl (Vx (hR.ev y) (hR.ev z) h)
 case unOp op t y=>exact .of rfl (aP (hR.ev y) h)
 case convert s d y=>exact .of rfl (Y7 (hR.ev y) h)
 case extract y i =>
  unfold Kx at h;split at h
  ·rename_i cs hc;have hy:=hR.ev y;rw[hc]at hy;simp only[VR]at hy;obtain⟨us,hu,hv⟩:=hy;obtain⟨u,h2,h3⟩:=Az.get hv i _ h;refine .of (s:=Instr.extract (a.eval y) i) rfl ⟨u,?_,h3⟩;rw[hu];have:us[i]?=some u:=by simpa using h2
   simp[Instr.extract,this]
  ·cases h
 case field t y i=>exact .of rfl (PC (hR.ev y) h)
 case index t y i=>exact .of rfl (T2 (hR.ev i) (hR.ev y) h)
 case build t ps =>
  unfold QB at h;rw[<- KR]at h;split at h
  ·rename_i zs hz ha;split at h
   ·rename_i hs;obtain⟨r,h1,rfl⟩:=Option.map_eq_some_iff.1 h;exact .of (TB a rfl) (Rw hz ha hs (by simp[parts]) (Km hR ps) h1)
   ·cases h
  ·cases h
 case slice t y lo hi mx =>
  split at h
  ·obtain⟨p,h1,rfl⟩:=Option.map_eq_some_iff.1 h;obtain⟨z,st'⟩:=p;obtain⟨_,u,k1,k3⟩:=VB hR h1;exact .of rfl ⟨u,k1,k3⟩
  ·rename_i hc;obtain⟨p,h1,rfl⟩:=Option.map_eq_some_iff.1 h;obtain⟨z,st'⟩:=p;obtain⟨u,w',g',k1,k2,k3,k4⟩:=Od hR h1;have hp:(∀ r lo m es,ev C st y≠.sl (.own r lo) m es)\/mx=none:=by
    simp only[Bool.and_eq_true,not_and,Bool.not_eq_true]at hc;cases hm:mx with
    |none=>exact .inr rfl
    |some m =>
     left;intro r lo m' es he;have:=hc (by rw[he];rfl);rw[hm]at this;simp at this
   obtain⟨rfl,rfl⟩:=k4 hp;exact .of rfl ⟨u,k1,k3⟩
 case makeFunc fn first Bi =>
  obtain⟨f,hf,rfl⟩:=Option.map_eq_some_iff.1 h;unfold rh at hf;split at hf
  ·rename_i f' eI;simp at hf;subst hf;refine .of (s:=Instr.makeFunc (.func f') (first.map a.eval) (Bi.map a.eval)) rfl ⟨_,rfl,?_⟩;have xN:first = #[]:=by
    cases first;simp_all
   subst xN;simp only[VR];refine⟨_,by simp;rfl,?_⟩;have:=Gw hR Bi.toList;rw[Lh];simpa using this
  ·cases hf
 case typeAssert y xt t ok =>
  obtain⟨u,j1,j2⟩:=O8 (P:=C.P) (xt:=xt) (hR.ev y) h;exact .of (s:=Instr.typeAssert (a.eval y) xt t ok) rfl ⟨u,j1,j2⟩
 case makeInterface t y =>
  split at h
  ·rename_i hc;have h':=Option.some.inj h;subst h';refine .of rfl ⟨_,run_makeInterface w t _ hc,?_⟩;simp only[VR];exact⟨_,rfl,hR.ev y⟩
  ·cases h
 case call c =>
  split at h
  ·rename_i b hb;obtain⟨callee,args,argTypes⟩:=c;simp only at hb;subst hb;obtain⟨consts,he⟩:=IK a (o:=⟨dst,.call { callee:=.builtin b,args,argTypes },ty,after,x2,x3⟩) rfl;exact Tg hR he h
  ·cases h
 all_goals(cases h)
def Grow.refl(g:Gh)(w:World):Grow [] [] [] g w g w where
 toLasts:=T7 g w [] []
 os:=rfl
 tape:=⟨rfl,by first|exact Nat.le_refl _|exact Nat.le_succ _⟩
 output:=rfl
 size:=Nat.le_refl _
 other:=λ_ _ h=>⟨h,rfl⟩
 kept:=λ_ _ _ h _=>⟨h,rfl⟩
def yX{o:Oper}{x:AV}(h:fh C o st=some x):qP C o st x [] [] [] []:=by
 intro A N g a w hR K Q hk;obtain⟨u,h1,h2⟩:=af hR h;exact h1.wp (hk u g w (Grow.refl g w) h2 (λs cs hs=>by cases hs))
def si{o:Oper}{t d:Nat}{zs:List Value}(ho:o.op=.alloc t)(hd:o.dst=some d)(hz:zeroOf C.P t=some zs):qP C o st (.ptr (nm d) 0) [] [nm d] [nm d] [(nm d,vals zs)]:=by
 intro A N g a w hR K Q hk;have Wa:∃ z,(zeroValue t).run C.P w=.ok z w/\zs=z.cells.toList:=by
  unfold zeroOf at hz;obtain⟨z,pO,kS⟩:=Option.map_eq_some_iff.1 hz;obtain⟨i,hi,rB⟩:=Option.bind_eq_some_iff.1 pO;exact⟨z,by simp[zeroValue,run_typeInfo hi,rB],kS.symm⟩
 obtain⟨z,pO,rfl⟩:=Wa;obtain⟨dst,op,ty,after,x2,x3⟩:=o;simp only at ho hd;subst ho;subst hd;have VY:Does C.P ⟨some d,.alloc t,ty,after,x2,x3⟩ a w (.pointer (some ⟨w.heap.size,0,none⟩)) (w.alloc (.cells z.cells t)) :=
  IV (s:=Instr.alloc t true (.tuple #[])) rfl (by simp[Instr.alloc,pO,OP])
 have hl:=Ly g w (.cells z.cells t) (nm d);refine VY.wp (hk _ (g.CI w.heap.size (nm d)) _ ?_ ?_ λs cs hs=>?_)
 ·exact { toLasts:=hl,os:=rfl,tape:=⟨rfl,by first|exact Nat.le_refl _|exact Nat.le_succ _⟩,output:=rfl,size:=by simp,other:=λb hb ho=>⟨by simp[Gh.CI,Nat.ne_of_lt hb,ho],alloc_old w _ b hb⟩,kept:=λs _ _ ho hb=>⟨by simp[Gh.CI,Nat.ne_of_lt hb,ho],alloc_old w _ _ hb⟩ }
 ·simp[VR,Gh.CI,KO]
 ·simp only[lk]at hs;split at hs
  ·rename_i he;injection hs with hs;subst hs;subst he
   refine⟨by simp[Gh.CI],.inl ⟨KO d,z.cells,t,?_,H0 _⟩⟩;have:(g.CI w.heap.size (nm d)).box (nm d)=w.heap.size:=by simp[Gh.CI]
   rw[this];exact heap_alloc_new w _
  ·cases hs
end
end Go.Abs
