/- part 7 of the proof -/
import Derived.Test.YthachdiockkofaaGreatDoorW06
set_option linter.all false
namespace Go.Abs
def Hn(d:Option Nat)(K:St→Prop):Option AV→St→Prop
 |some x,st=>K (st.put d x)
 |none,_=>False
theorem nd{α:Sort _}{a b:α}(h:a=b):a=b:=h
@[go_sem] theorem dj(d:Option Nat)(K:St→Prop)(x:AV)(st:St):Hn d K (some x) st=K (st.put d x):=nd rfl
@[go_sem] theorem di(d:Option Nat)(K:St→Prop)(x:AV)(st:St):DY d K (some (x,st))=K (st.put d x):=nd rfl
theorem C7(d:Option Nat)(K:St→Prop)(o:Option AV)(st:St):DY d K (o.map (·,st))=Hn d K o st:=by cases o<;>rfl
@[go_sem] theorem fD(k:Nat)(x:AV)(t:List (Nat × AV))(o:List (Nat × List AV)):St.put (some k) x ⟨t,o⟩=⟨(k,x)::t,o⟩:=rfl
@[go_sem] theorem U5(x:AV)(st:St):St.put none x st=st:=rfl
@[go_sem] theorem ga{α:Type}(k j:Nat)(x:α)(l:List (Nat × α)):lk k ((j,x)::l)=if j=k then some x else lk k l:=rfl
@[go_sem] theorem gb{α:Type}(k:Nat):lk k ([]:List (Nat × α))=none:=rfl
@[go_sem] theorem gF(C:Ctx)(k:Nat)(t:List (Nat × AV))(o:List (Nat × List AV)):ev C ⟨t,o⟩ (.tmp k)=(lk k t).getD .undef:=rfl
@[go_sem] theorem eI(C:Ctx)(st:St)(v:Value):ev C st (.const v)=.v v:=rfl
@[go_sem] theorem fW(C:Ctx)(st:St)(f:Nat):ev C st (.func f)=.fn f []:=rfl
@[go_sem] theorem dE(C:Ctx)(st:St)(i:Nat):ev C st (.global i)=(match C.G i with
  |some cs=>.ep .no 0 cs 0
  |none=>.undef):=rfl
section
variable (X:Env) (Q:Ex→St→Prop) (K:St→Prop) (st:St)
@[go_sem] theorem fR:wpA X .skip Q=Q .normal:=nd rfl
@[go_sem] theorem dw(id:Nat)(ops:Array Oper):wpA X (.region id ops false) Q=A9 X ops ops.toList (Q .normal):=nd rfl
@[go_sem] theorem fO(id:Nat)(ops:Array Oper):wpA X (.region id ops true) Q=IX X ops (Q .normal):=nd rfl
@[go_sem] theorem gx(x y:Code):wpA X (.seq x y) Q=wpA X x (Q0 (wpA X y Q) Q):=nd rfl
@[go_sem] theorem fN(c:Operand)(x y:Code):wpA X (.cond c x y) Q st=ON (ev X.C st c) (wpA X x Q) (wpA X y Q) st:=nd rfl
@[go_sem] theorem ea(id:Nat)(c:Code):wpA X (.block id c) Q=wpA X c (NN id Q):=nd rfl
@[go_sem] theorem fQ(c:Code):wpA X (.loop c) Q=Zz X (wpA X c) Q:=nd rfl
@[go_sem] theorem fP(id:Nat):wpA X (.exit id) Q=Q (.exit id):=nd rfl
@[go_sem] theorem gw:wpA X .ret Q=Q .ret:=nd rfl
@[go_sem] theorem ec(c:Code):wpA X (.scope c) Q=wpA X c Q:=nd rfl
@[go_sem] theorem eb(l:Nat):wpA X (.label l) Q=Q .normal:=nd rfl
@[go_sem] theorem bL:Q0 K Q .normal=K:=nd rfl
@[go_sem] theorem dq(i:Nat):Q0 K Q (.exit i)=Q (.exit i):=nd rfl
@[go_sem] theorem dZ:Q0 K Q .ret=Q .ret:=nd rfl
@[go_sem] theorem ay(id:Nat):NN id Q .normal=Q .normal:=nd rfl
@[go_sem] theorem bQ(id i:Nat):NN id Q (.exit i)=if i=id then Q .normal else Q (.exit i):=nd rfl
@[go_sem] theorem cE(id:Nat):NN id Q .ret=Q .ret:=nd rfl
@[go_sem] theorem fU(b:Bool)(K1 K2:St→Prop):ON (.v (.bool b)) K1 K2 st=((b=true→K1 st)∧(b=false→K2 st)):=nd rfl
@[go_sem high] theorem cH(K1 K2:St→Prop):ON (.v (.bool true)) K1 K2 st=K1 st:=by simp[ON]
@[go_sem high] theorem bW(K1 K2:St→Prop):ON (.v (.bool false)) K1 K2 st=K2 st:=by simp[ON]
@[go_sem] theorem fw(all:Array Oper):A9 X all [] K=K:=nd rfl
@[go_sem] theorem fX(C:Ctx):CL C st []=[]:=rfl
@[go_sem] theorem eL(C:Ctx)(x:Operand)(xs:List Operand):CL C st (x::xs)=ev C st x::CL C st xs:=rfl
@[go_sem] theorem ey(d:Option Nat)(f:Nat)(first xs:List AV):TY X d (.mv f first) xs K st=AY X d f (first++xs) K st:=nd rfl
@[go_sem] theorem ew(d:Option Nat)(f:Nat)(AU xs:List AV):TY X d (.fn f AU) xs K st=AY X d f (xs++AU) K st:=nd rfl
variable (all:Array Oper) (rest:List Oper) (d:Option Nat) (ty:TypeId) (pos:String) (aft:Array Edge)
@[go_sem] theorem fp(op:Op)(j:Nat)(b:Bool):A9 X all (⟨d,op,ty,pos,aft,some (j,b)⟩::rest) K st =
 (match guardOf all j st with
 |some (.v (.bool b'))=>Ff b' b (A9 X all (⟨d,op,ty,pos,aft,none⟩::rest) K (st.learn (gdst all j) b)) (A9 X all rest K ((st.learn (gdst all j) (!b)).put d (.tup [])))
 |some (.tup [])=>A9 X all rest K (st.put d (.tup []))
 |_=>False):=nd rfl
@[go_sem ↓] theorem fI(p q:Prop):Ff true true p q=p:=by simp[Ff]
@[go_sem ↓] theorem fJ(p q:Prop):Ff false true p q=q:=by simp[Ff]
@[go_sem ↓] theorem fK(p q:Prop):Ff true false p q=q:=by simp[Ff]
@[go_sem ↓] theorem fL(p q:Prop):Ff false false p q=p:=by simp[Ff]
@[go_sem] theorem eT(j:Nat):gdst all j=(all[j]?).bind (·.dst):=rfl
@[go_sem] theorem cV(k:Nat)(b:Bool)(t:List (Nat × AV))(o:List (Nat × List AV)):St.learn (some k) b ⟨t,o⟩=⟨Yt k (.v (.bool b)) t,o⟩:=rfl
def lkO(d:Option Nat)(l:List (Nat × AV)):Option AV:=match d with
 |some k=>lk k l
 |none=>none
@[go_sem] theorem fb(k:Nat)(l:List (Nat × AV)):lkO (some k) l=lk k l:=rfl
@[go_sem] theorem cc(j:Nat):guardOf all j st=lkO ((all[j]?).bind (·.dst)) st.tmps:=by
 unfold guardOf lkO;cases (all[j]?).bind (·.dst)<;>rfl
@[go_sem] theorem dX(b':Bool)(p q:Prop):Ff b' true p q=((b'=true→p)∧(b'=false→q)):=by cases b'<;>simp[Ff]
@[go_sem] theorem dW(b':Bool)(p q:Prop):Ff b' false p q=((b'=false→p)∧(b'=true→q)):=by cases b'<;>simp[Ff]
@[go_sem] theorem gl(x:Operand):A9 X all (⟨d,.move x,ty,pos,aft,none⟩::rest) K st=A9 X all rest K (st.put d (ev X.C st x)):=nd rfl
@[go_sem] theorem dS(x:Operand):A9 X all (⟨d,.assign x,ty,pos,aft,none⟩::rest) K st=A9 X all rest K (st.put d (ev X.C st x)):=nd rfl
@[go_sem] theorem c8(t:TypeId)(k:Nat):A9 X all (⟨some k,.makeMap t none,ty,pos,aft,none⟩::rest) K st=DY (some k) (A9 X all rest K) (some (.mp (nmM k),⟨(st.kill [] [nmM k]).tmps,(nmM k,[])::(st.kill [] [nmM k]).Al⟩)):=nd rfl
@[go_sem] theorem dT(t:TypeId)(m k:Operand):A9 X all (⟨d,.lookup t m k false,ty,pos,aft,none⟩::rest) K st=Hn d (A9 X all rest K) (Px X.C.P t st.Al (ev X.C st m) (ev X.C st k)) st:=C7 _ _ _ _
def YN(t:List (Nat × AV))(o:Option (List (Nat × List AV)))(K:St→Prop):Prop:=match o with
 |some os=>K ⟨t,os⟩
 |none=>False
@[go_sem] theorem cC(t:List (Nat × AV))(os:List (Nat × List AV))(K:St→Prop):YN t (some os) K=K ⟨t,os⟩:=nd rfl
@[go_sem] theorem bA(t:TypeId)(m k v:Operand):A9 X all (⟨none,.mapUpdate t m k v,ty,pos,aft,none⟩::rest) K st=YN st.tmps (M7 X.C.P t st.Al (ev X.C st m) (ev X.C st k) (ev X.C st v)) (A9 X all rest K):=by
 simp only[A9,Hl,doA,Gk];cases h:M7 X.C.P t st.Al (ev X.C st m) (ev X.C st k) (ev X.C st v)<;>simp[h,DY,YN,U5]
@[go_sem] theorem cW(P:Program)(t:TypeId)(Al:List (Nat × List AV))(s:Nat)(k:AV):Px P t Al (.mp s) k=(lk s Al).bind fun cs=>Lx P t cs k:=rfl
@[go_sem] theorem cU(P:Program)(t:TypeId)(Al:List (Nat × List AV))(s:Nat)(k v:AV):M7 P t Al (.mp s) k v=(lk s Al).bind fun cs=>(Lu P t cs k v).map fun cs'=>FL s cs' Al:=rfl
@[go_sem] theorem gp(c a b:Operand):A9 X all (⟨d,.pick c a b,ty,pos,aft,none⟩::rest) K st=Hn d (A9 X all rest K) (KW (ev X.C st c) (ev X.C st a) (ev X.C st b)) st:=C7 _ _ _ _
@[go_sem] theorem fi(t:TypeId)(k:Nat):A9 X all (⟨some k,.alloc t,ty,pos,aft,none⟩::rest) K st=DY (some k) (A9 X all rest K) (match zeroOf X.C.P t with
  |some zs=>some (.ptr (nm k) 0,⟨(st.kill [] [nm k]).tmps,(nm k,vals zs)::(st.kill [] [nm k]).Al⟩)
  |none=>none):=by
 simp only[A9,Hl,doA,Gk];cases zeroOf X.C.P t<;>rfl
@[go_sem] theorem gL(t:TypeId)(x:Operand)(k:Nat):A9 X all (⟨some k,.box t x,ty,pos,aft,none⟩::rest) K st=DY (some k) (A9 X all rest K) (if Cc (ev X.C st x).cells=true then some (.ptr (nm k) 0,⟨(st.kill [] [nm k]).tmps,(nm k,Ej [] [nm k] (ev X.C st x).cells)::(st.kill [] [nm k]).Al⟩) else none):=nd rfl
def R6(C:Ctx)(t:TypeId)(p:AV)(Al:List (Nat × List AV)):Option AV:=match AZ C.P t,BJ C.P t with
 |some agg,some n=>O6 agg n Al p
 |_,_=>none
@[go_sem] theorem dP(C:Ctx)(t:TypeId)(p:AV)(Al:List (Nat × List AV)):R6 C t p Al=(match AZ C.P t,BJ C.P t with
 |some agg,some n=>O6 agg n Al p
 |_,_=>none):=rfl
@[go_sem] theorem gk(t:TypeId)(x:Operand):A9 X all (⟨d,.load t x,ty,pos,aft,none⟩::rest) K st=Hn d (A9 X all rest K) (R6 X.C t (ev X.C st x) st.Al) st:=by
 simp only[A9,Hl,doA,Gk,R6];rw[← C7];congr 1;cases AZ X.C.P t<;>cases BJ X.C.P t<;>rfl
def YO(o:Option St)(K:St→Prop):Prop:=match o with
 |some st=>K st
 |none=>False
@[go_sem] theorem cD(st:St)(K:St→Prop):YO (some st) K=K st:=nd rfl
@[go_sem] theorem fu(t:TypeId)(p x:Operand):A9 X all (⟨none,.store t p x,ty,pos,aft,none⟩::rest) K st=(match BJ X.C.P t with
  |some n=>YO (Ov n st (ev X.C st p) (ev X.C st x)) (A9 X all rest K)
  |none=>False):=by
 simp only[A9,Hl,doA,Gk];cases BJ X.C.P t with
 |none=>rfl
 |some n=>cases h:Ov n st (ev X.C st p) (ev X.C st x)<;>simp[h,DY,YO,U5]
@[go_sem] theorem fq(t:TypeId)(x i:Operand):A9 X all (⟨d,.index t x i,ty,pos,aft,none⟩::rest) K st=Hn d (A9 X all rest K) (X6 X.C.P t (ev X.C st i) (ev X.C st x)) st:=C7 _ _ _ _
@[go_sem] theorem bu(t:TypeId)(x:Operand)(i:Nat):A9 X all (⟨d,.fieldAddr t x i,ty,pos,aft,none⟩::rest) K st=Hn d (A9 X all rest K) (match A1 X.C.P t i with
  |some off=>Md off (ev X.C st x)
  |none=>none) st:=by
 simp only[A9,Hl,doA,Gk];cases A1 X.C.P t i with
 |none=>rfl
 |some off=>exact C7 _ _ _ _
def Oa(C:Ctx)(t:TypeId)(x i:AV):Option AV:=match i with
 |.v (.int _ k)=>match Au C.P t with
   |some (_,n)=>N9 n k x
   |none=>match Dp C.P t with
    |some (len,n)=>N8 len n k x
    |none=>none
 |_=>none
@[go_sem] theorem cS(C:Ctx)(t:TypeId)(x:AV)(kd:IntKind)(k:Int):Oa C t x (.v (.int kd k))=(match Au C.P t with
  |some (_,n)=>N9 n k x
  |none=>match Dp C.P t with
   |some (len,n)=>N8 len n k x
   |none=>none):=rfl
@[go_sem] theorem bw(t:TypeId)(x i:Operand):A9 X all (⟨d,.indexAddr t x i,ty,pos,aft,none⟩::rest) K st=Hn d (A9 X all rest K) (Oa X.C t (ev X.C st x) (ev X.C st i)) st:=by
 simp only[A9,Hl,doA,Gk,Oa];rw[← C7];congr 1;generalize ev X.C st i=v;cases v<;>try rfl
 rename_i u;cases u<;>try rfl
 simp only;cases Au X.C.P t<;>cases Dp X.C.P t<;>rfl
@[go_sem] theorem cn(x:Operand):A9 X all (⟨d,.nilCheck x,ty,pos,aft,none⟩::rest) K st=Hn d (A9 X all rest K) (Ib (ev X.C st x)) st:=C7 _ _ _ _
@[go_sem] theorem fj(op:BinOp)(t t2:TypeId)(x y:Operand):A9 X all (⟨d,.binOp op t x y t2,ty,pos,aft,none⟩::rest) K st=Hn d (A9 X all rest K) (VG X.C.P op t (ev X.C st x) (ev X.C st y)) st:=C7 _ _ _ _
@[go_sem] theorem gq(op:UnOp)(t:TypeId)(x:Operand):A9 X all (⟨d,.unOp op t x,ty,pos,aft,none⟩::rest) K st=Hn d (A9 X all rest K) (unA op (ev X.C st x)) st:=C7 _ _ _ _
def I1(i:Nat):AV→Option AV
 |.tup cs=>cs[i]?
 |_=>none
@[go_sem] theorem aS(i:Nat)(cs:List AV):I1 i (.tup cs)=cs[i]?:=rfl
@[go_sem] theorem c7(x:Operand)(i:Nat):A9 X all (⟨d,.extract x i,ty,pos,aft,none⟩::rest) K st=Hn d (A9 X all rest K) (I1 i (ev X.C st x)) st:=by
 simp only[A9,Hl,doA,Gk,I1];rw[← C7];congr 1;generalize ev X.C st x=v;cases v<;>rfl
def NP(C:Ctx)(t:TypeId)(ps:List (Nat × AV)):Option AV:=match zeroOf C.P t,AZ C.P t with
  |some zs,some true=>if sized C.P t=true then (Kz (placeOf C.P t) (vals zs) ps).map .agg else none
  |_,_=>none
@[go_sem] theorem cG(C:Ctx)(t:TypeId)(ps:List (Nat × AV)):NP C t ps=(match zeroOf C.P t,AZ C.P t with
  |some zs,some true=>if sized C.P t=true then (Kz (placeOf C.P t) (vals zs) ps).map .agg else none
  |_,_=>none):=rfl
def Hd(C:Ctx)(st:St):List (Nat × Operand)→List (Nat × AV)
 |[]=>[]
 |(i,x)::ps=>(i,ev C st x)::Hd C st ps
@[go_sem] theorem c9(C:Ctx):Hd C st []=[]:=rfl
@[go_sem] theorem cp(C:Ctx)(i:Nat)(x:Operand)(ps:List (Nat × Operand)):Hd C st ((i,x)::ps)=(i,ev C st x)::Hd C st ps:=rfl
theorem Je(C:Ctx)(ps:Array (Nat × Operand)):parts C st ps=Hd C st ps.toList:=by
 unfold parts
 induction ps.toList with
 | nil=>rfl
 | cons p l ih=>obtain⟨i,x⟩:=p;simp only[List.map_cons,Hd,ih]
@[go_sem] theorem fk(t:TypeId)(ps:Array (Nat × Operand)):A9 X all (⟨d,.build t ps,ty,pos,aft,none⟩::rest) K st=Hn d (A9 X all rest K) (NP X.C t (Hd X.C st ps.toList)) st:=by
 simp only[A9,Hl,doA,Gk,NP,Je];rw[← C7];congr 1;cases zeroOf X.C.P t with
 |none=>rfl
 |some zs=>cases AZ X.C.P t with
  |none=>rfl
  |some b=>cases b with
   | false=>rfl
   | true =>
    simp only;split
    ·simp[Option.map_map,Function.comp_def]
    ·rfl
@[go_sem] theorem aC(t:TypeId)(len k:Nat)(ps:Array (Nat × Operand)):A9 X all (⟨some k,.buildSlice t len ps,ty,pos,aft,none⟩::rest) K st=(if k∈X.deep then DY (some k) (A9 X all rest K) (match Bg X.C.P t with
  |some (e,1,_)=>match zeroOf X.C.P e with
   |some _=>Zw (nm k) st len (Hd X.C st ps.toList)
   |none=>none
  |_=>none) else DY (some k) (A9 X all rest K) (match Bg X.C.P t with
  |some (e,n,_)=>match zeroOf X.C.P e with
   |some zs=>Zv (nm k) n len zs st (Hd X.C st ps.toList)
   |none=>none
  |none=>none)):=by
 simp only[A9,Hl,doA,Mh]
 by_cases hk:k∈X.deep<;>simp only[hk,if_true,if_false]
 ·simp only[Pu,Je];cases Bg X.C.P t with
  |none=>rfl
  |some p =>
   obtain⟨e,n,b⟩:=p;rcases n with _|_|n<;>rfl
 ·simp only[Gk,Je];cases Bg X.C.P t with
  |none=>rfl
  |some p=>rfl
def ZA(C:Ctx)(k:Nat)(t:TypeId)(l c:AV)(st:St):Option (AV × St):=match some k,Bg C.P t,l,c with
  |some d,some (e,n,_),.v (.int _ l),.v (.int _ c)=>match zeroOf C.P e with
   |some zs=>R7 (nm d) n zs st l c
   |none=>none
  |_,_,_,_=>none
@[go_sem] theorem dQ(C:Ctx)(k:Nat)(t:TypeId)(kl kc:IntKind)(l c:Int):ZA C k t (.v (.int kl l)) (.v (.int kc c)) st=(match Bg C.P t with
  |some (e,n,_)=>match zeroOf C.P e with
   |some zs=>R7 (nm k) n zs st l c
   |none=>none
  |none=>none):=by
 unfold ZA;cases Bg C.P t<;>rfl
@[go_sem] theorem bz(t:TypeId)(k:Nat)(l c:Operand):A9 X all (⟨some k,.makeSlice t l c,ty,pos,aft,none⟩::rest) K st=DY (some k) (A9 X all rest K) (ZA X.C k t (ev X.C st l) (ev X.C st c) st):=nd rfl
def VI:Option AV→Option (Option Nat)
 |none=>some none
 |some x=>(LP x).map some
@[go_sem] theorem bS:VI none=some none:=rfl
@[go_sem] theorem bT(x:AV):VI (some x)=(LP x).map some:=rfl
@[go_sem] theorem cj(C:Ctx)(o:Option Operand):B4 C st o=VI (o.map (ev C st)):=by cases o<;>rfl
@[go_sem] theorem ft(t:TypeId)(x:Operand)(lo hi mx:Option Operand)(k:Nat):A9 X all (⟨some k,.slice t x lo hi mx,ty,pos,aft,none⟩::rest) K st=(if k∈X.deep then DY (some k) (A9 X all rest K) (SZ X.C st t (ev X.C st x) lo hi mx) else DY (some k) (A9 X all rest K) (GK X.C st t (ev X.C st x) lo hi mx)):=nd rfl
@[go_sem] theorem fV(C:Ctx)(t:TypeId)(r b k:Nat)(es:List (List AV))(hi mx:Operand):SZ C st t (.sl (.own r b) k es) none (some hi) (some mx)=(match LP (ev C st hi),LP (ev C st mx),Au C.P t with
  |some h,some m,some (_,n)=>if m=h∧k=n∧h≤es.length then some (.sl (.own r b) n (es.take h),st) else none
  |_,_,_=>none):=by
 simp only[SZ,B4];cases LP (ev C st hi) with
 |none=>rfl
 |some h=>cases LP (ev C st mx) with
  |none=>rfl
  |some m=>cases Au C.P t with
   |none=>rfl
   |some p=>rfl
@[go_sem] theorem dh(C:Ctx)(t:TypeId)(tg:Tag)(n:Nat)(es:List (List AV))(lo hi mx:Option Operand):GK C st t (.sl tg n es) lo hi mx=(match B4 C st lo,B4 C st hi,B4 C st mx,Au C.P t with
  |some l,some (some h),some none,some (_,m)=>if n=m then H6 m false (l.getD 0) h st (.sl tg n es) else none
  |some l,some none,some none,some (_,m)=>if n=m then H6 m false (l.getD 0) es.length st (.sl tg n es) else none
  |some l,some (some h),some (some x),some (_,m)=>if n=m∧x=h then H6 m true (l.getD 0) h st (.sl tg n es) else none
  |_,_,_,_=>none):=by
 unfold GK;cases B4 C st lo with
 |none=>rfl
 |some l=>cases B4 C st hi with
  |none=>rfl
  |some h=>cases B4 C st mx with
   |none=>cases h<;>rfl
   |some m=>cases Au C.P t with
    |none=>cases h<;>cases m<;>rfl
    |some p =>
     obtain⟨e,k⟩:=p;simp only[elems]
     by_cases hn:n=k
     ·cases h<;>cases m<;>simp[hn]
     ·cases h<;>cases m<;>simp[hn]
@[go_sem] theorem ct(C:Ctx)(t:TypeId)(lo hi mx:Option Operand):GK C st t (.v (.slice none 0 0)) lo hi mx=(match B4 C st lo,B4 C st hi,B4 C st mx,Au C.P t with
  |some l,some h,some none,some (_,m)=>H6 m false (l.getD 0) (h.getD 0) st (.v (.slice none 0 0))
  |some l,some (some h),some (some x),some (_,m)=>if x=h then H6 m true (l.getD 0) h st (.v (.slice none 0 0)) else none
  |_,_,_,_=>none):=by
 unfold GK;cases B4 C st lo with
 |none=>rfl
 |some l=>cases B4 C st hi with
  |none=>rfl
  |some h=>cases B4 C st mx with
   |none=>cases h<;>rfl
   |some m=>cases Au C.P t with
    |none=>cases h<;>cases m<;>rfl
    |some p=>cases h<;>cases m<;>rfl
@[go_sem] theorem bx(f:Nat)(x:Operand):A9 X all (⟨d,.makeFunc (.func f) #[x] #[],ty,pos,aft,none⟩::rest) K st=A9 X all rest K (st.put d (.mv f [ev X.C st x])):=nd rfl
@[go_sem] theorem cm(f:Nat)(AU:Array Operand):A9 X all (⟨d,.makeFunc (.func f) #[] AU,ty,pos,aft,none⟩::rest) K st=A9 X all rest K (st.put d (.fn f (CL X.C st AU.toList))):=by
 rw[Ll];rfl
@[go_sem] theorem gi(f:Operand)(args:Array Operand)(ts:Array TypeId):A9 X all (⟨d,.call ⟨.value f,args,ts⟩,ty,pos,aft,none⟩::rest) K st=TY X d (ev X.C st f) (CL X.C st args.toList) (A9 X all rest K) st:=nd rfl
@[go_sem] theorem gN(x:Operand)(t:TypeId):A9 X all (⟨d,.call ⟨.builtin .len,#[x],#[t]⟩,ty,pos,aft,none⟩::rest) K st=(if KM X.C.P t (ev X.C st x)=true then Hn d (A9 X all rest K) (Oe (ev X.C st x)) st else False):=by
 simp only[A9,Hl,doA,Gk,IT];split
 ·exact C7 _ _ _ _
 ·rfl
@[go_sem] theorem dR(x y:Operand)(t t2:TypeId)(k:Nat):A9 X all (⟨some k,.call ⟨.builtin .append,#[x,y],#[t,t2]⟩,ty,pos,aft,none⟩::rest) K st=(if k∈X.deep then DY (some k) (A9 X all rest K) (match Bg X.C.P t with
  |some (_,1,_)=>if AI X.C.P t2=true then MD (nm k) st (ev X.C st x) (ev X.C st y) else none
  |_=>none) else (match Bg X.C.P t with
  |some (e,n,_)=>if AI X.C.P t2=true then DY (some k) (A9 X all rest K) (MC (nm k) n st (ev X.C st x) (ev X.C st y)) else DY (some k) (A9 X all rest K) (match zeroOf X.C.P e with
   |some zs=>Ki X.C.P (nm k) n t2 zs st (ev X.C st x) (ev X.C st y)
   |none=>none)
  |none=>False)):=by
 simp only[A9,Hl,doA,Mh]
 by_cases hk:k∈X.deep<;>simp only[hk,if_true,if_false]
 ·simp only[Pt];cases Bg X.C.P t with
  |none=>rfl
  |some p =>
   obtain⟨e,n,b⟩:=p;rcases n with _|_|n<;>rfl
 ·simp only[Gk,IT];cases Bg X.C.P t with
  |none=>rfl
  |some p =>
   obtain⟨e,n,b⟩:=p;simp only;split<;>rfl
@[go_sem] theorem gj(x y:Operand)(t t2:TypeId):A9 X all (⟨d,.call ⟨.builtin .copy,#[x,y],#[t,t2]⟩,ty,pos,aft,none⟩::rest) K st=DY d (A9 X all rest K) (T8 X.C.P t st (ev X.C st x) (ev X.C st y)):=nd rfl
@[go_sem] theorem fo(x:Operand)(t:TypeId):A9 X all (⟨d,.call ⟨.builtin .clear,#[x],#[t]⟩,ty,pos,aft,none⟩::rest) K st=DY d (A9 X all rest K) (PY X.C.P t st (ev X.C st x)):=nd rfl
@[go_sem] theorem gM(x:Operand)(t:TypeId):A9 X all (⟨d,.call ⟨.builtin .cap,#[x],#[t]⟩,ty,pos,aft,none⟩::rest) K st=Hn d (A9 X all rest K) (YR X.C.P t (ev X.C st x)) st:=C7 _ _ _ _
def Yb:AV→AV→Option AV
 |.v (.int k a),.v (.int _ b)=>some (.v (.int k (if b > a then b else a)))
 |_,_=>none
def bf:AV→AV→Option AV
 |.v (.int k a),.v (.int _ b)=>some (.v (.int k (if b<a then b else a)))
 |_,_=>none
@[go_sem] theorem fc(k k':IntKind)(a b:Int):Yb (.v (.int k a)) (.v (.int k' b))=some (.v (.int k (if b > a then b else a))):=rfl
@[go_sem] theorem fe(k k':IntKind)(a b:Int):bf (.v (.int k a)) (.v (.int k' b))=some (.v (.int k (if b<a then b else a))):=rfl
@[go_sem] theorem gP(x y:Operand)(ts:Array TypeId):A9 X all (⟨d,.call ⟨.builtin .max,#[x,y],ts⟩,ty,pos,aft,none⟩::rest) K st=Hn d (A9 X all rest K) (Yb (ev X.C st x) (ev X.C st y)) st:=by
 simp only[A9,Hl,doA,Gk,IT,Yb];rw[← C7];congr 1;generalize ev X.C st x=v;generalize ev X.C st y=v';cases v with
 | v u=>cases v' with
  | v u'=>cases u<;>cases u'<;>rfl
  |_=>cases u<;>rfl
 |_=>rfl
end
-- values
@[go_sem] theorem eZ(P:Program)(t:TypeId)(tg:Tag)(n:Nat)(es:List (List AV)):KM P t (.sl tg n es)=AI P t:=rfl
@[go_sem] theorem dN(P:Program)(t:TypeId):KM P t (.v (.slice none 0 0))=AI P t:=rfl
@[go_sem] theorem dO(P:Program)(t:TypeId)(s:ByteArray):KM P t (.v (.string s))=JW P t:=rfl
@[go_sem] theorem fZ(tg:Tag)(n:Nat)(es:List (List AV)):Oe (.sl tg n es)=some (.v (.int .i64 es.length)):=rfl
@[go_sem] theorem eW(xs:List AV):Oe (.mem true xs)=some (.v (.int .i64 xs.length)):=rfl
@[go_sem] theorem dM(P:Program)(t:TypeId)(b:Bool)(xs:List AV):KM P t (.mem b xs)=AI P t:=rfl
@[go_sem] theorem eX:Oe (.v (.slice none 0 0))=some (.v (.int .i64 0)):=rfl
@[go_sem] theorem eY(s:ByteArray):Oe (.v (.string s))=some (.v (.int .i64 s.size)):=rfl
@[go_sem] theorem eU(r i j off m:Nat)(bss:List (List (List AV))):Oe (.hnd .dsl r i j off m bss)=some (.v (.int .i64 bss.length)):=rfl
@[go_sem] theorem eV(r i j off m:Nat)(b:List (List AV)):Oe (.hnd .isl r i j off m [b])=some (.v (.int .i64 b.length)):=rfl
@[go_sem] theorem dL(P:Program)(t:TypeId)(k:HK)(r i j off m:Nat)(b:List (List (List AV))):KM P t (.hnd k r i j off m b)=AI P t:=rfl
@[go_sem] theorem gr(p x y:Bool):KW (.v (.bool p)) (.v (.bool x)) (.v (.bool y))=some (.v (.bool (bif p then x else y))):=rfl
@[go_sem high] theorem fA(x y:AV):KW (.v (.bool true)) x y=some x:=by unfold KW;split<;>simp_all
@[go_sem high] theorem fy(x y:AV):KW (.v (.bool false)) x y=some y:=by unfold KW;split<;>simp_all
@[go_sem] theorem fg(s o:Nat):Ib (.ptr s o)=some (.ptr s o):=rfl
@[go_sem] theorem gf(t:Tag)(i:Nat)(cs:List AV)(o:Nat):Ib (.ep t i cs o)=some (.ep t i cs o):=rfl
@[go_sem] theorem gg(f:Nat)(cs:List AV):Ib (.fn f cs)=some (.fn f cs):=rfl
attribute [go_sem] cond_true cond_false bne_self_eq_false Yt mkA O6 Md N9 N8 elems Ov Zv R7 LP MC H6 Kz Qf X6 AV.cells H2 Cc FL cut Gj K0 rowsOf vals chunk AV.kill Ej LN Hk St.kill AV.freeze B9 nm unA VG S9 K7 Tv Bq Ed AV.setRow Ga St.setRow AV.AQ Es Nx Nw St.AQ T8 PY YR Ki Option.isNone_none Option.isNone_some AV.Bw F9 St.Bw Hset Ol Zw MD frozen St.freeze WJ List.map_cons List.map_nil List.length_cons List.length_nil List.drop_zero List.drop_succ_cons List.take_succ_cons List.take_zero List.drop_nil List.take_nil List.cons_append List.nil_append List.append_nil List.getElem?_toArray List.getElem?_cons_zero List.getElem?_cons_succ List.flatten_cons List.flatten_nil List.replicate_zero List.replicate_succ Option.map_some Option.map_none Option.getD_some Option.getD_none Option.bind_some Option.bind_none if_true if_false Nat.reduceEqDiff Nat.reduceAdd Nat.reduceMul Nat.reduceLeDiff Nat.reduceSub Nat.reduceLT Nat.zero_add Nat.add_zero and_true true_and and_self List.mem_cons List.mem_nil_iff List.not_mem_nil or_false false_or or_self not_false_eq_true not_true_eq_false Bool.false_eq_true Bool.true_eq_false Bool.not_true Bool.not_false Bool.and_true Bool.true_and Bool.false_and Bool.and_false beq_self_eq_true decide_true decide_false reduceCtorEq forall_const implies_true false_implies
@[go_sem] theorem bU(n:Nat):(0≤(n:Int))=True:=by simp
attribute [go_sem] Int.cast_ofNat_Int Int.reduceBNe Int.reduceBEq Bool.not_not Int.toNat_natCast Int.toNat_zero Int.reduceLE Int.reduceLT Int.reduceToNat Int.reduceAdd Int.reduceSub Int.reduceMul Int.reduceNeg Nat.le_refl Nat.zero_le Nat.sub_zero List.take_length List.length_take List.length_drop List.length_append List.length_map
theorem wrap64(n:Int)(h1:-9223372036854775808≤n)(h2:n≤9223372036854775807):IntKind.i64.wrap n=n:=by
 simp only[IntKind.wrap,IntKind.signed,IntKind.bits,Bool.true_and,decide_eq_true_eq,ge_iff_le,Nat.reduceSub];split<;>omega
@[go_sem] theorem fE(ρ:Rn):Ee ρ []=[]:=rfl
@[go_sem] theorem dU(ρ:Rn)(k:Nat)(cs:List AV)(o:List (Nat × List AV)):Ee ρ ((k,cs)::o)=(match lk k ρ.m with|some s=>(s,EY ρ cs)::Ee ρ o|none=>Ee ρ o):=by
 simp only[Ee,List.filterMap_cons];cases lk k ρ.m<;>rfl
attribute [go_sem] names Pe AV.ren EY Z3 K5 inv rngs Way.back IS FR pack List.filterMap_cons_some List.filterMap_cons_none List.filterMap_nil List.map_map List.mem_singleton
attribute [go_sem ↓] reduceIte
end Go.Abs
namespace Go.Abs
def Xj(v:Way)(st:St):List (Nat × List AV)→Prop
 |[]=>True
 |(s,cs)::l=>lk s (Ee v.ρ st.Al)=some cs∧Xj v st l
theorem Xj.has{v:Way}{st:St}:∀ {ob:List (Nat × List AV)},Xj v st ob→Has v st ob
 |(s,c)::l,h,s',cs,hs=>by
  simp only[lk]at hs;split at hs
  ·rename_i he;injection hs with hs;subst hs;subst he;exact h.1
  ·exact Xj.has h.2 s' cs hs
def G5(v:Way)(ob:List (Nat × List AV)):Bool :=
 Ea v.ρ.l&&Ea v.ρ.m&&Ea v.back.l&&Ea v.back.m&&(rngs v.ρ.m).all (fun s=>(names ob).contains s)&&(rngs v.fm).all (fun s=>s%64 !=63)
theorem G5.ok{v:Way}{ob:List (Nat × List AV)}(h:G5 v ob=true):v.OK ob∧(rngs v.fm).all (fun s=>s%64 !=63)=true:=by
 simp only[G5,Bool.and_eq_true]at h;obtain⟨⟨⟨⟨⟨h1,h2⟩,h3⟩,h4⟩,h5⟩,h6⟩:=h;refine⟨⟨⟨h1,h2⟩,⟨h3,h4⟩,fun s hs=>?_⟩,h6⟩;have:=List.all_eq_true.1 h5 s hs;simpa using this
section
variable {X:Env} {d:Option Nat} {fid:Nat} {xs xs':List AV} {K:St→Prop} {st:St} {y y':AV} {ob ob':List (Nat × List AV)}
theorem Ad.Am{C:Ctx}{f:Nat}{xs ys:List AV}{o o':List (Nat × List AV)}{y:AV}(h:Ad C f ys o y o')(hw:Ig xs ys):Ad C f xs o y o' :=
 ⟨h.1,fun g w us hg hv ho=>h.2 g w us hg (hw g w us hv) ho⟩
theorem Ad.ren{C:Ctx}{f:Nat}{xs:List AV}{o o':List (Nat × List AV)}{y:AV}(h:Ad C f xs o y o')(ρ:Rn)(hρ:ρ.OK)(hext:∀ s,s∈names o→lk s ρ.m=some s):Ad C f xs o (y.ren ρ) (Ee ρ o') :=
 ⟨h.1,fun g w us hg hv ho=>Calls.mono (h.2 g w us hg hv ho) fun e w' ⟨u,g',he,hfr,hy,ho'⟩=>⟨u,g'.ren ρ g',he,hfr.ren hρ hext,VR.ren hρ _ _ hy,fun s cs hs=>by
  obtain⟨s0,cs0,h1,h2,rfl⟩:=Ir hρ hs;exact DE.ren hρ h1 (ho' s0 cs0 h2)⟩⟩
def TD(v:Way)(st:St):List (Nat × List AV)→Prop
 |[]=>True
 |(s,cs)::l=>(∃ x,lk s (Ee v.ρ st.Al)=some x∧Aj x cs)∧TD v st l
def L4:List (Nat × List AV)→List (Nat × List AV)→Prop
 |[],[]=>True
 |(s,x)::l,(s',y)::l'=>s=s'∧Ig x y∧L4 l l'
 |_,_=>False
theorem TD.split{v:Way}{st:St}:∀ {ob:List (Nat × List AV)},TD v st ob→∃ o2,names o2=names ob∧Xj v st o2∧L4 o2 ob
 |[],_=>⟨[],rfl,trivial,trivial⟩
 |(s,cs)::l,⟨⟨x,h1,h2⟩,h3⟩=>by
  obtain⟨o2,a,b,c⟩:=TD.split h3;exact⟨(s,x)::o2,by simp only[names,List.map_cons]at a ⊢;rw[a],⟨h1,b⟩,rfl,h2.AM,c⟩
theorem L4.get:∀ {o2 ob:List (Nat × List AV)},L4 o2 ob→∀ s cs,lk s ob=some cs→∃ x,lk s o2=some x∧Ig x cs
 |[],[],_,s,cs,h=>by cases h
 |(k,x)::o2,(k',y)::ob,⟨e,hw,hr⟩,s,cs,h=>by
  subst e;simp only[lk]at h ⊢;split at h
  ·rename_i he;injection h with h;subst h
   exact⟨x,by simp[he],hw⟩
  ·rename_i he;obtain⟨x',h1,h2⟩:=L4.get hr s cs h;exact⟨x',by simp[he,h1],h2⟩
 |[],_::_,h,_,_,_=>h.elim
 |_::_,[],h,_,_,_=>h.elim
theorem Ad.aw{C:Ctx}{f:Nat}{xs:List AV}{o o2 o':List (Nat × List AV)}{y:AV}(h:Ad C f xs o y o')(hn:names o2=names o)(hw:L4 o2 o):Ad C f xs o2 y o' :=
 ⟨h.1,fun g w us hg hv ho=>by
  have:=h.2 g w us hg hv fun s cs hs=>by
   obtain⟨x,h1,h2⟩:=hw.get s cs hs;exact(ho s x h1).lift rfl (ho s x h1).1 rfl (fun us hu=>h2 g w _ hu)
  rw[hn];exact this⟩
mutual
theorem Gu:∀ x:AV,x.freeze []=x
 |.undef=>rfl
 |.v x=>rfl
 |.agg cs=>by simp only[AV.freeze,Ei cs]
 |.tup cs=>by simp only[AV.freeze,Ei cs]
 |.sl (.own r lo) n es=>by simp[AV.freeze]
 |.sl .no n es=>rfl
 |.sl .full n es=>rfl
 |.ptr s off=>rfl
 |.ep (.own r lo) i cells off=>by simp[AV.freeze]
 |.ep .no i cells off=>rfl
 |.ep .full i cells off=>rfl
 |.fn f AU=>by simp only[AV.freeze,Ei AU]
 |.mv f AU=>by simp only[AV.freeze,Ei AU]
 |.mp o=>rfl
 |.ifc t x=>by simp only[AV.freeze,Gu x]
 |.hnd k r i j off m bss=>by simp[AV.freeze]
 |.mem b xs=>by simp only[AV.freeze,Ei xs]
theorem Ei:∀ xs:List AV,B9 [] xs=xs
 |[]=>rfl
 | x::xs=>by simp only[B9,Gu x,Ei xs]
end
theorem St.Gu(st:St):st.freeze []=st:=by
 simp[St.freeze,Abs.Gu,Abs.Ei]
theorem Bn(v:Way)(hok:Ad X.C fid xs' ob y ob')(hx:Aj (EY v.ρ xs) xs')(hv:G5 v ob=true)(hh:TD v st ob)(hfl:v.ρ.bs=[]∨(Flat (y.ren v.back)∧Ie (Ee v.back ob')))
 (hk:K ((st.app (rngs v.back.l) (rngs v.fm) (rngs v.back.m) (Ee v.back ob')).put d (y.ren v.back))):AY X d fid xs K st:=by
 obtain⟨o2,a,b,c⟩:=hh.split;have hv':G5 v o2=true:=by unfold G5 at hv ⊢;rw[a];exact hv
 refine .inl ⟨[],v,o2,(fun y2 o3=>y2=y∧o3=ob'),(G5.ok hv').1,(G5.ok hv').2,?_,?_,fun y2 o3 hS=>?_⟩
 ·rw[Ei];exact((hok.Am hx.AM).aw a c).toP
 ·rw[St.Gu];exact b.has
 ·obtain⟨h1,h2⟩:=hS;subst h1;subst h2;rw[St.Gu];exact⟨hfl,hk⟩
theorem PS(fz:List Nat)(v:Way)(hok:Ad X.C fid xs' ob y ob')(hx:Aj (EY v.ρ (B9 fz xs)) xs')(hv:G5 v ob=true)(hh:TD v (st.freeze fz) ob)(hfl:v.ρ.bs=[]∨(Flat (y.ren v.back)∧Ie (Ee v.back ob')))
 (hk:K (((st.freeze fz).app (rngs v.back.l) (rngs v.fm) (rngs v.back.m) (Ee v.back ob')).put d (y.ren v.back))):AY X d fid xs K st:=by
 obtain⟨o2,a,b,c⟩:=hh.split;have hv':G5 v o2=true:=by unfold G5 at hv ⊢;rw[a];exact hv
 refine .inl ⟨fz,v,o2,(fun y2 o3=>y2=y∧o3=ob'),(G5.ok hv').1,(G5.ok hv').2,((hok.Am hx.AM).aw a c).toP,b.has,fun y2 o3 hS=>?_⟩;obtain⟨h1,h2⟩:=hS;subst h1;subst h2;exact⟨hfl,hk⟩
theorem FnP.Am{C:Ctx}{f:Nat}{xs ys:List AV}{o:List (Nat × List AV)}{S:AV→List (Nat × List AV)→Prop}(h:FnP C f ys o S)(hw:Ig xs ys):FnP C f xs o S :=
 ⟨h.1,fun g w us hg hv ho=>h.2 g w us hg (hw g w us hv) ho⟩
theorem FnP.aw{C:Ctx}{f:Nat}{xs:List AV}{o o2:List (Nat × List AV)}{S:AV→List (Nat × List AV)→Prop}(h:FnP C f xs o S)(hn:names o2=names o)(hw:L4 o2 o):FnP C f xs o2 S :=
 ⟨h.1,fun g w us hg hv ho=>by
  have:=h.2 g w us hg hv fun s cs hs=>by
   obtain⟨x,h1,h2⟩:=hw.get s cs hs;exact(ho s x h1).lift rfl (ho s x h1).1 rfl (fun us hu=>h2 g w _ hu)
  rw[hn];exact this⟩
theorem YQ{r n:Nat}{es es':List (List AV)}{ys:List AV}(hok:PD X.C fid n es ys es')(hx:xs=.sl (.own r 0) n es::ys)(hk:K ((st.AQ r n 0 es').put d (.tup []))):AY X d fid xs K st :=
 .inr ⟨r,n,es,ys,es',hx,hok,hk⟩
theorem Li:∀ l:List (Nat × List AV),GQ [] l=l
 |[]=>rfl
 |(k,x)::l=>by simp[GQ,Li l]
theorem SM:st.app [] [] [] []=st:=by simp[St.app,Li,I8,I7]
theorem Ai(hok:Ad X.C fid xs' [] y [])(hx:Aj (EY ⟨[],[],[]⟩ xs) xs')(hy:y.ren ⟨[],[],[]⟩=y')(hk:K (st.put d y')):AY X d fid xs K st:=by
 refine Bn ⟨⟨[],[],[]⟩,[],[]⟩ hok hx rfl trivial (.inl rfl) ?_;show K ((st.app [] [] [] []).put d (y.ren ⟨[],[],[]⟩));rw[SM,hy];exact hk
theorem FW(fz:List Nat)(hok:Ad X.C fid xs' [] y [])(hx:Aj (EY ⟨[],[],[]⟩ (B9 fz xs)) xs')(hy:y.ren ⟨[],[],[]⟩=y')(hk:K ((st.freeze fz).put d y')):AY X d fid xs K st:=by
 refine PS fz ⟨⟨[],[],[]⟩,[],[]⟩ hok hx rfl trivial (.inl rfl) ?_;show K (((st.freeze fz).app [] [] [] []).put d (y.ren ⟨[],[],[]⟩));rw[SM,hy];exact hk
theorem C2(bs:List Nat)(hok:Ad X.C fid xs' [] y [])(hx:Aj (EY ⟨[],[],bs⟩ xs) xs')(hy:y.ren ⟨[],[],[]⟩=y')(hf:Flat y')(hk:K (st.put d y')):AY X d fid xs K st:=by
 refine Bn ⟨⟨[],[],bs⟩,[],[]⟩ hok hx rfl trivial (.inr ?_) ?_
 ·show Flat (y.ren ⟨[],[],[]⟩)∧True;rw[hy];exact⟨hf,trivial⟩
 ·show K ((st.app [] [] [] []).put d (y.ren ⟨[],[],[]⟩));rw[SM,hy];exact hk
theorem Ab{body:(Ex→St→Prop)→St→Prop}{Q:Ex→St→Prop}{α:Type}(I:α→St)(Inv:α→Prop)(μ:α→Nat)(x0:α)(h0:Inv x0)(hi:Imp X st (I x0))
 (hr:∀ x,Inv x→∀ J:St→Prop,(∀ st' x',Inv x'→μ x'<μ x→Imp X st' (I x')→J st')→body (Q0 J Q) (I x)):Zz X body Q st :=
 ⟨α,I,Inv,μ,x0,h0,hi,fun x hx=>hr x hx _ fun _ x' h1 h2 h3=>⟨x',h1,h2,h3⟩⟩
end
@[go_sem] theorem bZ{α:Type}(a:α)(p:α→Prop):(∃ x,some a=some x∧p x)=p a:=by simp
@[go_sem] theorem dv(x:AV):BW x x=True:=eq_true .rfl
@[go_sem] theorem cw(x:AV):BW x .undef=True:=eq_true .undef
@[go_sem] theorem bM(r lo n:Nat):BW (.v (.slice none 0 0)) (.sl (.own r lo) (n+1) [])=True:=eq_true (.AG (by omega))
@[go_sem] theorem cu(n:Nat):BW (.v (.slice none 0 0)) (.sl .no (n+1) [])=True:=eq_true (.Az (by omega))
@[go_sem] theorem du(n:Nat)(es:List (List AV)):BW (.sl .full n es) (.sl .no n es)=True:=eq_true .full
theorem BW.int{k:IntKind}{a b:Int}(h:a=b):BW (.v (.int k a)) (.v (.int k b)):=.eq (by rw[h])
theorem BW.sl{t:Tag}{n:Nat}{a b:List (List AV)}(h:a=b):BW (.sl t n a) (.sl t n b):=.eq (by rw[h])
theorem Bc{X:Env}{rs:List ResultVar}{y:AV}{o':List (Nat × List AV)}{st:St}(ρ:Rn)(xs:List AV)(h1:C6 X.C st rs=some xs)(h2:ρ.OK)(h3:∀ s∈X.ext,lk s ρ.m=some s)(h4:BW ((pack xs).ren ρ) y)(h5:FR (K5 ρ st) o'):Rp X rs y o' .ret st :=
 ⟨xs,ρ,h1,h2,h3,h4,h5⟩
@[go_sem high] theorem aF(xs:List AV):Aj xs xs=True:=eq_true (.self xs)
@[go_sem] theorem aD(x y:AV)(xs ys:List AV):Aj (x::xs) (y::ys)=(BW x y∧Aj xs ys):=rfl
attribute [go_sem] TD St.app GQ Li I8 I7
end Go.Abs
namespace Go.Abs
def T6(P:Program)(src dst:TypeId):AV→Option AV
 |.v (.int _ n)=>match Us P src,Us P dst with
  |some _,some k=>some (.v (.int k (k.wrap n)))
  |_,_=>none
 |.v (.string s)=>if JW P src∧JW P dst then some (.v (.string s)) else none
 |.v (.slice none 0 0)=>if GU P src∧JW P dst then some (.v (.string ⟨#[]⟩)) else none
 |.sl _ n es=>if n=1∧GU P src∧JW P dst then (unbytes es).map fun l=>.v (.string ⟨l.toArray⟩) else none
 |_=>none
def Tb:AV→Bool
 |.sl (.own _ _) _ _=>true
 |_=>false
def cb:Fn→List Operand→Option Nat
 |.func f,[]=>some f
 |_,_=>none
def PN(C:Ctx)(b:Builtin)(xs:List Operand)(ts:List TypeId)(st:St):Option AV :=
 match b with
 |.len=>match xs,ts with
  |[x],[t]=>if KM C.P t (ev C st x)=true then Oe (ev C st x) else none
  |_,_=>none
 |.max=>match xs with
  |[x,y]=>Yb (ev C st x) (ev C st y)
  |_=>none
 |.min=>match xs with
  |[x,y]=>bf (ev C st x) (ev C st y)
  |_=>none
 |_=>none
def W9(C:Ctx)(o:Oper)(st:St):Option AV :=
 match o.op with
 |.move x=>some (ev C st x)
 |.assign x=>some (ev C st x)
 |.pick c a b=>KW (ev C st c) (ev C st a) (ev C st b)
 |.load t a=>R6 C t (ev C st a) st.Al
 |.fieldAddr t x i=>match A1 C.P t i with
  |some off=>Md off (ev C st x)
  |none=>none
 |.indexAddr t x i=>Oa C t (ev C st x) (ev C st i)
 |.nilCheck x=>Ib (ev C st x)
 |.binOp op t x y _=>VG C.P op t (ev C st x) (ev C st y)
 |.unOp op _ x=>unA op (ev C st x)
 |.convert src dst x=>T6 C.P src dst (ev C st x)
 |.extract x i=>I1 i (ev C st x)
 |.field t x i=>Qf C.P t i (ev C st x)
 |.index t x i=>X6 C.P t (ev C st i) (ev C st x)
 |.build t ps=>NP C t (Hd C st ps.toList)
 |.slice t x lo hi mx=>if Tb (ev C st x)&&mx.isSome then (SZ C st t (ev C st x) lo hi mx).map (·.1) else (GK C st t (ev C st x) lo hi mx).map (·.1)
 |.makeFunc fn first AU=>(cb fn first.toList).map fun f=>.fn f (CL C st AU.toList)
 |.makeInterface t x=>if C.P.concrete t then some (.ifc t (ev C st x)) else none
 |.call c=>match c.callee with
  |.builtin b=>PN C b c.args.toList c.argTypes.toList st
  |_=>none
 |_=>none
section
variable {C:Ctx} {A:A0} {N:Nat} {g g':Gh} {st st':St} {a:Act} {w w':World} {P:Program}
theorem T7{src dst:TypeId}{x r:AV}{ux:Value}(hx:VR g w x ux)(h:T6 P src dst x=some r):∃ u,(convert src dst ux).run P w=.ok u w∧VR g w r u:=by
 unfold T6 at h;split at h
 ·simp only[VR]at hx;subst hx;split at h
  ·rename_i k1 k2 h1 h2;simp at h;subst h;refine⟨.int k2 (k2.wrap _),?_,by simp only[VR];rfl⟩;simp[convert,run_underlying (Lv h1),run_underlying (Lv h2),Conv.intToInt]
  ·cases h
 ·simp only[VR]at hx;subst hx;split at h
  ·rename_i hc;simp at h;subst h;exact⟨_,by simp[convert,run_underlying (C8 hc.1),run_underlying (C8 hc.2)];rfl,by simp[VR]⟩
  ·cases h
 ·simp only[VR]at hx;subst hx;split at h
  ·rename_i hc;simp at h;subst h;obtain⟨e,h1,h2,h3⟩:=EE hc.1;exact⟨.string .empty,by simp[convert,run_underlying h1,run_underlying h2,run_underlying (C8 hc.2),Conv.bytesToString],by simp[VR];rfl⟩
  ·cases h
 ·rename_i t n es;split at h
  ·rename_i hc;obtain⟨rfl,hc⟩:=hc;obtain⟨l,hl,rfl⟩:=Option.map_eq_some_iff.1 h;obtain⟨e,h1,h2,h3⟩:=EE hc.1;obtain⟨us,hs,hp,_⟩:=Gs (n:=1) (es:=es) (by omega) (by simp[elems]) hx;obtain⟨ns,rfl,rfl⟩:=JX hl hp;obtain⟨hlen,hsrc⟩:=hs;refine⟨.string ⟨(ns.map (fun n=>UInt8.ofNat n.toNat)).toArray⟩,?_,by simp only[VR]⟩;rcases hsrc with ⟨ad,c,rfl,hcell⟩|⟨h0,c,rfl⟩
   ·rw[run_convert_bytes_string w src dst e _ _ _ h1 h2 (C8 hc.2)];have hlc:(loadCells ad es.length).run P w=.ok (ns.map (Value.int .u8)).toArray w:=by
     have:=run_loadCells_list (P:=P) w ad (ns.map (Value.int .u8)) hcell
     rwa [hlen,Nat.mul_one]at this
    rw[run_bytesToString w ad es.length c ns hlc,foldl_push];simp[ByteArray.empty,ByteArray.emptyWithCapacity]
    try rfl
   ·have:ns=[]:=by
     have:ns.length=0:=by simpa [h0]using hlen
     exact List.eq_nil_of_length_eq_zero this
    subst this;simp[convert,run_underlying h1,run_underlying h2,run_underlying (C8 hc.2),Conv.bytesToString];rfl
  ·cases h
 ·cases h
def SF(C:Ctx)(o:Oper)(a:Act)(g:Gh)(w:World)(x:AV):Prop:=∃ u,Does C.P o a w u w∧VR g w x u
theorem SF.of{o:Oper}{x:AV}{s:Sem Value}(ho:execOp a.eval o=(do Pure.pure (Next.value (← s))))(h:∃ u,s.run C.P w=.ok u w∧VR g w x u):SF C o a g w x:=by
 obtain⟨u,h1,h2⟩:=h;exact⟨u,HB ho h1,h2⟩
theorem Wd{x y r:AV}{ux uy:Value}{ts:Array TypeId}{ty:TypeId}(hx:VR g w x ux)(hy:VR g w y uy)(h:Yb x y=some r):∃ u,(Builtin.max_ ts ty #[ux,uy]).run P w=.ok u w∧VR g w r u:=by
 unfold Yb at h;split at h
 ·simp only[VR]at hx hy;subst hx;subst hy;have h':=Option.some.inj h;subst h';exact⟨_,by simp[Builtin.max_,Builtin.max2];rfl,by simp only[VR]⟩
 ·cases h
theorem We{x y r:AV}{ux uy:Value}{ts:Array TypeId}{ty:TypeId}(hx:VR g w x ux)(hy:VR g w y uy)(h:bf x y=some r):∃ u,(Builtin.min_ ts ty #[ux,uy]).run P w=.ok u w∧VR g w r u:=by
 unfold bf at h;split at h
 ·simp only[VR]at hx hy;subst hx;subst hy;have h':=Option.some.inj h;subst h';exact⟨_,by simp[Builtin.min_,Builtin.min2];rfl,by simp only[VR]⟩
 ·cases h
theorem PO(hR:R C A N g st a w){o:Oper}{b:Builtin}{xs:Array Operand}{ts:Array TypeId}{consts:Array Bool}(he:execOp a.eval o=builtin b ts o.type consts (xs.map a.eval)){x:AV}
 (h:PN C b xs.toList ts.toList st=some x):SF C o a g w x:=by
 unfold PN at h;split at h
 ·split at h
  ·rename_i y t hy ht;split at h
   ·rename_i hok;refine .of he ?_;rw[TN hy,TN ht];simp only[List.map_toArray,List.map_cons,List.map_nil];exact Qu hok (hR.ev y) h
   ·cases h
  ·cases h
 ·split at h
  ·rename_i y z hy;refine .of he ?_;rw[NM hy];simp only[List.map_toArray,List.map_cons,List.map_nil];exact Wd (hR.ev y) (hR.ev z) h
  ·cases h
 ·split at h
  ·rename_i y z hy;refine .of he ?_;rw[NM hy];simp only[List.map_toArray,List.map_cons,List.map_nil];exact We (hR.ev y) (hR.ev z) h
  ·cases h
 ·cases h
theorem U3(hR:R C A N g st a w){o:Oper}{x:AV}(h:W9 C o st=some x):SF C o a g w x:=by
 obtain⟨dst,op,ty,after,x2,x3⟩:=o;cases op<;>simp only[W9]at h
 case move y=>simp at h;subst h;exact⟨_,.inl rfl,hR.ev y⟩
 case assign y=>simp at h;subst h;exact⟨_,.inl rfl,hR.ev y⟩
 case pick c y z =>
  obtain⟨u,k1,k2⟩:=QK (P:=C.P) (hR.ev c) (hR.ev y) (hR.ev z) h;exact⟨u,.inl k1,k2⟩
 case load t p =>
  unfold R6 at h;split at h
  ·rename_i agg n h1 h2;exact .of rfl (Ml hR h1 h2 (hR.ev p) h)
  ·cases h
 case fieldAddr t p i =>
  split at h
  ·rename_i off h1;exact .of rfl (OS h1 (hR.ev p) h)
  ·cases h
 case indexAddr t p i =>
  unfold Oa at h;split at h
  ·rename_i k ki hi;have hiv:=hR.ev i;rw[hi]at hiv;simp only[VR]at hiv;split at h
   ·rename_i e n he;exact .of rfl (by rw[hiv];exact M6 he (hR.ev p) h)
   ·split at h
    ·rename_i len n he;exact .of rfl (by rw[hiv];exact M5 he (hR.ev p) h)
    ·cases h
  ·cases h
 case nilCheck y =>
  have:=Sh (C:=C) (a:=a) (hR.ev y) h (o:=⟨dst,.nilCheck y,ty,after,x2,x3⟩) rfl rfl;exact⟨_,.inl this.1,this.2⟩
 case binOp op t y z _=>exact .of rfl (RA (hR.ev y) (hR.ev z) h)
 case unOp op t y=>exact .of rfl (Vp (hR.ev y) h)
 case convert s d y=>exact .of rfl (T7 (hR.ev y) h)
 case extract y i =>
  unfold I1 at h;split at h
  ·rename_i cs hc;have hy:=hR.ev y;rw[hc]at hy;simp only[VR]at hy;obtain⟨us,hu,hv⟩:=hy;obtain⟨u,h2,h3⟩:=VRs.get hv i _ h;refine .of (s:=Instr.extract (a.eval y) i) rfl ⟨u,?_,h3⟩;rw[hu];have:us[i]?=some u:=by simpa using h2
   simp[Instr.extract,this]
  ·cases h
 case field t y i=>exact .of rfl (MY (hR.ev y) h)
 case index t y i=>exact .of rfl (Qp (hR.ev i) (hR.ev y) h)
 case build t ps =>
  unfold NP at h;rw[← Je]at h;split at h
  ·rename_i zs hz ha;split at h
   ·rename_i hs;obtain⟨r,h1,rfl⟩:=Option.map_eq_some_iff.1 h;exact .of (Qb a rfl) (OH hz ha hs (by simp[parts]) (IQ hR ps) h1)
   ·cases h
  ·cases h
 case slice t y lo hi mx =>
  split at h
  ·obtain⟨p,h1,rfl⟩:=Option.map_eq_some_iff.1 h;obtain⟨z,st'⟩:=p;obtain⟨_,u,k1,k3⟩:=RG hR h1;exact .of rfl ⟨u,k1,k3⟩
  ·rename_i hc;obtain⟨p,h1,rfl⟩:=Option.map_eq_some_iff.1 h;obtain⟨z,st'⟩:=p;obtain⟨u,w',g',k1,k2,k3,k4⟩:=LY hR h1;have hp:(∀ r lo m es,ev C st y≠.sl (.own r lo) m es)∨mx=none:=by
    simp only[Bool.and_eq_true,not_and,Bool.not_eq_true]at hc;cases hm:mx with
    |none=>exact .inr rfl
    |some m =>
     left;intro r lo m' es he;have:=hc (by rw[he];rfl);rw[hm]at this;simp at this
   obtain⟨rfl,rfl⟩:=k4 hp;exact .of rfl ⟨u,k1,k3⟩
 case makeFunc fn first AU =>
  obtain⟨f,hf,rfl⟩:=Option.map_eq_some_iff.1 h;unfold cb at hf;split at hf
  ·rename_i f' hf';simp at hf;subst hf;refine .of (s:=Instr.makeFunc (.func f') (first.map a.eval) (AU.map a.eval)) rfl ⟨_,rfl,?_⟩;have hf0:first = #[]:=by
    cases first;simp_all
   subst hf0;simp only[VR];refine⟨_,by simp;rfl,?_⟩;have:=FG hR AU.toList;rw[Ll];simpa using this
  ·cases hf
 case makeInterface t y =>
  split at h
  ·rename_i hc;have h':=Option.some.inj h;subst h';refine .of rfl ⟨_,run_makeInterface w t _ hc,?_⟩;simp only[VR];exact⟨_,rfl,hR.ev y⟩
  ·cases h
 case call c =>
  split at h
  ·rename_i b hb;obtain⟨callee,args,argTypes⟩:=c;simp only at hb;subst hb;obtain⟨consts,he⟩:=Hu a (o:=⟨dst,.call { callee:=.builtin b,args,argTypes },ty,after,x2,x3⟩) rfl;exact PO hR he h
  ·cases h
 all_goals(cases h)
theorem Grow.refl(g:Gh)(w:World):Grow [] [] [] g w g w where
 toLasts:=Qs g w [] []
 os:=rfl
 tape:=⟨rfl,by first|exact Nat.le_refl _|exact Nat.le_succ _⟩
 output:=rfl
 size:=Nat.le_refl _
 other:=fun _ _ h=>⟨h,rfl⟩
 kept:=fun _ _ _ h _=>⟨h,rfl⟩
theorem fC{o:Oper}{x:AV}(h:W9 C o st=some x):OpG C o st x [] [] [] []:=by
 intro A N g a w hR K Q hk;obtain⟨u,h1,h2⟩:=U3 hR h;exact h1.wp (hk u g w (Grow.refl g w) h2 (fun s cs hs=>by cases hs))
theorem cA{o:Oper}{t d:Nat}{zs:List Value}(ho:o.op=.alloc t)(hd:o.dst=some d)(hz:zeroOf C.P t=some zs):OpG C o st (.ptr (nm d) 0) [] [nm d] [nm d] [(nm d,vals zs)]:=by
 intro A N g a w hR K Q hk;have hzz:∃ z,(zeroValue t).run C.P w=.ok z w∧zs=z.cells.toList:=by
  unfold zeroOf at hz;obtain⟨z,hz1,hz2⟩:=Option.map_eq_some_iff.1 hz;obtain⟨i,hi,hiz⟩:=Option.bind_eq_some_iff.1 hz1;exact⟨z,by simp[zeroValue,run_typeInfo hi,hiz],hz2.symm⟩
 obtain⟨z,hz1,rfl⟩:=hzz;obtain⟨dst,op,ty,after,x2,x3⟩:=o;simp only at ho hd;subst ho;subst hd;have hdoes:Does C.P ⟨some d,.alloc t,ty,after,x2,x3⟩ a w (.pointer (some ⟨w.heap.size,0,none⟩)) (w.alloc (.cells z.cells t)) :=
  HB (s:=Instr.alloc t true (.tuple #[])) rfl (by simp[Instr.alloc,hz1,Mp])
 have hl:=JL g w (.cells z.cells t) (nm d);refine hdoes.wp (hk _ (g.Co w.heap.size (nm d)) _ ?_ ?_ fun s cs hs=>?_)
 ·exact { toLasts:=hl,os:=rfl,tape:=⟨rfl,by first|exact Nat.le_refl _|exact Nat.le_succ _⟩,output:=rfl,size:=by simp,other:=fun b hb ho=>⟨by simp[Gh.Co,Nat.ne_of_lt hb,ho],alloc_old w _ b hb⟩,kept:=fun s _ _ ho hb=>⟨by simp[Gh.Co,Nat.ne_of_lt hb,ho],alloc_old w _ _ hb⟩ }
 ·simp[VR,Gh.Co,Ja]
 ·simp only[lk]at hs;split at hs
  ·rename_i he;injection hs with hs;subst hs;subst he
   refine⟨by simp[Gh.Co],.inl ⟨Ja d,z.cells,t,?_,GM _⟩⟩;have:(g.Co w.heap.size (nm d)).box (nm d)=w.heap.size:=by simp[Gh.Co]
   rw[this];exact heap_alloc_new w _
  ·cases hs
end
end Go.Abs
namespace Go.Abs
structure Res where
 x:AV
 S:List Nat
 T:List Nat
 FL:List (Nat × List AV)
def tmD(dst:Nat→Option Nat)(res:Nat→Res)(D:Nat→Bool)(base:List (Nat × AV)):Nat→List (Nat × AV)
 | 0=>base
 | j+1=>match D j,dst j with
  | true,some d=>(d,(res j).x)::tmD dst res D base j
  |_,_=>tmD dst res D base j
def obD(res:Nat→Res)(D:Nat→Bool)(base:List (Nat × List AV)):Nat→List (Nat × List AV)
 | 0=>base
 | j+1=>if D j then (res j).FL++obD res D base j else obD res D base j
def BA(ops:Array Oper)(i:Nat):List Nat:=match ops[i]? with
 |some o=>o.after.toList.filterMap fun e=>if Region.binds .any e then some e.on else none
 |none=>[]
def Dx(tab:List (List Nat × List Nat))(i:Nat):List Nat:=(tab.getD i ([],[])).1
def Hm(tab:List (List Nat × List Nat))(i:Nat):List Nat:=(tab.getD i ([],[])).2
def D1(ops:Array Oper)(i:Nat):Option Nat:=(ops[i]?).bind (·.dst)
def a7(d:Option Nat)(l:List Nat):Bool:=match d with
 |some t=>l.contains t
 |none=>false
def clash(ops:Array Oper)(tab:List (List Nat × List Nat))(i j:Nat):Bool :=
 (match D1 ops i,D1 ops j with
 |some d,some e=>d==e
 |_,_=>false)||a7 (D1 ops j) (Hm tab i)||a7 (D1 ops i) (Hm tab j)
def Sq(ops:Array Oper)(k:Nat)(tab:List (List Nat × List Nat)):Bool :=
 decide (k≤ops.size)&&(List.range ops.size).all (fun i=>(BA ops i).all (fun e=>decide (e<i)) &&
  (Dx tab i).all (fun p=>(BA ops i).any fun e=>p==e||(Dx tab e).contains p) &&
  (decide (i<k)||(List.range i).all fun j=>(Dx tab i).contains j)) &&
 (List.range k).all fun i=>(List.range i).all fun j=>(Dx tab i).contains j||!(clash ops tab i j)
structure IP(ops:Array Oper)(k:Nat)(tab:List (List Nat × List Nat)):Prop where
 le:k≤ops.size
 edge:∀ i,i<ops.size→∀ e∈BA ops i,e<i
 pred:∀ i,i<ops.size→∀ p∈Dx tab i,∃ e∈BA ops i,p=e∨p∈Dx tab e
 tail:∀ i,i<ops.size→k≤i→∀ j,j<i→j∈Dx tab i
 apart:∀ i j,i<k→j<i→j∈Dx tab i∨clash ops tab i j=false
theorem Sq.spec{ops:Array Oper}{k:Nat}{tab:List (List Nat × List Nat)}(h:Sq ops k tab=true):IP ops k tab:=by
 simp only[Sq,Bool.and_eq_true,decide_eq_true_eq,List.all_eq_true,List.mem_range,Bool.or_eq_true,List.any_eq_true,List.contains_iff_mem,beq_iff_eq,Bool.not_eq_true']at h;obtain⟨⟨h1,h2⟩,h3⟩:=h;exact⟨h1,fun i hi=>(h2 i hi).1.1,fun i hi=>(h2 i hi).1.2,fun i hi hk j hj=>((h2 i hi).2.resolve_left (by omega)) j hj,fun i j hi hj=>h3 i hi j hj⟩
def Closed(ops:Array Oper)(D:Nat→Bool):Prop:=∀ i,i<ops.size→D i=true→∀ e∈BA ops i,D e=true
section
variable {ops:Array Oper} {k:Nat} {tab:List (List Nat × List Nat)} {D:Nat→Bool}
theorem Closed.pred(hr:IP ops k tab)(hc:Closed ops D):∀ i,i<ops.size→D i=true→∀ p∈Dx tab i,D p=true:=by
 intro i
 induction i using Nat.strongRecOn with
 |_ i ih =>
  intro hi hd p hp;obtain⟨e,he,h|h⟩:=hr.pred i hi p hp
  ·subst h;exact hc i hi hd _ he
  ·have hlt:=hr.edge i hi e he;exact ih e hlt (by omega) (hc i hi hd e he) p h
theorem LQ(hr:IP ops k tab)(hc:Closed ops D){i:Nat}(hi:i<ops.size)(hd:∀ e∈BA ops i,D e=true):∀ p∈Dx tab i,D p=true:=by
 intro p hp;obtain⟨e,he,h|h⟩:=hr.pred i hi p hp
 ·subst h;exact hd _ he
 ·exact hc.pred hr e (by have:=hr.edge i hi e he;omega) (hd e he) p h
variable {dst:Nat→Option Nat} {res res':Nat→Res} {base:List (Nat × AV)} {obase:List (Nat × List AV)}
theorem Jn{D D':Nat→Bool}:∀ n,(∀ j,j<n→res j=res' j∧D j=D' j)→tmD dst res D base n=tmD dst res' D' base n
 | 0,_=>rfl
 | n+1,h=>by
  simp only[tmD,(h n (by omega)).1,(h n (by omega)).2];rw[Jn n fun j hj=>h j (by omega)]
theorem Jb{D D':Nat→Bool}:∀ n,(∀ j,j<n→res j=res' j∧D j=D' j)→obD res D obase n=obD res' D' obase n
 | 0,_=>rfl
 | n+1,h=>by
  simp only[obD,(h n (by omega)).1,(h n (by omega)).2];rw[Jb n fun j hj=>h j (by omega)]
theorem Qy{D D':Nat→Bool}{t:Nat}:∀ n,(∀ j,j<n→dst j=some t→D j=D' j)→lk t (tmD dst res D base n)=lk t (tmD dst res D' base n)
 | 0,_=>rfl
 | n+1,h=>by
  have ih:=Qy (D:=D) (D':=D') (t:=t) n fun j hj=>h j (by omega)
  cases hd:dst n with
  |none=>cases h1:D n<;>cases h2:D' n<;>simp only[tmD,hd,h1,h2]<;>exact ih
  |some d =>
   by_cases hdt:d=t
   ·have:=h n (by omega) (by rw[hd,hdt]);cases h1:D n<;>rw[h1]at this<;>simp only[tmD,hd,h1,← this]
    ·exact ih
    ·simp[lk,hdt]
   ·cases h1:D n<;>cases h2:D' n<;>simp only[tmD,hd,h1,h2,lk,hdt,if_false]<;>exact ih
theorem NF{i:Nat}:∀ n,i≤n→(∀ j,i≤j→j<n→D j=false)→tmD dst res D base n=tmD dst res D base i
 | 0,h,_=>by have:i=0:=by omega
             rw[this]
 | n+1,h,hd=>by
  by_cases hi:i=n+1
  ·rw[hi]
  ·have:=hd n (by omega) (by omega);simp only[tmD,this];exact NF n (by omega) fun j h1 h2=>hd j h1 (by omega)
def G7(i:Nat)(D:Nat→Bool)(j:Nat):Bool:=if j=i then true else D j
theorem J5{i t:Nat}(hdi:dst i=some t):∀ n,i<n→(∀ j,i<j→j<n→D j=true→dst j≠some t)→lk t (tmD dst res (G7 i D) base n)=some (res i).x
 | 0,h,_=>by omega
 | n+1,h,hno=>by
  by_cases hin:i=n
  ·subst hin;simp[tmD,G7,hdi,lk]
  ·have ih:=J5 hdi n (by omega) fun j h1 h2=>hno j h1 (by omega)
   have hn:G7 i D n=D n:=by simp[G7,Ne.symm hin]
   simp only[tmD,hn];cases h1:D n with
   | false=>simpa using ih
   | true =>
    have:=hno n (by omega) (by omega) h1;cases hd:dst n with
    |none=>simpa using ih
    |some d =>
     have hdt:d≠t:=fun e=>this (by rw[hd,e])
     simp only[lk,hdt,if_false];exact ih
theorem Qx{i s:Nat}(hi:D i=false):∀ n,i<n→(∀ c,lk s (res i).FL=some c→∀ j,j≠i→j<n→D j=true→lk s (res j).FL=none) →
 lk s (obD res (G7 i D) obase n)=(lk s (res i).FL).or (lk s (obD res D obase n))
 | 0,h,_=>by omega
 | n+1,h,hno=>by
  by_cases hin:i=n
  ·subst hin;have h1:obD res (G7 i D) obase i=obD res D obase i:=Jb i fun j hj=>⟨rfl,by simp[G7,Nat.ne_of_lt hj]⟩
   simp only[obD,G7,if_true,hi,Bool.false_eq_true,if_false,Gy];rw[← h1]
  ·have ih:=Qx (s:=s) hi n (by omega) fun c hc j h1 h2=>hno c hc j h1 (by omega)
   have hn:G7 i D n=D n:=by simp[G7,Ne.symm hin]
   simp only[obD,hn];cases h1:D n with
   | false=>simpa using ih
   | true =>
    simp only[if_true,Gy,ih];cases hs:lk s (res i).FL with
    |none=>simp
    |some c =>
     have:=hno c hs n (Ne.symm hin) (by omega) h1;simp[this]
def KB(S T:List Nat)(l:List (Nat × AV)):Prop:=LN S T l=l
def Ft(S T:List Nat)(l:List (Nat × List AV)):Prop:=Hk S T (GQ T l)=l
theorem RV{S T:List Nat}{p:Nat × AV}{l:List (Nat × AV)}:KB S T (p::l)↔p.2.kill S T=p.2∧KB S T l:=by
 obtain⟨k,x⟩:=p;simp only[KB,LN,List.cons.injEq,Prod.mk.injEq,true_and]
theorem R4(S T:List Nat):∀ l:List (Nat × List AV),(Hk S T (GQ T l)).length≤l.length
 |[]=>by simp[GQ,Hk]
 |(k,x)::l=>by
  have:=R4 S T l;simp only[GQ];split
  ·simp;omega
  ·rename_i hk;simp[Hk,hk];omega
theorem RU{S T:List Nat}{p:Nat × List AV}{l:List (Nat × List AV)}:Ft S T (p::l)↔p.1∉T∧Ej S T p.2=p.2∧Ft S T l:=by
 obtain⟨k,x⟩:=p;simp only[Ft,GQ]
 by_cases hk:k∈T
 ·simp only[hk,if_true,not_true_eq_false,false_and,iff_false];intro h;have:=R4 S T l;rw[h]at this;simp at this;omega
 ·simp[hk,Hk]
theorem OX{S T:List Nat}{l m:List (Nat × List AV)}:Ft S T (l++m)↔Ft S T l∧Ft S T m:=by
 induction l with
 | nil=>simp[Ft,GQ,Hk]
 | cons p l ih =>
  simp only[List.cons_append,RU,ih];constructor
  ·rintro⟨h1,h2,h3,h4⟩;exact⟨⟨h1,h2,h3⟩,h4⟩
  ·rintro⟨⟨h1,h2,h3⟩,h4⟩;exact⟨h1,h2,h3,h4⟩
theorem Mf{S T:List Nat}:∀ {l:List (Nat × List AV)},Ft S T l→∀ s∈T,lk s l=none
 |[],_,_,_=>rfl
 |(k,x)::l,h,s,hs=>by
  obtain⟨h1,_,h3⟩:=RU.1 h;have:k≠s:=fun e=>h1 (by rw[e];exact hs)
  simp only[lk,this,if_false];exact Mf h3 s hs
theorem Uk{S T:List Nat}:∀ n,KB S T base→(∀ j,j<n→D j=true→(res j).x.kill S T=(res j).x)→KB S T (tmD dst res D base n)
 | 0,h,_=>h
 | n+1,h,hj=>by
  have ih:=Uk n h fun j h1=>hj j (by omega)
  cases h1:D n with
  | false=>simpa [tmD,h1]using ih
  | true =>
   cases hd:dst n with
   |none=>simpa [tmD,h1,hd]using ih
   |some d=>simp only[tmD,h1,hd];exact RV.2 ⟨hj n (by omega) h1,ih⟩
theorem Uj{S T:List Nat}:∀ n,Ft S T obase→(∀ j,j<n→D j=true→Ft S T (res j).FL)→Ft S T (obD res D obase n)
 | 0,h,_=>h
 | n+1,h,hj=>by
  have ih:=Uj n h fun j h1=>hj j (by omega)
  cases h1:D n with
  | false=>simpa [obD,h1]using ih
  | true=>simp only[obD,h1,if_true];exact OX.2 ⟨hj n (by omega) h1,ih⟩
theorem KD{S T:List Nat}:∀ n,KB S T (tmD dst res (fun _=>true) base n)→KB S T base∧∀ j,j<n→(dst j).isSome=true→(res j).x.kill S T=(res j).x
 | 0,h=>⟨h,fun j hj=>by omega⟩
 | n+1,h=>by
  cases hd:dst n with
  |none =>
   simp only[tmD,hd]at h;obtain⟨h1,h2⟩:=KD n h;exact⟨h1,fun j hj hs=>if e:j=n then by subst e;simp[hd]at hs else h2 j (by omega) hs⟩
  |some d =>
   simp only[tmD,hd]at h;obtain⟨h0,h'⟩:=RV.1 h;obtain⟨h1,h2⟩:=KD n h';exact⟨h1,fun j hj hs=>if e:j=n then by subst e;exact h0 else h2 j (by omega) hs⟩
theorem Im{S T:List Nat}:∀ n,Ft S T (obD res (fun _=>true) obase n)→Ft S T obase∧∀ j,j<n→Ft S T (res j).FL
 | 0,h=>⟨h,fun j hj=>by omega⟩
 | n+1,h=>by
  simp only[obD,if_true]at h;obtain⟨h0,h'⟩:=OX.1 h;obtain⟨h1,h2⟩:=Im n h';exact⟨h1,fun j hj=>if e:j=n then by subst e;exact h0 else h2 j (by omega)⟩
end
end Go.Abs
