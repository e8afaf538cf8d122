/- part 7 of the proof -/
import Derived.Test.YthachdiockkofaaGreatDoorS06
set_option linter.all false
namespace Go.Abs
def Ik(d:Option Nat)(K:St→Prop):Option AV→St→Prop
 |some x,st=>K (st.put d x)
 |none,_=>False
theorem nd{α:Sort _}{a b:α}(h:a=b):a=b:=h
@[go_sem] theorem dr(d:Option Nat)(K:St→Prop)(x:AV)(st:St):Ik d K (some x) st=K (st.put d x):=nd rfl
@[go_sem] theorem dq(d:Option Nat)(K:St→Prop)(x:AV)(st:St):D8 d K (some (x,st))=K (st.put d x):=nd rfl
theorem C7(d:Option Nat)(K:St→Prop)(o:Option AV)(st:St):D8 d K (o.map (·,st))=Ik d K o st:=by cases o<;>rfl
@[go_sem] theorem fD(k:Nat)(x:AV)(t:List (Nat × AV))(o:List (Nat × List AV)):St.put (some k) x ⟨t,o⟩=⟨(k,x)::t,o⟩:=rfl
@[go_sem] theorem ZL(x:AV)(st:St):St.put none x st=st:=rfl
@[go_sem] theorem gb{α:Type}(k j:Nat)(x:α)(l:List (Nat × α)):lk k ((j,x)::l)=if j=k then some x else lk k l:=rfl
@[go_sem] theorem gd{α:Type}(k:Nat):lk k ([]:List (Nat × α))=none:=rfl
@[go_sem] theorem gH(C:Ctx)(k:Nat)(t:List (Nat × AV))(o:List (Nat × List AV)):ev C ⟨t,o⟩ (.tmp k)=(lk k t).getD .undef:=rfl
@[go_sem] theorem eI(C:Ctx)(st:St)(v:Value):ev C st (.const v)=.v v:=rfl
@[go_sem] theorem fX(C:Ctx)(st:St)(f:Nat):ev C st (.func f)=.fn f []:=rfl
@[go_sem] theorem dH(C:Ctx)(st:St)(i:Nat):ev C st (.global i)=(match C.G i with
  |some cs=>.ep .no 0 cs 0
  |none=>.undef):=rfl
section
variable (X:Env) (Q:Ex→St→Prop) (K:St→Prop) (st:St)
@[go_sem] theorem fS:wpA X .skip Q=Q .normal:=nd rfl
@[go_sem] theorem dz(id:Nat)(ops:Array Oper):wpA X (.region id ops false) Q=AW X ops ops.toList (Q .normal):=nd rfl
@[go_sem] theorem fP(id:Nat)(ops:Array Oper):wpA X (.region id ops true) Q=Kx X ops (Q .normal):=nd rfl
@[go_sem] theorem gz(x y:Code):wpA X (.seq x y) Q=wpA X x (QO (wpA X y Q) Q):=nd rfl
@[go_sem] theorem fO(c:Operand)(x y:Code):wpA X (.cond c x y) Q st=OB (ev X.C st c) (wpA X x Q) (wpA X y Q) st:=nd rfl
@[go_sem] theorem ec(id:Nat)(c:Code):wpA X (.block id c) Q=wpA X c (Nx id Q):=nd rfl
@[go_sem] theorem fR(c:Code):wpA X (.loop c) Q=Zs X (wpA X c) Q:=nd rfl
@[go_sem] theorem fQ(id:Nat):wpA X (.exit id) Q=Q (.exit id):=nd rfl
@[go_sem] theorem gy:wpA X .ret Q=Q .ret:=nd rfl
@[go_sem] theorem eh(c:Code):wpA X (.scope c) Q=wpA X c Q:=nd rfl
@[go_sem] theorem ef(l:Nat):wpA X (.label l) Q=Q .normal:=nd rfl
@[go_sem] theorem bG:QO K Q .normal=K:=nd rfl
@[go_sem] theorem du(i:Nat):QO K Q (.exit i)=Q (.exit i):=nd rfl
@[go_sem] theorem eb:QO K Q .ret=Q .ret:=nd rfl
@[go_sem] theorem ae(id:Nat):Nx id Q .normal=Q .normal:=nd rfl
@[go_sem] theorem bN(id i:Nat):Nx id Q (.exit i)=if i=id then Q .normal else Q (.exit i):=nd rfl
@[go_sem] theorem ct(id:Nat):Nx id Q .ret=Q .ret:=nd rfl
@[go_sem] theorem fV(b:Bool)(K1 K2:St→Prop):OB (.v (.bool b)) K1 K2 st=((b=true→K1 st)∧(b=false→K2 st)):=nd rfl
@[go_sem high] theorem cB(K1 K2:St→Prop):OB (.v (.bool true)) K1 K2 st=K1 st:=by simp[OB]
@[go_sem high] theorem bS(K1 K2:St→Prop):OB (.v (.bool false)) K1 K2 st=K2 st:=by simp[OB]
@[go_sem] theorem fx(all:Array Oper):AW X all [] K=K:=nd rfl
@[go_sem] theorem fY(C:Ctx):evs C st []=[]:=rfl
@[go_sem] theorem eL(C:Ctx)(x:Operand)(xs:List Operand):evs C st (x::xs)=ev C st x::evs C st xs:=rfl
@[go_sem] theorem ew(d:Option Nat)(f:Nat)(first xs:List AV):TQ X d (.mv f first) xs K st=AG X d f (first++xs) K st:=nd rfl
@[go_sem] theorem eu(d:Option Nat)(f:Nat)(caps xs:List AV):TQ X d (.fn f caps) xs K st=AG X d f (xs++caps) K st:=nd rfl
variable (all:Array Oper) (rest:List Oper) (d:Option Nat) (ty:TypeId) (pos:String) (aft:Array Edge)
@[go_sem] theorem fq(op:Op)(j:Nat)(b:Bool):AW X all (⟨d,op,ty,pos,aft,some (j,b)⟩::rest) K st =
 (match guardOf all j st with
 |some (.v (.bool b'))=>Ff b' b (AW X all (⟨d,op,ty,pos,aft,none⟩::rest) K (st.learn (gdst all j) b)) (AW X all rest K ((st.learn (gdst all j) (!b)).put d (.tup [])))
 |some (.tup [])=>AW X all rest K (st.put d (.tup []))
 |_=>False):=nd rfl
@[go_sem ↓] theorem fJ(p q:Prop):Ff true true p q=p:=by simp[Ff]
@[go_sem ↓] theorem fK(p q:Prop):Ff false true p q=q:=by simp[Ff]
@[go_sem ↓] theorem fL(p q:Prop):Ff true false p q=q:=by simp[Ff]
@[go_sem ↓] theorem fM(p q:Prop):Ff false false p q=p:=by simp[Ff]
@[go_sem] theorem eT(j:Nat):gdst all j=(all[j]?).bind (·.dst):=rfl
@[go_sem] theorem cW(k:Nat)(b:Bool)(t:List (Nat × AV))(o:List (Nat × List AV)):St.learn (some k) b ⟨t,o⟩=⟨Yq k (.v (.bool b)) t,o⟩:=rfl
def lkO(d:Option Nat)(l:List (Nat × AV)):Option AV:=match d with
 |some k=>lk k l
 |none=>none
@[go_sem] theorem fc(k:Nat)(l:List (Nat × AV)):lkO (some k) l=lk k l:=rfl
@[go_sem] theorem b8(j:Nat):guardOf all j st=lkO ((all[j]?).bind (·.dst)) st.tmps:=by
 unfold guardOf lkO;cases (all[j]?).bind (·.dst)<;>rfl
@[go_sem] theorem dZ(b':Bool)(p q:Prop):Ff b' true p q=((b'=true→p)∧(b'=false→q)):=by cases b'<;>simp[Ff]
@[go_sem] theorem dY(b':Bool)(p q:Prop):Ff b' false p q=((b'=false→p)∧(b'=true→q)):=by cases b'<;>simp[Ff]
@[go_sem] theorem gq(x:Operand):AW X all (⟨d,.move x,ty,pos,aft,none⟩::rest) K st=AW X all rest K (st.put d (ev X.C st x)):=nd rfl
@[go_sem] theorem dV(x:Operand):AW X all (⟨d,.assign x,ty,pos,aft,none⟩::rest) K st=AW X all rest K (st.put d (ev X.C st x)):=nd rfl
@[go_sem] theorem cX(P:Program)(t:TypeId)(objs:List (Nat × List AV))(s:Nat)(k:AV):S6 P t objs (.mp s) k=(lk s objs).bind fun cs=>Pn P t cs k:=rfl
@[go_sem] theorem cV(P:Program)(t:TypeId)(objs:List (Nat × List AV))(s:Nat)(k v:AV):SY P t objs (.mp s) k v=(lk s objs).bind fun cs=>(Pl P t cs k v).map fun cs'=>upd s cs' objs:=rfl
@[go_sem] theorem gr(c a b:Operand):AW X all (⟨d,.pick c a b,ty,pos,aft,none⟩::rest) K st=Ik d (AW X all rest K) (KY (ev X.C st c) (ev X.C st a) (ev X.C st b)) st:=C7 _ _ _ _
@[go_sem] theorem fj(t:TypeId)(k:Nat):AW X all (⟨some k,.alloc t,ty,pos,aft,none⟩::rest) K st=D8 (some k) (AW X all rest K) (match zeroOf X.C.P t with
  |some zs=>some (.ptr (nm k) 0,⟨(st.kill [] [nm k]).tmps,(nm k,vals zs)::(st.kill [] [nm k]).objs⟩)
  |none=>none):=by
 simp only[AW,H9,doA,Hc];cases zeroOf X.C.P t<;>rfl
@[go_sem] theorem gM(t:TypeId)(x:Operand)(k:Nat):AW X all (⟨some k,.box t x,ty,pos,aft,none⟩::rest) K st=D8 (some k) (AW X all rest K) (if BR (ev X.C st x).cells=true then some (.ptr (nm k) 0,⟨(st.kill [] [nm k]).tmps,(nm k,EP [] [nm k] (ev X.C st x).cells)::(st.kill [] [nm k]).objs⟩) else none):=nd rfl
def RV(C:Ctx)(t:TypeId)(p:AV)(objs:List (Nat × List AV)):Option AV:=match AR C.P t,BB C.P t with
 |some agg,some n=>OS agg n objs p
 |_,_=>none
@[go_sem] theorem dS(C:Ctx)(t:TypeId)(p:AV)(objs:List (Nat × List AV)):RV C t p objs=(match AR C.P t,BB C.P t with
 |some agg,some n=>OS agg n objs p
 |_,_=>none):=rfl
@[go_sem] theorem gp(t:TypeId)(x:Operand):AW X all (⟨d,.load t x,ty,pos,aft,none⟩::rest) K st=Ik d (AW X all rest K) (RV X.C t (ev X.C st x) st.objs) st:=by
 simp only[AW,H9,doA,Hc,RV];rw[← C7];congr 1;cases AR X.C.P t<;>cases BB X.C.P t<;>rfl
def YG(o:Option St)(K:St→Prop):Prop:=match o with
 |some st=>K st
 |none=>False
@[go_sem] theorem cq(st:St)(K:St→Prop):YG (some st) K=K st:=nd rfl
@[go_sem] theorem fw(t:TypeId)(p x:Operand):AW X all (⟨none,.store t p x,ty,pos,aft,none⟩::rest) K st=(match BB X.C.P t with
  |some n=>YG (Oi n st (ev X.C st p) (ev X.C st x)) (AW X all rest K)
  |none=>False):=by
 simp only[AW,H9,doA,Hc];cases BB X.C.P t with
 |none=>rfl
 |some n=>cases h:Oi n st (ev X.C st p) (ev X.C st x)<;>simp[h,D8,YG,ZL]
@[go_sem] theorem ft(t:TypeId)(x i:Operand):AW X all (⟨d,.index t x i,ty,pos,aft,none⟩::rest) K st=Ik d (AW X all rest K) (XY X.C.P t (ev X.C st i) (ev X.C st x)) st:=C7 _ _ _ _
@[go_sem] theorem bj(t:TypeId)(x:Operand)(i:Nat):AW X all (⟨d,.fieldAddr t x i,ty,pos,aft,none⟩::rest) K st=Ik d (AW X all rest K) (match AS X.C.P t i with
  |some off=>L9 off (ev X.C st x)
  |none=>none) st:=by
 simp only[AW,H9,doA,Hc];cases AS X.C.P t i with
 |none=>rfl
 |some off=>exact C7 _ _ _ _
def NY(C:Ctx)(t:TypeId)(x i:AV):Option AV:=match i with
 |.v (.int _ k)=>match An C.P t with
   |some (_,n)=>NX n k x
   |none=>match C3 C.P t with
    |some (len,n)=>NW len n k x
    |none=>none
 |_=>none
@[go_sem] theorem cU(C:Ctx)(t:TypeId)(x:AV)(kd:IntKind)(k:Int):NY C t x (.v (.int kd k))=(match An C.P t with
  |some (_,n)=>NX n k x
  |none=>match C3 C.P t with
   |some (len,n)=>NW len n k x
   |none=>none):=rfl
@[go_sem] theorem bk(t:TypeId)(x i:Operand):AW X all (⟨d,.indexAddr t x i,ty,pos,aft,none⟩::rest) K st=Ik d (AW X all rest K) (NY X.C t (ev X.C st x) (ev X.C st i)) st:=by
 simp only[AW,H9,doA,Hc,NY];rw[← C7];congr 1;generalize ev X.C st i=v;cases v<;>try rfl
 rename_i u;cases u<;>try rfl
 simp only;cases An X.C.P t<;>cases C3 X.C.P t<;>rfl
@[go_sem] theorem cc(x:Operand):AW X all (⟨d,.nilCheck x,ty,pos,aft,none⟩::rest) K st=Ik d (AW X all rest K) (Q7 (ev X.C st x)) st:=C7 _ _ _ _
@[go_sem] theorem fk(op:BinOp)(t t2:TypeId)(x y:Operand):AW X all (⟨d,.binOp op t x y t2,ty,pos,aft,none⟩::rest) K st=Ik d (AW X all rest K) (Vz X.C.P op t (ev X.C st x) (ev X.C st y)) st:=C7 _ _ _ _
@[go_sem] theorem gu(op:UnOp)(t:TypeId)(x:Operand):AW X all (⟨d,.unOp op t x,ty,pos,aft,none⟩::rest) K st=Ik d (AW X all rest K) (unA op (ev X.C st x)) st:=C7 _ _ _ _
def I5(i:Nat):AV→Option AV
 |.tup cs=>cs[i]?
 |_=>none
@[go_sem] theorem aN(i:Nat)(cs:List AV):I5 i (.tup cs)=cs[i]?:=rfl
@[go_sem] theorem da(x:Operand)(i:Nat):AW X all (⟨d,.extract x i,ty,pos,aft,none⟩::rest) K st=Ik d (AW X all rest K) (I5 i (ev X.C st x)) st:=by
 simp only[AW,H9,doA,Hc,I5];rw[← C7];congr 1;generalize ev X.C st x=v;cases v<;>rfl
def Nz(C:Ctx)(t:TypeId)(ps:List (Nat × AV)):Option AV:=match zeroOf C.P t,AR C.P t with
  |some zs,some true=>if sized C.P t=true then (KA (placeOf C.P t) (vals zs) ps).map .agg else none
  |_,_=>none
@[go_sem] theorem cw(C:Ctx)(t:TypeId)(ps:List (Nat × AV)):Nz C t ps=(match zeroOf C.P t,AR C.P t with
  |some zs,some true=>if sized C.P t=true then (KA (placeOf C.P t) (vals zs) ps).map .agg else none
  |_,_=>none):=rfl
def Hp(C:Ctx)(st:St):List (Nat × Operand)→List (Nat × AV)
 |[]=>[]
 |(i,x)::ps=>(i,ev C st x)::Hp C st ps
@[go_sem] theorem db(C:Ctx):Hp C st []=[]:=rfl
@[go_sem] theorem cg(C:Ctx)(i:Nat)(x:Operand)(ps:List (Nat × Operand)):Hp C st ((i,x)::ps)=(i,ev C st x)::Hp C st ps:=rfl
theorem Jg(C:Ctx)(ps:Array (Nat × Operand)):parts C st ps=Hp C st ps.toList:=by
 unfold parts
 induction ps.toList with
 | nil=>rfl
 | cons p l ih=>obtain⟨i,x⟩:=p;simp only[List.map_cons,Hp,ih]
@[go_sem] theorem fo(t:TypeId)(ps:Array (Nat × Operand)):AW X all (⟨d,.build t ps,ty,pos,aft,none⟩::rest) K st=Ik d (AW X all rest K) (Nz X.C t (Hp X.C st ps.toList)) st:=by
 simp only[AW,H9,doA,Hc,Nz,Jg];rw[← C7];congr 1;cases zeroOf X.C.P t with
 |none=>rfl
 |some zs=>cases AR X.C.P t with
  |none=>rfl
  |some b=>cases b with
   | false=>rfl
   | true =>
    simp only;split
    ·simp[Option.map_map,Function.comp_def]
    ·rfl
@[go_sem] theorem ah(t:TypeId)(len k:Nat)(ps:Array (Nat × Operand)):AW X all (⟨some k,.buildSlice t len ps,ty,pos,aft,none⟩::rest) K st=(if k∈X.deep then D8 (some k) (AW X all rest K) (match A2 X.C.P t with
  |some (e,1,_)=>match zeroOf X.C.P e with
   |some _=>Zp (nm k) st len (Hp X.C st ps.toList)
   |none=>none
  |_=>none) else D8 (some k) (AW X all rest K) (match A2 X.C.P t with
  |some (e,n,_)=>match zeroOf X.C.P e with
   |some zs=>Zo (nm k) n len zs st (Hp X.C st ps.toList)
   |none=>none
  |none=>none)):=by
 simp only[AW,H9,doA,Mf]
 by_cases hk:k∈X.deep<;>simp only[hk,if_true,if_false]
 ·simp only[Ph,Jg];cases A2 X.C.P t with
  |none=>rfl
  |some p =>
   obtain⟨e,n,b⟩:=p;rcases n with _|_|n<;>rfl
 ·simp only[Hc,Jg];cases A2 X.C.P t with
  |none=>rfl
  |some p=>rfl
def Zt(C:Ctx)(k:Nat)(t:TypeId)(l c:AV)(st:St):Option (AV × St):=match some k,A2 C.P t,l,c with
  |some d,some (e,n,_),.v (.int _ l),.v (.int _ c)=>match zeroOf C.P e with
   |some zs=>RW (nm d) n zs st l c
   |none=>none
  |_,_,_,_=>none
@[go_sem] theorem dT(C:Ctx)(k:Nat)(t:TypeId)(kl kc:IntKind)(l c:Int):Zt C k t (.v (.int kl l)) (.v (.int kc c)) st=(match A2 C.P t with
  |some (e,n,_)=>match zeroOf C.P e with
   |some zs=>RW (nm k) n zs st l c
   |none=>none
  |none=>none):=by
 unfold Zt;cases A2 C.P t<;>rfl
@[go_sem] theorem bp(t:TypeId)(k:Nat)(l c:Operand):AW X all (⟨some k,.makeSlice t l c,ty,pos,aft,none⟩::rest) K st=D8 (some k) (AW X all rest K) (Zt X.C k t (ev X.C st l) (ev X.C st c) st):=nd rfl
def VB:Option AV→Option (Option Nat)
 |none=>some none
 |some x=>(LN x).map some
@[go_sem] theorem bP:VB none=some none:=rfl
@[go_sem] theorem bQ(x:AV):VB (some x)=(LN x).map some:=rfl
@[go_sem] theorem b9(C:Ctx)(o:Option Operand):BM C st o=VB (o.map (ev C st)):=by cases o<;>rfl
@[go_sem] theorem fu(t:TypeId)(x:Operand)(lo hi mx:Option Operand)(k:Nat):AW X all (⟨some k,.slice t x lo hi mx,ty,pos,aft,none⟩::rest) K st=(if k∈X.deep then D8 (some k) (AW X all rest K) (SN X.C st t (ev X.C st x) lo hi mx) else D8 (some k) (AW X all rest K) (GQ X.C st t (ev X.C st x) lo hi mx)):=nd rfl
@[go_sem] theorem fW(C:Ctx)(t:TypeId)(r b k:Nat)(es:List (List AV))(hi mx:Operand):SN C st t (.sl (.own r b) k es) none (some hi) (some mx)=(match LN (ev C st hi),LN (ev C st mx),An C.P t with
  |some h,some m,some (_,n)=>if m=h∧k=n∧h≤es.length then some (.sl (.own r b) n (es.take h),st) else none
  |_,_,_=>none):=by
 simp only[SN,BM];cases LN (ev C st hi) with
 |none=>rfl
 |some h=>cases LN (ev C st mx) with
  |none=>rfl
  |some m=>cases An C.P t with
   |none=>rfl
   |some p=>rfl
@[go_sem] theorem dm(C:Ctx)(t:TypeId)(tg:Tag)(n:Nat)(es:List (List AV))(lo hi mx:Option Operand):GQ C st t (.sl tg n es) lo hi mx=(match BM C st lo,BM C st hi,BM C st mx,An C.P t with
  |some l,some (some h),some none,some (_,m)=>if n=m then Ij m false (l.getD 0) h st (.sl tg n es) else none
  |some l,some none,some none,some (_,m)=>if n=m then Ij m false (l.getD 0) es.length st (.sl tg n es) else none
  |some l,some (some h),some (some x),some (_,m)=>if n=m∧x=h then Ij m true (l.getD 0) h st (.sl tg n es) else none
  |_,_,_,_=>none):=by
 unfold GQ;cases BM C st lo with
 |none=>rfl
 |some l=>cases BM C st hi with
  |none=>rfl
  |some h=>cases BM C st mx with
   |none=>cases h<;>rfl
   |some m=>cases An C.P t with
    |none=>cases h<;>cases m<;>rfl
    |some p =>
     obtain⟨e,k⟩:=p;simp only[elems]
     by_cases hn:n=k
     ·cases h<;>cases m<;>simp[hn]
     ·cases h<;>cases m<;>simp[hn]
@[go_sem] theorem ck(C:Ctx)(t:TypeId)(lo hi mx:Option Operand):GQ C st t (.v (.slice none 0 0)) lo hi mx=(match BM C st lo,BM C st hi,BM C st mx,An C.P t with
  |some l,some h,some none,some (_,m)=>Ij m false (l.getD 0) (h.getD 0) st (.v (.slice none 0 0))
  |some l,some (some h),some (some x),some (_,m)=>if x=h then Ij m true (l.getD 0) h st (.v (.slice none 0 0)) else none
  |_,_,_,_=>none):=by
 unfold GQ;cases BM C st lo with
 |none=>rfl
 |some l=>cases BM C st hi with
  |none=>rfl
  |some h=>cases BM C st mx with
   |none=>cases h<;>rfl
   |some m=>cases An C.P t with
    |none=>cases h<;>cases m<;>rfl
    |some p=>cases h<;>cases m<;>rfl
@[go_sem] theorem bn(f:Nat)(x:Operand):AW X all (⟨d,.makeFunc (.func f) #[x] #[],ty,pos,aft,none⟩::rest) K st=AW X all rest K (st.put d (.mv f [ev X.C st x])):=nd rfl
@[go_sem] theorem cb(f:Nat)(caps:Array Operand):AW X all (⟨d,.makeFunc (.func f) #[] caps,ty,pos,aft,none⟩::rest) K st=AW X all rest K (st.put d (.fn f (evs X.C st caps.toList))):=by
 rw[Lk];rfl
@[go_sem] theorem gk(f:Operand)(args:Array Operand)(ts:Array TypeId):AW X all (⟨d,.call ⟨.value f,args,ts⟩,ty,pos,aft,none⟩::rest) K st=TQ X d (ev X.C st f) (evs X.C st args.toList) (AW X all rest K) st:=nd rfl
@[go_sem] theorem gP(x:Operand)(t:TypeId):AW X all (⟨d,.call ⟨.builtin .len,#[x],#[t]⟩,ty,pos,aft,none⟩::rest) K st=(if KM X.C.P t (ev X.C st x)=true then Ik d (AW X all rest K) (N2 (ev X.C st x)) st else False):=by
 simp only[AW,H9,doA,Hc,IZ];split
 ·exact C7 _ _ _ _
 ·rfl
@[go_sem] theorem dU(x y:Operand)(t t2:TypeId)(k:Nat):AW X all (⟨some k,.call ⟨.builtin .append,#[x,y],#[t,t2]⟩,ty,pos,aft,none⟩::rest) K st=(if k∈X.deep then D8 (some k) (AW X all rest K) (match A2 X.C.P t with
  |some (_,1,_)=>if Av X.C.P t2=true then Mz (nm k) st (ev X.C st x) (ev X.C st y) else none
  |_=>none) else (match A2 X.C.P t with
  |some (e,n,_)=>if Av X.C.P t2=true then D8 (some k) (AW X all rest K) (My (nm k) n st (ev X.C st x) (ev X.C st y)) else D8 (some k) (AW X all rest K) (match zeroOf X.C.P e with
   |some zs=>Kp X.C.P (nm k) n t2 zs st (ev X.C st x) (ev X.C st y)
   |none=>none)
  |none=>False)):=by
 simp only[AW,H9,doA,Mf]
 by_cases hk:k∈X.deep<;>simp only[hk,if_true,if_false]
 ·simp only[Pg];cases A2 X.C.P t with
  |none=>rfl
  |some p =>
   obtain⟨e,n,b⟩:=p;rcases n with _|_|n<;>rfl
 ·simp only[Hc,IZ];cases A2 X.C.P t with
  |none=>rfl
  |some p =>
   obtain⟨e,n,b⟩:=p;simp only;split<;>rfl
@[go_sem] theorem gl(x y:Operand)(t t2:TypeId):AW X all (⟨d,.call ⟨.builtin .copy,#[x,y],#[t,t2]⟩,ty,pos,aft,none⟩::rest) K st=D8 d (AW X all rest K) (TX X.C.P t st (ev X.C st x) (ev X.C st y)):=nd rfl
@[go_sem] theorem fp(x:Operand)(t:TypeId):AW X all (⟨d,.call ⟨.builtin .clear,#[x],#[t]⟩,ty,pos,aft,none⟩::rest) K st=D8 d (AW X all rest K) (PJ X.C.P t st (ev X.C st x)):=nd rfl
@[go_sem] theorem gN(x:Operand)(t:TypeId):AW X all (⟨d,.call ⟨.builtin .cap,#[x],#[t]⟩,ty,pos,aft,none⟩::rest) K st=Ik d (AW X all rest K) (YJ X.C.P t (ev X.C st x)) st:=C7 _ _ _ _
def X5:AV→AV→Option AV
 |.v (.int k a),.v (.int _ b)=>some (.v (.int k (if b > a then b else a)))
 |_,_=>none
def a7:AV→AV→Option AV
 |.v (.int k a),.v (.int _ b)=>some (.v (.int k (if b<a then b else a)))
 |_,_=>none
@[go_sem] theorem fe(k k':IntKind)(a b:Int):X5 (.v (.int k a)) (.v (.int k' b))=some (.v (.int k (if b > a then b else a))):=rfl
@[go_sem] theorem ff(k k':IntKind)(a b:Int):a7 (.v (.int k a)) (.v (.int k' b))=some (.v (.int k (if b<a then b else a))):=rfl
@[go_sem] theorem gQ(x y:Operand)(ts:Array TypeId):AW X all (⟨d,.call ⟨.builtin .max,#[x,y],ts⟩,ty,pos,aft,none⟩::rest) K st=Ik d (AW X all rest K) (X5 (ev X.C st x) (ev X.C st y)) st:=by
 simp only[AW,H9,doA,Hc,IZ,X5];rw[← C7];congr 1;generalize ev X.C st x=v;generalize ev X.C st y=v';cases v with
 | v u=>cases v' with
  | v u'=>cases u<;>cases u'<;>rfl
  |_=>cases u<;>rfl
 |_=>rfl
end
-- values
@[go_sem] theorem fb(P:Program)(t:TypeId)(tg:Tag)(n:Nat)(es:List (List AV)):KM P t (.sl tg n es)=Av P t:=rfl
@[go_sem] theorem dQ(P:Program)(t:TypeId):KM P t (.v (.slice none 0 0))=Av P t:=rfl
@[go_sem] theorem dR(P:Program)(t:TypeId)(s:ByteArray):KM P t (.v (.string s))=J5 P t:=rfl
@[go_sem] theorem ga(tg:Tag)(n:Nat)(es:List (List AV)):N2 (.sl tg n es)=some (.v (.int .i64 es.length)):=rfl
@[go_sem] theorem eX(xs:List AV):N2 (.mem true xs)=some (.v (.int .i64 xs.length)):=rfl
@[go_sem] theorem dP(P:Program)(t:TypeId)(b:Bool)(xs:List AV):KM P t (.mem b xs)=Av P t:=rfl
@[go_sem] theorem eY:N2 (.v (.slice none 0 0))=some (.v (.int .i64 0)):=rfl
@[go_sem] theorem eZ(s:ByteArray):N2 (.v (.string s))=some (.v (.int .i64 s.size)):=rfl
@[go_sem] theorem eV(r i j off m:Nat)(bss:List (List (List AV))):N2 (.hnd .dsl r i j off m bss)=some (.v (.int .i64 bss.length)):=rfl
@[go_sem] theorem eW(r i j off m:Nat)(b:List (List AV)):N2 (.hnd .isl r i j off m [b])=some (.v (.int .i64 b.length)):=rfl
@[go_sem] theorem dO(P:Program)(t:TypeId)(k:HK)(r i j off m:Nat)(b:List (List (List AV))):KM P t (.hnd k r i j off m b)=Av P t:=rfl
@[go_sem] theorem gv(p x y:Bool):KY (.v (.bool p)) (.v (.bool x)) (.v (.bool y))=some (.v (.bool (bif p then x else y))):=rfl
@[go_sem high] theorem fB(x y:AV):KY (.v (.bool true)) x y=some x:=by unfold KY;split<;>simp_all
@[go_sem high] theorem fA(x y:AV):KY (.v (.bool false)) x y=some y:=by unfold KY;split<;>simp_all
@[go_sem] theorem fh(s o:Nat):Q7 (.ptr s o)=some (.ptr s o):=rfl
@[go_sem] theorem gh(t:Tag)(i:Nat)(cs:List AV)(o:Nat):Q7 (.ep t i cs o)=some (.ep t i cs o):=rfl
@[go_sem] theorem gi(f:Nat)(cs:List AV):Q7 (.fn f cs)=some (.fn f cs):=rfl
attribute [go_sem] cond_true cond_false bne_self_eq_false Yq mkA OS L9 NX NW elems Oi Zo RW LN My Ij KA P0 XY AV.cells H8 BR upd cut Gp K0 rowsOf vals chunk AV.kill EP LM Hr St.kill AV.freeze Cf nm unA Vz S0 K9 Tr A9 Ei AV.setRow Gg St.setRow AV.Aw Eg Nk Nj St.Aw TX PJ YJ Kp Option.isNone_none Option.isNone_some AV.Bc Gf St.Bc Hset Oa Zp Mz frozen St.freeze WI List.map_cons List.map_nil List.length_cons List.length_nil List.drop_zero List.drop_succ_cons List.take_succ_cons List.take_zero List.drop_nil List.take_nil List.cons_append List.nil_append List.append_nil List.getElem?_toArray List.getElem?_cons_zero List.getElem?_cons_succ List.flatten_cons List.flatten_nil List.replicate_zero List.replicate_succ Option.map_some Option.map_none Option.getD_some Option.getD_none Option.bind_some Option.bind_none if_true if_false Nat.reduceEqDiff Nat.reduceAdd Nat.reduceMul Nat.reduceLeDiff Nat.reduceSub Nat.reduceLT Nat.zero_add Nat.add_zero and_true true_and and_self List.mem_cons List.mem_nil_iff List.not_mem_nil or_false false_or or_self not_false_eq_true not_true_eq_false Bool.false_eq_true Bool.true_eq_false Bool.not_true Bool.not_false Bool.and_true Bool.true_and Bool.false_and Bool.and_false beq_self_eq_true decide_true decide_false reduceCtorEq forall_const implies_true false_implies
@[go_sem] theorem bR(n:Nat):(0≤(n:Int))=True:=by simp
attribute [go_sem] Int.cast_ofNat_Int Int.reduceBNe Int.reduceBEq Bool.not_not Int.toNat_natCast Int.toNat_zero Int.reduceLE Int.reduceLT Int.reduceToNat Int.reduceAdd Int.reduceSub Int.reduceMul Int.reduceNeg Nat.le_refl Nat.zero_le Nat.sub_zero List.take_length List.length_take List.length_drop List.length_append List.length_map
theorem wrap64(n:Int)(h1:-9223372036854775808≤n)(h2:n≤9223372036854775807):IntKind.i64.wrap n=n:=by
 simp only[IntKind.wrap,IntKind.signed,IntKind.bits,Bool.true_and,decide_eq_true_eq,ge_iff_le,Nat.reduceSub];split<;>omega
@[go_sem] theorem fF(ρ:Rn):D5 ρ []=[]:=rfl
@[go_sem] theorem dW(ρ:Rn)(k:Nat)(cs:List AV)(o:List (Nat × List AV)):D5 ρ ((k,cs)::o)=(match lk k ρ.m with|some s=>(s,EW ρ cs)::D5 ρ o|none=>D5 ρ o):=by
 simp only[D5,List.filterMap_cons];cases lk k ρ.m<;>rfl
attribute [go_sem] names O5 AV.ren EW ZP K6 inv rngs Way.back IY F1 pack List.filterMap_cons_some List.filterMap_cons_none List.filterMap_nil List.map_map List.mem_singleton
attribute [go_sem ↓] reduceIte
end Go.Abs
namespace Go.Abs
def Xh(v:Way)(st:St):List (Nat × List AV)→Prop
 |[]=>True
 |(s,cs)::l=>lk s (D5 v.ρ st.objs)=some cs∧Xh v st l
theorem Xh.has{v:Way}{st:St}:∀ {ob:List (Nat × List AV)},Xh v st ob→Has v st ob
 |(s,c)::l,h,s',cs,hs=>by
  simp only[lk]at hs;split at hs
  ·rename_i he;injection hs with hs;subst hs;subst he;exact h.1
  ·exact Xh.has h.2 s' cs hs
def Hh(v:Way)(ob:List (Nat × List AV)):Bool :=
 D0 v.ρ.l&&D0 v.ρ.m&&D0 v.back.l&&D0 v.back.m&&(rngs v.ρ.m).all (fun s=>(names ob).contains s)&&(rngs v.fm).all (fun s=>s%64 !=63)
theorem Hh.ok{v:Way}{ob:List (Nat × List AV)}(h:Hh v ob=true):v.OK ob∧(rngs v.fm).all (fun s=>s%64 !=63)=true:=by
 simp only[Hh,Bool.and_eq_true]at h;obtain⟨⟨⟨⟨⟨h1,h2⟩,h3⟩,h4⟩,h5⟩,h6⟩:=h;refine⟨⟨⟨h1,h2⟩,⟨h3,h4⟩,fun s hs=>?_⟩,h6⟩;have:=List.all_eq_true.1 h5 s hs;simpa using this
section
variable {X:Env} {d:Option Nat} {fid:Nat} {xs xs':List AV} {K:St→Prop} {st:St} {y y':AV} {ob ob':List (Nat × List AV)}
theorem Ac.weak{C:Ctx}{f:Nat}{xs ys:List AV}{o o':List (Nat × List AV)}{y:AV}(h:Ac C f ys o y o')(hw:Is xs ys):Ac C f xs o y o' :=
 ⟨h.1,fun g w us hg hv ho=>h.2 g w us hg (hw g w us hv) ho⟩
theorem Ac.ren{C:Ctx}{f:Nat}{xs:List AV}{o o':List (Nat × List AV)}{y:AV}(h:Ac C f xs o y o')(ρ:Rn)(hρ:ρ.OK)(hext:∀ s,s∈names o→lk s ρ.m=some s):Ac C f xs o (y.ren ρ) (D5 ρ o') :=
 ⟨h.1,fun g w us hg hv ho=>Calls.mono (h.2 g w us hg hv ho) fun e w' ⟨u,g',he,hfr,hy,ho'⟩=>⟨u,g'.ren ρ g',he,hfr.ren hρ hext,VR.ren hρ _ _ hy,fun s cs hs=>by
  obtain⟨s0,cs0,h1,h2,rfl⟩:=IA hρ hs;exact Di.ren hρ h1 (ho' s0 cs0 h2)⟩⟩
def Tx(v:Way)(st:St):List (Nat × List AV)→Prop
 |[]=>True
 |(s,cs)::l=>(∃ x,lk s (D5 v.ρ st.objs)=some x∧Ah x cs)∧Tx v st l
def L0:List (Nat × List AV)→List (Nat × List AV)→Prop
 |[],[]=>True
 |(s,x)::l,(s',y)::l'=>s=s'∧Is x y∧L0 l l'
 |_,_=>False
theorem Tx.split{v:Way}{st:St}:∀ {ob:List (Nat × List AV)},Tx v st ob→∃ o2,names o2=names ob∧Xh v st o2∧L0 o2 ob
 |[],_=>⟨[],rfl,trivial,trivial⟩
 |(s,cs)::l,⟨⟨x,h1,h2⟩,h3⟩=>by
  obtain⟨o2,a,b,c⟩:=Tx.split h3;exact⟨(s,x)::o2,by simp only[names,List.map_cons]at a ⊢;rw[a],⟨h1,b⟩,rfl,h2.AE,c⟩
theorem L0.get:∀ {o2 ob:List (Nat × List AV)},L0 o2 ob→∀ s cs,lk s ob=some cs→∃ x,lk s o2=some x∧Is x cs
 |[],[],_,s,cs,h=>by cases h
 |(k,x)::o2,(k',y)::ob,⟨e,hw,hr⟩,s,cs,h=>by
  subst e;simp only[lk]at h ⊢;split at h
  ·rename_i he;injection h with h;subst h
   exact⟨x,by simp[he],hw⟩
  ·rename_i he;obtain⟨x',h1,h2⟩:=L0.get hr s cs h;exact⟨x',by simp[he,h1],h2⟩
 |[],_::_,h,_,_,_=>h.elim
 |_::_,[],h,_,_,_=>h.elim
theorem Ac.Z9{C:Ctx}{f:Nat}{xs:List AV}{o o2 o':List (Nat × List AV)}{y:AV}(h:Ac C f xs o y o')(hn:names o2=names o)(hw:L0 o2 o):Ac C f xs o2 y o' :=
 ⟨h.1,fun g w us hg hv ho=>by
  have:=h.2 g w us hg hv fun s cs hs=>by
   obtain⟨x,h1,h2⟩:=hw.get s cs hs;exact(ho s x h1).lift rfl (ho s x h1).1 rfl (fun us hu=>h2 g w _ hu)
  rw[hn];exact this⟩
mutual
theorem Gz:∀ x:AV,x.freeze []=x
 |.undef=>rfl
 |.v x=>rfl
 |.agg cs=>by simp only[AV.freeze,D6 cs]
 |.tup cs=>by simp only[AV.freeze,D6 cs]
 |.sl (.own r lo) n es=>by simp[AV.freeze]
 |.sl .no n es=>rfl
 |.sl .full n es=>rfl
 |.ptr s off=>rfl
 |.ep (.own r lo) i cells off=>by simp[AV.freeze]
 |.ep .no i cells off=>rfl
 |.ep .full i cells off=>rfl
 |.fn f caps=>by simp only[AV.freeze,D6 caps]
 |.mv f caps=>by simp only[AV.freeze,D6 caps]
 |.mp o=>rfl
 |.ifc t x=>by simp only[AV.freeze,Gz x]
 |.hnd k r i j off m bss=>by simp[AV.freeze]
 |.mem b xs=>by simp only[AV.freeze,D6 xs]
theorem D6:∀ xs:List AV,Cf [] xs=xs
 |[]=>rfl
 | x::xs=>by simp only[Cf,Gz x,D6 xs]
end
theorem St.Gz(st:St):st.freeze []=st:=by
 simp[St.freeze,Abs.Gz,Abs.D6]
theorem Be(v:Way)(hok:Ac X.C fid xs' ob y ob')(hx:Ah (EW v.ρ xs) xs')(hv:Hh v ob=true)(hh:Tx v st ob)(hfl:v.ρ.bs=[]∨(Flat (y.ren v.back)∧Ir (D5 v.back ob')))
 (hk:K ((st.app (rngs v.back.l) (rngs v.fm) (rngs v.back.m) (D5 v.back ob')).put d (y.ren v.back))):AG X d fid xs K st:=by
 obtain⟨o2,a,b,c⟩:=hh.split;have hv':Hh v o2=true:=by unfold Hh at hv ⊢;rw[a];exact hv
 refine .inl ⟨[],v,o2,(fun y2 o3=>y2=y∧o3=ob'),(Hh.ok hv').1,(Hh.ok hv').2,?_,?_,fun y2 o3 hS=>?_⟩
 ·rw[D6];exact((hok.weak hx.AE).Z9 a c).toP
 ·rw[St.Gz];exact b.has
 ·obtain⟨h1,h2⟩:=hS;subst h1;subst h2;rw[St.Gz];exact⟨hfl,hk⟩
theorem PE(fz:List Nat)(v:Way)(hok:Ac X.C fid xs' ob y ob')(hx:Ah (EW v.ρ (Cf fz xs)) xs')(hv:Hh v ob=true)(hh:Tx v (st.freeze fz) ob)(hfl:v.ρ.bs=[]∨(Flat (y.ren v.back)∧Ir (D5 v.back ob')))
 (hk:K (((st.freeze fz).app (rngs v.back.l) (rngs v.fm) (rngs v.back.m) (D5 v.back ob')).put d (y.ren v.back))):AG X d fid xs K st:=by
 obtain⟨o2,a,b,c⟩:=hh.split;have hv':Hh v o2=true:=by unfold Hh at hv ⊢;rw[a];exact hv
 refine .inl ⟨fz,v,o2,(fun y2 o3=>y2=y∧o3=ob'),(Hh.ok hv').1,(Hh.ok hv').2,((hok.weak hx.AE).Z9 a c).toP,b.has,fun y2 o3 hS=>?_⟩;obtain⟨h1,h2⟩:=hS;subst h1;subst h2;exact⟨hfl,hk⟩
theorem FnP.weak{C:Ctx}{f:Nat}{xs ys:List AV}{o:List (Nat × List AV)}{S:AV→List (Nat × List AV)→Prop}(h:FnP C f ys o S)(hw:Is xs ys):FnP C f xs o S :=
 ⟨h.1,fun g w us hg hv ho=>h.2 g w us hg (hw g w us hv) ho⟩
theorem FnP.Z9{C:Ctx}{f:Nat}{xs:List AV}{o o2:List (Nat × List AV)}{S:AV→List (Nat × List AV)→Prop}(h:FnP C f xs o S)(hn:names o2=names o)(hw:L0 o2 o):FnP C f xs o2 S :=
 ⟨h.1,fun g w us hg hv ho=>by
  have:=h.2 g w us hg hv fun s cs hs=>by
   obtain⟨x,h1,h2⟩:=hw.get s cs hs;exact(ho s x h1).lift rfl (ho s x h1).1 rfl (fun us hu=>h2 g w _ hu)
  rw[hn];exact this⟩
theorem YI{r n:Nat}{es es':List (List AV)}{ys:List AV}(hok:Pt X.C fid n es ys es')(hx:xs=.sl (.own r 0) n es::ys)(hk:K ((st.Aw r n 0 es').put d (.tup []))):AG X d fid xs K st :=
 .inr ⟨r,n,es,ys,es',hx,hok,hk⟩
theorem Li:∀ l:List (Nat × List AV),GX [] l=l
 |[]=>rfl
 |(k,x)::l=>by simp[GX,Li l]
theorem SE:st.app [] [] [] []=st:=by simp[St.app,Li,Jc,Jb]
theorem Af(hok:Ac X.C fid xs' [] y [])(hx:Ah (EW ⟨[],[],[]⟩ xs) xs')(hy:y.ren ⟨[],[],[]⟩=y')(hk:K (st.put d y')):AG X d fid xs K st:=by
 refine Be ⟨⟨[],[],[]⟩,[],[]⟩ hok hx rfl trivial (.inl rfl) ?_;show K ((st.app [] [] [] []).put d (y.ren ⟨[],[],[]⟩));rw[SE,hy];exact hk
theorem HV(fz:List Nat)(hok:Ac X.C fid xs' [] y [])(hx:Ah (EW ⟨[],[],[]⟩ (Cf fz xs)) xs')(hy:y.ren ⟨[],[],[]⟩=y')(hk:K ((st.freeze fz).put d y')):AG X d fid xs K st:=by
 refine PE fz ⟨⟨[],[],[]⟩,[],[]⟩ hok hx rfl trivial (.inl rfl) ?_;show K (((st.freeze fz).app [] [] [] []).put d (y.ren ⟨[],[],[]⟩));rw[SE,hy];exact hk
theorem Dq(bs:List Nat)(hok:Ac X.C fid xs' [] y [])(hx:Ah (EW ⟨[],[],bs⟩ xs) xs')(hy:y.ren ⟨[],[],[]⟩=y')(hf:Flat y')(hk:K (st.put d y')):AG X d fid xs K st:=by
 refine Be ⟨⟨[],[],bs⟩,[],[]⟩ hok hx rfl trivial (.inr ?_) ?_
 ·show Flat (y.ren ⟨[],[],[]⟩)∧True;rw[hy];exact⟨hf,trivial⟩
 ·show K ((st.app [] [] [] []).put d (y.ren ⟨[],[],[]⟩));rw[SE,hy];exact hk
theorem Aa{body:(Ex→St→Prop)→St→Prop}{Q:Ex→St→Prop}{α:Type}(I:α→St)(Inv:α→Prop)(μ:α→Nat)(x0:α)(h0:Inv x0)(hi:Imp X st (I x0))
 (hr:∀ x,Inv x→∀ J:St→Prop,(∀ st' x',Inv x'→μ x'<μ x→Imp X st' (I x')→J st')→body (QO J Q) (I x)):Zs X body Q st :=
 ⟨α,I,Inv,μ,x0,h0,hi,fun x hx=>hr x hx _ fun _ x' h1 h2 h3=>⟨x',h1,h2,h3⟩⟩
end
@[go_sem] theorem bV{α:Type}(a:α)(p:α→Prop):(∃ x,some a=some x∧p x)=p a:=by simp
@[go_sem] theorem dy(x:AV):BC x x=True:=eq_true .rfl
@[go_sem] theorem cm(x:AV):BC x .undef=True:=eq_true .undef
@[go_sem] theorem bI(r lo n:Nat):BC (.v (.slice none 0 0)) (.sl (.own r lo) (n+1) [])=True:=eq_true (.AA (by omega))
@[go_sem] theorem cl(n:Nat):BC (.v (.slice none 0 0)) (.sl .no (n+1) [])=True:=eq_true (.Az (by omega))
@[go_sem] theorem dx(n:Nat)(es:List (List AV)):BC (.sl .full n es) (.sl .no n es)=True:=eq_true .full
theorem BC.int{k:IntKind}{a b:Int}(h:a=b):BC (.v (.int k a)) (.v (.int k b)):=.eq (by rw[h])
theorem BC.sl{t:Tag}{n:Nat}{a b:List (List AV)}(h:a=b):BC (.sl t n a) (.sl t n b):=.eq (by rw[h])
theorem A1{X:Env}{rs:List ResultVar}{y:AV}{o':List (Nat × List AV)}{st:St}(ρ:Rn)(xs:List AV)(h1:Dm X.C st rs=some xs)(h2:ρ.OK)(h3:∀ s∈X.ext,lk s ρ.m=some s)(h4:BC ((pack xs).ren ρ) y)(h5:F1 (K6 ρ st) o'):Rb X rs y o' .ret st :=
 ⟨xs,ρ,h1,h2,h3,h4,h5⟩
@[go_sem high] theorem aj(xs:List AV):Ah xs xs=True:=eq_true (.self xs)
@[go_sem] theorem ai(x y:AV)(xs ys:List AV):Ah (x::xs) (y::ys)=(BC x y∧Ah xs ys):=rfl
attribute [go_sem] Tx St.app GX Li Jc Jb
end Go.Abs
namespace Go.Abs
def TV(P:Program)(src dst:TypeId):AV→Option AV
 |.v (.int _ n)=>match Ul P src,Ul P dst with
  |some _,some k=>some (.v (.int k (k.wrap n)))
  |_,_=>none
 |.v (.string s)=>if J5 P src∧J5 P dst then some (.v (.string s)) else none
 |.v (.slice none 0 0)=>if G2 P src∧J5 P dst then some (.v (.string ⟨#[]⟩)) else none
 |.sl _ n es=>if n=1∧G2 P src∧J5 P dst then (unbytes es).map fun l=>.v (.string ⟨l.toArray⟩) else none
 |_=>none
def S2:AV→Bool
 |.sl (.own _ _) _ _=>true
 |_=>false
def b0:Fn→List Operand→Option Nat
 |.func f,[]=>some f
 |_,_=>none
def PB(C:Ctx)(b:Builtin)(xs:List Operand)(ts:List TypeId)(st:St):Option AV :=
 match b with
 |.len=>match xs,ts with
  |[x],[t]=>if KM C.P t (ev C st x)=true then N2 (ev C st x) else none
  |_,_=>none
 |.max=>match xs with
  |[x,y]=>X5 (ev C st x) (ev C st y)
  |_=>none
 |.min=>match xs with
  |[x,y]=>a7 (ev C st x) (ev C st y)
  |_=>none
 |_=>none
def W7(C:Ctx)(o:Oper)(st:St):Option AV :=
 match o.op with
 |.move x=>some (ev C st x)
 |.assign x=>some (ev C st x)
 |.pick c a b=>KY (ev C st c) (ev C st a) (ev C st b)
 |.load t a=>RV C t (ev C st a) st.objs
 |.fieldAddr t x i=>match AS C.P t i with
  |some off=>L9 off (ev C st x)
  |none=>none
 |.indexAddr t x i=>NY C t (ev C st x) (ev C st i)
 |.nilCheck x=>Q7 (ev C st x)
 |.binOp op t x y _=>Vz C.P op t (ev C st x) (ev C st y)
 |.unOp op _ x=>unA op (ev C st x)
 |.convert src dst x=>TV C.P src dst (ev C st x)
 |.extract x i=>I5 i (ev C st x)
 |.field t x i=>P0 C.P t i (ev C st x)
 |.index t x i=>XY C.P t (ev C st i) (ev C st x)
 |.build t ps=>Nz C t (Hp C st ps.toList)
 |.slice t x lo hi mx=>if S2 (ev C st x)&&mx.isSome then (SN C st t (ev C st x) lo hi mx).map (·.1) else (GQ C st t (ev C st x) lo hi mx).map (·.1)
 |.makeFunc fn first caps=>(b0 fn first.toList).map fun f=>.fn f (evs C st caps.toList)
 |.makeInterface t x=>if C.P.concrete t then some (.ifc t (ev C st x)) else none
 |.call c=>match c.callee with
  |.builtin b=>PB C b c.args.toList c.argTypes.toList st
  |_=>none
 |_=>none
section
variable {C:Ctx} {A:A0} {N:Nat} {g g':Gh} {st st':St} {a:Act} {w w':World} {P:Program}
theorem TW{src dst:TypeId}{x r:AV}{ux:Value}(hx:VR g w x ux)(h:TV P src dst x=some r):∃ u,(convert src dst ux).run P w=.ok u w∧VR g w r u:=by
 unfold TV at h;split at h
 ·simp only[VR]at hx;subst hx;split at h
  ·rename_i k1 k2 h1 h2;simp at h;subst h;refine⟨.int k2 (k2.wrap _),?_,by simp only[VR];rfl⟩;simp[convert,run_underlying (Lt h1),run_underlying (Lt h2),Conv.intToInt]
  ·cases h
 ·simp only[VR]at hx;subst hx;split at h
  ·rename_i hc;simp at h;subst h;exact⟨_,by simp[convert,run_underlying (CR hc.1),run_underlying (CR hc.2)];rfl,by simp[VR]⟩
  ·cases h
 ·simp only[VR]at hx;subst hx;split at h
  ·rename_i hc;simp at h;subst h;obtain⟨e,h1,h2,h3⟩:=EC hc.1;exact⟨.string .empty,by simp[convert,run_underlying h1,run_underlying h2,run_underlying (CR hc.2),Conv.bytesToString],by simp[VR];rfl⟩
  ·cases h
 ·rename_i t n es;split at h
  ·rename_i hc;obtain⟨rfl,hc⟩:=hc;obtain⟨l,hl,rfl⟩:=Option.map_eq_some_iff.1 h;obtain⟨e,h1,h2,h3⟩:=EC hc.1;obtain⟨us,hs,hp,_⟩:=Gw (n:=1) (es:=es) (by omega) (by simp[elems]) hx;obtain⟨ns,rfl,rfl⟩:=J6 hl hp;obtain⟨hlen,hsrc⟩:=hs;refine⟨.string ⟨(ns.map (fun n=>UInt8.ofNat n.toNat)).toArray⟩,?_,by simp only[VR]⟩;rcases hsrc with ⟨ad,c,rfl,hcell⟩|⟨h0,c,rfl⟩
   ·rw[run_convert_bytes_string w src dst e _ _ _ h1 h2 (CR hc.2)];have hlc:(loadCells ad es.length).run P w=.ok (ns.map (Value.int .u8)).toArray w:=by
     have:=run_loadCells_list (P:=P) w ad (ns.map (Value.int .u8)) hcell
     rwa [hlen,Nat.mul_one]at this
    rw[run_bytesToString w ad es.length c ns hlc,foldl_push];simp[ByteArray.empty,ByteArray.emptyWithCapacity]
    try rfl
   ·have:ns=[]:=by
     have:ns.length=0:=by simpa [h0]using hlen
     exact List.eq_nil_of_length_eq_zero this
    subst this;simp[convert,run_underlying h1,run_underlying h2,run_underlying (CR hc.2),Conv.bytesToString];rfl
  ·cases h
 ·cases h
def Sy(C:Ctx)(o:Oper)(a:Act)(g:Gh)(w:World)(x:AV):Prop:=∃ u,Does C.P o a w u w∧VR g w x u
theorem Sy.of{o:Oper}{x:AV}{s:Sem Value}(ho:execOp a.eval o=(do Pure.pure (Next.value (← s))))(h:∃ u,s.run C.P w=.ok u w∧VR g w x u):Sy C o a g w x:=by
 obtain⟨u,h1,h2⟩:=h;exact⟨u,HC ho h1,h2⟩
theorem Wd{x y r:AV}{ux uy:Value}{ts:Array TypeId}{ty:TypeId}(hx:VR g w x ux)(hy:VR g w y uy)(h:X5 x y=some r):∃ u,(Builtin.max_ ts ty #[ux,uy]).run P w=.ok u w∧VR g w r u:=by
 unfold X5 at h;split at h
 ·simp only[VR]at hx hy;subst hx;subst hy;have h':=Option.some.inj h;subst h';exact⟨_,by simp[Builtin.max_,Builtin.max2];rfl,by simp only[VR]⟩
 ·cases h
theorem We{x y r:AV}{ux uy:Value}{ts:Array TypeId}{ty:TypeId}(hx:VR g w x ux)(hy:VR g w y uy)(h:a7 x y=some r):∃ u,(Builtin.min_ ts ty #[ux,uy]).run P w=.ok u w∧VR g w r u:=by
 unfold a7 at h;split at h
 ·simp only[VR]at hx hy;subst hx;subst hy;have h':=Option.some.inj h;subst h';exact⟨_,by simp[Builtin.min_,Builtin.min2];rfl,by simp only[VR]⟩
 ·cases h
theorem PC(hR:R C A N g st a w){o:Oper}{b:Builtin}{xs:Array Operand}{ts:Array TypeId}{consts:Array Bool}(he:execOp a.eval o=builtin b ts o.type consts (xs.map a.eval)){x:AV}
 (h:PB C b xs.toList ts.toList st=some x):Sy C o a g w x:=by
 unfold PB at h;split at h
 ·split at h
  ·rename_i y t hy ht;split at h
   ·rename_i hok;refine .of he ?_;rw[TH hy,TH ht];simp only[List.map_toArray,List.map_cons,List.map_nil];exact Qg hok (hR.ev y) h
   ·cases h
  ·cases h
 ·split at h
  ·rename_i y z hy;refine .of he ?_;rw[Nw hy];simp only[List.map_toArray,List.map_cons,List.map_nil];exact Wd (hR.ev y) (hR.ev z) h
  ·cases h
 ·split at h
  ·rename_i y z hy;refine .of he ?_;rw[Nw hy];simp only[List.map_toArray,List.map_cons,List.map_nil];exact We (hR.ev y) (hR.ev z) h
  ·cases h
 ·cases h
theorem UX(hR:R C A N g st a w){o:Oper}{x:AV}(h:W7 C o st=some x):Sy C o a g w x:=by
 obtain⟨dst,op,ty,after,x2,x3⟩:=o;cases op<;>simp only[W7]at h
 case move y=>simp at h;subst h;exact⟨_,.inl rfl,hR.ev y⟩
 case assign y=>simp at h;subst h;exact⟨_,.inl rfl,hR.ev y⟩
 case pick c y z =>
  obtain⟨u,k1,k2⟩:=Qv (P:=C.P) (hR.ev c) (hR.ev y) (hR.ev z) h;exact⟨u,.inl k1,k2⟩
 case load t p =>
  unfold RV at h;split at h
  ·rename_i agg n h1 h2;exact .of rfl (Mj hR h1 h2 (hR.ev p) h)
  ·cases h
 case fieldAddr t p i =>
  split at h
  ·rename_i off h1;exact .of rfl (OF h1 (hR.ev p) h)
  ·cases h
 case indexAddr t p i =>
  unfold NY at h;split at h
  ·rename_i k ki hi;have hiv:=hR.ev i;rw[hi]at hiv;simp only[VR]at hiv;split at h
   ·rename_i e n he;exact .of rfl (by rw[hiv];exact MW he (hR.ev p) h)
   ·split at h
    ·rename_i len n he;exact .of rfl (by rw[hiv];exact MV he (hR.ev p) h)
    ·cases h
  ·cases h
 case nilCheck y =>
  have:=R6 (C:=C) (a:=a) (hR.ev y) h (o:=⟨dst,.nilCheck y,ty,after,x2,x3⟩) rfl rfl;exact⟨_,.inl this.1,this.2⟩
 case binOp op t y z _=>exact .of rfl (Rm (hR.ev y) (hR.ev z) h)
 case unOp op t y=>exact .of rfl (Vm (hR.ev y) h)
 case convert s d y=>exact .of rfl (TW (hR.ev y) h)
 case extract y i =>
  unfold I5 at h;split at h
  ·rename_i cs hc;have hy:=hR.ev y;rw[hc]at hy;simp only[VR]at hy;obtain⟨us,hu,hv⟩:=hy;obtain⟨u,h2,h3⟩:=VRs.get hv i _ h;refine .of (s:=Instr.extract (a.eval y) i) rfl ⟨u,?_,h3⟩;rw[hu];have:us[i]?=some u:=by simpa using h2
   simp[Instr.extract,this]
  ·cases h
 case field t y i=>exact .of rfl (MN (hR.ev y) h)
 case index t y i=>exact .of rfl (P8 (hR.ev i) (hR.ev y) h)
 case build t ps =>
  unfold Nz at h;rw[← Jg]at h;split at h
  ·rename_i zs hz ha;split at h
   ·rename_i hs;obtain⟨r,h1,rfl⟩:=Option.map_eq_some_iff.1 h;exact .of (PW a rfl) (Ot hz ha hs (by simp[parts]) (IX hR ps) h1)
   ·cases h
  ·cases h
 case slice t y lo hi mx =>
  split at h
  ·obtain⟨p,h1,rfl⟩:=Option.map_eq_some_iff.1 h;obtain⟨z,st'⟩:=p;obtain⟨_,u,k1,k3⟩:=Rq hR h1;exact .of rfl ⟨u,k1,k3⟩
  ·rename_i hc;obtain⟨p,h1,rfl⟩:=Option.map_eq_some_iff.1 h;obtain⟨z,st'⟩:=p;obtain⟨u,w',g',k1,k2,k3,k4⟩:=LV hR h1;have hp:(∀ r lo m es,ev C st y≠.sl (.own r lo) m es)∨mx=none:=by
    simp only[Bool.and_eq_true,not_and,Bool.not_eq_true]at hc;cases hm:mx with
    |none=>exact .inr rfl
    |some m =>
     left;intro r lo m' es he;have:=hc (by rw[he];rfl);rw[hm]at this;simp at this
   obtain⟨rfl,rfl⟩:=k4 hp;exact .of rfl ⟨u,k1,k3⟩
 case makeFunc fn first caps =>
  obtain⟨f,hf,rfl⟩:=Option.map_eq_some_iff.1 h;unfold b0 at hf;split at hf
  ·rename_i f' hf';simp at hf;subst hf;refine .of (s:=Instr.makeFunc (.func f') (first.map a.eval) (caps.map a.eval)) rfl ⟨_,rfl,?_⟩;have hf0:first = #[]:=by
    cases first;simp_all
   subst hf0;simp only[VR];refine⟨_,by simp;rfl,?_⟩;have:=FQ hR caps.toList;rw[Lk];simpa using this
  ·cases hf
 case makeInterface t y =>
  split at h
  ·rename_i hc;have h':=Option.some.inj h;subst h';refine .of rfl ⟨_,run_makeInterface w t _ hc,?_⟩;simp only[VR];exact⟨_,rfl,hR.ev y⟩
  ·cases h
 case call c =>
  split at h
  ·rename_i b hb;obtain⟨callee,args,argTypes⟩:=c;simp only at hb;subst hb;obtain⟨consts,he⟩:=Hx a (o:=⟨dst,.call { callee:=.builtin b,args,argTypes },ty,after,x2,x3⟩) rfl;exact PC hR he h
  ·cases h
 all_goals(cases h)
theorem Grow.refl(g:Gh)(w:World):Grow [] [] [] g w g w where
 toLasts:=Qc g w [] []
 os:=rfl
 tape:=⟨rfl,by first|exact Nat.le_refl _|exact Nat.le_succ _⟩
 output:=rfl
 size:=Nat.le_refl _
 other:=fun _ _ h=>⟨h,rfl⟩
 kept:=fun _ _ _ h _=>⟨h,rfl⟩
theorem fC{o:Oper}{x:AV}(h:W7 C o st=some x):OpG C o st x [] [] [] []:=by
 intro A N g a w hR K Q hk;obtain⟨u,h1,h2⟩:=UX hR h;exact h1.wp (hk u g w (Grow.refl g w) h2 (fun s cs hs=>by cases hs))
theorem cn{o:Oper}{t d:Nat}{zs:List Value}(ho:o.op=.alloc t)(hd:o.dst=some d)(hz:zeroOf C.P t=some zs):OpG C o st (.ptr (nm d) 0) [] [nm d] [nm d] [(nm d,vals zs)]:=by
 intro A N g a w hR K Q hk;have hzz:∃ z,(zeroValue t).run C.P w=.ok z w∧zs=z.cells.toList:=by
  unfold zeroOf at hz;obtain⟨z,hz1,hz2⟩:=Option.map_eq_some_iff.1 hz;obtain⟨i,hi,hiz⟩:=Option.bind_eq_some_iff.1 hz1;exact⟨z,by simp[zeroValue,run_typeInfo hi,hiz],hz2.symm⟩
 obtain⟨z,hz1,rfl⟩:=hzz;obtain⟨dst,op,ty,after,x2,x3⟩:=o;simp only at ho hd;subst ho;subst hd;have hdoes:Does C.P ⟨some d,.alloc t,ty,after,x2,x3⟩ a w (.pointer (some ⟨w.heap.size,0,none⟩)) (w.alloc (.cells z.cells t)) :=
  HC (s:=Instr.alloc t true (.tuple #[])) rfl (by simp[Instr.alloc,hz1,Mo])
 have hl:=JQ g w (.cells z.cells t) (nm d);refine hdoes.wp (hk _ (g.Cg w.heap.size (nm d)) _ ?_ ?_ fun s cs hs=>?_)
 ·exact { toLasts:=hl,os:=rfl,tape:=⟨rfl,by first|exact Nat.le_refl _|exact Nat.le_succ _⟩,output:=rfl,size:=by simp,other:=fun b hb ho=>⟨by simp[Gh.Cg,Nat.ne_of_lt hb,ho],alloc_old w _ b hb⟩,kept:=fun s _ _ ho hb=>⟨by simp[Gh.Cg,Nat.ne_of_lt hb,ho],alloc_old w _ _ hb⟩ }
 ·simp[VR,Gh.Cg,Je]
 ·simp only[lk]at hs;split at hs
  ·rename_i he;injection hs with hs;subst hs;subst he
   refine⟨by simp[Gh.Cg],.inl ⟨Je d,z.cells,t,?_,GU _⟩⟩;have:(g.Cg w.heap.size (nm d)).box (nm d)=w.heap.size:=by simp[Gh.Cg]
   rw[this];exact heap_alloc_new w _
  ·cases hs
end
end Go.Abs
namespace Go.Abs
structure Res where
 x:AV
 S:List Nat
 T:List Nat
 upd:List (Nat × List AV)
def tmD(dst:Nat→Option Nat)(res:Nat→Res)(D:Nat→Bool)(base:List (Nat × AV)):Nat→List (Nat × AV)
 | 0=>base
 | j+1=>match D j,dst j with
  | true,some d=>(d,(res j).x)::tmD dst res D base j
  |_,_=>tmD dst res D base j
def obD(res:Nat→Res)(D:Nat→Bool)(base:List (Nat × List AV)):Nat→List (Nat × List AV)
 | 0=>base
 | j+1=>if D j then (res j).upd++obD res D base j else obD res D base j
def Bd(ops:Array Oper)(i:Nat):List Nat:=match ops[i]? with
 |some o=>o.after.toList.filterMap fun e=>if Region.binds .any e then some e.on else none
 |none=>[]
def Dc(tab:List (List Nat × List Nat))(i:Nat):List Nat:=(tab.getD i ([],[])).1
def Ht(tab:List (List Nat × List Nat))(i:Nat):List Nat:=(tab.getD i ([],[])).2
def DO(ops:Array Oper)(i:Nat):Option Nat:=(ops[i]?).bind (·.dst)
def aW(d:Option Nat)(l:List Nat):Bool:=match d with
 |some t=>l.contains t
 |none=>false
def clash(ops:Array Oper)(tab:List (List Nat × List Nat))(i j:Nat):Bool :=
 (match DO ops i,DO ops j with
 |some d,some e=>d==e
 |_,_=>false)||aW (DO ops j) (Ht tab i)||aW (DO ops i) (Ht tab j)
def Sc(ops:Array Oper)(k:Nat)(tab:List (List Nat × List Nat)):Bool :=
 decide (k≤ops.size)&&(List.range ops.size).all (fun i=>(Bd ops i).all (fun e=>decide (e<i)) &&
  (Dc tab i).all (fun p=>(Bd ops i).any fun e=>p==e||(Dc tab e).contains p) &&
  (decide (i<k)||(List.range i).all fun j=>(Dc tab i).contains j)) &&
 (List.range k).all fun i=>(List.range i).all fun j=>(Dc tab i).contains j||!(clash ops tab i j)
structure IW(ops:Array Oper)(k:Nat)(tab:List (List Nat × List Nat)):Prop where
 le:k≤ops.size
 edge:∀ i,i<ops.size→∀ e∈Bd ops i,e<i
 pred:∀ i,i<ops.size→∀ p∈Dc tab i,∃ e∈Bd ops i,p=e∨p∈Dc tab e
 tail:∀ i,i<ops.size→k≤i→∀ j,j<i→j∈Dc tab i
 apart:∀ i j,i<k→j<i→j∈Dc tab i∨clash ops tab i j=false
theorem Sc.spec{ops:Array Oper}{k:Nat}{tab:List (List Nat × List Nat)}(h:Sc ops k tab=true):IW ops k tab:=by
 simp only[Sc,Bool.and_eq_true,decide_eq_true_eq,List.all_eq_true,List.mem_range,Bool.or_eq_true,List.any_eq_true,List.contains_iff_mem,beq_iff_eq,Bool.not_eq_true']at h;obtain⟨⟨h1,h2⟩,h3⟩:=h;exact⟨h1,fun i hi=>(h2 i hi).1.1,fun i hi=>(h2 i hi).1.2,fun i hi hk j hj=>((h2 i hi).2.resolve_left (by omega)) j hj,fun i j hi hj=>h3 i hi j hj⟩
def Closed(ops:Array Oper)(D:Nat→Bool):Prop:=∀ i,i<ops.size→D i=true→∀ e∈Bd ops i,D e=true
section
variable {ops:Array Oper} {k:Nat} {tab:List (List Nat × List Nat)} {D:Nat→Bool}
theorem Closed.pred(hr:IW ops k tab)(hc:Closed ops D):∀ i,i<ops.size→D i=true→∀ p∈Dc tab i,D p=true:=by
 intro i
 induction i using Nat.strongRecOn with
 |_ i ih =>
  intro hi hd p hp;obtain⟨e,he,h|h⟩:=hr.pred i hi p hp
  ·subst h;exact hc i hi hd _ he
  ·have hlt:=hr.edge i hi e he;exact ih e hlt (by omega) (hc i hi hd e he) p h
theorem LO(hr:IW ops k tab)(hc:Closed ops D){i:Nat}(hi:i<ops.size)(hd:∀ e∈Bd ops i,D e=true):∀ p∈Dc tab i,D p=true:=by
 intro p hp;obtain⟨e,he,h|h⟩:=hr.pred i hi p hp
 ·subst h;exact hd _ he
 ·exact hc.pred hr e (by have:=hr.edge i hi e he;omega) (hd e he) p h
variable {dst:Nat→Option Nat} {res res':Nat→Res} {base:List (Nat × AV)} {obase:List (Nat × List AV)}
theorem Js{D D':Nat→Bool}:∀ n,(∀ j,j<n→res j=res' j∧D j=D' j)→tmD dst res D base n=tmD dst res' D' base n
 | 0,_=>rfl
 | n+1,h=>by
  simp only[tmD,(h n (by omega)).1,(h n (by omega)).2];rw[Js n fun j hj=>h j (by omega)]
theorem Jf{D D':Nat→Bool}:∀ n,(∀ j,j<n→res j=res' j∧D j=D' j)→obD res D obase n=obD res' D' obase n
 | 0,_=>rfl
 | n+1,h=>by
  simp only[obD,(h n (by omega)).1,(h n (by omega)).2];rw[Jf n fun j hj=>h j (by omega)]
theorem Qj{D D':Nat→Bool}{t:Nat}:∀ n,(∀ j,j<n→dst j=some t→D j=D' j)→lk t (tmD dst res D base n)=lk t (tmD dst res D' base n)
 | 0,_=>rfl
 | n+1,h=>by
  have ih:=Qj (D:=D) (D':=D') (t:=t) n fun j hj=>h j (by omega)
  cases hd:dst n with
  |none=>cases h1:D n<;>cases h2:D' n<;>simp only[tmD,hd,h1,h2]<;>exact ih
  |some d =>
   by_cases hdt:d=t
   ·have:=h n (by omega) (by rw[hd,hdt]);cases h1:D n<;>rw[h1]at this<;>simp only[tmD,hd,h1,← this]
    ·exact ih
    ·simp[lk,hdt]
   ·cases h1:D n<;>cases h2:D' n<;>simp only[tmD,hd,h1,h2,lk,hdt,if_false]<;>exact ih
theorem Np{i:Nat}:∀ n,i≤n→(∀ j,i≤j→j<n→D j=false)→tmD dst res D base n=tmD dst res D base i
 | 0,h,_=>by have:i=0:=by omega
             rw[this]
 | n+1,h,hd=>by
  by_cases hi:i=n+1
  ·rw[hi]
  ·have:=hd n (by omega) (by omega);simp only[tmD,this];exact Np n (by omega) fun j h1 h2=>hd j h1 (by omega)
def Hk(i:Nat)(D:Nat→Bool)(j:Nat):Bool:=if j=i then true else D j
theorem Kf{i t:Nat}(hdi:dst i=some t):∀ n,i<n→(∀ j,i<j→j<n→D j=true→dst j≠some t)→lk t (tmD dst res (Hk i D) base n)=some (res i).x
 | 0,h,_=>by omega
 | n+1,h,hno=>by
  by_cases hin:i=n
  ·subst hin;simp[tmD,Hk,hdi,lk]
  ·have ih:=Kf hdi n (by omega) fun j h1 h2=>hno j h1 (by omega)
   have hn:Hk i D n=D n:=by simp[Hk,Ne.symm hin]
   simp only[tmD,hn];cases h1:D n with
   | false=>simpa using ih
   | true =>
    have:=hno n (by omega) (by omega) h1;cases hd:dst n with
    |none=>simpa using ih
    |some d =>
     have hdt:d≠t:=fun e=>this (by rw[hd,e])
     simp only[lk,hdt,if_false];exact ih
theorem Qi{i s:Nat}(hi:D i=false):∀ n,i<n→(∀ c,lk s (res i).upd=some c→∀ j,j≠i→j<n→D j=true→lk s (res j).upd=none) →
 lk s (obD res (Hk i D) obase n)=(lk s (res i).upd).or (lk s (obD res D obase n))
 | 0,h,_=>by omega
 | n+1,h,hno=>by
  by_cases hin:i=n
  ·subst hin;have h1:obD res (Hk i D) obase i=obD res D obase i:=Jf i fun j hj=>⟨rfl,by simp[Hk,Nat.ne_of_lt hj]⟩
   simp only[obD,Hk,if_true,hi,Bool.false_eq_true,if_false,GD];rw[← h1]
  ·have ih:=Qi (s:=s) hi n (by omega) fun c hc j h1 h2=>hno c hc j h1 (by omega)
   have hn:Hk i D n=D n:=by simp[Hk,Ne.symm hin]
   simp only[obD,hn];cases h1:D n with
   | false=>simpa using ih
   | true =>
    simp only[if_true,GD,ih];cases hs:lk s (res i).upd with
    |none=>simp
    |some c =>
     have:=hno c hs n (Ne.symm hin) (by omega) h1;simp[this]
def KB(S T:List Nat)(l:List (Nat × AV)):Prop:=LM S T l=l
def FB(S T:List Nat)(l:List (Nat × List AV)):Prop:=Hr S T (GX T l)=l
theorem RH{S T:List Nat}{p:Nat × AV}{l:List (Nat × AV)}:KB S T (p::l)↔p.2.kill S T=p.2∧KB S T l:=by
 obtain⟨k,x⟩:=p;simp only[KB,LM,List.cons.injEq,Prod.mk.injEq,true_and]
theorem RR(S T:List Nat):∀ l:List (Nat × List AV),(Hr S T (GX T l)).length≤l.length
 |[]=>by simp[GX,Hr]
 |(k,x)::l=>by
  have:=RR S T l;simp only[GX];split
  ·simp;omega
  ·rename_i hk;simp[Hr,hk];omega
theorem RG{S T:List Nat}{p:Nat × List AV}{l:List (Nat × List AV)}:FB S T (p::l)↔p.1∉T∧EP S T p.2=p.2∧FB S T l:=by
 obtain⟨k,x⟩:=p;simp only[FB,GX]
 by_cases hk:k∈T
 ·simp only[hk,if_true,not_true_eq_false,false_and,iff_false];intro h;have:=RR S T l;rw[h]at this;simp at this;omega
 ·simp[hk,Hr]
theorem OI{S T:List Nat}{l m:List (Nat × List AV)}:FB S T (l++m)↔FB S T l∧FB S T m:=by
 induction l with
 | nil=>simp[FB,GX,Hr]
 | cons p l ih =>
  simp only[List.cons_append,RG,ih];constructor
  ·rintro⟨h1,h2,h3,h4⟩;exact⟨⟨h1,h2,h3⟩,h4⟩
  ·rintro⟨⟨h1,h2,h3⟩,h4⟩;exact⟨h1,h2,h3,h4⟩
theorem Mb{S T:List Nat}:∀ {l:List (Nat × List AV)},FB S T l→∀ s∈T,lk s l=none
 |[],_,_,_=>rfl
 |(k,x)::l,h,s,hs=>by
  obtain⟨h1,_,h3⟩:=RG.1 h;have:k≠s:=fun e=>h1 (by rw[e];exact hs)
  simp only[lk,this,if_false];exact Mb h3 s hs
theorem Uc{S T:List Nat}:∀ n,KB S T base→(∀ j,j<n→D j=true→(res j).x.kill S T=(res j).x)→KB S T (tmD dst res D base n)
 | 0,h,_=>h
 | n+1,h,hj=>by
  have ih:=Uc n h fun j h1=>hj j (by omega)
  cases h1:D n with
  | false=>simpa [tmD,h1]using ih
  | true =>
   cases hd:dst n with
   |none=>simpa [tmD,h1,hd]using ih
   |some d=>simp only[tmD,h1,hd];exact RH.2 ⟨hj n (by omega) h1,ih⟩
theorem Ub{S T:List Nat}:∀ n,FB S T obase→(∀ j,j<n→D j=true→FB S T (res j).upd)→FB S T (obD res D obase n)
 | 0,h,_=>h
 | n+1,h,hj=>by
  have ih:=Ub n h fun j h1=>hj j (by omega)
  cases h1:D n with
  | false=>simpa [obD,h1]using ih
  | true=>simp only[obD,h1,if_true];exact OI.2 ⟨hj n (by omega) h1,ih⟩
theorem KD{S T:List Nat}:∀ n,KB S T (tmD dst res (fun _=>true) base n)→KB S T base∧∀ j,j<n→(dst j).isSome=true→(res j).x.kill S T=(res j).x
 | 0,h=>⟨h,fun j hj=>by omega⟩
 | n+1,h=>by
  cases hd:dst n with
  |none =>
   simp only[tmD,hd]at h;obtain⟨h1,h2⟩:=KD n h;exact⟨h1,fun j hj hs=>if e:j=n then by subst e;simp[hd]at hs else h2 j (by omega) hs⟩
  |some d =>
   simp only[tmD,hd]at h;obtain⟨h0,h'⟩:=RH.1 h;obtain⟨h1,h2⟩:=KD n h';exact⟨h1,fun j hj hs=>if e:j=n then by subst e;exact h0 else h2 j (by omega) hs⟩
theorem Iy{S T:List Nat}:∀ n,FB S T (obD res (fun _=>true) obase n)→FB S T obase∧∀ j,j<n→FB S T (res j).upd
 | 0,h=>⟨h,fun j hj=>by omega⟩
 | n+1,h=>by
  simp only[obD,if_true]at h;obtain⟨h0,h'⟩:=OI.1 h;obtain⟨h1,h2⟩:=Iy n h';exact⟨h1,fun j hj=>if e:j=n then by subst e;exact h0 else h2 j (by omega)⟩
end
end Go.Abs
