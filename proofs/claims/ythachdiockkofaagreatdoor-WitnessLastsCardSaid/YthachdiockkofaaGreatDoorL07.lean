/- part 7 of the proof -/
import Derived.Test.YthachdiockkofaaGreatDoorL06
set_option linter.all false
namespace Go.Abs
def HW(d:Option Nat)(K:St→Prop):Option AV→St→Prop
 |some x,st=>K (st.put d x)
 |none,_=>False
def nd{α:Sort _}{a b:α}(h:a=b):a=b:=h
@[go_sem] theorem fV(d:Option Nat)(K:St→Prop)(x:AV)(st:St):HW d K (some x) st=K (st.put d x):=nd rfl
@[go_sem] theorem fU(d:Option Nat)(K:St→Prop)(x:AV)(st:St):Ee d K (some (x,st))=K (st.put d x):=nd rfl
def Dj(d:Option Nat)(K:St→Prop)(o:Option AV)(st:St):Ee d K (o.map (·,st))=HW d K o st:=by cases o<;>rfl
@[go_sem] theorem jh(k:Nat)(x:AV)(t:List (Nat × AV))(o:List (Nat × List AV)):St.put (some k) x ⟨t,o⟩=⟨(k,x)::t,o⟩:=rfl
@[go_sem] theorem Wd(x:AV)(st:St):St.put none x st=st:=rfl
@[go_sem] theorem jG{α:Type}(k j:Nat)(x:α)(l:List (Nat × α)):lk k ((j,x)::l)=if j=k then some x else lk k l:=rfl
@[go_sem] theorem jH{α:Type}(k:Nat):lk k ([]:List (Nat × α))=none:=rfl
@[go_sem] theorem j7(C:Ctx)(k:Nat)(t:List (Nat × AV))(o:List (Nat × List AV)):ev C ⟨t,o⟩ (.tmp k)=(lk k t).getD .undef:=rfl
@[go_sem] theorem il(C:Ctx)(st:St)(v:Value):ev C st (.const v)=.v v:=rfl
@[go_sem] theorem jC(C:Ctx)(st:St)(f:Nat):ev C st (.func f)=.fn f []:=rfl
@[go_sem] theorem gr(C:Ctx)(st:St)(i:Nat):ev C st (.global i)=(match C.G i with
  |some cs=>.ep .no 0 cs 0
  |none=>.undef):=rfl
section
variable (X:Env) (Q:Ex→St→Prop) (K:St→Prop) (st:St)
@[go_sem] theorem jx:wpA X .skip Q=Q .normal:=nd rfl
@[go_sem] theorem gd(id:Nat)(ops:Array Oper):wpA X (.region id ops false) Q=Ba X ops ops.toList (Q .normal):=nd rfl
@[go_sem] theorem ju(id:Nat)(ops:Array Oper):wpA X (.region id ops true) Q=Ju X ops (Q .normal):=nd rfl
@[go_sem] theorem jW(x y:Code):wpA X (.seq x y) Q=wpA X x (RJ (wpA X y Q) Q):=nd rfl
@[go_sem] theorem jt(c:Operand)(x y:Code):wpA X (.cond c x y) Q st=Pp (ev X.C st c) (wpA X x Q) (wpA X y Q) st:=nd rfl
@[go_sem] theorem gT(id:Nat)(c:Code):wpA X (.block id c) Q=wpA X c (Oc id Q):=nd rfl
@[go_sem] theorem jw(c:Code):wpA X (.loop c) Q=bf X (wpA X c) Q:=nd rfl
@[go_sem] theorem jv(id:Nat):wpA X (.exit id) Q=Q (.exit id):=nd rfl
@[go_sem] theorem jV:wpA X .ret Q=Q .ret:=nd rfl
@[go_sem] theorem gV(c:Code):wpA X (.scope c) Q=wpA X c Q:=nd rfl
@[go_sem] theorem gU(l:Nat):wpA X (.label l) Q=Q .normal:=nd rfl
@[go_sem] theorem dP:RJ K Q .normal=K:=nd rfl
@[go_sem] theorem fX(i:Nat):RJ K Q (.exit i)=Q (.exit i):=nd rfl
@[go_sem] theorem gS:RJ K Q .ret=Q .ret:=nd rfl
@[go_sem] theorem cm(id:Nat):Oc id Q .normal=Q .normal:=nd rfl
@[go_sem] theorem dW(id i:Nat):Oc id Q (.exit i)=if i=id then Q .normal else Q (.exit i):=nd rfl
@[go_sem] theorem eS(id:Nat):Oc id Q .ret=Q .ret:=nd rfl
@[go_sem] theorem jA(b:Bool)(K1 K2:St→Prop):Pp (.v (.bool b)) K1 K2 st=((b=true→K1 st)∧(b=false→K2 st)):=nd rfl
@[go_sem high] theorem eX(K1 K2:St→Prop):Pp (.v (.bool true)) K1 K2 st=K1 st:=by simp[Pp]
@[go_sem high] theorem ec(K1 K2:St→Prop):Pp (.v (.bool false)) K1 K2 st=K2 st:=by simp[Pp]
@[go_sem] theorem ja(all:Array Oper):Ba X all [] K=K:=nd rfl
@[go_sem] theorem jD(C:Ctx):CX C st []=[]:=rfl
@[go_sem] theorem iq(C:Ctx)(x:Operand)(xs:List Operand):CX C st (x::xs)=ev C st x::CX C st xs:=rfl
@[go_sem] theorem hY(d:Option Nat)(f:Nat)(first xs:List AV):U0 X d (.mv f first) xs K st=AW X d f (first++xs) K st:=nd rfl
@[go_sem] theorem gZ(d:Option Nat)(f:Nat)(AS xs:List AV):U0 X d (.fn f AS) xs K st=AW X d f (xs++AS) K st:=nd rfl
variable (all:Array Oper) (rest:List Oper) (d:Option Nat) (ty:TypeId) (pos:String) (aft:Array Edge)
@[go_sem] theorem iW(op:Op)(j:Nat)(b:Bool):Ba X all (⟨d,op,ty,pos,aft,some (j,b)⟩::rest) K st =
 (match guardOf all j st with
 |some (.v (.bool b'))=>FF b' b (Ba X all (⟨d,op,ty,pos,aft,none⟩::rest) K (st.learn (gdst all j) b)) (Ba X all rest K ((st.learn (gdst all j) (!b)).put d (.tup [])))
 |some (.tup [])=>Ba X all rest K (st.put d (.tup []))
 |_=>False):=nd rfl
@[go_sem ↓] theorem jn(p q:Prop):FF true true p q=p:=by simp[FF]
@[go_sem ↓] theorem jo(p q:Prop):FF false true p q=q:=by simp[FF]
@[go_sem ↓] theorem jq(p q:Prop):FF true false p q=q:=by simp[FF]
@[go_sem ↓] theorem jr(p q:Prop):FF false false p q=p:=by simp[FF]
@[go_sem] theorem iD(j:Nat):gdst all j=(all[j]?).bind (·.dst):=rfl
@[go_sem] theorem fC(k:Nat)(b:Bool)(t:List (Nat × AV))(o:List (Nat × List AV)):St.learn (some k) b ⟨t,o⟩=⟨ZP k (.v (.bool b)) t,o⟩:=rfl
def lkO(d:Option Nat)(l:List (Nat × AV)):Option AV:=match d with
 |some k=>lk k l
 |none=>none
@[go_sem] theorem iM(k:Nat)(l:List (Nat × AV)):lkO (some k) l=lk k l:=rfl
@[go_sem] theorem eC(j:Nat):guardOf all j st=lkO ((all[j]?).bind (·.dst)) st.tmps:=by
 unfold guardOf lkO;cases (all[j]?).bind (·.dst)<;>rfl
@[go_sem] theorem gP(b':Bool)(p q:Prop):FF b' true p q=((b'=true→p)∧(b'=false→q)):=by cases b'<;>simp[FF]
@[go_sem] theorem gN(b':Bool)(p q:Prop):FF b' false p q=((b'=false→p)∧(b'=true→q)):=by cases b'<;>simp[FF]
@[go_sem] theorem jP(x:Operand):Ba X all (⟨d,.move x,ty,pos,aft,none⟩::rest) K st=Ba X all rest K (st.put d (ev X.C st x)):=nd rfl
@[go_sem] theorem gJ(x:Operand):Ba X all (⟨d,.assign x,ty,pos,aft,none⟩::rest) K st=Ba X all rest K (st.put d (ev X.C st x)):=nd rfl
@[go_sem] theorem fJ(t:TypeId)(k:Nat):Ba X all (⟨some k,.makeMap t none,ty,pos,aft,none⟩::rest) K st=Ee (some k) (Ba X all rest K) (some (.mp (nmM k),⟨(st.kill [] [nmM k]).tmps,(nmM k,[])::(st.kill [] [nmM k]).Al⟩)):=nd rfl
@[go_sem] theorem gK(t:TypeId)(m k:Operand):Ba X all (⟨d,.lookup t m k false,ty,pos,aft,none⟩::rest) K st=HW d (Ba X all rest K) (Qc X.C.P t st.Al (ev X.C st m) (ev X.C st k)) st:=Dj _ _ _ _
def Z5(t:List (Nat × AV))(o:Option (List (Nat × List AV)))(K:St→Prop):Prop:=match o with
 |some os=>K ⟨t,os⟩
 |none=>False
@[go_sem] theorem eQ(t:List (Nat × AV))(os:List (Nat × List AV))(K:St→Prop):Z5 t (some os) K=K ⟨t,os⟩:=nd rfl
@[go_sem] theorem dA(t:TypeId)(m k v:Operand):Ba X all (⟨none,.mapUpdate t m k v,ty,pos,aft,none⟩::rest) K st=Z5 st.tmps (NG X.C.P t st.Al (ev X.C st m) (ev X.C st k) (ev X.C st v)) (Ba X all rest K):=by
 simp only[Ba,HU,doA,GQ];cases h:NG X.C.P t st.Al (ev X.C st m) (ev X.C st k) (ev X.C st v)<;>simp[h,Ee,Z5,Wd]
@[go_sem] theorem fD(P:Program)(t:TypeId)(Al:List (Nat × List AV))(s:Nat)(k:AV):Qc P t Al (.mp s) k=(lk s Al).bind fun cs=>L2 P t cs k:=rfl
@[go_sem] theorem fB(P:Program)(t:TypeId)(Al:List (Nat × List AV))(s:Nat)(k v:AV):NG P t Al (.mp s) k v=(lk s Al).bind fun cs=>(LZ P t cs k v).map fun cs'=>Gk s cs' Al:=rfl
@[go_sem] theorem jQ(c a b:Operand):Ba X all (⟨d,.pick c a b,ty,pos,aft,none⟩::rest) K st=HW d (Ba X all rest K) (Lx (ev X.C st c) (ev X.C st a) (ev X.C st b)) st:=Dj _ _ _ _
@[go_sem] theorem iS(t:TypeId)(k:Nat):Ba X all (⟨some k,.alloc t,ty,pos,aft,none⟩::rest) K st=Ee (some k) (Ba X all rest K) (match zeroOf X.C.P t with
  |some zs=>some (.ptr (nm k) 0,⟨(st.kill [] [nm k]).tmps,(nm k,vals zs)::(st.kill [] [nm k]).Al⟩)
  |none=>none):=by
 simp only[Ba,HU,doA,GQ];cases zeroOf X.C.P t<;>rfl
@[go_sem] theorem kf(t:TypeId)(x:Operand)(k:Nat):Ba X all (⟨some k,.box t x,ty,pos,aft,none⟩::rest) K st=Ee (some k) (Ba X all rest K) (if Cf (ev X.C st x).cells=true then some (.ptr (nm k) 0,⟨(st.kill [] [nm k]).tmps,(nm k,EC [] [nm k] (ev X.C st x).cells)::(st.kill [] [nm k]).Al⟩) else none):=nd rfl
def SY(C:Ctx)(t:TypeId)(p:AV)(Al:List (Nat × List AV)):Option AV:=match AY C.P t,BH C.P t with
 |some agg,some n=>PH agg n Al p
 |_,_=>none
@[go_sem] theorem gF(C:Ctx)(t:TypeId)(p:AV)(Al:List (Nat × List AV)):SY C t p Al=(match AY C.P t,BH C.P t with
 |some agg,some n=>PH agg n Al p
 |_,_=>none):=rfl
@[go_sem] theorem jO(t:TypeId)(x:Operand):Ba X all (⟨d,.load t x,ty,pos,aft,none⟩::rest) K st=HW d (Ba X all rest K) (SY X.C t (ev X.C st x) st.Al) st:=by
 simp only[Ba,HU,doA,GQ,SY];rw[← Dj];congr 1;cases AY X.C.P t<;>cases BH X.C.P t<;>rfl
def Z6(o:Option St)(K:St→Prop):Prop:=match o with
 |some st=>K st
 |none=>False
@[go_sem] theorem eR(st:St)(K:St→Prop):Z6 (some st) K=K st:=nd rfl
@[go_sem] theorem iZ(t:TypeId)(p x:Operand):Ba X all (⟨none,.store t p x,ty,pos,aft,none⟩::rest) K st=(match BH X.C.P t with
  |some n=>Z6 (O7 n st (ev X.C st p) (ev X.C st x)) (Ba X all rest K)
  |none=>False):=by
 simp only[Ba,HU,doA,GQ];cases BH X.C.P t with
 |none=>rfl
 |some n=>cases h:O7 n st (ev X.C st p) (ev X.C st x)<;>simp[h,Ee,Z6,Wd]
@[go_sem] theorem iX(t:TypeId)(x i:Operand):Ba X all (⟨d,.index t x i,ty,pos,aft,none⟩::rest) K st=HW d (Ba X all rest K) (Zm X.C.P t (ev X.C st i) (ev X.C st x)) st:=Dj _ _ _ _
@[go_sem] theorem dw(t:TypeId)(x:Operand)(i:Nat):Ba X all (⟨d,.fieldAddr t x i,ty,pos,aft,none⟩::rest) K st=HW d (Ba X all rest K) (match A1 X.C.P t i with
  |some off=>MH off (ev X.C st x)
  |none=>none) st:=by
 simp only[Ba,HU,doA,GQ];cases A1 X.C.P t i with
 |none=>rfl
 |some off=>exact Dj _ _ _ _
def OJ(C:Ctx)(t:TypeId)(x i:AV):Option AV:=match i with
 |.v (.int _ k)=>match Au C.P t with
   |some (_,n)=>OI n k x
   |none=>match Du C.P t with
    |some (len,n)=>OH len n k x
    |none=>none
 |_=>none
@[go_sem] theorem fy(C:Ctx)(t:TypeId)(x:AV)(kd:IntKind)(k:Int):OJ C t x (.v (.int kd k))=(match Au C.P t with
  |some (_,n)=>OI n k x
  |none=>match Du C.P t with
   |some (len,n)=>OH len n k x
   |none=>none):=rfl
@[go_sem] theorem dx(t:TypeId)(x i:Operand):Ba X all (⟨d,.indexAddr t x i,ty,pos,aft,none⟩::rest) K st=HW d (Ba X all rest K) (OJ X.C t (ev X.C st x) (ev X.C st i)) st:=by
 simp only[Ba,HU,doA,GQ,OJ];rw[← Dj];congr 1;generalize ev X.C st i=v;cases v<;>try rfl
 rename_i u;cases u<;>try rfl
 simp only;cases Au X.C.P t<;>cases Du X.C.P t<;>rfl
@[go_sem] theorem eH(x:Operand):Ba X all (⟨d,.nilCheck x,ty,pos,aft,none⟩::rest) K st=HW d (Ba X all rest K) (R5 (ev X.C st x)) st:=Dj _ _ _ _
@[go_sem] theorem iT(op:BinOp)(t t2:TypeId)(x y:Operand):Ba X all (⟨d,.binOp op t x y t2,ty,pos,aft,none⟩::rest) K st=HW d (Ba X all rest K) (WW X.C.P op t (ev X.C st x) (ev X.C st y)) st:=Dj _ _ _ _
@[go_sem] theorem jR(op:UnOp)(t:TypeId)(x:Operand):Ba X all (⟨d,.unOp op t x,ty,pos,aft,none⟩::rest) K st=HW d (Ba X all rest K) (unA op (ev X.C st x)) st:=Dj _ _ _ _
def JB(i:Nat):AV→Option AV
 |.tup cs=>cs[i]?
 |_=>none
@[go_sem] theorem cV(i:Nat)(cs:List AV):JB i (.tup cs)=cs[i]?:=rfl
@[go_sem] theorem fI(x:Operand)(i:Nat):Ba X all (⟨d,.extract x i,ty,pos,aft,none⟩::rest) K st=HW d (Ba X all rest K) (JB i (ev X.C st x)) st:=by
 simp only[Ba,HU,doA,GQ,JB];rw[← Dj];congr 1;generalize ev X.C st x=v;cases v<;>rfl
def Oe(C:Ctx)(t:TypeId)(ps:List (Nat × AV)):Option AV:=match zeroOf C.P t,AY C.P t with
  |some zs,some true=>if sized C.P t=true then (Lg (placeOf C.P t) (vals zs) ps).map .agg else none
  |_,_=>none
@[go_sem] theorem eU(C:Ctx)(t:TypeId)(ps:List (Nat × AV)):Oe C t ps=(match zeroOf C.P t,AY C.P t with
  |some zs,some true=>if sized C.P t=true then (Lg (placeOf C.P t) (vals zs) ps).map .agg else none
  |_,_=>none):=rfl
def HO(C:Ctx)(st:St):List (Nat × Operand)→List (Nat × AV)
 |[]=>[]
 |(i,x)::ps=>(i,ev C st x)::HO C st ps
@[go_sem] theorem fK(C:Ctx):HO C st []=[]:=rfl
@[go_sem] theorem eI(C:Ctx)(i:Nat)(x:Operand)(ps:List (Nat × Operand)):HO C st ((i,x)::ps)=(i,ev C st x)::HO C st ps:=rfl
def JO(C:Ctx)(ps:Array (Nat × Operand)):parts C st ps=HO C st ps.toList:=by
 unfold parts
 induction ps.toList with
 | nil=>rfl
 | cons p l ih=>obtain⟨i,x⟩:=p;simp only[List.map_cons,HO,ih]
@[go_sem] theorem iU(t:TypeId)(ps:Array (Nat × Operand)):Ba X all (⟨d,.build t ps,ty,pos,aft,none⟩::rest) K st=HW d (Ba X all rest K) (Oe X.C t (HO X.C st ps.toList)) st:=by
 simp only[Ba,HU,doA,GQ,Oe,JO];rw[← Dj];congr 1;cases zeroOf X.C.P t with
 |none=>rfl
 |some zs=>cases AY X.C.P t with
  |none=>rfl
  |some b=>cases b with
   | false=>rfl
   | true =>
    simp only;split
    ·simp[Option.map_map,Function.comp_def]
    ·rfl
@[go_sem] theorem cq(t:TypeId)(len k:Nat)(ps:Array (Nat × Operand)):Ba X all (⟨some k,.buildSlice t len ps,ty,pos,aft,none⟩::rest) K st=(if k∈X.deep then Ee (some k) (Ba X all rest K) (match Bg X.C.P t with
  |some (e,1,_)=>match zeroOf X.C.P e with
   |some _=>ba (nm k) st len (HO X.C st ps.toList)
   |none=>none
  |_=>none) else Ee (some k) (Ba X all rest K) (match Bg X.C.P t with
  |some (e,n,_)=>match zeroOf X.C.P e with
   |some zs=>a8 (nm k) n len zs st (HO X.C st ps.toList)
   |none=>none
  |none=>none)):=by
 simp only[Ba,HU,doA,MN]
 by_cases hk:k∈X.deep<;>simp only[hk,if_true,if_false]
 ·simp only[P8,JO];cases Bg X.C.P t with
  |none=>rfl
  |some p =>
   obtain⟨e,n,b⟩:=p;rcases n with _|_|n<;>rfl
 ·simp only[GQ,JO];cases Bg X.C.P t with
  |none=>rfl
  |some p=>rfl
def bg(C:Ctx)(k:Nat)(t:TypeId)(l c:AV)(st:St):Option (AV × St):=match some k,Bg C.P t,l,c with
  |some d,some (e,n,_),.v (.int _ l),.v (.int _ c)=>match zeroOf C.P e with
   |some zs=>SZ (nm d) n zs st l c
   |none=>none
  |_,_,_,_=>none
@[go_sem] theorem gG(C:Ctx)(k:Nat)(t:TypeId)(kl kc:IntKind)(l c:Int):bg C k t (.v (.int kl l)) (.v (.int kc c)) st=(match Bg C.P t with
  |some (e,n,_)=>match zeroOf C.P e with
   |some zs=>SZ (nm k) n zs st l c
   |none=>none
  |none=>none):=by
 unfold bg;cases Bg C.P t<;>rfl
@[go_sem] theorem dz(t:TypeId)(k:Nat)(l c:Operand):Ba X all (⟨some k,.makeSlice t l c,ty,pos,aft,none⟩::rest) K st=Ee (some k) (Ba X all rest K) (bg X.C k t (ev X.C st l) (ev X.C st c) st):=nd rfl
def WY:Option AV→Option (Option Nat)
 |none=>some none
 |some x=>(Ml x).map some
@[go_sem] theorem dY:WY none=some none:=rfl
@[go_sem] theorem dZ(x:AV):WY (some x)=(Ml x).map some:=rfl
@[go_sem] theorem eD(C:Ctx)(o:Option Operand):B7 C st o=WY (o.map (ev C st)):=by cases o<;>rfl
@[go_sem] theorem iY(t:TypeId)(x:Operand)(lo hi mx:Option Operand)(k:Nat):Ba X all (⟨some k,.slice t x lo hi mx,ty,pos,aft,none⟩::rest) K st=(if k∈X.deep then Ee (some k) (Ba X all rest K) (TX X.C st t (ev X.C st x) lo hi mx) else Ee (some k) (Ba X all rest K) (Hf X.C st t (ev X.C st x) lo hi mx)):=nd rfl
@[go_sem] theorem jB(C:Ctx)(t:TypeId)(r b k:Nat)(es:List (List AV))(hi mx:Operand):TX C st t (.sl (.own r b) k es) none (some hi) (some mx)=(match Ml (ev C st hi),Ml (ev C st mx),Au C.P t with
  |some h,some m,some (_,n)=>if m=h∧k=n∧h≤es.length then some (.sl (.own r b) n (es.take h),st) else none
  |_,_,_=>none):=by
 simp only[TX,B7];cases Ml (ev C st hi) with
 |none=>rfl
 |some h=>cases Ml (ev C st mx) with
  |none=>rfl
  |some m=>cases Au C.P t with
   |none=>rfl
   |some p=>rfl
@[go_sem] theorem fT(C:Ctx)(t:TypeId)(tg:Tag)(n:Nat)(es:List (List AV))(lo hi mx:Option Operand):Hf C st t (.sl tg n es) lo hi mx=(match B7 C st lo,B7 C st hi,B7 C st mx,Au C.P t with
  |some l,some (some h),some none,some (_,m)=>if n=m then IL m false (l.getD 0) h st (.sl tg n es) else none
  |some l,some none,some none,some (_,m)=>if n=m then IL m false (l.getD 0) es.length st (.sl tg n es) else none
  |some l,some (some h),some (some x),some (_,m)=>if n=m∧x=h then IL m true (l.getD 0) h st (.sl tg n es) else none
  |_,_,_,_=>none):=by
 unfold Hf;cases B7 C st lo with
 |none=>rfl
 |some l=>cases B7 C st hi with
  |none=>rfl
  |some h=>cases B7 C st mx with
   |none=>cases h<;>rfl
   |some m=>cases Au C.P t with
    |none=>cases h<;>cases m<;>rfl
    |some p =>
     obtain⟨e,k⟩:=p;simp only[elems]
     by_cases hn:n=k
     ·cases h<;>cases m<;>simp[hn]
     ·cases h<;>cases m<;>simp[hn]
@[go_sem] theorem eL(C:Ctx)(t:TypeId)(lo hi mx:Option Operand):Hf C st t (.v (.slice none 0 0)) lo hi mx=(match B7 C st lo,B7 C st hi,B7 C st mx,Au C.P t with
  |some l,some h,some none,some (_,m)=>IL m false (l.getD 0) (h.getD 0) st (.v (.slice none 0 0))
  |some l,some (some h),some (some x),some (_,m)=>if x=h then IL m true (l.getD 0) h st (.v (.slice none 0 0)) else none
  |_,_,_,_=>none):=by
 unfold Hf;cases B7 C st lo with
 |none=>rfl
 |some l=>cases B7 C st hi with
  |none=>rfl
  |some h=>cases B7 C st mx with
   |none=>cases h<;>rfl
   |some m=>cases Au C.P t with
    |none=>cases h<;>cases m<;>rfl
    |some p=>cases h<;>cases m<;>rfl
@[go_sem] theorem dy(f:Nat)(x:Operand):Ba X all (⟨d,.makeFunc (.func f) #[x] #[],ty,pos,aft,none⟩::rest) K st=Ba X all rest K (st.put d (.mv f [ev X.C st x])):=nd rfl
@[go_sem] theorem eG(f:Nat)(AS:Array Operand):Ba X all (⟨d,.makeFunc (.func f) #[] AS,ty,pos,aft,none⟩::rest) K st=Ba X all rest K (st.put d (.fn f (CX X.C st AS.toList))):=by
 rw[LQ];rfl
@[go_sem] theorem jM(f:Operand)(args:Array Operand)(ts:Array TypeId):Ba X all (⟨d,.call ⟨.value f,args,ts⟩,ty,pos,aft,none⟩::rest) K st=U0 X d (ev X.C st f) (CX X.C st args.toList) (Ba X all rest K) st:=nd rfl
@[go_sem] theorem kj(x:Operand)(t:TypeId):Ba X all (⟨d,.call ⟨.builtin .len,#[x],#[t]⟩,ty,pos,aft,none⟩::rest) K st=(if Lq X.C.P t (ev X.C st x)=true then HW d (Ba X all rest K) (OP (ev X.C st x)) st else False):=by
 simp only[Ba,HU,doA,GQ,Jr];split
 ·exact Dj _ _ _ _
 ·rfl
@[go_sem] theorem gH(x y:Operand)(t t2:TypeId)(k:Nat):Ba X all (⟨some k,.call ⟨.builtin .append,#[x,y],#[t,t2]⟩,ty,pos,aft,none⟩::rest) K st=(if k∈X.deep then Ee (some k) (Ba X all rest K) (match Bg X.C.P t with
  |some (_,1,_)=>if AD X.C.P t2=true then Nc (nm k) st (ev X.C st x) (ev X.C st y) else none
  |_=>none) else (match Bg X.C.P t with
  |some (e,n,_)=>if AD X.C.P t2=true then Ee (some k) (Ba X all rest K) (Nb (nm k) n st (ev X.C st x) (ev X.C st y)) else Ee (some k) (Ba X all rest K) (match zeroOf X.C.P e with
   |some zs=>K5 X.C.P (nm k) n t2 zs st (ev X.C st x) (ev X.C st y)
   |none=>none)
  |none=>False)):=by
 simp only[Ba,HU,doA,MN]
 by_cases hk:k∈X.deep<;>simp only[hk,if_true,if_false]
 ·simp only[P7];cases Bg X.C.P t with
  |none=>rfl
  |some p =>
   obtain⟨e,n,b⟩:=p;rcases n with _|_|n<;>rfl
 ·simp only[GQ,Jr];cases Bg X.C.P t with
  |none=>rfl
  |some p =>
   obtain⟨e,n,b⟩:=p;simp only;split<;>rfl
@[go_sem] theorem jN(x y:Operand)(t t2:TypeId):Ba X all (⟨d,.call ⟨.builtin .copy,#[x,y],#[t,t2]⟩,ty,pos,aft,none⟩::rest) K st=Ee d (Ba X all rest K) (U8 X.C.P t st (ev X.C st x) (ev X.C st y)):=nd rfl
@[go_sem] theorem iV(x:Operand)(t:TypeId):Ba X all (⟨d,.call ⟨.builtin .clear,#[x],#[t]⟩,ty,pos,aft,none⟩::rest) K st=Ee d (Ba X all rest K) (QB X.C.P t st (ev X.C st x)):=nd rfl
@[go_sem] theorem kg(x:Operand)(t:TypeId):Ba X all (⟨d,.call ⟨.builtin .cap,#[x],#[t]⟩,ty,pos,aft,none⟩::rest) K st=HW d (Ba X all rest K) (Z9 X.C.P t (ev X.C st x)) st:=Dj _ _ _ _
def Zs:AV→AV→Option AV
 |.v (.int k a),.v (.int _ b)=>some (.v (.int k (if b > a then b else a)))
 |_,_=>none
def dg:AV→AV→Option AV
 |.v (.int k a),.v (.int _ b)=>some (.v (.int k (if b<a then b else a)))
 |_,_=>none
@[go_sem] theorem iN(k k':IntKind)(a b:Int):Zs (.v (.int k a)) (.v (.int k' b))=some (.v (.int k (if b > a then b else a))):=rfl
@[go_sem] theorem iO(k k':IntKind)(a b:Int):dg (.v (.int k a)) (.v (.int k' b))=some (.v (.int k (if b<a then b else a))):=rfl
@[go_sem] theorem kn(x y:Operand)(ts:Array TypeId):Ba X all (⟨d,.call ⟨.builtin .max,#[x,y],ts⟩,ty,pos,aft,none⟩::rest) K st=HW d (Ba X all rest K) (Zs (ev X.C st x) (ev X.C st y)) st:=by
 simp only[Ba,HU,doA,GQ,Jr,Zs];rw[← Dj];congr 1;generalize ev X.C st x=v;generalize ev X.C st y=v';cases v with
 | v u=>cases v' with
  | v u'=>cases u<;>cases u'<;>rfl
  |_=>cases u<;>rfl
 |_=>rfl
end
-- values
@[go_sem] theorem iL(P:Program)(t:TypeId)(tg:Tag)(n:Nat)(es:List (List AV)):Lq P t (.sl tg n es)=AD P t:=rfl
@[go_sem] theorem gC(P:Program)(t:TypeId):Lq P t (.v (.slice none 0 0))=AD P t:=rfl
@[go_sem] theorem gD(P:Program)(t:TypeId)(s:ByteArray):Lq P t (.v (.string s))=KG P t:=rfl
@[go_sem] theorem jF(tg:Tag)(n:Nat)(es:List (List AV)):OP (.sl tg n es)=some (.v (.int .i64 es.length)):=rfl
@[go_sem] theorem iI(xs:List AV):OP (.mem true xs)=some (.v (.int .i64 xs.length)):=rfl
@[go_sem] theorem gB(P:Program)(t:TypeId)(b:Bool)(xs:List AV):Lq P t (.mem b xs)=AD P t:=rfl
@[go_sem] theorem iJ:OP (.v (.slice none 0 0))=some (.v (.int .i64 0)):=rfl
@[go_sem] theorem iK(s:ByteArray):OP (.v (.string s))=some (.v (.int .i64 s.size)):=rfl
@[go_sem] theorem iG(r i j off m:Nat)(bss:List (List (List AV))):OP (.hnd .dsl r i j off m bss)=some (.v (.int .i64 bss.length)):=rfl
@[go_sem] theorem iH(r i j off m:Nat)(b:List (List AV)):OP (.hnd .isl r i j off m [b])=some (.v (.int .i64 b.length)):=rfl
@[go_sem] theorem gA(P:Program)(t:TypeId)(k:HK)(r i j off m:Nat)(b:List (List (List AV))):Lq P t (.hnd k r i j off m b)=AD P t:=rfl
@[go_sem] theorem jS(p x y:Bool):Lx (.v (.bool p)) (.v (.bool x)) (.v (.bool y))=some (.v (.bool (bif p then x else y))):=rfl
@[go_sem high] theorem jd(x y:AV):Lx (.v (.bool true)) x y=some x:=by unfold Lx;split<;>simp_all
@[go_sem high] theorem jc(x y:AV):Lx (.v (.bool false)) x y=some y:=by unfold Lx;split<;>simp_all
@[go_sem] theorem iQ(s o:Nat):R5 (.ptr s o)=some (.ptr s o):=rfl
@[go_sem] theorem jJ(t:Tag)(i:Nat)(cs:List AV)(o:Nat):R5 (.ep t i cs o)=some (.ep t i cs o):=rfl
@[go_sem] theorem jK(f:Nat)(cs:List AV):R5 (.fn f cs)=some (.fn f cs):=rfl
attribute [go_sem] cond_true cond_false bne_self_eq_false ZP mkA PH MH OI OH elems O7 a8 SZ Ml Nb IL Lg QR Zm AV.cells IG Cf Gk cut GN LA rowsOf vals chunk AV.kill EC Mj HS St.kill AV.freeze Cc nm unA WW Ub LG UA Bo Ew AV.setRow GI St.setRow AV.AM EN N0 NZ St.AM U8 QB Z9 K5 Option.isNone_none Option.isNone_some AV.By GH St.By Hset OZ ba Nc frozen St.freeze X5 List.map_cons List.map_nil List.length_cons List.length_nil List.drop_zero List.drop_succ_cons List.take_succ_cons List.take_zero List.drop_nil List.take_nil List.cons_append List.nil_append List.append_nil List.getElem?_toArray List.getElem?_cons_zero List.getElem?_cons_succ List.flatten_cons List.flatten_nil List.replicate_zero List.replicate_succ Option.map_some Option.map_none Option.getD_some Option.getD_none Option.bind_some Option.bind_none if_true if_false Nat.reduceEqDiff Nat.reduceAdd Nat.reduceMul Nat.reduceLeDiff Nat.reduceSub Nat.reduceLT Nat.zero_add Nat.add_zero and_true true_and and_self List.mem_cons List.mem_nil_iff List.not_mem_nil or_false false_or or_self not_false_eq_true not_true_eq_false Bool.false_eq_true Bool.true_eq_false Bool.not_true Bool.not_false Bool.and_true Bool.true_and Bool.false_and Bool.and_false beq_self_eq_true decide_true decide_false reduceCtorEq forall_const implies_true false_implies
@[go_sem] theorem ea(n:Nat):(0≤(n:Int))=True:=by simp
attribute [go_sem] Int.cast_ofNat_Int Int.reduceBNe Int.reduceBEq Bool.not_not Int.toNat_natCast Int.toNat_zero Int.reduceLE Int.reduceLT Int.reduceToNat Int.reduceAdd Int.reduceSub Int.reduceMul Int.reduceNeg Nat.le_refl Nat.zero_le Nat.sub_zero List.take_length List.length_take List.length_drop List.length_append List.length_map
def wrap64(n:Int)(h1:-9223372036854775808≤n)(h2:n≤9223372036854775807):IntKind.i64.wrap n=n:=by
 simp only[IntKind.wrap,IntKind.signed,IntKind.bits,Bool.true_and,decide_eq_true_eq,ge_iff_le,Nat.reduceSub];split<;>omega
@[go_sem] theorem jj(ρ:Rn):Ey ρ []=[]:=rfl
@[go_sem] theorem gL(ρ:Rn)(k:Nat)(cs:List AV)(o:List (Nat × List AV)):Ey ρ ((k,cs)::o)=(match lk k ρ.m with|some s=>(s,Fq ρ cs)::Ey ρ o|none=>Ey ρ o):=by
 simp only[Ey,List.filterMap_cons];cases lk k ρ.m<;>rfl
attribute [go_sem] names PU AV.ren Fq bM LF inv rngs Way.back Jp Gt pack List.filterMap_cons_some List.filterMap_cons_none List.filterMap_nil List.map_map List.mem_singleton
attribute [go_sem ↓] reduceIte
end Go.Abs
namespace Go.Abs
def YC(v:Way)(st:St):List (Nat × List AV)→Prop
 |[]=>True
 |(s,cs)::l=>lk s (Ey v.ρ st.Al)=some cs∧YC v st l
def YC.has{v:Way}{st:St}:∀ {ob:List (Nat × List AV)},YC v st ob→Has v st ob
 |(s,c)::l,h,s',cs,hs=>by
  simp only[lk]at hs;split at hs
  ·rename_i he;injection hs with hs;subst hs;subst he;exact h.1
  ·exact YC.has h.2 s' cs hs
def HG(v:Way)(ob:List (Nat × List AV)):Bool :=
 Ep v.ρ.l&&Ep v.ρ.m&&Ep v.back.l&&Ep v.back.m&&(rngs v.ρ.m).all (fun s=>(names ob).contains s)&&(rngs v.fm).all (fun s=>s%64 !=63)
def HG.ok{v:Way}{ob:List (Nat × List AV)}(h:HG v ob=true):v.OK ob∧(rngs v.fm).all (fun s=>s%64 !=63)=true:=by
 simp only[HG,Bool.and_eq_true]at h;obtain⟨⟨⟨⟨⟨h1,h2⟩,h3⟩,h4⟩,h5⟩,h6⟩:=h;refine⟨⟨⟨h1,h2⟩,⟨h3,h4⟩,fun s hs=>?_⟩,h6⟩;have:=List.all_eq_true.1 h5 s hs;simpa using this
section
variable {X:Env} {d:Option Nat} {fid:Nat} {xs xs':List AV} {K:St→Prop} {st:St} {y y':AV} {ob ob':List (Nat × List AV)}
def Ad.Ar{C:Ctx}{f:Nat}{xs ys:List AV}{o o':List (Nat × List AV)}{y:AV}(h:Ad C f ys o y o')(hw:IV xs ys):Ad C f xs o y o' :=
 ⟨h.1,fun g w us hg hv ho=>h.2 g w us hg (hw g w us hv) ho⟩
def Ad.ren{C:Ctx}{f:Nat}{xs:List AV}{o o':List (Nat × List AV)}{y:AV}(h:Ad C f xs o y o')(ρ:Rn)(hρ:ρ.OK)(hext:∀ s,s∈names o→lk s ρ.m=some s):Ad C f xs o (y.ren ρ) (Ey ρ o') :=
 ⟨h.1,fun g w us hg hv ho=>Calls.mono (h.2 g w us hg hv ho) fun e w' ⟨u,g',he,hfr,hy,ho'⟩=>⟨u,g'.ren ρ g',he,hfr.ren hρ hext,VR.ren hρ _ _ hy,fun s cs hs=>by
  obtain⟨s0,cs0,h1,h2,rfl⟩:=I3 hρ hs;exact DI.ren hρ h1 (ho' s0 cs0 h2)⟩⟩
def UG(v:Way)(st:St):List (Nat × List AV)→Prop
 |[]=>True
 |(s,cs)::l=>(∃ x,lk s (Ey v.ρ st.Al)=some x∧Ai x cs)∧UG v st l
def My:List (Nat × List AV)→List (Nat × List AV)→Prop
 |[],[]=>True
 |(s,x)::l,(s',y)::l'=>s=s'∧IV x y∧My l l'
 |_,_=>False
def UG.split{v:Way}{st:St}:∀ {ob:List (Nat × List AV)},UG v st ob→∃ o2,names o2=names ob∧YC v st o2∧My o2 ob
 |[],_=>⟨[],rfl,trivial,trivial⟩
 |(s,cs)::l,⟨⟨x,h1,h2⟩,h3⟩=>by
  obtain⟨o2,a,b,c⟩:=UG.split h3;exact⟨(s,x)::o2,by simp only[names,List.map_cons]at a ⊢;rw[a],⟨h1,b⟩,rfl,h2.AR,c⟩
def My.get:∀ {o2 ob:List (Nat × List AV)},My o2 ob→∀ s cs,lk s ob=some cs→∃ x,lk s o2=some x∧IV x cs
 |[],[],_,s,cs,h=>by cases h
 |(k,x)::o2,(k',y)::ob,⟨e,hw,hr⟩,s,cs,h=>by
  subst e;simp only[lk]at h ⊢;split at h
  ·rename_i he;injection h with h;subst h
   exact⟨x,by simp[he],hw⟩
  ·rename_i he;obtain⟨x',h1,h2⟩:=My.get hr s cs h;exact⟨x',by simp[he,h1],h2⟩
 |[],_::_,h,_,_,_=>h.elim
 |_::_,[],h,_,_,_=>h.elim
def Ad.ck{C:Ctx}{f:Nat}{xs:List AV}{o o2 o':List (Nat × List AV)}{y:AV}(h:Ad C f xs o y o')(hn:names o2=names o)(hw:My o2 o):Ad C f xs o2 y o' :=
 ⟨h.1,fun g w us hg hv ho=>by
  have:=h.2 g w us hg hv fun s cs hs=>by
   obtain⟨x,h1,h2⟩:=hw.get s cs hs;exact(ho s x h1).lift rfl (ho s x h1).1 rfl (fun us hu=>h2 g w _ hu)
  rw[hn];exact this⟩
mutual
def GY:∀ x:AV,x.freeze []=x
 |.undef=>rfl
 |.v x=>rfl
 |.agg cs=>by simp only[AV.freeze,EB cs]
 |.tup cs=>by simp only[AV.freeze,EB cs]
 |.sl (.own r lo) n es=>by simp[AV.freeze]
 |.sl .no n es=>rfl
 |.sl .full n es=>rfl
 |.ptr s off=>rfl
 |.ep (.own r lo) i cells off=>by simp[AV.freeze]
 |.ep .no i cells off=>rfl
 |.ep .full i cells off=>rfl
 |.fn f AS=>by simp only[AV.freeze,EB AS]
 |.mv f AS=>by simp only[AV.freeze,EB AS]
 |.mp o=>rfl
 |.ifc t x=>by simp only[AV.freeze,GY x]
 |.hnd k r i j off m bss=>by simp[AV.freeze]
 |.mem b xs=>by simp only[AV.freeze,EB xs]
def EB:∀ xs:List AV,Cc [] xs=xs
 |[]=>rfl
 | x::xs=>by simp only[Cc,GY x,EB xs]
end
def St.GY(st:St):st.freeze []=st:=by
 simp[St.freeze,Abs.GY,Abs.EB]
def Bq(v:Way)(hok:Ad X.C fid xs' ob y ob')(hx:Ai (Fq v.ρ xs) xs')(hv:HG v ob=true)(hh:UG v st ob)(hfl:v.ρ.bs=[]∨(Flat (y.ren v.back)∧IT (Ey v.back ob')))
 (hk:K ((st.app (rngs v.back.l) (rngs v.fm) (rngs v.back.m) (Ey v.back ob')).put d (y.ren v.back))):AW X d fid xs K st:=by
 obtain⟨o2,a,b,c⟩:=hh.split;have hv':HG v o2=true:=by unfold HG at hv ⊢;rw[a];exact hv
 refine .inl ⟨[],v,o2,(fun y2 o3=>y2=y∧o3=ob'),(HG.ok hv').1,(HG.ok hv').2,?_,?_,fun y2 o3 hS=>?_⟩
 ·rw[EB];exact((hok.Ar hx.AR).ck a c).toP
 ·rw[St.GY];exact b.has
 ·obtain⟨h1,h2⟩:=hS;subst h1;subst h2;rw[St.GY];exact⟨hfl,hk⟩
def Qw(fz:List Nat)(v:Way)(hok:Ad X.C fid xs' ob y ob')(hx:Ai (Fq v.ρ (Cc fz xs)) xs')(hv:HG v ob=true)(hh:UG v (st.freeze fz) ob)(hfl:v.ρ.bs=[]∨(Flat (y.ren v.back)∧IT (Ey v.back ob')))
 (hk:K (((st.freeze fz).app (rngs v.back.l) (rngs v.fm) (rngs v.back.m) (Ey v.back ob')).put d (y.ren v.back))):AW X d fid xs K st:=by
 obtain⟨o2,a,b,c⟩:=hh.split;have hv':HG v o2=true:=by unfold HG at hv ⊢;rw[a];exact hv
 refine .inl ⟨fz,v,o2,(fun y2 o3=>y2=y∧o3=ob'),(HG.ok hv').1,(HG.ok hv').2,((hok.Ar hx.AR).ck a c).toP,b.has,fun y2 o3 hS=>?_⟩;obtain⟨h1,h2⟩:=hS;subst h1;subst h2;exact⟨hfl,hk⟩
def FnP.Ar{C:Ctx}{f:Nat}{xs ys:List AV}{o:List (Nat × List AV)}{S:AV→List (Nat × List AV)→Prop}(h:FnP C f ys o S)(hw:IV xs ys):FnP C f xs o S :=
 ⟨h.1,fun g w us hg hv ho=>h.2 g w us hg (hw g w us hv) ho⟩
def FnP.ck{C:Ctx}{f:Nat}{xs:List AV}{o o2:List (Nat × List AV)}{S:AV→List (Nat × List AV)→Prop}(h:FnP C f xs o S)(hn:names o2=names o)(hw:My o2 o):FnP C f xs o2 S :=
 ⟨h.1,fun g w us hg hv ho=>by
  have:=h.2 g w us hg hv fun s cs hs=>by
   obtain⟨x,h1,h2⟩:=hw.get s cs hs;exact(ho s x h1).lift rfl (ho s x h1).1 rfl (fun us hu=>h2 g w _ hu)
  rw[hn];exact this⟩
def Z8{r n:Nat}{es es':List (List AV)}{ys:List AV}(hok:Qi X.C fid n es ys es')(hx:xs=.sl (.own r 0) n es::ys)(hk:K ((st.AM r n 0 es').put d (.tup []))):AW X d fid xs K st :=
 .inr ⟨r,n,es,ys,es',hx,hok,hk⟩
def LO:∀ l:List (Nat × List AV),Hn [] l=l
 |[]=>rfl
 |(k,x)::l=>by simp[Hn,LO l]
def TK:st.app [] [] [] []=st:=by simp[St.app,LO,JJ,JI]
def Ah(hok:Ad X.C fid xs' [] y [])(hx:Ai (Fq ⟨[],[],[]⟩ xs) xs')(hy:y.ren ⟨[],[],[]⟩=y')(hk:K (st.put d y')):AW X d fid xs K st:=by
 refine Bq ⟨⟨[],[],[]⟩,[],[]⟩ hok hx rfl trivial (.inl rfl) ?_;show K ((st.app [] [] [] []).put d (y.ren ⟨[],[],[]⟩));rw[TK,hy];exact hk
def Is(fz:List Nat)(hok:Ad X.C fid xs' [] y [])(hx:Ai (Fq ⟨[],[],[]⟩ (Cc fz xs)) xs')(hy:y.ren ⟨[],[],[]⟩=y')(hk:K ((st.freeze fz).put d y')):AW X d fid xs K st:=by
 refine Qw fz ⟨⟨[],[],[]⟩,[],[]⟩ hok hx rfl trivial (.inl rfl) ?_;show K (((st.freeze fz).app [] [] [] []).put d (y.ren ⟨[],[],[]⟩));rw[TK,hy];exact hk
def Dd(bs:List Nat)(hok:Ad X.C fid xs' [] y [])(hx:Ai (Fq ⟨[],[],bs⟩ xs) xs')(hy:y.ren ⟨[],[],[]⟩=y')(hf:Flat y')(hk:K (st.put d y')):AW X d fid xs K st:=by
 refine Bq ⟨⟨[],[],bs⟩,[],[]⟩ hok hx rfl trivial (.inr ?_) ?_
 ·show Flat (y.ren ⟨[],[],[]⟩)∧True;rw[hy];exact⟨hf,trivial⟩
 ·show K ((st.app [] [] [] []).put d (y.ren ⟨[],[],[]⟩));rw[TK,hy];exact hk
def Ac{body:(Ex→St→Prop)→St→Prop}{Q:Ex→St→Prop}{α:Type}(I:α→St)(Inv:α→Prop)(μ:α→Nat)(x0:α)(h0:Inv x0)(hi:Imp X st (I x0))
 (hr:∀ x,Inv x→∀ J:St→Prop,(∀ st' x',Inv x'→μ x'<μ x→Imp X st' (I x')→J st')→body (RJ J Q) (I x)):bf X body Q st :=
 ⟨α,I,Inv,μ,x0,h0,hi,fun x hx=>hr x hx _ fun _ x' h1 h2 h3=>⟨x',h1,h2,h3⟩⟩
end
@[go_sem] theorem eo{α:Type}(a:α)(p:α→Prop):(∃ x,some a=some x∧p x)=p a:=by simp
@[go_sem] theorem gb(x:AV):BZ x x=True:=eq_true .rfl
@[go_sem] theorem eN(x:AV):BZ x .undef=True:=eq_true .undef
@[go_sem] theorem dR(r lo n:Nat):BZ (.v (.slice none 0 0)) (.sl (.own r lo) (n+1) [])=True:=eq_true (.AO (by omega))
@[go_sem] theorem eM(n:Nat):BZ (.v (.slice none 0 0)) (.sl .no (n+1) [])=True:=eq_true (.AJ (by omega))
@[go_sem] theorem ga(n:Nat)(es:List (List AV)):BZ (.sl .full n es) (.sl .no n es)=True:=eq_true .full
def BZ.int{k:IntKind}{a b:Int}(h:a=b):BZ (.v (.int k a)) (.v (.int k b)):=.eq (by rw[h])
def BZ.sl{t:Tag}{n:Nat}{a b:List (List AV)}(h:a=b):BZ (.sl t n a) (.sl t n b):=.eq (by rw[h])
def Bd{X:Env}{rs:List ResultVar}{y:AV}{o':List (Nat × List AV)}{st:St}(ρ:Rn)(xs:List AV)(h1:Dp X.C st rs=some xs)(h2:ρ.OK)(h3:∀ s∈X.ext,lk s ρ.m=some s)(h4:BZ ((pack xs).ren ρ) y)(h5:Gt (LF ρ st) o'):R9 X rs y o' .ret st :=
 ⟨xs,ρ,h1,h2,h3,h4,h5⟩
@[go_sem high] theorem cu(xs:List AV):Ai xs xs=True:=eq_true (.self xs)
@[go_sem] theorem ct(x y:AV)(xs ys:List AV):Ai (x::xs) (y::ys)=(BZ x y∧Ai xs ys):=rfl
attribute [go_sem] UG St.app Hn LO JJ JI
end Go.Abs
namespace Go.Abs
def U6(P:Program)(src dst:TypeId):AV→Option AV
 |.v (.int _ n)=>match Vu P src,Vu P dst with
  |some _,some k=>some (.v (.int k (k.wrap n)))
  |_,_=>none
 |.v (.string s)=>if KG P src∧KG P dst then some (.v (.string s)) else none
 |.v (.slice none 0 0)=>if Hq P src∧KG P dst then some (.v (.string ⟨#[]⟩)) else none
 |.sl _ n es=>if n=1∧Hq P src∧KG P dst then (unbytes es).map fun l=>.v (.string ⟨l.toArray⟩) else none
 |_=>none
def Ud:AV→Bool
 |.sl (.own _ _) _ _=>true
 |_=>false
def eB:Fn→List Operand→Option Nat
 |.func f,[]=>some f
 |_,_=>none
def Qt(C:Ctx)(b:Builtin)(xs:List Operand)(ts:List TypeId)(st:St):Option AV :=
 match b with
 |.len=>match xs,ts with
  |[x],[t]=>if Lq C.P t (ev C st x)=true then OP (ev C st x) else none
  |_,_=>none
 |.max=>match xs with
  |[x,y]=>Zs (ev C st x) (ev C st y)
  |_=>none
 |.min=>match xs with
  |[x,y]=>dg (ev C st x) (ev C st y)
  |_=>none
 |_=>none
def Yt(C:Ctx)(o:Oper)(st:St):Option AV :=
 match o.op with
 |.move x=>some (ev C st x)
 |.assign x=>some (ev C st x)
 |.pick c a b=>Lx (ev C st c) (ev C st a) (ev C st b)
 |.load t a=>SY C t (ev C st a) st.Al
 |.fieldAddr t x i=>match A1 C.P t i with
  |some off=>MH off (ev C st x)
  |none=>none
 |.indexAddr t x i=>OJ C t (ev C st x) (ev C st i)
 |.nilCheck x=>R5 (ev C st x)
 |.binOp op t x y _=>WW C.P op t (ev C st x) (ev C st y)
 |.unOp op _ x=>unA op (ev C st x)
 |.convert src dst x=>U6 C.P src dst (ev C st x)
 |.extract x i=>JB i (ev C st x)
 |.field t x i=>QR C.P t i (ev C st x)
 |.index t x i=>Zm C.P t (ev C st i) (ev C st x)
 |.build t ps=>Oe C t (HO C st ps.toList)
 |.slice t x lo hi mx=>if Ud (ev C st x)&&mx.isSome then (TX C st t (ev C st x) lo hi mx).map (·.1) else (Hf C st t (ev C st x) lo hi mx).map (·.1)
 |.makeFunc fn first AS=>(eB fn first.toList).map fun f=>.fn f (CX C st AS.toList)
 |.makeInterface t x=>if C.P.concrete t then some (.ifc t (ev C st x)) else none
 |.call c=>match c.callee with
  |.builtin b=>Qt C b c.args.toList c.argTypes.toList st
  |_=>none
 |_=>none
section
variable {C:Ctx} {A:A0} {N:Nat} {g g':Gh} {st st':St} {a:Act} {w w':World} {P:Program}
def U7{src dst:TypeId}{x r:AV}{ux:Value}(hx:VR g w x ux)(h:U6 P src dst x=some r):∃ u,(convert src dst ux).run P w=.ok u w∧VR g w r u:=by
 unfold U6 at h;split at h
 ·simp only[VR]at hx;subst hx;split at h
  ·rename_i k1 k2 h1 h2;simp at h;subst h;refine⟨.int k2 (k2.wrap _),?_,by simp only[VR];rfl⟩;simp[convert,run_underlying (L0 h1),run_underlying (L0 h2),Conv.intToInt]
  ·cases h
 ·simp only[VR]at hx;subst hx;split at h
  ·rename_i hc;simp at h;subst h;exact⟨_,by simp[convert,run_underlying (Dk hc.1),run_underlying (Dk hc.2)];rfl,by simp[VR]⟩
  ·cases h
 ·simp only[VR]at hx;subst hx;split at h
  ·rename_i hc;simp at h;subst h;obtain⟨e,h1,h2,h3⟩:=E5 hc.1;exact⟨.string .empty,by simp[convert,run_underlying h1,run_underlying h2,run_underlying (Dk hc.2),Conv.bytesToString],by simp[VR];rfl⟩
  ·cases h
 ·rename_i t n es;split at h
  ·rename_i hc;obtain⟨rfl,hc⟩:=hc;obtain⟨l,hl,rfl⟩:=Option.map_eq_some_iff.1 h;obtain⟨e,h1,h2,h3⟩:=E5 hc.1;obtain⟨us,hs,hp,_⟩:=GW (n:=1) (es:=es) (by omega) (by simp[elems]) hx;obtain⟨ns,rfl,rfl⟩:=KH hl hp;obtain⟨hlen,hsrc⟩:=hs;refine⟨.string ⟨(ns.map (fun n=>UInt8.ofNat n.toNat)).toArray⟩,?_,by simp only[VR]⟩;rcases hsrc with ⟨ad,c,rfl,hcell⟩|⟨h0,c,rfl⟩
   ·rw[run_convert_bytes_string w src dst e _ _ _ h1 h2 (Dk hc.2)];have hlc:(loadCells ad es.length).run P w=.ok (ns.map (Value.int .u8)).toArray w:=by
     have:=run_loadCells_list (P:=P) w ad (ns.map (Value.int .u8)) hcell
     rwa [hlen,Nat.mul_one]at this
    rw[run_bytesToString w ad es.length c ns hlc,foldl_push];simp[ByteArray.empty,ByteArray.emptyWithCapacity]
    try rfl
   ·have:ns=[]:=by
     have:ns.length=0:=by simpa [h0]using hlen
     exact List.eq_nil_of_length_eq_zero this
    subst this;simp[convert,run_underlying h1,run_underlying h2,run_underlying (Dk hc.2),Conv.bytesToString];rfl
  ·cases h
 ·cases h
def TB(C:Ctx)(o:Oper)(a:Act)(g:Gh)(w:World)(x:AV):Prop:=∃ u,Does C.P o a w u w∧VR g w x u
def TB.of{o:Oper}{x:AV}{s:Sem Value}(ho:execOp a.eval o=(do Pure.pure (Next.value (← s))))(h:∃ u,s.run C.P w=.ok u w∧VR g w x u):TB C o a g w x:=by
 obtain⟨u,h1,h2⟩:=h;exact⟨u,H8 ho h1,h2⟩
def XB{x y r:AV}{ux uy:Value}{ts:Array TypeId}{ty:TypeId}(hx:VR g w x ux)(hy:VR g w y uy)(h:Zs x y=some r):∃ u,(Builtin.max_ ts ty #[ux,uy]).run P w=.ok u w∧VR g w r u:=by
 unfold Zs at h;split at h
 ·simp only[VR]at hx hy;subst hx;subst hy;have h':=Option.some.inj h;subst h';exact⟨_,by simp[Builtin.max_,Builtin.max2];rfl,by simp only[VR]⟩
 ·cases h
def XC{x y r:AV}{ux uy:Value}{ts:Array TypeId}{ty:TypeId}(hx:VR g w x ux)(hy:VR g w y uy)(h:dg x y=some r):∃ u,(Builtin.min_ ts ty #[ux,uy]).run P w=.ok u w∧VR g w r u:=by
 unfold dg at h;split at h
 ·simp only[VR]at hx hy;subst hx;subst hy;have h':=Option.some.inj h;subst h';exact⟨_,by simp[Builtin.min_,Builtin.min2];rfl,by simp only[VR]⟩
 ·cases h
def Qu(hR:R C A N g st a w){o:Oper}{b:Builtin}{xs:Array Operand}{ts:Array TypeId}{consts:Array Bool}(he:execOp a.eval o=builtin b ts o.type consts (xs.map a.eval)){x:AV}
 (h:Qt C b xs.toList ts.toList st=some x):TB C o a g w x:=by
 unfold Qt at h;split at h
 ·split at h
  ·rename_i y t hy ht;split at h
   ·rename_i hok;refine .of he ?_;rw[UQ hy,UQ ht];simp only[List.map_toArray,List.map_cons,List.map_nil];exact Q7 hok (hR.ev y) h
   ·cases h
  ·cases h
 ·split at h
  ·rename_i y z hy;refine .of he ?_;rw[Ob hy];simp only[List.map_toArray,List.map_cons,List.map_nil];exact XB (hR.ev y) (hR.ev z) h
  ·cases h
 ·split at h
  ·rename_i y z hy;refine .of he ?_;rw[Ob hy];simp only[List.map_toArray,List.map_cons,List.map_nil];exact XC (hR.ev y) (hR.ev z) h
  ·cases h
 ·cases h
def Wb(hR:R C A N g st a w){o:Oper}{x:AV}(h:Yt C o st=some x):TB C o a g w x:=by
 obtain⟨dst,op,ty,after,x2,x3⟩:=o;cases op<;>simp only[Yt]at h
 case move y=>simp at h;subst h;exact⟨_,.inl rfl,hR.ev y⟩
 case assign y=>simp at h;subst h;exact⟨_,.inl rfl,hR.ev y⟩
 case pick c y z =>
  obtain⟨u,k1,k2⟩:=Rq (P:=C.P) (hR.ev c) (hR.ev y) (hR.ev z) h;exact⟨u,.inl k1,k2⟩
 case load t p =>
  unfold SY at h;split at h
  ·rename_i agg n h1 h2;exact .of rfl (MS hR h1 h2 (hR.ev p) h)
  ·cases h
 case fieldAddr t p i =>
  split at h
  ·rename_i off h1;exact .of rfl (Pu h1 (hR.ev p) h)
  ·cases h
 case indexAddr t p i =>
  unfold OJ at h;split at h
  ·rename_i k ki hi;have hiv:=hR.ev i;rw[hi]at hiv;simp only[VR]at hiv;split at h
   ·rename_i e n he;exact .of rfl (by rw[hiv];exact NF he (hR.ev p) h)
   ·split at h
    ·rename_i len n he;exact .of rfl (by rw[hiv];exact ND he (hR.ev p) h)
    ·cases h
  ·cases h
 case nilCheck y =>
  have:=Ta (C:=C) (a:=a) (hR.ev y) h (o:=⟨dst,.nilCheck y,ty,after,x2,x3⟩) rfl rfl;exact⟨_,.inl this.1,this.2⟩
 case binOp op t y z _=>exact .of rfl (Sk (hR.ev y) (hR.ev z) h)
 case unOp op t y=>exact .of rfl (WD (hR.ev y) h)
 case convert s d y=>exact .of rfl (U7 (hR.ev y) h)
 case extract y i =>
  unfold JB at h;split at h
  ·rename_i cs hc;have hy:=hR.ev y;rw[hc]at hy;simp only[VR]at hy;obtain⟨us,hu,hv⟩:=hy;obtain⟨u,h2,h3⟩:=VRs.get hv i _ h;refine .of (s:=Instr.extract (a.eval y) i) rfl ⟨u,?_,h3⟩;rw[hu];have:us[i]?=some u:=by simpa using h2
   simp[Instr.extract,this]
  ·cases h
 case field t y i=>exact .of rfl (Nu (hR.ev y) h)
 case index t y i=>exact .of rfl (Q0 (hR.ev i) (hR.ev y) h)
 case build t ps =>
  unfold Oe at h;rw[← JO]at h;split at h
  ·rename_i zs hz ha;split at h
   ·rename_i hs;obtain⟨r,h1,rfl⟩:=Option.map_eq_some_iff.1 h;exact .of (QN a rfl) (Pf hz ha hs (by simp[parts]) (Jo hR ps) h1)
   ·cases h
  ·cases h
 case slice t y lo hi mx =>
  split at h
  ·obtain⟨p,h1,rfl⟩:=Option.map_eq_some_iff.1 h;obtain⟨z,st'⟩:=p;obtain⟨_,u,k1,k3⟩:=Sn hR h1;exact .of rfl ⟨u,k1,k3⟩
  ·rename_i hc;obtain⟨p,h1,rfl⟩:=Option.map_eq_some_iff.1 h;obtain⟨z,st'⟩:=p;obtain⟨u,w',g',k1,k2,k3,k4⟩:=Mt hR h1;have hp:(∀ r lo m es,ev C st y≠.sl (.own r lo) m es)∨mx=none:=by
    simp only[Bool.and_eq_true,not_and,Bool.not_eq_true]at hc;cases hm:mx with
    |none=>exact .inr rfl
    |some m =>
     left;intro r lo m' es he;have:=hc (by rw[he];rfl);rw[hm]at this;simp at this
   obtain⟨rfl,rfl⟩:=k4 hp;exact .of rfl ⟨u,k1,k3⟩
 case makeFunc fn first AS =>
  obtain⟨f,hf,rfl⟩:=Option.map_eq_some_iff.1 h;unfold eB at hf;split at hf
  ·rename_i f' hf';simp at hf;subst hf;refine .of (s:=Instr.makeFunc (.func f') (first.map a.eval) (AS.map a.eval)) rfl ⟨_,rfl,?_⟩;have hf0:first = #[]:=by
    cases first;simp_all
   subst hf0;simp only[VR];refine⟨_,by simp;rfl,?_⟩;have:=Gg hR AS.toList;rw[LQ];simpa using this
  ·cases hf
 case makeInterface t y =>
  split at h
  ·rename_i hc;have h':=Option.some.inj h;subst h';refine .of rfl ⟨_,run_makeInterface w t _ hc,?_⟩;simp only[VR];exact⟨_,rfl,hR.ev y⟩
  ·cases h
 case call c =>
  split at h
  ·rename_i b hb;obtain⟨callee,args,argTypes⟩:=c;simp only at hb;subst hb;obtain⟨consts,he⟩:=HZ a (o:=⟨dst,.call { callee:=.builtin b,args,argTypes },ty,after,x2,x3⟩) rfl;exact Qu hR he h
  ·cases h
 all_goals(cases h)
def Grow.refl(g:Gh)(w:World):Grow [] [] [] g w g w where
 toLasts:=Q5 g w [] []
 os:=rfl
 tape:=⟨rfl,by first|exact Nat.le_refl _|exact Nat.le_succ _⟩
 output:=rfl
 size:=Nat.le_refl _
 other:=fun _ _ h=>⟨h,rfl⟩
 kept:=fun _ _ _ h _=>⟨h,rfl⟩
def jg{o:Oper}{x:AV}(h:Yt C o st=some x):OpG C o st x [] [] [] []:=by
 intro A N g a w hR K Q hk;obtain⟨u,h1,h2⟩:=Wb hR h;exact h1.wp (hk u g w (Grow.refl g w) h2 (fun s cs hs=>by cases hs))
def eO{o:Oper}{t d:Nat}{zs:List Value}(ho:o.op=.alloc t)(hd:o.dst=some d)(hz:zeroOf C.P t=some zs):OpG C o st (.ptr (nm d) 0) [] [nm d] [nm d] [(nm d,vals zs)]:=by
 intro A N g a w hR K Q hk;have hzz:∃ z,(zeroValue t).run C.P w=.ok z w∧zs=z.cells.toList:=by
  unfold zeroOf at hz;obtain⟨z,hz1,hz2⟩:=Option.map_eq_some_iff.1 hz;obtain⟨i,hi,hiz⟩:=Option.bind_eq_some_iff.1 hz1;exact⟨z,by simp[zeroValue,run_typeInfo hi,hiz],hz2.symm⟩
 obtain⟨z,hz1,rfl⟩:=hzz;obtain⟨dst,op,ty,after,x2,x3⟩:=o;simp only at ho hd;subst ho;subst hd;have hdoes:Does C.P ⟨some d,.alloc t,ty,after,x2,x3⟩ a w (.pointer (some ⟨w.heap.size,0,none⟩)) (w.alloc (.cells z.cells t)) :=
  H8 (s:=Instr.alloc t true (.tuple #[])) rfl (by simp[Instr.alloc,hz1,MY])
 have hl:=Kp g w (.cells z.cells t) (nm d);refine hdoes.wp (hk _ (g.CA w.heap.size (nm d)) _ ?_ ?_ fun s cs hs=>?_)
 ·exact { toLasts:=hl,os:=rfl,tape:=⟨rfl,by first|exact Nat.le_refl _|exact Nat.le_succ _⟩,output:=rfl,size:=by simp,other:=fun b hb ho=>⟨by simp[Gh.CA,Nat.ne_of_lt hb,ho],alloc_old w _ b hb⟩,kept:=fun s _ _ ho hb=>⟨by simp[Gh.CA,Nat.ne_of_lt hb,ho],alloc_old w _ _ hb⟩ }
 ·simp[VR,Gh.CA,JM]
 ·simp only[lk]at hs;split at hs
  ·rename_i he;injection hs with hs;subst hs;subst he
   refine⟨by simp[Gh.CA],.inl ⟨JM d,z.cells,t,?_,Hi _⟩⟩;have:(g.CA w.heap.size (nm d)).box (nm d)=w.heap.size:=by simp[Gh.CA]
   rw[this];exact heap_alloc_new w _
  ·cases hs
end
end Go.Abs
namespace Go.Abs
structure Res where
 x:AV
 S:List Nat
 T:List Nat
 Gk:List (Nat × List AV)
def tmD(dst:Nat→Option Nat)(res:Nat→Res)(D:Nat→Bool)(base:List (Nat × AV)):Nat→List (Nat × AV)
 | 0=>base
 | j+1=>match D j,dst j with
  | true,some d=>(d,(res j).x)::tmD dst res D base j
  |_,_=>tmD dst res D base j
def obD(res:Nat→Res)(D:Nat→Bool)(base:List (Nat × List AV)):Nat→List (Nat × List AV)
 | 0=>base
 | j+1=>if D j then (res j).Gk++obD res D base j else obD res D base j
def BA(ops:Array Oper)(i:Nat):List Nat:=match ops[i]? with
 |some o=>o.after.toList.filterMap fun e=>if Region.binds .any e then some e.on else none
 |none=>[]
def DD(tab:List (List Nat × List Nat))(i:Nat):List Nat:=(tab.getD i ([],[])).1
def HV(tab:List (List Nat × List Nat))(i:Nat):List Nat:=(tab.getD i ([],[])).2
def Eg(ops:Array Oper)(i:Nat):Option Nat:=(ops[i]?).bind (·.dst)
def db(d:Option Nat)(l:List Nat):Bool:=match d with
 |some t=>l.contains t
 |none=>false
def clash(ops:Array Oper)(tab:List (List Nat × List Nat))(i j:Nat):Bool :=
 (match Eg ops i,Eg ops j with
 |some d,some e=>d==e
 |_,_=>false)||db (Eg ops j) (HV tab i)||db (Eg ops i) (HV tab j)
def Th(ops:Array Oper)(k:Nat)(tab:List (List Nat × List Nat)):Bool :=
 decide (k≤ops.size)&&(List.range ops.size).all (fun i=>(BA ops i).all (fun e=>decide (e<i)) &&
  (DD tab i).all (fun p=>(BA ops i).any fun e=>p==e||(DD tab e).contains p) &&
  (decide (i<k)||(List.range i).all fun j=>(DD tab i).contains j)) &&
 (List.range k).all fun i=>(List.range i).all fun j=>(DD tab i).contains j||!(clash ops tab i j)
structure Jn(ops:Array Oper)(k:Nat)(tab:List (List Nat × List Nat)):Prop where
 le:k≤ops.size
 edge:∀ i,i<ops.size→∀ e∈BA ops i,e<i
 pred:∀ i,i<ops.size→∀ p∈DD tab i,∃ e∈BA ops i,p=e∨p∈DD tab e
 tail:∀ i,i<ops.size→k≤i→∀ j,j<i→j∈DD tab i
 apart:∀ i j,i<k→j<i→j∈DD tab i∨clash ops tab i j=false
def Th.spec{ops:Array Oper}{k:Nat}{tab:List (List Nat × List Nat)}(h:Th ops k tab=true):Jn ops k tab:=by
 simp only[Th,Bool.and_eq_true,decide_eq_true_eq,List.all_eq_true,List.mem_range,Bool.or_eq_true,List.any_eq_true,List.contains_iff_mem,beq_iff_eq,Bool.not_eq_true']at h;obtain⟨⟨h1,h2⟩,h3⟩:=h;exact⟨h1,fun i hi=>(h2 i hi).1.1,fun i hi=>(h2 i hi).1.2,fun i hi hk j hj=>((h2 i hi).2.resolve_left (by omega)) j hj,fun i j hi hj=>h3 i hi j hj⟩
def Closed(ops:Array Oper)(D:Nat→Bool):Prop:=∀ i,i<ops.size→D i=true→∀ e∈BA ops i,D e=true
section
variable {ops:Array Oper} {k:Nat} {tab:List (List Nat × List Nat)} {D:Nat→Bool}
def Closed.pred(hr:Jn ops k tab)(hc:Closed ops D):∀ i,i<ops.size→D i=true→∀ p∈DD tab i,D p=true:=by
 intro i
 induction i using Nat.strongRecOn with
 |_ i ih =>
  intro hi hd p hp;obtain⟨e,he,h|h⟩:=hr.pred i hi p hp
  ·subst h;exact hc i hi hd _ he
  ·have hlt:=hr.edge i hi e he;exact ih e hlt (by omega) (hc i hi hd e he) p h
def Mm(hr:Jn ops k tab)(hc:Closed ops D){i:Nat}(hi:i<ops.size)(hd:∀ e∈BA ops i,D e=true):∀ p∈DD tab i,D p=true:=by
 intro p hp;obtain⟨e,he,h|h⟩:=hr.pred i hi p hp
 ·subst h;exact hd _ he
 ·exact hc.pred hr e (by have:=hr.edge i hi e he;omega) (hd e he) p h
variable {dst:Nat→Option Nat} {res res':Nat→Res} {base:List (Nat × AV)} {obase:List (Nat × List AV)}
def J3{D D':Nat→Bool}:∀ n,(∀ j,j<n→res j=res' j∧D j=D' j)→tmD dst res D base n=tmD dst res' D' base n
 | 0,_=>rfl
 | n+1,h=>by
  simp only[tmD,(h n (by omega)).1,(h n (by omega)).2];rw[J3 n fun j hj=>h j (by omega)]
def JN{D D':Nat→Bool}:∀ n,(∀ j,j<n→res j=res' j∧D j=D' j)→obD res D obase n=obD res' D' obase n
 | 0,_=>rfl
 | n+1,h=>by
  simp only[obD,(h n (by omega)).1,(h n (by omega)).2];rw[JN n fun j hj=>h j (by omega)]
def Ra{D D':Nat→Bool}{t:Nat}:∀ n,(∀ j,j<n→dst j=some t→D j=D' j)→lk t (tmD dst res D base n)=lk t (tmD dst res D' base n)
 | 0,_=>rfl
 | n+1,h=>by
  have ih:=Ra (D:=D) (D':=D') (t:=t) n fun j hj=>h j (by omega)
  cases hd:dst n with
  |none=>cases h1:D n<;>cases h2:D' n<;>simp only[tmD,hd,h1,h2]<;>exact ih
  |some d =>
   by_cases hdt:d=t
   ·have:=h n (by omega) (by rw[hd,hdt]);cases h1:D n<;>rw[h1]at this<;>simp only[tmD,hd,h1,← this]
    ·exact ih
    ·simp[lk,hdt]
   ·cases h1:D n<;>cases h2:D' n<;>simp only[tmD,hd,h1,h2,lk,hdt,if_false]<;>exact ih
def N3{i:Nat}:∀ n,i≤n→(∀ j,i≤j→j<n→D j=false)→tmD dst res D base n=tmD dst res D base i
 | 0,h,_=>by have:i=0:=by omega
             rw[this]
 | n+1,h,hd=>by
  by_cases hi:i=n+1
  ·rw[hi]
  ·have:=hd n (by omega) (by omega);simp only[tmD,this];exact N3 n (by omega) fun j h1 h2=>hd j h1 (by omega)
def HJ(i:Nat)(D:Nat→Bool)(j:Nat):Bool:=if j=i then true else D j
def KQ{i t:Nat}(hdi:dst i=some t):∀ n,i<n→(∀ j,i<j→j<n→D j=true→dst j≠some t)→lk t (tmD dst res (HJ i D) base n)=some (res i).x
 | 0,h,_=>by omega
 | n+1,h,hno=>by
  by_cases hin:i=n
  ·subst hin;simp[tmD,HJ,hdi,lk]
  ·have ih:=KQ hdi n (by omega) fun j h1 h2=>hno j h1 (by omega)
   have hn:HJ i D n=D n:=by simp[HJ,Ne.symm hin]
   simp only[tmD,hn];cases h1:D n with
   | false=>simpa using ih
   | true =>
    have:=hno n (by omega) (by omega) h1;cases hd:dst n with
    |none=>simpa using ih
    |some d =>
     have hdt:d≠t:=fun e=>this (by rw[hd,e])
     simp only[lk,hdt,if_false];exact ih
def Q9{i s:Nat}(hi:D i=false):∀ n,i<n→(∀ c,lk s (res i).Gk=some c→∀ j,j≠i→j<n→D j=true→lk s (res j).Gk=none) →
 lk s (obD res (HJ i D) obase n)=(lk s (res i).Gk).or (lk s (obD res D obase n))
 | 0,h,_=>by omega
 | n+1,h,hno=>by
  by_cases hin:i=n
  ·subst hin;have h1:obD res (HJ i D) obase i=obD res D obase i:=JN i fun j hj=>⟨rfl,by simp[HJ,Nat.ne_of_lt hj]⟩
   simp only[obD,HJ,if_true,hi,Bool.false_eq_true,if_false,G1];rw[← h1]
  ·have ih:=Q9 (s:=s) hi n (by omega) fun c hc j h1 h2=>hno c hc j h1 (by omega)
   have hn:HJ i D n=D n:=by simp[HJ,Ne.symm hin]
   simp only[obD,hn];cases h1:D n with
   | false=>simpa using ih
   | true =>
    simp only[if_true,G1,ih];cases hs:lk s (res i).Gk with
    |none=>simp
    |some c =>
     have:=hno c hs n (Ne.symm hin) (by omega) h1;simp[this]
def Lh(S T:List Nat)(l:List (Nat × AV)):Prop:=Mj S T l=l
def F1(S T:List Nat)(l:List (Nat × List AV)):Prop:=HS S T (Hn T l)=l
def SI{S T:List Nat}{p:Nat × AV}{l:List (Nat × AV)}:Lh S T (p::l)↔p.2.kill S T=p.2∧Lh S T l:=by
 obtain⟨k,x⟩:=p;simp only[Lh,Mj,List.cons.injEq,Prod.mk.injEq,true_and]
def SS(S T:List Nat):∀ l:List (Nat × List AV),(HS S T (Hn T l)).length≤l.length
 |[]=>by simp[Hn,HS]
 |(k,x)::l=>by
  have:=SS S T l;simp only[Hn];split
  ·simp;omega
  ·rename_i hk;simp[HS,hk];omega
def SH{S T:List Nat}{p:Nat × List AV}{l:List (Nat × List AV)}:F1 S T (p::l)↔p.1∉T∧EC S T p.2=p.2∧F1 S T l:=by
 obtain⟨k,x⟩:=p;simp only[F1,Hn]
 by_cases hk:k∈T
 ·simp only[hk,if_true,not_true_eq_false,false_and,iff_false];intro h;have:=SS S T l;rw[h]at this;simp at this;omega
 ·simp[hk,HS]
def Px{S T:List Nat}{l m:List (Nat × List AV)}:F1 S T (l++m)↔F1 S T l∧F1 S T m:=by
 induction l with
 | nil=>simp[F1,Hn,HS]
 | cons p l ih =>
  simp only[List.cons_append,SH,ih];constructor
  ·rintro⟨h1,h2,h3,h4⟩;exact⟨⟨h1,h2,h3⟩,h4⟩
  ·rintro⟨⟨h1,h2,h3⟩,h4⟩;exact⟨h1,h2,h3,h4⟩
def MJ{S T:List Nat}:∀ {l:List (Nat × List AV)},F1 S T l→∀ s∈T,lk s l=none
 |[],_,_,_=>rfl
 |(k,x)::l,h,s,hs=>by
  obtain⟨h1,_,h3⟩:=SH.1 h;have:k≠s:=fun e=>h1 (by rw[e];exact hs)
  simp only[lk,this,if_false];exact MJ h3 s hs
def Vm{S T:List Nat}:∀ n,Lh S T base→(∀ j,j<n→D j=true→(res j).x.kill S T=(res j).x)→Lh S T (tmD dst res D base n)
 | 0,h,_=>h
 | n+1,h,hj=>by
  have ih:=Vm n h fun j h1=>hj j (by omega)
  cases h1:D n with
  | false=>simpa [tmD,h1]using ih
  | true =>
   cases hd:dst n with
   |none=>simpa [tmD,h1,hd]using ih
   |some d=>simp only[tmD,h1,hd];exact SI.2 ⟨hj n (by omega) h1,ih⟩
def Vl{S T:List Nat}:∀ n,F1 S T obase→(∀ j,j<n→D j=true→F1 S T (res j).Gk)→F1 S T (obD res D obase n)
 | 0,h,_=>h
 | n+1,h,hj=>by
  have ih:=Vl n h fun j h1=>hj j (by omega)
  cases h1:D n with
  | false=>simpa [obD,h1]using ih
  | true=>simp only[obD,h1,if_true];exact Px.2 ⟨hj n (by omega) h1,ih⟩
def Lj{S T:List Nat}:∀ n,Lh S T (tmD dst res (fun _=>true) base n)→Lh S T base∧∀ j,j<n→(dst j).isSome=true→(res j).x.kill S T=(res j).x
 | 0,h=>⟨h,fun j hj=>by omega⟩
 | n+1,h=>by
  cases hd:dst n with
  |none =>
   simp only[tmD,hd]at h;obtain⟨h1,h2⟩:=Lj n h;exact⟨h1,fun j hj hs=>if e:j=n then by subst e;simp[hd]at hs else h2 j (by omega) hs⟩
  |some d =>
   simp only[tmD,hd]at h;obtain⟨h0,h'⟩:=SI.1 h;obtain⟨h1,h2⟩:=Lj n h';exact⟨h1,fun j hj hs=>if e:j=n then by subst e;exact h0 else h2 j (by omega) hs⟩
def I1{S T:List Nat}:∀ n,F1 S T (obD res (fun _=>true) obase n)→F1 S T obase∧∀ j,j<n→F1 S T (res j).Gk
 | 0,h=>⟨h,fun j hj=>by omega⟩
 | n+1,h=>by
  simp only[obD,if_true]at h;obtain⟨h0,h'⟩:=Px.1 h;obtain⟨h1,h2⟩:=I1 n h';exact⟨h1,fun j hj=>if e:j=n then by subst e;exact h0 else h2 j (by omega)⟩
end
end Go.Abs
