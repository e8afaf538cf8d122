/- part 6 of the proof -/
import Derived.Test.YteliegkcmjimoaaGreatDoorW05
set_option linter.all false
namespace Go.Abs
def HX(d:Option Nat)(K:St->Prop):Option AV->St->Prop
 |some x,st=>K (st.put d x)
 |none,_=>False
def nd{α:Sort _}{a b:α}(h:a=b):a=b:=h
@[go_sem] theorem jG(d:Option Nat)(K:St->Prop)(x:AV)(st:St):HX d K (some x) st=K (st.put d x):=nd rfl
@[go_sem] theorem Ack(d:Option Nat)(K:St->Prop)(x:AV)(st:St):HW d K (some (x,st))=K (st.put d x):=nd rfl
theorem DG(d:Option Nat)(K:St->Prop)(o:Option AV)(st:St):HW d K (o.map (·,st))=HX d K o st:=by cases o<;>rfl
@[go_sem] theorem td(k:Nat)(x:AV)(t:List (Nat × AV))(o:List (Nat × List AV)):St.put (some k) x ⟨t,o⟩=⟨(k,x)::t,o⟩:=rfl
@[go_sem] theorem eZ(x:AV)(st:St):St.put none x st=st:=rfl
@[go_sem] theorem xB{α:Type}(k j:Nat)(x:α)(l:List (Nat × α)):lk k ((j,x)::l)=if j=k then some x else lk k l:=rfl
@[go_sem] theorem Agx{α:Type}(k:Nat):lk k ([]:List (Nat × α))=none:=rfl
@[go_sem] theorem Aag(C:Ctx)(k:Nat)(t:List (Nat × AV))(o:List (Nat × List AV)):ev C ⟨t,o⟩ (.tmp k)=(lk k t).getD .undef:=rfl
@[go_sem] theorem Aec(C:Ctx)(st:St)(v:Value):ev C st (.const v)=.v v:=rfl
@[go_sem] theorem Af3(C:Ctx)(st:St)(f:Nat):ev C st (.func f)=.fn f []:=rfl
@[go_sem] theorem AcJ(C:Ctx)(st:St)(i:Nat):ev C st (.global i)=(match C.G i with
  |some cs=>.ep .no 0 cs 0
  |none=>.undef):=rfl
section
variable (X:Env) (Q:Ex->St->Prop) (K:St->Prop) (st:St)
@[go_sem] theorem AfX:Q3 X .skip Q=Q .normal:=nd rfl
@[go_sem] theorem AcA(id:Nat)(ops:Array Oper):Q3 X (.region id ops false) Q=Bw X ops ops.toList (Q .normal):=nd rfl
@[go_sem] theorem AfU(id:Nat)(ops:Array Oper):Q3 X (.region id ops true) Q=Lj X ops (Q .normal):=nd rfl
@[go_sem] theorem AgO(x y:Code):Q3 X (.seq x y) Q=Q3 X x (UF (Q3 X y Q) Q):=nd rfl
@[go_sem] theorem AfT(c:Operand)(x y:Code):Q3 X (.cond c x y) Q st=TZ (ev X.C st c) (Q3 X x Q) (Q3 X y Q) st:=nd rfl
@[go_sem] theorem AdE(id:Nat)(c:Code):Q3 X (.block id c) Q=Q3 X c (SD id Q):=nd rfl
@[go_sem] theorem AfW(c:Code):Q3 X (.loop c) Q=lY X (Q3 X c) Q:=nd rfl
@[go_sem] theorem AfV(id:Nat):Q3 X (.exit id) Q=Q (.exit id):=nd rfl
@[go_sem] theorem AgN:Q3 X .ret Q=Q .ret:=nd rfl
@[go_sem] theorem AdG(c:Code):Q3 X (.scope c) Q=Q3 X c Q:=nd rfl
@[go_sem] theorem AdF(l:Nat):Q3 X (.label l) Q=Q .normal:=nd rfl
@[go_sem] theorem yi:UF K Q .normal=K:=nd rfl
@[go_sem] theorem Acv(i:Nat):UF K Q (.exit i)=Q (.exit i):=nd rfl
@[go_sem] theorem AdC:UF K Q .ret=Q .ret:=nd rfl
@[go_sem] theorem uf(id:Nat):SD id Q .normal=Q .normal:=nd rfl
@[go_sem] theorem yx(id i:Nat):SD id Q (.exit i)=if i=id then Q .normal else Q (.exit i):=nd rfl
@[go_sem] theorem zQ(id:Nat):SD id Q .ret=Q .ret:=nd rfl
@[go_sem] theorem Af0(b:Bool)(K1 K2:St->Prop):TZ (.v (.bool b)) K1 K2 st=((b=true->K1 st)/\(b=false->K2 st)):=nd rfl
@[go_sem high] theorem zV(K1 K2:St->Prop):TZ (.v (.bool true)) K1 K2 st=K1 st:=by simp[TZ]
@[go_sem high] theorem yC(K1 K2:St->Prop):TZ (.v (.bool false)) K1 K2 st=K2 st:=by simp[TZ]
@[go_sem] theorem Afx(all:Array Oper):Bw X all [] K=K:=nd rfl
@[go_sem] theorem Af4(C:Ctx):D1 C st []=[]:=rfl
@[go_sem] theorem Aee(C:Ctx)(x:Operand)(xs:List Operand):D1 C st (x::xs)=ev C st x::D1 C st xs:=rfl
@[go_sem] theorem AdW(d:Option Nat)(f:Nat)(first xs:List AV):cT X d (.mv f first) xs K st=Bi X d f (first++xs) K st:=nd rfl
@[go_sem] theorem AdV(d:Option Nat)(f:Nat)(CW xs:List AV):cT X d (.fn f CW) xs K st=Bi X d f (xs++CW) K st:=nd rfl
variable (all:Array Oper) (rest:List Oper) (d:Option Nat) (ty:TypeId) (pos:String) (H2:Array Edge)
@[go_sem] theorem Aft(op:Op)(j:Nat)(b:Bool):Bw X all (⟨d,op,ty,pos,H2,some (j,b)⟩::rest) K st =
 (match guardOf all j st with
 |some (.v (.bool b'))=>GP b' b (Bw X all (⟨d,op,ty,pos,H2,none⟩::rest) K (st.learn (gdst all j) b)) (Bw X all rest K ((st.learn (gdst all j) (!b)).put d (.BC [])))
 |some (.BC [])=>Bw X all rest K (st.put d (.BC []))
 |_=>False):=nd rfl
@[go_sem ↓] theorem AfK(p q:Prop):GP true true p q=p:=by simp[GP]
@[go_sem ↓] theorem AfL(p q:Prop):GP false true p q=q:=by simp[GP]
@[go_sem ↓] theorem AfM(p q:Prop):GP true false p q=q:=by simp[GP]
@[go_sem ↓] theorem AfN(p q:Prop):GP false false p q=p:=by simp[GP]
@[go_sem] theorem Aep(j:Nat):gdst all j=(all[j]?).bind (·.dst):=rfl
@[go_sem] theorem AbP(k:Nat)(b:Bool)(t:List (Nat × AV))(o:List (Nat × List AV)):St.learn (some k) b ⟨t,o⟩=⟨pe k (.v (.bool b)) t,o⟩:=rfl
def lkO(d:Option Nat)(l:List (Nat × AV)):Option AV:=match d with
 |some k=>lk k l
 |none=>none
@[go_sem] theorem Afj(k:Nat)(l:List (Nat × AV)):lkO (some k) l=lk k l:=rfl
@[go_sem] theorem yO(j:Nat):guardOf all j st=lkO ((all[j]?).bind (·.dst)) st.tmps:=by
 unfold guardOf lkO;grind
@[go_sem] theorem AdA(b':Bool)(p q:Prop):GP b' true p q=((b'=true->p)/\(b'=false->q)):=by grind[GP]
@[go_sem] theorem Adz(b':Bool)(p q:Prop):GP b' false p q=((b'=false->p)/\(b'=true->q)):=by grind[GP]
@[go_sem] theorem AgG(x:Operand):Bw X all (⟨d,.move x,ty,pos,H2,none⟩::rest) K st=Bw X all rest K (st.put d (ev X.C st x)):=nd rfl
@[go_sem] theorem Adt(x:Operand):Bw X all (⟨d,.assign x,ty,pos,H2,none⟩::rest) K st=Bw X all rest K (st.put d (ev X.C st x)):=nd rfl
@[go_sem] theorem Ab8(t:TypeId)(k:Nat):Bw X all (⟨some k,.makeMap t none,ty,pos,H2,none⟩::rest) K st=HW (some k) (Bw X all rest K) (some (.mp (jl k),⟨(st.kill [] [jl k]).tmps,(jl k,[])::(st.kill [] [jl k]).Aj⟩)):=nd rfl
@[go_sem] theorem zx(t:TypeId)(m k:Operand):Bw X all (⟨d,.lookup t m k true,ty,pos,H2,none⟩::rest) K st=HX d (Bw X all rest K) (PJ X.C.P t st.Aj (ev X.C st m) (ev X.C st k)) st:=DG _ _ _ _
@[go_sem] theorem uL(xt t:TypeId)(x:Operand)(ok:Bool):Bw X all (⟨d,.typeAssert x xt t ok,ty,pos,H2,none⟩::rest) K st=HX d (Bw X all rest K) (Pk X.C.P t ok (ev X.C st x)) st:=DG _ _ _ _
@[go_sem] theorem Adu(r:Operand)(name:String)(args:Array Operand)(ts:Array TypeId):Bw X all (⟨d,.call ⟨.invoke r name,args,ts⟩,ty,pos,H2,none⟩::rest) K st=xx X d name (ev X.C st r) (D1 X.C st args.toList) (Bw X all rest K) st:=nd rfl
def qb(t:List (Nat × AV))(o:Option (List (Nat × List AV)))(K:St->Prop):Prop:=match o with
 |some os=>K ⟨t,os⟩
 |none=>False
@[go_sem] theorem zO(t:List (Nat × AV))(os:List (Nat × List AV))(K:St->Prop):qb t (some os) K=K ⟨t,os⟩:=nd rfl
@[go_sem] theorem xT(t:TypeId)(m k v:Operand):Bw X all (⟨none,.mapUpdate t m k v,ty,pos,H2,none⟩::rest) K st=qb st.tmps (RT X.C.P t st.Aj (ev X.C st m) (ev X.C st k) (ev X.C st v)) (Bw X all rest K):=by
 simp only[Bw,Jx,dd,JF];cases h:RT X.C.P t st.Aj (ev X.C st m) (ev X.C st k) (ev X.C st v)<;>simp[HW,qb,eZ]
@[go_sem] theorem AbQ(P:Program)(t:TypeId)(Aj:List (Nat × List AV))(s:Nat)(k:AV):bG P t Aj (.mp s) k=(lk s Aj).bind λcs=>Vw P t cs k:=rfl
@[go_sem] theorem xE(P:Program)(t:TypeId)(Aj:List (Nat × List AV))(s:Nat)(k:AV):PJ P t Aj (.mp s) k=(lk s Aj).bind λcs=>HP P t cs k:=rfl
@[go_sem] theorem yw(P:Program)(t t':TypeId)(ok:Bool)(y:AV):Pk P t ok (.Kb t' y)=if P.concrete t=true/\t'=t then some (if ok=true then .BC [y,.v (.bool true)] else y) else none:=rfl
@[go_sem] theorem Afc(name:String)(t:TypeId)(y:AV)(xs:List AV):xx X d name (.Kb t y) xs K st=(match ey X.C t name y st.Aj with
  |some (f,r)=>Bi X d f (r::xs) K st
  |none=>False):=nd rfl
@[go_sem] theorem Adn(C:Ctx)(t:TypeId)(name:String)(x:AV)(Aj:List (Nat × List AV)):ey C t name x Aj=(match OS C.P t name with
 |some (f,none)=>some (f,x)
 |some (f,some e)=>match Bp C.P e,Cn C.P e with
  |some agg,some n=>(NS agg n Aj x).map λy=>(f,y)
  |_,_=>none
 |_=>none):=rfl
@[go_sem] theorem AbO(P:Program)(t:TypeId)(Aj:List (Nat × List AV))(s:Nat)(k v:AV):RT P t Aj (.mp s) k v=(lk s Aj).bind λcs=>(PH P t cs k v).map λN7=>H3 s N7 Aj:=rfl
@[go_sem] theorem AgH(c a b:Operand):Bw X all (⟨d,.pick c a b,ty,pos,H2,none⟩::rest) K st=HX d (Bw X all rest K) (O0 (ev X.C st c) (ev X.C st a) (ev X.C st b)) st:=DG _ _ _ _
@[go_sem] theorem Afp(t:TypeId)(k:Nat):Bw X all (⟨some k,.alloc t,ty,pos,H2,none⟩::rest) K st=HW (some k) (Bw X all rest K) (match zeroOf X.C.P t with
  |some zs=>some (.ptr (nm k) 0,⟨(st.kill [] [nm k]).tmps,(nm k,vals zs)::(st.kill [] [nm k]).Aj⟩)
  |none=>none):=by
 simp only[Bw,Jx,dd,JF];grind
@[go_sem] theorem Aiv(t:TypeId)(x:Operand)(k:Nat):Bw X all (⟨some k,.box t x,ty,pos,H2,none⟩::rest) K st=HW (some k) (Bw X all rest K) (if DD (ev X.C st x).cells=true then some (.ptr (nm k) 0,⟨(st.kill [] [nm k]).tmps,(nm k,NQ [] [nm k] (ev X.C st x).cells)::(st.kill [] [nm k]).Aj⟩) else none):=nd rfl
def W1(C:Ctx)(t:TypeId)(p:AV)(Aj:List (Nat × List AV)):Option AV:=match Bp C.P t,Cn C.P t with
 |some agg,some n=>NS agg n Aj p
 |_,_=>none
@[go_sem] theorem ov(C:Ctx)(t:TypeId)(p:AV)(Aj:List (Nat × List AV)):W1 C t p Aj=(match Bp C.P t,Cn C.P t with
 |some agg,some n=>NS agg n Aj p
 |_,_=>none):=rfl
@[go_sem] theorem xQ(t:TypeId)(x:Operand):Bw X all (⟨d,.load t x,ty,pos,H2,none⟩::rest) K st=HX d (Bw X all rest K) (W1 X.C t (ev X.C st x) st.Aj) st:=by
 simp only[Bw,Jx,dd,JF,W1];rw[<- DG];grind
def qc(o:Option St)(K:St->Prop):Prop:=match o with
 |some st=>K st
 |none=>False
@[go_sem] theorem zP(st:St)(K:St->Prop):qc (some st) K=K st:=nd rfl
@[go_sem] theorem Afw(t:TypeId)(p x:Operand):Bw X all (⟨none,.store t p x,ty,pos,H2,none⟩::rest) K st=(match Cn X.C.P t with
  |some n=>qc (TB n st (ev X.C st p) (ev X.C st x)) (Bw X all rest K)
  |none=>False):=by
 simp only[Bw,Jx,dd,JF];cases Cn X.C.P t with
 |none=>rfl
 |some n=>cases h:TB n st (ev X.C st p) (ev X.C st x)<;>simp[h,HW,qc,eZ]
@[go_sem] theorem Afu(t:TypeId)(x i:Operand):Bw X all (⟨d,.index t x i,ty,pos,H2,none⟩::rest) K st=HX d (Bw X all rest K) (E3 X.C.P t (ev X.C st i) (ev X.C st x)) st:=DG _ _ _ _
@[go_sem] theorem xO(t:TypeId)(x:Operand)(i:Nat):Bw X all (⟨d,.fieldAddr t x i,ty,pos,H2,none⟩::rest) K st=HX d (Bw X all rest K) (match Bq X.C.P t i with
  |some off=>QA off (ev X.C st x)
  |none=>none) st:=by
 simp only[Bw,Jx,dd,JF];cases Bq X.C.P t i with
 |none=>rfl
 |some off=>grind[DG]
def Tb(C:Ctx)(t:TypeId)(x i:AV):Option AV:=match i with
 |.v (.int _ k)=>match AE C.P t with
   |some (_,n)=>Ta n k x
   |none=>match El C.P t with
    |some (len,n)=>S9 len n k x
    |none=>none
 |_=>none
@[go_sem] theorem AbN(C:Ctx)(t:TypeId)(x:AV)(kd:IntKind)(k:Int):Tb C t x (.v (.int kd k))=(match AE C.P t with
  |some (_,n)=>Ta n k x
  |none=>match El C.P t with
   |some (len,n)=>S9 len n k x
   |none=>none):=rfl
@[go_sem] theorem xP(t:TypeId)(x i:Operand):Bw X all (⟨d,.indexAddr t x i,ty,pos,H2,none⟩::rest) K st=HX d (Bw X all rest K) (Tb X.C t (ev X.C st x) (ev X.C st i)) st:=by
 simp only[Bw,Jx,dd,JF,Tb];rw[<- DG];grind
@[go_sem] theorem zz(x:Operand):Bw X all (⟨d,.nilCheck x,ty,pos,H2,none⟩::rest) K st=HX d (Bw X all rest K) (Mq (ev X.C st x)) st:=DG _ _ _ _
@[go_sem] theorem Afq(op:BinOp)(t t2:TypeId)(x y:Operand):Bw X all (⟨d,.binOp op t x y t2,ty,pos,H2,none⟩::rest) K st=HX d (Bw X all rest K) (gD X.C.P op t (ev X.C st x) (ev X.C st y)) st:=DG _ _ _ _
@[go_sem] theorem AgI(op:UnOp)(t:TypeId)(x:Operand):Bw X all (⟨d,.unOp op t x,ty,pos,H2,none⟩::rest) K st=HX d (Bw X all rest K) (cL op (ev X.C st x)) st:=DG _ _ _ _
@[go_sem] theorem Ab6(s t:TypeId)(x:Operand):Bw X all (⟨d,.convert s t x,ty,pos,H2,none⟩::rest) K st=HX d (Bw X all rest K) (V5 X.C.P s t (ev X.C st x)) st:=DG _ _ _ _
def L4(i:Nat):AV->Option AV
 |.BC cs=>cs[i]?
 |_=>none
@[go_sem] theorem vj(i:Nat)(cs:List AV):L4 i (.BC cs)=cs[i]?:=rfl
@[go_sem] theorem Ab7(x:Operand)(i:Nat):Bw X all (⟨d,.extract x i,ty,pos,H2,none⟩::rest) K st=HX d (Bw X all rest K) (L4 i (ev X.C st x)) st:=by
 simp only[Bw,Jx,dd,JF,L4];rw[<- DG];grind
def SF(C:Ctx)(t:TypeId)(ps:List (Nat × AV)):Option AV:=match zeroOf C.P t,Bp C.P t with
  |some zs,some true=>if sized C.P t=true then (Oy (placeOf C.P t) (vals zs) ps).map .agg else none
  |_,_=>none
@[go_sem] theorem zR(C:Ctx)(t:TypeId)(ps:List (Nat × AV)):SF C t ps=(match zeroOf C.P t,Bp C.P t with
  |some zs,some true=>if sized C.P t=true then (Oy (placeOf C.P t) (vals zs) ps).map .agg else none
  |_,_=>none):=rfl
def KT(C:Ctx)(st:St):List (Nat × Operand)->List (Nat × AV)
 |[]=>[]
 |(i,x)::ps=>(i,ev C st x)::KT C st ps
@[go_sem] theorem Aca(C:Ctx):KT C st []=[]:=rfl
@[go_sem] theorem zB(C:Ctx)(i:Nat)(x:Operand)(ps:List (Nat × Operand)):KT C st ((i,x)::ps)=(i,ev C st x)::KT C st ps:=rfl
theorem PO(C:Ctx)(ps:Array (Nat × Operand)):parts C st ps=KT C st ps.toList:=by
 unfold parts
 induction ps.toList<;>grind[KT]
@[go_sem] theorem Afr(t:TypeId)(ps:Array (Nat × Operand)):Bw X all (⟨d,.build t ps,ty,pos,H2,none⟩::rest) K st=HX d (Bw X all rest K) (SF X.C t (KT X.C st ps.toList)) st:=by
 simp only[Bw,Jx,dd,JF,SF,PO];rw[<- DG];grind[Option.map_map,Function.comp_def]
@[go_sem] theorem uK(t:TypeId)(len k:Nat)(ps:Array (Nat × Operand)):Bw X all (⟨some k,.buildSlice t len ps,ty,pos,H2,none⟩::rest) K st=HW (some k) (Bw X all rest K) (match Cs X.C.P t with
  |some (e,n,_)=>match zeroOf X.C.P e with
   |some zs=>sk (nm k) n len zs st (KT X.C st ps.toList)
   |none=>none
  |none=>none):=by
 simp only[Bw,Jx,dd,JF,PO];grind
def sq(C:Ctx)(k:Nat)(t:TypeId)(l c:AV)(st:St):Option (AV × St):=match some k,Cs C.P t,l,c with
  |some d,some (e,n,_),.v (.int _ l),.v (.int _ c)=>match zeroOf C.P e with
   |some zs=>Zl (nm d) n zs st l c
   |none=>none
  |_,_,_,_=>none
@[go_sem] theorem Adm(C:Ctx)(k:Nat)(t:TypeId)(kl kc:IntKind)(l c:Int):sq C k t (.v (.int kl l)) (.v (.int kc c)) st=(match Cs C.P t with
  |some (e,n,_)=>match zeroOf C.P e with
   |some zs=>Zl (nm k) n zs st l c
   |none=>none
  |none=>none):=by
 unfold sq;grind
@[go_sem] theorem xS(t:TypeId)(k:Nat)(l c:Operand):Bw X all (⟨some k,.makeSlice t l c,ty,pos,H2,none⟩::rest) K st=HW (some k) (Bw X all rest K) (sq X.C k t (ev X.C st l) (ev X.C st c) st):=nd rfl
def gJ:Option AV->Option (Option Nat)
 |none=>some none
 |some x=>(P6 x).map some
@[go_sem] theorem yz:gJ none=some none:=rfl
@[go_sem] theorem yA(x:AV):gJ (some x)=(P6 x).map some:=rfl
@[go_sem] theorem zj(C:Ctx)(o:Option Operand):DA C st o=gJ (o.map (ev C st)):=by cases o<;>rfl
@[go_sem] theorem Afv(t:TypeId)(x:Operand)(lo hi mx:Option Operand)(k:Nat):Bw X all (⟨some k,.slice t x lo hi mx,ty,pos,H2,none⟩::rest) K st=(if RU (ev X.C st x)&&mx.isSome then HW (some k) (Bw X all rest K) (ax X.C st t (ev X.C st x) lo hi mx) else HW (some k) (Bw X all rest K) (Jg X.C st t (ev X.C st x) lo hi mx)):=nd rfl
@[go_sem] theorem Af1(C:Ctx)(t:TypeId)(r b k:Nat)(es:List (List AV))(hi mx:Operand):ax C st t (.sl (.own r b) k es) none (some hi) (some mx)=(match P6 (ev C st hi),P6 (ev C st mx),AE C.P t with
  |some h,some m,some (_,n)=>if m=h/\k=n/\h<=es.length then some (.sl (.own r b) n (es.take h),st) else none
  |_,_,_=>none):=by
 simp[ax,DA];cases P6 (ev C st hi) with
 |none=>rfl
 |some h=>cases P6 (ev C st mx)<;>grind
@[go_sem] theorem Acj(C:Ctx)(t:TypeId)(tg:Tag)(n:Nat)(es:List (List AV))(lo hi mx:Option Operand):Jg C st t (.sl tg n es) lo hi mx=(match DA C st lo,DA C st hi,DA C st mx,AE C.P t with
  |some l,some (some h),some none,some (_,m)=>if n=m then K3 m false (l.getD 0) h st (.sl tg n es) else none
  |some l,some none,some none,some (_,m)=>if n=m then K3 m false (l.getD 0) es.length st (.sl tg n es) else none
  |some l,some (some h),some (some x),some (_,m)=>if n=m/\x=h then K3 m true (l.getD 0) h st (.sl tg n es) else none
  |_,_,_,_=>none):=by
 unfold Jg;grind[elems]
@[go_sem] theorem zF(C:Ctx)(t:TypeId)(lo hi mx:Option Operand):Jg C st t (.v (.slice none 0 0)) lo hi mx=(match DA C st lo,DA C st hi,DA C st mx,AE C.P t with
  |some l,some h,some none,some (_,m)=>K3 m false (l.getD 0) (h.getD 0) st (.v (.slice none 0 0))
  |some l,some (some h),some (some x),some (_,m)=>if x=h then K3 m true (l.getD 0) h st (.v (.slice none 0 0)) else none
  |_,_,_,_=>none):=by
 unfold Jg;cases DA C st lo with
 |none=>rfl
 |some l=>cases DA C st hi with
  |none=>rfl
  |some h=>cases DA C st mx with
   |none=>grind
   |some m=>cases AE C.P t with
    |none=>grind
    |some p=>cases h<;>cases m<;>rfl
@[go_sem] theorem xR(f:Nat)(x:Operand):Bw X all (⟨d,.makeFunc (.func f) #[x] #[],ty,pos,H2,none⟩::rest) K st=Bw X all rest K (st.put d (.mv f [ev X.C st x])):=nd rfl
@[go_sem] theorem zy(f:Nat)(CW:Array Operand):Bw X all (⟨d,.makeFunc (.func f) #[] CW,ty,pos,H2,none⟩::rest) K st=Bw X all rest K (st.put d (.fn f (D1 X.C st CW.toList))):=by rw[M4];rfl
@[go_sem] theorem oM(t:TypeId)(x:Operand):Bw X all (⟨d,.makeInterface t x,ty,pos,H2,none⟩::rest) K st=(if X.C.P.concrete t then Bw X all rest K (st.put d (.Kb t (ev X.C st x))) else False):=by
 simp only[Bw,Jx,dd,JF];split<;>rfl
@[go_sem] theorem AgE(f:Operand)(args:Array Operand)(ts:Array TypeId):Bw X all (⟨d,.call ⟨.value f,args,ts⟩,ty,pos,H2,none⟩::rest) K st=cT X d (ev X.C st f) (D1 X.C st args.toList) (Bw X all rest K) st:=nd rfl
@[go_sem] theorem Aix(x:Operand)(t:TypeId):Bw X all (⟨d,.call ⟨.builtin .len,#[x],#[t]⟩,ty,pos,H2,none⟩::rest) K st=(if P5 X.C.P t (ev X.C st x)=true then HX d (Bw X all rest K) (WU (ev X.C st x)) st else False):=by
 simp only[Bw,Jx,dd,JF,LV];split
 ·grind[DG]
 ·rfl
@[go_sem] theorem Ads(x y:Operand)(t t2:TypeId)(k:Nat):Bw X all (⟨some k,.call ⟨.builtin .append,#[x,y],#[t,t2]⟩,ty,pos,H2,none⟩::rest) K st=(match Cs X.C.P t with
  |some (e,n,_)=>if AZ X.C.P t2=true then HW (some k) (Bw X all rest K) (Q9 (nm k) n st (ev X.C st x) (ev X.C st y)) else HW (some k) (Bw X all rest K) (match zeroOf X.C.P e with
   |some zs=>Og X.C.P (nm k) n t2 zs st (ev X.C st x) (ev X.C st y)
   |none=>none)
  |none=>False):=by
 simp only[Bw,Jx,dd,JF,LV];cases Cs X.C.P t with
 |none=>rfl
 |some p =>
  grind
@[go_sem] theorem AgF(x y:Operand)(t t2:TypeId):Bw X all (⟨d,.call ⟨.builtin .copy,#[x,y],#[t,t2]⟩,ty,pos,H2,none⟩::rest) K st=HW d (Bw X all rest K) (cZ X.C.P t st (ev X.C st x) (ev X.C st y)):=nd rfl
@[go_sem] theorem Afs(x:Operand)(t:TypeId):Bw X all (⟨d,.call ⟨.builtin .clear,#[x],#[t]⟩,ty,pos,H2,none⟩::rest) K st=HW d (Bw X all rest K) (V1 X.C.P t st (ev X.C st x)):=nd rfl
@[go_sem] theorem Aiw(x:Operand)(t:TypeId):Bw X all (⟨d,.call ⟨.builtin .cap,#[x],#[t]⟩,ty,pos,H2,none⟩::rest) K st=HX d (Bw X all rest K) (qj X.C.P t (ev X.C st x)) st:=DG _ _ _ _
def oA:AV->AV->Option AV
 |.v (.int k a),.v (.int _ b)=>some (.v (.int k (if b > a then b else a)))
 |_,_=>none
def xG:AV->AV->Option AV
 |.v (.int k a),.v (.int _ b)=>some (.v (.int k (if b<a then b else a)))
 |_,_=>none
@[go_sem] theorem Afk(k k':IntKind)(a b:Int):oA (.v (.int k a)) (.v (.int k' b))=some (.v (.int k (if b > a then b else a))):=rfl
@[go_sem] theorem Afl(k k':IntKind)(a b:Int):xG (.v (.int k a)) (.v (.int k' b))=some (.v (.int k (if b<a then b else a))):=rfl
@[go_sem] theorem Aiy(x y:Operand)(ts:Array TypeId):Bw X all (⟨d,.call ⟨.builtin .max,#[x,y],ts⟩,ty,pos,H2,none⟩::rest) K st=HX d (Bw X all rest K) (oA (ev X.C st x) (ev X.C st y)) st:=by
 simp only[Bw,Jx,dd,JF,LV,oA];rw[<- DG];grind
end
-- values
@[go_sem] theorem Afi(P:Program)(t:TypeId)(tg:Tag)(n:Nat)(es:List (List AV)):P5 P t (.sl tg n es)=AZ P t:=rfl
@[go_sem] theorem Adk(P:Program)(t:TypeId):P5 P t (.v (.slice none 0 0))=AZ P t:=rfl
@[go_sem] theorem Adl(P:Program)(t:TypeId)(s:ByteArray):P5 P t (.v (.string s))=Yi P t:=rfl
@[go_sem] theorem Agw(tg:Tag)(n:Nat)(es:List (List AV)):WU (.sl tg n es)=some (.v (.int .i64 es.length)):=rfl
@[go_sem] theorem Aff(xs:List AV):WU (.mem true xs)=some (.v (.int .i64 xs.length)):=rfl
@[go_sem] theorem Adj(P:Program)(t:TypeId)(b:Bool)(xs:List AV):P5 P t (.mem b xs)=AZ P t:=rfl
@[go_sem] theorem Afg:WU (.v (.slice none 0 0))=some (.v (.int .i64 0)):=rfl
@[go_sem] theorem Afh(s:ByteArray):WU (.v (.string s))=some (.v (.int .i64 s.size)):=rfl
@[go_sem] theorem AgJ(p x y:Bool):O0 (.v (.bool p)) (.v (.bool x)) (.v (.bool y))=some (.v (.bool (bif p then x else y))):=rfl
@[go_sem high] theorem AfA(x y:AV):O0 (.v (.bool true)) x y=some x:=by unfold O0;grind
@[go_sem high] theorem Afz(x y:AV):O0 (.v (.bool false)) x y=some y:=by unfold O0;grind
@[go_sem] theorem Afm(s o:Nat):Mq (.ptr s o)=some (.ptr s o):=rfl
@[go_sem] theorem Agz(t:Tag)(i:Nat)(cs:List AV)(o:Nat):Mq (.ep t i cs o)=some (.ep t i cs o):=rfl
@[go_sem] theorem AgA(f:Nat)(cs:List AV):Mq (.fn f cs)=some (.fn f cs):=rfl
attribute [go_sem] cond_true cond_false bne_self_eq_false pe oE NS QA Ta S9 elems TB sk Zl P6 Q9 K3 Oy Wq E3 AV.cells KR DD H3 cut IG P9 rowsOf vals chunk AV.kill NQ ON JZ St.kill AV.freeze Ng nm cL gD bz O9 bX BT FT AV.Cz F0 AV.Ii AV.C7 AV.Si AV.Eh St.Cz St.setRow St.I1 cZ V1 qj Og Option.isNone_none Option.isNone_some St.freeze V5 List.map_cons List.map_nil List.length_cons List.length_nil List.drop_zero List.drop_succ_cons List.take_succ_cons List.take_zero List.drop_nil List.take_nil List.cons_append List.nil_append List.append_nil List.getElem?_toArray List.getElem?_cons_zero List.getElem?_cons_succ List.flatten_cons List.flatten_nil List.replicate_zero List.replicate_succ Option.map_some Option.map_none Option.getD_some Option.getD_none Option.bind_some Option.bind_none if_true if_false Nat.reduceEqDiff Nat.reduceAdd Nat.reduceMul Nat.reduceLeDiff Nat.reduceSub Nat.reduceLT Nat.zero_add Nat.add_zero and_true true_and and_self List.mem_cons List.mem_nil_iff List.not_mem_nil or_false false_or or_self not_false_eq_true not_true_eq_false Bool.false_eq_true Bool.true_eq_false Bool.not_true Bool.not_false Bool.and_true Bool.true_and Bool.false_and Bool.and_false beq_self_eq_true decide_true decide_false reduceCtorEq forall_const implies_true false_implies
@[go_sem] theorem yB(n:Nat):(0<=(n:Int))=True:=by simp
attribute [go_sem] Int.cast_ofNat_Int Int.reduceBNe Int.reduceBEq Bool.not_not Int.toNat_natCast Int.toNat_zero Int.reduceLE Int.reduceLT Int.reduceToNat Int.reduceAdd Int.reduceSub Int.reduceMul Int.reduceNeg Nat.le_refl Nat.zero_le Nat.sub_zero List.take_length List.length_take List.length_drop List.length_append List.length_map
theorem wrap64(n:Int)(h1:-9223372036854775808<=n)(h2:n<=9223372036854775807):IntKind.i64.wrap n=n:=by
 simp only[IntKind.wrap,IntKind.signed,IntKind.bits,Bool.true_and,decide_eq_true_eq,ge_iff_le,Nat.reduceSub];omega
theorem mD(n:Int)(h1:0<=n)(h2:n<=18446744073709551615):IntKind.u64.wrap n=n:=by
 simp only[IntKind.wrap,IntKind.signed,IntKind.bits,Bool.false_and,Bool.false_eq_true,if_false];omega
@[go_sem] theorem AfD(ρ:Rn):FP ρ []=[]:=rfl
@[go_sem] theorem Adv(ρ:Rn)(k:Nat)(cs:List AV)(o:List (Nat × List AV)):FP ρ ((k,cs)::o)=(match lk k ρ.m with|some s=>(s,JU ρ cs)::FP ρ o|none=>FP ρ o):=by grind[FP]
attribute [go_sem] names XY AV.CX AV.Xw JU ti Se inv rngs Way.back IB HI pack List.filterMap_cons_some List.filterMap_cons_none List.filterMap_nil List.map_map List.mem_singleton
attribute [go_sem ↓] reduceIte
end Go.Abs
namespace Go.Abs
def mE(v:Way)(st:St):List (Nat × List AV)->Prop
 |[]=>True
 |(s,cs)::l=>lk s (FP v.ρ st.Aj)=some cs/\mE v st l
def mE.has{v:Way}{st:St}:∀ {ob:List (Nat × List AV)},mE v st ob->Has v st ob
 |(s,c)::l,h,s',cs,hs=>by
  simp[lk]at hs;split at hs
  ·rename_i he;injection hs with hs;subst hs;subst he;exact h.1
  ·exact mE.has h.2 s' cs hs
def JK(v:Way)(ob:List (Nat × List AV)):Bool :=
 Gm v.ρ.l&&Gm v.ρ.m&&Gm v.back.l&&Gm v.back.m&&(rngs v.ρ.m).all (λs=>(names ob).contains s)&&(rngs v.fm).all (λs=>s%32 !=31)
theorem JK.ok{v:Way}{ob:List (Nat × List AV)}(h:JK v ob=true):v.OK ob/\(rngs v.fm).all (λs=>s%32 !=31)=true:=by
 simp only[JK,Bool.and_eq_true]at h;obtain⟨⟨⟨⟨⟨h1,h2⟩,h3⟩,h4⟩,h5⟩,h6⟩:=h;refine⟨⟨⟨h1,h2⟩,⟨h3,h4⟩,λs hs=>?_⟩,h6⟩;grind
section
variable {X:Env} {d:Option Nat} {FF:Nat} {xs Sr:List AV} {K:St->Prop} {st:St} {y y':AV} {ob J3:List (Nat × List AV)}
def Ad.Aq{C:Ctx}{f:Nat}{xs ys:List AV}{o o':List (Nat × List AV)}{y:AV}(h:Ad C f ys o y o')(hw:Oe xs ys):Ad C f xs o y o' :=
 ⟨h.1,λg w us hg hv ho=>h.2 g w us hg (hw g w us hv) ho⟩
def cw(v:Way)(st:St):List (Nat × List AV)->Prop
 |[]=>True
 |(s,cs)::l=>(∃ x,lk s (FP v.ρ st.Aj)=some x/\Ae x cs)/\cw v st l
def Sw:List (Nat × List AV)->List (Nat × List AV)->Prop
 |[],[]=>True
 |(s,x)::l,(s',y)::l'=>s=s'/\Oe x y/\Sw l l'
 |_,_=>False
def cw.split{v:Way}{st:St}:∀ {ob:List (Nat × List AV)},cw v st ob->∃ o2,names o2=names ob/\mE v st o2/\Sw o2 ob
 |[],_=>⟨[],rfl,trivial,trivial⟩
 |(s,cs)::l,⟨⟨x,h1,h2⟩,h3⟩=>by
  obtain⟨o2,a,b,c⟩:=cw.split h3;exact⟨(s,x)::o2,by grind[names],⟨h1,b⟩,rfl,h2.AJ,c⟩
def Sw.get:∀ {o2 ob:List (Nat × List AV)},Sw o2 ob->∀ s cs,lk s ob=some cs->∃ x,lk s o2=some x/\Oe x cs
 |[],[],_,s,cs,h=>by cases h
 |(k,x)::o2,(k',y)::ob,⟨e,hw,hr⟩,s,cs,h=>by
  subst e;simp only[lk]at h ⊢;split at h
  ·rename_i he;injection h with h;subst h
   exact⟨x,by simp[he],hw⟩
  ·rename_i he;obtain⟨x',h1,h2⟩:=Sw.get hr s cs h;exact⟨x',by simp[he,h1],h2⟩
 |[],_::_,h,_,_,_=>h.elim
 |_::_,[],h,_,_,_=>h.elim
def Ad.zH{C:Ctx}{f:Nat}{xs:List AV}{o o2 o':List (Nat × List AV)}{y:AV}(h:Ad C f xs o y o')(hn:names o2=names o)(hw:Sw o2 o):Ad C f xs o2 y o' :=
 ⟨h.1,λg w us hg hv ho=>by
  have:=h.2 g w us hg hv λs cs hs=>by
   obtain⟨x,h1,h2⟩:=hw.get s cs hs;exact(ho s x h1).lift rfl (ho s x h1).1 rfl (λus hu=>h2 g w _ hu)
  grind⟩
theorem KL(x:AV):x.freeze []=x:=Vy (by simp[AV.C7]) (by simp[AV.C7]) (by simp[AV.C7]) (by simp[AV.C7]) x
def Ub(xs:List AV):Ng [] xs=xs:=Jw (by simp[AV.C7]) (by simp[AV.C7]) (by simp[AV.C7]) (by simp[AV.C7]) xs
theorem St.KL(st:St):st.freeze []=st:=by
 have h1:∀ x:AV,x.Cz (AV.C7 [])=x:=Abs.KL;have h2:∀ xs:List AV,F0 (AV.C7 []) xs=xs:=Abs.Ub;simp[St.freeze,St.Cz,h1,h2]
def By(v:Way)(CC:Ad X.C FF Sr ob y J3)(hx:Ae (JU v.ρ xs) Sr)(hv:JK v ob=true)(hh:cw v st ob)(Me:v.ρ.bs=[]\/(Flat (y.CX v.back)/\Lg (FP v.back J3)))
 (hk:K ((st.app (rngs v.back.l) (rngs v.fm) (rngs v.back.m) (FP v.back J3)).put d (y.CX v.back))):Bi X d FF xs K st:=by
 obtain⟨o2,a,b,c⟩:=hh.split;have Vs:JK v o2=true:=by grind[JK]
 refine .inl ⟨[],v,o2,(λy2 o3=>y2=y/\o3=J3),(JK.ok Vs).1,(JK.ok Vs).2,?_,?_,λy2 o3 hS=>?_⟩
 ·rw[Ub];exact((CC.Aq hx.AJ).zH a c).toP
 ·rw[St.KL];exact b.has
 grind[St.KL]
def Rg(fz:List Nat)(v:Way)(CC:Ad X.C FF Sr ob y J3)(hx:Ae (JU v.ρ (Ng fz xs)) Sr)(hv:JK v ob=true)(hh:cw v (st.freeze fz) ob)(Me:v.ρ.bs=[]\/(Flat (y.CX v.back)/\Lg (FP v.back J3)))
 (hk:K (((st.freeze fz).app (rngs v.back.l) (rngs v.fm) (rngs v.back.m) (FP v.back J3)).put d (y.CX v.back))):Bi X d FF xs K st:=by
 obtain⟨o2,a,b,c⟩:=hh.split;have Vs:JK v o2=true:=by grind[JK]
 refine .inl ⟨fz,v,o2,(λy2 o3=>y2=y/\o3=J3),(JK.ok Vs).1,(JK.ok Vs).2,((CC.Aq hx.AJ).zH a c).toP,b.has,λy2 o3 hS=>?_⟩;grind
def qg{r n:Nat}{es P3:List (List AV)}{ys:List AV}(CC:VG X.C FF n es ys P3)(hx:xs=.sl (.own r 0) n es::ys)(hk:K ((st.I1 r n 0 P3).put d (.BC []))):Bi X d FF xs K st :=
 .inr (.inl ⟨r,n,es,ys,P3,hx,CC,hk⟩)
def Pq:∀ l:List (Nat × List AV),Jp [] l=l
 |[]=>rfl
 |(k,x)::l=>by simp[Jp,Pq l]
theorem ae:st.app [] [] [] []=st:=by simp[St.app,Pq,Mh,Mg]
def AfE(X:Env)(rs:List ResultVar)(K:AV->List (Nat × List AV)->Prop):Ex->St->Prop
 |.exit _=>λ_=>False
 |_=>λst=>∃ xs,Cx X.C st rs=some xs/\K (pack xs) st.Aj
def qf{fn:Func}{c:Code}(hX:∀ s∈X.ext,s%32=31)(hf:X.C.P.funcs[FF]?=some fn)(Gj:(fn.name=="runtime.NumGoroutine")=false)(hb:fn.body=some c)(CC:HA fn.ntmps c=true)(Hh:xs.length<=fn.ntmps)
 (h:Q3 ⟨X.C,X.ext⟩ c (AfE X fn.results.toList λy os=>K (St.put d y ⟨Pd X.ext st.tmps,os⟩)) ⟨XY 0 xs,st.Aj⟩):Bi X d FF xs K st:=by
 refine .inr (.inr ⟨⟨fn,c,hf,Gj,hb⟩,λA g w us hA Ig hv ho=>calls_of_wp hf hb ?_⟩);have hl:=Bf.length hv;have hR:R X.C A fn.ntmps g ⟨XY 0 xs,st.Aj⟩ { tmps:=us.toArray++Array.replicate (fn.ntmps-us.toArray.size) undef,defers:=[] } w:=by
  refine⟨by grind,rfl,λk x hx=>?_,ho,Ig⟩;obtain⟨_,h2⟩:=bE hx;obtain⟨u,hu,Vs⟩:=hv.get k x (by omega);grind
 have key:∀ (g':Gh) (st':St) (a':Act) (w':World),R X.C A fn.ntmps g' st' a' w'->(∃ ys,Cx X.C st' fn.results.toList=some ys/\K (St.put d (pack ys) ⟨Pd X.ext st.tmps,st'.Aj⟩)) ->
  a'.defers=[]/\∃ v,(results fn a'.tmps).run X.C.P w'=.ok v w'/\(∃ u g' y os,Ending.returned v=.returned u/\Fr X.C A g' w'/\VR g' w' y u/\(∀ s cs,lk s os=some cs->Er g' w' s cs)/\K (St.put d y ⟨Pd X.ext st.tmps,os⟩)):=by
  intro g' st' a' w' hr ⟨ys,h1,h2⟩;obtain⟨u,k1,k2⟩:=Qb hr h1;exact⟨hr.defs,u,k1,u,g',_,_,rfl,hr.fr,k2,hr.ob,h2⟩
 refine wp_mono (Z2 (X:=⟨X.C,X.ext⟩) (A:=A) hA hX c _ g _ _ w CC h hR) λe a' w' hq=>?_
 cases e with
 | normal=>obtain⟨g',st',hr,hk⟩:=hq;exact key g' st' a' w' hr hk
 | ret=>obtain⟨g',st',hr,hk⟩:=hq;exact key g' st' a' w' hr hk
 | exit id=>obtain⟨g',st',hr,hk⟩:=hq;exact hk.elim
 | goto l=>exact hq.elim
 | panic ch=>exact hq.elim
 | outgrown=>exact hq.elim
def Ai(CC:Ad X.C FF Sr [] y [])(hx:Ae (JU ⟨[],[],[]⟩ xs) Sr)(hy:y.CX ⟨[],[],[]⟩=y')(hk:K (st.put d y')):Bi X d FF xs K st:=by
 refine By ⟨⟨[],[],[]⟩,[],[]⟩ CC hx rfl trivial (.inl rfl) ?_;show K ((st.app [] [] [] []).put d (y.CX ⟨[],[],[]⟩));grind[ae]
def FU(fz:List Nat)(CC:Ad X.C FF Sr [] y [])(hx:Ae (JU ⟨[],[],[]⟩ (Ng fz xs)) Sr)(hy:y.CX ⟨[],[],[]⟩=y')(hk:K ((st.freeze fz).put d y')):Bi X d FF xs K st:=by
 refine Rg fz ⟨⟨[],[],[]⟩,[],[]⟩ CC hx rfl trivial (.inl rfl) ?_;show K (((st.freeze fz).app [] [] [] []).put d (y.CX ⟨[],[],[]⟩));grind[ae]
def B4(bs:List Nat)(CC:Ad X.C FF Sr [] y [])(hx:Ae (JU ⟨[],[],bs⟩ xs) Sr)(hy:y.CX ⟨[],[],[]⟩=y')(hf:Flat y')(hk:K (st.put d y')):Bi X d FF xs K st:=by
 refine By ⟨⟨[],[],bs⟩,[],[]⟩ CC hx rfl trivial (.inr ?_) ?_
 ·show Flat (y.CX ⟨[],[],[]⟩)/\True;grind
 ·show K ((st.app [] [] [] []).put d (y.CX ⟨[],[],[]⟩));grind[ae]
def Ao{body:(Ex->St->Prop)->St->Prop}{Q:Ex->St->Prop}{α:Type}(I:α->St)(Inv:α->Prop)(μ:α->Nat)(x0:α)(h0:Inv x0)(hi:AT X st (I x0))
 (hr:∀ x,Inv x->∀ J:St->Prop,(∀ st' x',Inv x'->μ x'<μ x->AT X st' (I x')->J st')->body (UF J Q) (I x)):lY X body Q st :=
 ⟨α,I,Inv,μ,x0,h0,hi,λx hx=>hr x hx _ λ_ x' h1 h2 h3=>⟨x',h1,h2,h3⟩⟩
end
@[go_sem] theorem yI{α:Type}(a:α)(p:α->Prop):(∃ x,some a=some x/\p x)=p a:=by simp
@[go_sem] theorem Acz(x:AV):Ci x x=True:=eq_true .rfl
@[go_sem] theorem zJ(x:AV):Ci x .undef=True:=eq_true .undef
@[go_sem] theorem yo(r lo n:Nat):Ci (.v (.slice none 0 0)) (.sl (.own r lo) (n+1) [])=True:=eq_true (.Cr (by omega))
@[go_sem] theorem zI(n:Nat):Ci (.v (.slice none 0 0)) (.sl .no (n+1) [])=True:=eq_true (.A8 (by omega))
theorem Ci.int{k:IntKind}{a b:Int}(h:a=b):Ci (.v (.int k a)) (.v (.int k b)):=.eq (by rw[h])
def Ci.sl{t:Tag}{n:Nat}{a b:List (List AV)}(h:a=b):Ci (.sl t n a) (.sl t n b):=.eq (by rw[h])
def AY{X:Env}{rs:List ResultVar}{y:AV}{o':List (Nat × List AV)}{st:St}(ρ:Rn)(xs:List AV)(h1:Cx X.C st rs=some xs)(h2:ρ.OK)(h3:∀ s∈X.ext,lk s ρ.m=some s)(h4:Ci ((pack xs).CX ρ) y)(h5:HI (Se ρ st) o'):Xx X rs y o' .ret st :=
 ⟨xs,ρ,h1,h2,h3,h4,h5⟩
@[go_sem high] theorem uN(xs:List AV):Ae xs xs=True:=eq_true (.self xs)
@[go_sem] theorem uM(x y:AV)(xs ys:List AV):Ae (x::xs) (y::ys)=(Ci x y/\Ae xs ys):=rfl
attribute [go_sem] Pd FA cw St.app Jp Pq Mh Mg
end Go.Abs
namespace Go.Abs
def yN:Fn->List Operand->Option Nat
 |.func f,[]=>some f
 |_,_=>none
def VS(C:Ctx)(b:Builtin)(xs:List Operand)(ts:List TypeId)(st:St):Option AV :=
 match b with
 |.len=>match xs,ts with
  |[x],[t]=>if P5 C.P t (ev C st x)=true then WU (ev C st x) else none
  |_,_=>none
 |.max=>match xs with
  |[x,y]=>oA (ev C st x) (ev C st y)
  |_=>none
 |.min=>match xs with
  |[x,y]=>xG (ev C st x) (ev C st y)
  |_=>none
 |_=>none
def mj(C:Ctx)(o:Oper)(st:St):Option AV :=
 match o.op with
 |.move x=>some (ev C st x)
 |.assign x=>some (ev C st x)
 |.pick c a b=>O0 (ev C st c) (ev C st a) (ev C st b)
 |.load t a=>W1 C t (ev C st a) st.Aj
 |.fieldAddr t x i=>match Bq C.P t i with
  |some off=>QA off (ev C st x)
  |none=>none
 |.indexAddr t x i=>Tb C t (ev C st x) (ev C st i)
 |.nilCheck x=>Mq (ev C st x)
 |.binOp op t x y _=>gD C.P op t (ev C st x) (ev C st y)
 |.unOp op _ x=>cL op (ev C st x)
 |.convert src dst x=>V5 C.P src dst (ev C st x)
 |.extract x i=>L4 i (ev C st x)
 |.field t x i=>Wq C.P t i (ev C st x)
 |.index t x i=>E3 C.P t (ev C st i) (ev C st x)
 |.build t ps=>SF C t (KT C st ps.toList)
 |.slice t x lo hi mx=>if RU (ev C st x)&&mx.isSome then (ax C st t (ev C st x) lo hi mx).map (·.1) else (Jg C st t (ev C st x) lo hi mx).map (·.1)
 |.makeFunc fn first CW=>(yN fn first.toList).map λf=>.fn f (D1 C st CW.toList)
 |.makeInterface t x=>if C.P.concrete t then some (.Kb t (ev C st x)) else none
 |.typeAssert x _ t ok=>Pk C.P t ok (ev C st x)
 |.call c=>match c.callee with
  |.builtin b=>VS C b c.args.toList c.argTypes.toList st
  |_=>none
 |_=>none
section
variable {C:Ctx} {A:A0} {N:Nat} {g g':Gh} {st st':St} {a:Act} {w w':World} {P:Program}
def Z5(C:Ctx)(o:Oper)(a:Act)(g:Gh)(w:World)(x:AV):Prop:=∃ u,Does C.P o a w u w/\VR g w x u
def Z5.of{o:Oper}{x:AV}{s:Sem Value}(ho:execOp a.eval o=(do Pure.pure (Next.value (<- s))))(h:∃ u,s.run C.P w=.ok u w/\VR g w x u):Z5 C o a g w x:=by
 obtain⟨u,h1,h2⟩:=h;exact⟨u,Kg ho h1,h2⟩
def jd{x y r:AV}{ux uy:Value}{ts:Array TypeId}{ty:TypeId}(hx:VR g w x ux)(hy:VR g w y uy)(h:oA x y=some r):∃ u,(Builtin.max_ ts ty #[ux,uy]).run P w=.ok u w/\VR g w r u:=by
 unfold oA at h;split at h
 ·simp[VR]at hx hy;subst hx;subst hy;have h':=Option.some.inj h;subst h';simp_all[Builtin.max_,Builtin.max2,VR]
 grind
def jf{x y r:AV}{ux uy:Value}{ts:Array TypeId}{ty:TypeId}(hx:VR g w x ux)(hy:VR g w y uy)(h:xG x y=some r):∃ u,(Builtin.min_ ts ty #[ux,uy]).run P w=.ok u w/\VR g w r u:=by
 unfold xG at h;split at h
 ·simp[VR]at hx hy;subst hx;subst hy;have h':=Option.some.inj h;subst h';simp_all[Builtin.min_,Builtin.min2,VR]
 grind
def VT(hR:R C A N g st a w){o:Oper}{b:Builtin}{xs:Array Operand}{ts:Array TypeId}{consts:Array Bool}(he:execOp a.eval o=builtin b ts o.type consts (xs.map a.eval)){x:AV}
 (h:VS C b xs.toList ts.toList st=some x):Z5 C o a g w x:=by
 unfold VS at h;split at h
 ·split at h
  ·rename_i y t hy ht;split at h
   ·rename_i CC;refine .of he ?_;rw[cH hy,cH ht];simp;exact WV CC (hR.ev y) h
   grind
  grind
 ·split at h
  ·rename_i y z hy;refine .of he ?_;rw[ag hy];simp;exact jd (hR.ev y) (hR.ev z) h
  grind
 ·split at h
  ·rename_i y z hy;refine .of he ?_;rw[ag hy];simp;exact jf (hR.ev y) (hR.ev z) h
  grind
 grind
def eW(hR:R C A N g st a w){o:Oper}{x:AV}(h:mj C o st=some x):Z5 C o a g w x:=by
 obtain⟨dst,op,ty,after,x2,x3⟩:=o;cases op<;>simp only[mj]at h
 case move y=>simp at h;subst h;exact⟨_,.inl rfl,hR.ev y⟩
 case assign y=>simp at h;subst h;exact⟨_,.inl rfl,hR.ev y⟩
 case pick c y z =>
  obtain⟨u,k1,k2⟩:=Xl (P:=C.P) (hR.ev c) (hR.ev y) (hR.ev z) h;exact⟨u,.inl k1,k2⟩
 case load t p =>
  unfold W1 at h;split at h
  ·rename_i agg n h1 h2;exact .of rfl (Nq hR h1 h2 (hR.ev p) h)
  grind
 case fieldAddr t p i =>
  split at h
  ·rename_i off h1;exact .of rfl (T5 h1 (hR.ev p) h)
  grind
 case indexAddr t p i =>
  unfold Tb at h;split at h
  ·rename_i k ki hi;have xd:=hR.ev i;rw[hi]at xd;simp[VR]at xd;split at h
   ·rename_i e n he;exact .of rfl (by rw[xd];exact RS he (hR.ev p) h)
   ·split at h
    ·rename_i len n he;exact .of rfl (by rw[xd];exact RR he (hR.ev p) h)
    grind
  grind
 case nilCheck y =>
  have:=Zv (C:=C) (a:=a) (hR.ev y) h (o:=⟨dst,.nilCheck y,ty,after,x2,x3⟩) rfl rfl;exact⟨_,.inl this.1,this.2⟩
 case binOp op t y z _=>exact .of rfl (Yq (hR.ev y) (hR.ev z) h)
 case unOp op t y=>exact .of rfl (fO (hR.ev y) h)
 case convert s d y=>exact .of rfl (T0 (hR.ev y) h)
 case extract y i =>
  unfold L4 at h;split at h
  ·rename_i cs hc;have hy:=hR.ev y;rw[hc]at hy;simp[VR]at hy;obtain⟨us,hu,hv⟩:=hy;obtain⟨u,h2,h3⟩:=Bf.get hv i _ h;refine .of (s:=Instr.extract (a.eval y) i) rfl ⟨u,?_,h3⟩;simp_all[Instr.extract]
  grind
 case field t y i=>exact .of rfl (RG (hR.ev y) h)
 case index t y i=>exact .of rfl (WJ (hR.ev i) (hR.ev y) h)
 case build t ps =>
  unfold SF at h;rw[<- PO]at h;split at h
  ·rename_i zs hz ha;split at h
   ·rename_i hs;obtain⟨r,h1,rfl⟩:=Option.map_eq_some_iff.1 h;exact .of (Wi a rfl) (TN hz ha hs (by simp[parts]) (Pj hR ps) h1)
   grind
  grind
 case slice t y lo hi mx =>
  split at h
  ·obtain⟨p,h1,rfl⟩:=Option.map_eq_some_iff.1 h;obtain⟨z,st'⟩:=p;obtain⟨_,u,k1,k3⟩:=Yw hR h1;exact .of rfl ⟨u,k1,k3⟩
  ·rename_i hc;obtain⟨p,h1,rfl⟩:=Option.map_eq_some_iff.1 h;obtain⟨z,st'⟩:=p;obtain⟨u,w',g',k1,k2,k3,k4⟩:=Qi hR h1;have hp:(∀ r lo m es,ev C st y≠.sl (.own r lo) m es)\/mx=none:=by
    simp only[Bool.and_eq_true,not_and,Bool.not_eq_true]at hc;cases hm:mx with
    |none=>grind
    |some m =>
     left;intro r lo m' es he;have:=hc (by rw[he];rfl);grind
   obtain⟨rfl,rfl⟩:=k4 hp;exact .of rfl ⟨u,k1,k3⟩
 case makeFunc fn first CW =>
  obtain⟨f,hf,rfl⟩:=Option.map_eq_some_iff.1 h;unfold yN at hf;split at hf
  ·rename_i f' pD;simp at hf;subst hf;refine .of (s:=Instr.makeFunc (.func f') (first.map a.eval) (CW.map a.eval)) rfl ⟨_,rfl,?_⟩;have hf0:first = #[]:=by grind
   subst hf0;simp only[VR];refine⟨_,by simp;rfl,?_⟩;have:=Hx hR CW.toList;simp_all[M4]
  grind
 case typeAssert y xt t ok =>
  obtain⟨u,j1,j2⟩:=Rc (P:=C.P) (xt:=xt) (hR.ev y) h;exact .of (s:=Instr.typeAssert (a.eval y) xt t ok) rfl ⟨u,j1,j2⟩
 case makeInterface t y =>
  split at h
  ·rename_i hc;have h':=Option.some.inj h;subst h';refine .of rfl ⟨_,run_makeInterface w t _ hc,?_⟩;simp only[VR];exact⟨_,rfl,hR.ev y⟩
  grind
 case call c =>
  split at h
  ·rename_i b hb;obtain⟨callee,args,argTypes⟩:=c;simp only at hb;subst hb;obtain⟨consts,he⟩:=M5 a (o:=⟨dst,.call { callee:=.builtin b,args,argTypes },ty,after,x2,x3⟩) rfl;exact VT hR he h
  grind
 all_goals(cases h)
def Grow.refl(g:Gh)(w:World):Grow [] [] [] g w g w where
 toLasts:=WR g w [] []
 os:=rfl
 tape:=⟨rfl,by omega⟩
 output:=rfl
 size:=Nat.le_refl _
 other:=λ_ _ h=>⟨h,rfl⟩
 kept:=λ_ _ _ h _=>⟨h,rfl⟩
def AfB{o:Oper}{x:AV}(h:mj C o st=some x):yu C o st x [] [] [] []:=by
 intro A N g a w hR K Q hk;obtain⟨u,h1,h2⟩:=eW hR h;exact h1.wp (hk u g w (Grow.refl g w) h2 (λs cs hs=>by cases hs))
def zK{o:Oper}{t d:Nat}{zs:List Value}(ho:o.op=.alloc t)(hd:o.dst=some d)(hz:zeroOf C.P t=some zs):yu C o st (.ptr (nm d) 0) [] [nm d] [nm d] [(nm d,vals zs)]:=by
 intro A N g a w hR K Q hk;have pK:∃ z,(zeroValue t).run C.P w=.ok z w/\zs=z.cells.toList:=by
  unfold zeroOf at hz;obtain⟨z,ox,xr⟩:=Option.map_eq_some_iff.1 hz;obtain⟨i,hi,hiz⟩:=Option.bind_eq_some_iff.1 ox;simp_all[zeroValue,run_typeInfo]
 obtain⟨z,ox,rfl⟩:=pK;obtain⟨dst,op,ty,after,x2,x3⟩:=o;simp only at ho hd;subst ho;subst hd;have YZ:Does C.P ⟨some d,.alloc t,ty,after,x2,x3⟩ a w (.pointer (some ⟨w.heap.size,0,none⟩)) (w.alloc (.cells z.cells t)) :=
  Kg (s:=Instr.alloc t true (.tuple #[])) rfl (by simp[Instr.alloc,ox,QT])
 have hl:=Nk g w (.cells z.cells t) (nm d);refine YZ.wp (hk _ (g.DJ w.heap.size (nm d)) _ ?_ ?_ λs cs hs=>?_)
 ·exact { toLasts:=hl,os:=rfl,tape:=⟨rfl,by simp⟩,output:=rfl,size:=by simp,other:=λb hb ho=>⟨by grind[Gh.DJ],At w _ b hb⟩,kept:=λs _ _ ho hb=>⟨by grind[Gh.DJ],At w _ _ hb⟩ }
 ·simp[VR,Gh.DJ,Mr]
 ·simp only[lk]at hs;split at hs
  ·rename_i he;injection hs with hs;subst hs;subst he
   refine⟨by simp[Gh.DJ],.inl ⟨Mr d,z.cells,t,?_,Kv _⟩⟩;grind[Gh.DJ,heap_alloc_new]
  grind
end
end Go.Abs
