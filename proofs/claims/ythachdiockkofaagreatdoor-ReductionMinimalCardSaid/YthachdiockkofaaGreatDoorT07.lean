/- part 7 of the proof -/
import Derived.Test.YthachdiockkofaaGreatDoorT06
set_option linter.all false
namespace Go.Abs
def Hl(d:Option Nat)(K:St→Prop):Option AV→St→Prop
 |some x,st=>K (st.put d x)
 |none,_=>False
theorem nd{α:Sort _}{a b:α}(h:a=b):a=b:=h
@[go_sem] theorem Z5(d:Option Nat)(K:St→Prop)(x:AV)(st:St):Hl d K (some x) st=K (st.put d x):=nd rfl
@[go_sem] theorem Z4(d:Option Nat)(K:St→Prop)(x:AV)(st:St):DF d K (some (x,st))=K (st.put d x):=nd rfl
theorem CQ(d:Option Nat)(K:St→Prop)(o:Option AV)(st:St):DF d K (o.map (·,st))=Hl d K o st:=by cases o<;>rfl
@[go_sem] theorem bV(k:Nat)(x:AV)(t:List (Nat × AV))(o:List (Nat × List AV)):St.put (some k) x ⟨t,o⟩=⟨(k,x)::t,o⟩:=rfl
@[go_sem] theorem XH(x:AV)(st:St):St.put none x st=st:=rfl
@[go_sem] theorem cw{α:Type}(k j:Nat)(x:α)(l:List (Nat × α)):lk k ((j,x)::l)=if j=k then some x else lk k l:=rfl
@[go_sem] theorem cz{α:Type}(k:Nat):lk k ([]:List (Nat × α))=none:=rfl
@[go_sem] theorem cU(C:Ctx)(k:Nat)(t:List (Nat × AV))(o:List (Nat × List AV)):ev C ⟨t,o⟩ (.tmp k)=(lk k t).getD .undef:=rfl
@[go_sem] theorem bb(C:Ctx)(st:St)(v:Value):ev C st (.const v)=.v v:=rfl
@[go_sem] theorem cp(C:Ctx)(st:St)(f:Nat):ev C st (.func f)=.fn f []:=rfl
@[go_sem] theorem ao(C:Ctx)(st:St)(i:Nat):ev C st (.global i)=(match C.G i with
  |some cs=>.ep .no 0 cs 0
  |none=>.undef):=rfl
section
variable (X:Env) (Q:Ex→St→Prop) (K:St→Prop) (st:St)
@[go_sem] theorem cj:wpA X .skip Q=Q .normal:=nd rfl
@[go_sem] theorem ae(id:Nat)(ops:Array Oper):wpA X (.region id ops false) Q=AR X ops ops.toList (Q .normal):=nd rfl
@[go_sem] theorem cb(id:Nat)(ops:Array Oper):wpA X (.region id ops true) Q=JB X ops (Q .normal):=nd rfl
@[go_sem] theorem cN(x y:Code):wpA X (.seq x y) Q=wpA X x (Pz (wpA X y Q) Q):=nd rfl
@[go_sem] theorem ca(c:Operand)(x y:Code):wpA X (.cond c x y) Q st=Nr (ev X.C st c) (wpA X x Q) (wpA X y Q) st:=nd rfl
@[go_sem] theorem aP(id:Nat)(c:Code):wpA X (.block id c) Q=wpA X c (Ms id Q):=nd rfl
@[go_sem] theorem cg(c:Code):wpA X (.loop c) Q=Xj X (wpA X c) Q:=nd rfl
@[go_sem] theorem cc(id:Nat):wpA X (.exit id) Q=Q (.exit id):=nd rfl
@[go_sem] theorem cM:wpA X .ret Q=Q .ret:=nd rfl
@[go_sem] theorem aR(c:Code):wpA X (.scope c) Q=wpA X c Q:=nd rfl
@[go_sem] theorem aQ(l:Nat):wpA X (.label l) Q=Q .normal:=nd rfl
@[go_sem] theorem Y0:Pz K Q .normal=K:=nd rfl
@[go_sem] theorem Z7(i:Nat):Pz K Q (.exit i)=Q (.exit i):=nd rfl
@[go_sem] theorem aO:Pz K Q .ret=Q .ret:=nd rfl
@[go_sem] theorem X7(id:Nat):Ms id Q .normal=Q .normal:=nd rfl
@[go_sem] theorem Y5(id i:Nat):Ms id Q (.exit i)=if i=id then Q .normal else Q (.exit i):=nd rfl
@[go_sem] theorem Zx(id:Nat):Ms id Q .ret=Q .ret:=nd rfl
@[go_sem] theorem cm(b:Bool)(K1 K2:St→Prop):Nr (.v (.bool b)) K1 K2 st=((b=true→K1 st)∧(b=false→K2 st)):=nd rfl
@[go_sem high] theorem ZA(K1 K2:St→Prop):Nr (.v (.bool true)) K1 K2 st=K1 st:=by simp[Nr]
@[go_sem high] theorem Za(K1 K2:St→Prop):Nr (.v (.bool false)) K1 K2 st=K2 st:=by simp[Nr]
@[go_sem] theorem bQ(all:Array Oper):AR X all [] K=K:=nd rfl
@[go_sem] theorem cq(C:Ctx):evs C st []=[]:=rfl
@[go_sem] theorem bf(C:Ctx)(x:Operand)(xs:List Operand):evs C st (x::xs)=ev C st x::evs C st xs:=rfl
@[go_sem] theorem aW(d:Option Nat)(f:Nat)(first xs:List AV):Sn X d (.mv f first) xs K st=AI X d f (first++xs) K st:=nd rfl
@[go_sem] theorem aV(d:Option Nat)(f:Nat)(caps xs:List AV):Sn X d (.fn f caps) xs K st=AI X d f (xs++caps) K st:=nd rfl
variable (all:Array Oper) (rest:List Oper) (d:Option Nat) (ty:TypeId) (pos:String) (aft:Array Edge)
@[go_sem] theorem bM(op:Op)(j:Nat)(b:Bool):AR X all (⟨d,op,ty,pos,aft,some (j,b)⟩::rest) K st =
 (match guardOf all j st with
 |some (.v (.bool b'))=>EF b' b (AR X all (⟨d,op,ty,pos,aft,none⟩::rest) K (st.learn (gdst all j) b)) (AR X all rest K ((st.learn (gdst all j) (!b)).put d (.tup [])))
 |some (.tup [])=>AR X all rest K (st.put d (.tup []))
 |_=>False):=nd rfl
@[go_sem ↓] theorem b0(p q:Prop):EF true true p q=p:=by simp[EF]
@[go_sem ↓] theorem b6(p q:Prop):EF false true p q=q:=by simp[EF]
@[go_sem ↓] theorem b7(p q:Prop):EF true false p q=q:=by simp[EF]
@[go_sem ↓] theorem b8(p q:Prop):EF false false p q=p:=by simp[EF]
@[go_sem] theorem bt(j:Nat):gdst all j=(all[j]?).bind (·.dst):=rfl
@[go_sem] theorem ZN(k:Nat)(b:Bool)(t:List (Nat × AV))(o:List (Nat × List AV)):St.learn (some k) b ⟨t,o⟩=⟨Wq k (.v (.bool b)) t,o⟩:=rfl
def lkO(d:Option Nat)(l:List (Nat × AV)):Option AV:=match d with
 |some k=>lk k l
 |none=>none
@[go_sem] theorem bC(k:Nat)(l:List (Nat × AV)):lkO (some k) l=lk k l:=rfl
@[go_sem] theorem Zj(j:Nat):guardOf all j st=lkO ((all[j]?).bind (·.dst)) st.tmps:=by
 unfold guardOf lkO
 cases (all[j]?).bind (·.dst)<;>rfl
@[go_sem] theorem aM(b':Bool)(p q:Prop):EF b' true p q=((b'=true→p)∧(b'=false→q)):=by cases b'<;>simp[EF]
@[go_sem] theorem aL(b':Bool)(p q:Prop):EF b' false p q=((b'=false→p)∧(b'=true→q)):=by cases b'<;>simp[EF]
@[go_sem] theorem cG(x:Operand):AR X all (⟨d,.move x,ty,pos,aft,none⟩::rest) K st=AR X all rest K (st.put d (ev X.C st x)):=nd rfl
@[go_sem] theorem aI(x:Operand):AR X all (⟨d,.assign x,ty,pos,aft,none⟩::rest) K st=AR X all rest K (st.put d (ev X.C st x)):=nd rfl
@[go_sem] theorem ZO(P:Program)(t:TypeId)(objs:List (Nat × List AV))(s:Nat)(k:AV):RK P t objs (.mp s) k=(lk s objs).bind fun cs=>N7 P t cs k:=rfl
@[go_sem] theorem ZM(P:Program)(t:TypeId)(objs:List (Nat × List AV))(s:Nat)(k v:AV):RC P t objs (.mp s) k v=(lk s objs).bind fun cs=>(N5 P t cs k v).map fun cs'=>upd s cs' objs:=rfl
@[go_sem] theorem cH(c a b:Operand):AR X all (⟨d,.pick c a b,ty,pos,aft,none⟩::rest) K st=Hl d (AR X all rest K) (JZ (ev X.C st c) (ev X.C st a) (ev X.C st b)) st:=CQ _ _ _ _
@[go_sem] theorem bI(t:TypeId)(k:Nat):AR X all (⟨some k,.alloc t,ty,pos,aft,none⟩::rest) K st=DF (some k) (AR X all rest K) (match zeroOf X.C.P t with
  |some zs=>some (.ptr (nm k) 0,⟨(st.kill [] [nm k]).tmps,(nm k,vals zs)::(st.kill [] [nm k]).objs⟩)
  |none=>none):=by
 simp only[AR,Hf,doA,Gj]
 cases zeroOf X.C.P t<;>rfl
@[go_sem] theorem cY(t:TypeId)(x:Operand)(k:Nat):AR X all (⟨some k,.box t x,ty,pos,aft,none⟩::rest) K st=DF (some k) (AR X all rest K) (if BN (ev X.C st x).cells=true then some (.ptr (nm k) 0,⟨(st.kill [] [nm k]).tmps,(nm k,Eb [] [nm k] (ev X.C st x).cells)::(st.kill [] [nm k]).objs⟩) else none):=nd rfl
def QE(C:Ctx)(t:TypeId)(p:AV)(objs:List (Nat × List AV)):Option AV:=match AN C.P t,Bv C.P t with
 |some agg,some n=>NK agg n objs p
 |_,_=>none
@[go_sem] theorem aF(C:Ctx)(t:TypeId)(p:AV)(objs:List (Nat × List AV)):QE C t p objs=(match AN C.P t,Bv C.P t with
 |some agg,some n=>NK agg n objs p
 |_,_=>none):=rfl
@[go_sem] theorem cF(t:TypeId)(x:Operand):AR X all (⟨d,.load t x,ty,pos,aft,none⟩::rest) K st=Hl d (AR X all rest K) (QE X.C t (ev X.C st x) st.objs) st:=by
 simp only[AR,Hf,doA,Gj,QE]
 rw[← CQ];congr 1
 cases AN X.C.P t<;>cases Bv X.C.P t<;>rfl
def WG(o:Option St)(K:St→Prop):Prop:=match o with
 |some st=>K st
 |none=>False
@[go_sem] theorem Zw(st:St)(K:St→Prop):WG (some st) K=K st:=nd rfl
@[go_sem] theorem bP(t:TypeId)(p x:Operand):AR X all (⟨none,.store t p x,ty,pos,aft,none⟩::rest) K st=(match Bv X.C.P t with
  |some n=>WG (M6 n st (ev X.C st p) (ev X.C st x)) (AR X all rest K)
  |none=>False):=by
 simp only[AR,Hf,doA,Gj]
 cases Bv X.C.P t with
 |none=>rfl
 |some n=>cases h:M6 n st (ev X.C st p) (ev X.C st x)<;>simp[h,DF,WG,XH]
@[go_sem] theorem bN(t:TypeId)(x i:Operand):AR X all (⟨d,.index t x i,ty,pos,aft,none⟩::rest) K st=Hl d (AR X all rest K) (V4 X.C.P t (ev X.C st i) (ev X.C st x)) st:=CQ _ _ _ _
@[go_sem] theorem YL(t:TypeId)(x:Operand)(i:Nat):AR X all (⟨d,.fieldAddr t x i,ty,pos,aft,none⟩::rest) K st=Hl d (AR X all rest K) (match AO X.C.P t i with
  |some off=>K7 off (ev X.C st x)
  |none=>none) st:=by
 simp only[AR,Hf,doA,Gj]
 cases AO X.C.P t i with
 |none=>rfl
 |some off=>exact CQ _ _ _ _
def MP(C:Ctx)(t:TypeId)(x i:AV):Option AV:=match i with
 |.v (.int _ k)=>match Am C.P t with
   |some (_,n)=>MO n k x
   |none=>match CN C.P t with
    |some (len,n)=>MN len n k x
    |none=>none
 |_=>none
@[go_sem] theorem ZL(C:Ctx)(t:TypeId)(x:AV)(kd:IntKind)(k:Int):MP C t x (.v (.int kd k))=(match Am C.P t with
  |some (_,n)=>MO n k x
  |none=>match CN C.P t with
   |some (len,n)=>MN len n k x
   |none=>none):=rfl
@[go_sem] theorem YM(t:TypeId)(x i:Operand):AR X all (⟨d,.indexAddr t x i,ty,pos,aft,none⟩::rest) K st=Hl d (AR X all rest K) (MP X.C t (ev X.C st x) (ev X.C st i)) st:=by
 simp only[AR,Hf,doA,Gj,MP]
 rw[← CQ];congr 1
 generalize ev X.C st i=v
 cases v<;>try rfl
 rename_i u
 cases u<;>try rfl
 simp only
 cases Am X.C.P t<;>cases CN X.C.P t<;>rfl
@[go_sem] theorem Zo(x:Operand):AR X all (⟨d,.nilCheck x,ty,pos,aft,none⟩::rest) K st=Hl d (AR X all rest K) (Ho (ev X.C st x)) st:=CQ _ _ _ _
@[go_sem] theorem bJ(op:BinOp)(t t2:TypeId)(x y:Operand):AR X all (⟨d,.binOp op t x y t2,ty,pos,aft,none⟩::rest) K st=Hl d (AR X all rest K) (TV X.C.P op t (ev X.C st x) (ev X.C st y)) st:=CQ _ _ _ _
@[go_sem] theorem cI(op:UnOp)(t:TypeId)(x:Operand):AR X all (⟨d,.unOp op t x,ty,pos,aft,none⟩::rest) K st=Hl d (AR X all rest K) (unA op (ev X.C st x)) st:=CQ _ _ _ _
def H9(i:Nat):AV→Option AV
 |.tup cs=>cs[i]?
 |_=>none
@[go_sem] theorem Yq(i:Nat)(cs:List AV):H9 i (.tup cs)=cs[i]?:=rfl
@[go_sem] theorem ZT(x:Operand)(i:Nat):AR X all (⟨d,.extract x i,ty,pos,aft,none⟩::rest) K st=Hl d (AR X all rest K) (H9 i (ev X.C st x)) st:=by
 simp only[AR,Hf,doA,Gj,H9]
 rw[← CQ];congr 1
 generalize ev X.C st x=v
 cases v<;>rfl
def Mu(C:Ctx)(t:TypeId)(ps:List (Nat × AV)):Option AV:=match zeroOf C.P t,AN C.P t with
  |some zs,some true=>if sized C.P t=true then (JG (placeOf C.P t) (vals zs) ps).map .agg else none
  |_,_=>none
@[go_sem] theorem Zz(C:Ctx)(t:TypeId)(ps:List (Nat × AV)):Mu C t ps=(match zeroOf C.P t,AN C.P t with
  |some zs,some true=>if sized C.P t=true then (JG (placeOf C.P t) (vals zs) ps).map .agg else none
  |_,_=>none):=rfl
def Gw(C:Ctx)(st:St):List (Nat × Operand)→List (Nat × AV)
 |[]=>[]
 |(i,x)::ps=>(i,ev C st x)::Gw C st ps
@[go_sem] theorem ZU(C:Ctx):Gw C st []=[]:=rfl
@[go_sem] theorem Zp(C:Ctx)(i:Nat)(x:Operand)(ps:List (Nat × Operand)):Gw C st ((i,x)::ps)=(i,ev C st x)::Gw C st ps:=rfl
theorem Ip(C:Ctx)(ps:Array (Nat × Operand)):parts C st ps=Gw C st ps.toList:=by
 unfold parts
 induction ps.toList with
 | nil=>rfl
 | cons p l ih=>obtain⟨i,x⟩:=p;simp only[List.map_cons,Gw,ih]
@[go_sem] theorem bK(t:TypeId)(ps:Array (Nat × Operand)):AR X all (⟨d,.build t ps,ty,pos,aft,none⟩::rest) K st=Hl d (AR X all rest K) (Mu X.C t (Gw X.C st ps.toList)) st:=by
 simp only[AR,Hf,doA,Gj,Mu,Ip]
 rw[← CQ];congr 1
 cases zeroOf X.C.P t with
 |none=>rfl
 |some zs=>cases AN X.C.P t with
  |none=>rfl
  |some b=>cases b with
   | false=>rfl
   | true =>
    simp only
    split
    ·simp[Option.map_map,Function.comp_def]
    ·rfl
@[go_sem] theorem Ya(t:TypeId)(len k:Nat)(ps:Array (Nat × Operand)):AR X all (⟨some k,.buildSlice t len ps,ty,pos,aft,none⟩::rest) K st=(if k∈X.deep then DF (some k) (AR X all rest K) (match AW X.C.P t with
  |some (e,1,_)=>match zeroOf X.C.P e with
   |some _=>Xg (nm k) st len (Gw X.C st ps.toList)
   |none=>none
  |_=>none) else DF (some k) (AR X all rest K) (match AW X.C.P t with
  |some (e,n,_)=>match zeroOf X.C.P e with
   |some zs=>Xf (nm k) n len zs st (Gw X.C st ps.toList)
   |none=>none
  |none=>none)):=by
 simp only[AR,Hf,doA,Lb]
 by_cases hk:k∈X.deep<;>simp only[hk,if_true,if_false]
 ·simp only[N3,Ip]
  cases AW X.C.P t with
  |none=>rfl
  |some p =>
   obtain⟨e,n,b⟩:=p
   rcases n with _|_|n<;>rfl
 ·simp only[Gj,Ip]
  cases AW X.C.P t with
  |none=>rfl
  |some p=>rfl
def Xk(C:Ctx)(k:Nat)(t:TypeId)(l c:AV)(st:St):Option (AV × St):=match some k,AW C.P t,l,c with
  |some d,some (e,n,_),.v (.int _ l),.v (.int _ c)=>match zeroOf C.P e with
   |some zs=>QF (nm d) n zs st l c
   |none=>none
  |_,_,_,_=>none
@[go_sem] theorem aG(C:Ctx)(k:Nat)(t:TypeId)(kl kc:IntKind)(l c:Int):Xk C k t (.v (.int kl l)) (.v (.int kc c)) st=(match AW C.P t with
  |some (e,n,_)=>match zeroOf C.P e with
   |some zs=>QF (nm k) n zs st l c
   |none=>none
  |none=>none):=by
 unfold Xk
 cases AW C.P t<;>rfl
@[go_sem] theorem YO(t:TypeId)(k:Nat)(l c:Operand):AR X all (⟨some k,.makeSlice t l c,ty,pos,aft,none⟩::rest) K st=DF (some k) (AR X all rest K) (Xk X.C k t (ev X.C st l) (ev X.C st c) st):=nd rfl
def TX:Option AV→Option (Option Nat)
 |none=>some none
 |some x=>(KI x).map some
@[go_sem] theorem Y7:TX none=some none:=rfl
@[go_sem] theorem Y8(x:AV):TX (some x)=(KI x).map some:=rfl
@[go_sem] theorem Zl(C:Ctx)(o:Option Operand):BG C st o=TX (o.map (ev C st)):=by cases o<;>rfl
@[go_sem] theorem bO(t:TypeId)(x:Operand)(lo hi mx:Option Operand)(k:Nat):AR X all (⟨some k,.slice t x lo hi mx,ty,pos,aft,none⟩::rest) K st=(if k∈X.deep then DF (some k) (AR X all rest K) (Rt X.C st t (ev X.C st x) lo hi mx) else DF (some k) (AR X all rest K) (F4 X.C st t (ev X.C st x) lo hi mx)):=nd rfl
@[go_sem] theorem cn(C:Ctx)(t:TypeId)(r b k:Nat)(es:List (List AV))(hi mx:Operand):Rt C st t (.sl (.own r b) k es) none (some hi) (some mx)=(match KI (ev C st hi),KI (ev C st mx),Am C.P t with
  |some h,some m,some (_,n)=>if m=h∧k=n∧h≤es.length then some (.sl (.own r b) n (es.take h),st) else none
  |_,_,_=>none):=by
 simp only[Rt,BG]
 cases KI (ev C st hi) with
 |none=>rfl
 |some h=>cases KI (ev C st mx) with
  |none=>rfl
  |some m=>cases Am C.P t with
   |none=>rfl
   |some p=>rfl
@[go_sem] theorem Z3(C:Ctx)(t:TypeId)(tg:Tag)(n:Nat)(es:List (List AV))(lo hi mx:Option Operand):F4 C st t (.sl tg n es) lo hi mx=(match BG C st lo,BG C st hi,BG C st mx,Am C.P t with
  |some l,some (some h),some none,some (_,m)=>if n=m then Hk m false (l.getD 0) h st (.sl tg n es) else none
  |some l,some none,some none,some (_,m)=>if n=m then Hk m false (l.getD 0) es.length st (.sl tg n es) else none
  |some l,some (some h),some (some x),some (_,m)=>if n=m∧x=h then Hk m true (l.getD 0) h st (.sl tg n es) else none
  |_,_,_,_=>none):=by
 unfold F4
 cases BG C st lo with
 |none=>rfl
 |some l=>cases BG C st hi with
  |none=>rfl
  |some h=>cases BG C st mx with
   |none=>cases h<;>rfl
   |some m=>cases Am C.P t with
    |none=>cases h<;>cases m<;>rfl
    |some p =>
     obtain⟨e,k⟩:=p
     simp only[elems]
     by_cases hn:n=k
     ·cases h<;>cases m<;>simp[hn]
     ·cases h<;>cases m<;>simp[hn]
@[go_sem] theorem Zr(C:Ctx)(t:TypeId)(lo hi mx:Option Operand):F4 C st t (.v (.slice none 0 0)) lo hi mx=(match BG C st lo,BG C st hi,BG C st mx,Am C.P t with
  |some l,some h,some none,some (_,m)=>Hk m false (l.getD 0) (h.getD 0) st (.v (.slice none 0 0))
  |some l,some (some h),some (some x),some (_,m)=>if x=h then Hk m true (l.getD 0) h st (.v (.slice none 0 0)) else none
  |_,_,_,_=>none):=by
 unfold F4
 cases BG C st lo with
 |none=>rfl
 |some l=>cases BG C st hi with
  |none=>rfl
  |some h=>cases BG C st mx with
   |none=>cases h<;>rfl
   |some m=>cases Am C.P t with
    |none=>cases h<;>cases m<;>rfl
    |some p=>cases h<;>cases m<;>rfl
@[go_sem] theorem YN(f:Nat)(x:Operand):AR X all (⟨d,.makeFunc (.func f) #[x] #[],ty,pos,aft,none⟩::rest) K st=AR X all rest K (st.put d (.mv f [ev X.C st x])):=nd rfl
@[go_sem] theorem Zn(f:Nat)(caps:Array Operand):AR X all (⟨d,.makeFunc (.func f) #[] caps,ty,pos,aft,none⟩::rest) K st=AR X all rest K (st.put d (.fn f (evs X.C st caps.toList))):=by
 rw[Kk];rfl
@[go_sem] theorem cD(f:Operand)(args:Array Operand)(ts:Array TypeId):AR X all (⟨d,.call ⟨.value f,args,ts⟩,ty,pos,aft,none⟩::rest) K st=Sn X d (ev X.C st f) (evs X.C st args.toList) (AR X all rest K) st:=nd rfl
@[go_sem] theorem c6(x:Operand)(t:TypeId):AR X all (⟨d,.call ⟨.builtin .len,#[x],#[t]⟩,ty,pos,aft,none⟩::rest) K st=(if JQ X.C.P t (ev X.C st x)=true then Hl d (AR X all rest K) (MT (ev X.C st x)) st else False):=by
 simp only[AR,Hf,doA,Gj,H3]
 split
 ·exact CQ _ _ _ _
 ·rfl
@[go_sem] theorem aH(x y:Operand)(t t2:TypeId)(k:Nat):AR X all (⟨some k,.call ⟨.builtin .append,#[x,y],#[t,t2]⟩,ty,pos,aft,none⟩::rest) K st=(if k∈X.deep then DF (some k) (AR X all rest K) (match AW X.C.P t with
  |some (_,1,_)=>if As X.C.P t2=true then Lw (nm k) st (ev X.C st x) (ev X.C st y) else none
  |_=>none) else (match AW X.C.P t with
  |some (e,n,_)=>if As X.C.P t2=true then DF (some k) (AR X all rest K) (Lv (nm k) n st (ev X.C st x) (ev X.C st y)) else DF (some k) (AR X all rest K) (match zeroOf X.C.P e with
   |some zs=>Jr X.C.P (nm k) n t2 zs st (ev X.C st x) (ev X.C st y)
   |none=>none)
  |none=>False)):=by
 simp only[AR,Hf,doA,Lb]
 by_cases hk:k∈X.deep<;>simp only[hk,if_true,if_false]
 ·simp only[N2]
  cases AW X.C.P t with
  |none=>rfl
  |some p =>
   obtain⟨e,n,b⟩:=p
   rcases n with _|_|n<;>rfl
 ·simp only[Gj,H3]
  cases AW X.C.P t with
  |none=>rfl
  |some p =>
   obtain⟨e,n,b⟩:=p
   simp only
   split<;>rfl
@[go_sem] theorem cE(x y:Operand)(t t2:TypeId):AR X all (⟨d,.call ⟨.builtin .copy,#[x,y],#[t,t2]⟩,ty,pos,aft,none⟩::rest) K st=DF d (AR X all rest K) (Sx X.C.P t st (ev X.C st x) (ev X.C st y)):=nd rfl
@[go_sem] theorem bL(x:Operand)(t:TypeId):AR X all (⟨d,.call ⟨.builtin .clear,#[x],#[t]⟩,ty,pos,aft,none⟩::rest) K st=DF d (AR X all rest K) (Ox X.C.P t st (ev X.C st x)):=nd rfl
@[go_sem] theorem cZ(x:Operand)(t:TypeId):AR X all (⟨d,.call ⟨.builtin .cap,#[x],#[t]⟩,ty,pos,aft,none⟩::rest) K st=Hl d (AR X all rest K) (WJ X.C.P t (ev X.C st x)) st:=CQ _ _ _ _
def V9:AV→AV→Option AV
 |.v (.int k a),.v (.int _ b)=>some (.v (.int k (if b > a then b else a)))
 |_,_=>none
def YE:AV→AV→Option AV
 |.v (.int k a),.v (.int _ b)=>some (.v (.int k (if b<a then b else a)))
 |_,_=>none
@[go_sem] theorem bD(k k':IntKind)(a b:Int):V9 (.v (.int k a)) (.v (.int k' b))=some (.v (.int k (if b > a then b else a))):=rfl
@[go_sem] theorem bE(k k':IntKind)(a b:Int):YE (.v (.int k a)) (.v (.int k' b))=some (.v (.int k (if b<a then b else a))):=rfl
@[go_sem] theorem c7(x y:Operand)(ts:Array TypeId):AR X all (⟨d,.call ⟨.builtin .max,#[x,y],ts⟩,ty,pos,aft,none⟩::rest) K st=Hl d (AR X all rest K) (V9 (ev X.C st x) (ev X.C st y)) st:=by
 simp only[AR,Hf,doA,Gj,H3,V9]
 rw[← CQ];congr 1
 generalize ev X.C st x=v
 generalize ev X.C st y=v'
 cases v with
 | v u=>cases v' with
  | v u'=>cases u<;>cases u'<;>rfl
  |_=>cases u<;>rfl
 |_=>rfl
end
-- values
@[go_sem] theorem bB(P:Program)(t:TypeId)(tg:Tag)(n:Nat)(es:List (List AV)):JQ P t (.sl tg n es)=As P t:=rfl
@[go_sem] theorem aC(P:Program)(t:TypeId):JQ P t (.v (.slice none 0 0))=As P t:=rfl
@[go_sem] theorem aD(P:Program)(t:TypeId)(s:ByteArray):JQ P t (.v (.string s))=I5 P t:=rfl
@[go_sem] theorem cu(tg:Tag)(n:Nat)(es:List (List AV)):MT (.sl tg n es)=some (.v (.int .i64 es.length)):=rfl
@[go_sem] theorem bx(xs:List AV):MT (.mem true xs)=some (.v (.int .i64 xs.length)):=rfl
@[go_sem] theorem aB(P:Program)(t:TypeId)(b:Bool)(xs:List AV):JQ P t (.mem b xs)=As P t:=rfl
@[go_sem] theorem bz:MT (.v (.slice none 0 0))=some (.v (.int .i64 0)):=rfl
@[go_sem] theorem bA(s:ByteArray):MT (.v (.string s))=some (.v (.int .i64 s.size)):=rfl
@[go_sem] theorem bu(r i j off m:Nat)(bss:List (List (List AV))):MT (.hnd .dsl r i j off m bss)=some (.v (.int .i64 bss.length)):=rfl
@[go_sem] theorem bw(r i j off m:Nat)(b:List (List AV)):MT (.hnd .isl r i j off m [b])=some (.v (.int .i64 b.length)):=rfl
@[go_sem] theorem aA(P:Program)(t:TypeId)(k:HK)(r i j off m:Nat)(b:List (List (List AV))):JQ P t (.hnd k r i j off m b)=As P t:=rfl
@[go_sem] theorem cJ(p x y:Bool):JZ (.v (.bool p)) (.v (.bool x)) (.v (.bool y))=some (.v (.bool (bif p then x else y))):=rfl
@[go_sem high] theorem bT(x y:AV):JZ (.v (.bool true)) x y=some x:=by unfold JZ;split<;>simp_all
@[go_sem high] theorem bS(x y:AV):JZ (.v (.bool false)) x y=some y:=by unfold JZ;split<;>simp_all
@[go_sem] theorem bG(s o:Nat):Ho (.ptr s o)=some (.ptr s o):=rfl
@[go_sem] theorem cA(t:Tag)(i:Nat)(cs:List AV)(o:Nat):Ho (.ep t i cs o)=some (.ep t i cs o):=rfl
@[go_sem] theorem cB(f:Nat)(cs:List AV):Ho (.fn f cs)=some (.fn f cs):=rfl
attribute [go_sem] cond_true cond_false bne_self_eq_false Wq mkA NK K7 MO MN elems M6 Xf QF KI Lv Hk JG OP V4 AV.cells He BN upd cut FE J3 rowsOf vals chunk AV.kill Eb KG GB St.kill AV.freeze B0 nm unA TV RE Ka RX A6 DN AV.setRow Fw St.setRow AV.Ay DM Mh Mg St.Ay Sx Ox WJ Jr Option.isNone_none Option.isNone_some AV.A9 Fv St.A9 Hset M0 Xg Lw frozen St.freeze UP List.map_cons List.map_nil List.length_cons List.length_nil List.drop_zero List.drop_succ_cons List.take_succ_cons List.take_zero List.drop_nil List.take_nil List.cons_append List.nil_append List.append_nil List.getElem?_toArray List.getElem?_cons_zero List.getElem?_cons_succ List.flatten_cons List.flatten_nil List.replicate_zero List.replicate_succ Option.map_some Option.map_none Option.getD_some Option.getD_none Option.bind_some Option.bind_none if_true if_false Nat.reduceEqDiff Nat.reduceAdd Nat.reduceMul Nat.reduceLeDiff Nat.reduceSub Nat.reduceLT Nat.zero_add Nat.add_zero and_true true_and and_self List.mem_cons List.mem_nil_iff List.not_mem_nil or_false false_or or_self not_false_eq_true not_true_eq_false Bool.false_eq_true Bool.true_eq_false Bool.not_true Bool.not_false Bool.and_true Bool.true_and Bool.false_and Bool.and_false beq_self_eq_true decide_true decide_false reduceCtorEq forall_const implies_true false_implies
@[go_sem] theorem Y9(n:Nat):(0≤(n:Int))=True:=by simp
attribute [go_sem] Int.cast_ofNat_Int Int.reduceBNe Int.reduceBEq Bool.not_not Int.toNat_natCast Int.toNat_zero Int.reduceLE Int.reduceLT Int.reduceToNat Int.reduceAdd Int.reduceSub Int.reduceMul Int.reduceNeg Nat.le_refl Nat.zero_le Nat.sub_zero List.take_length List.length_take List.length_drop List.length_append List.length_map
theorem wrap64(n:Int)(h1:-9223372036854775808≤n)(h2:n≤9223372036854775807):IntKind.i64.wrap n=n:=by
 simp only[IntKind.wrap,IntKind.signed,IntKind.bits,Bool.true_and,decide_eq_true_eq,ge_iff_le,Nat.reduceSub]
 split<;>omega
@[go_sem] theorem bW(ρ:Rn):Dz ρ []=[]:=rfl
@[go_sem] theorem aJ(ρ:Rn)(k:Nat)(cs:List AV)(o:List (Nat × List AV)):Dz ρ ((k,cs)::o)=(match lk k ρ.m with|some s=>(s,Ei ρ cs)::Dz ρ o|none=>Dz ρ o):=by
 simp only[Dz,List.filterMap_cons]
 cases lk k ρ.m<;>rfl
attribute [go_sem] names NR AV.ren Ei XL J7 inv rngs Way.back H2 Ff pack List.filterMap_cons_some List.filterMap_cons_none List.filterMap_nil List.map_map List.mem_singleton
attribute [go_sem ↓] reduceIte
end Go.Abs
namespace Go.Abs
def Vk(v:Way)(st:St):List (Nat × List AV)→Prop
 |[]=>True
 |(s,cs)::l=>lk s (Dz v.ρ st.objs)=some cs∧Vk v st l
theorem Vk.has{v:Way}{st:St}:∀ {ob:List (Nat × List AV)},Vk v st ob→Has v st ob
 |(s,c)::l,h,s',cs,hs=>by
  simp only[lk]at hs
  split at hs
  ·rename_i he;injection hs with hs;subst hs;subst he;exact h.1
  ·exact Vk.has h.2 s' cs hs
def Gm(v:Way)(ob:List (Nat × List AV)):Bool :=
 Dv v.ρ.l&&Dv v.ρ.m&&Dv v.back.l&&Dv v.back.m&&(rngs v.ρ.m).all (fun s=>(names ob).contains s)&&(rngs v.fm).all (fun s=>s%64 !=63)
theorem Gm.ok{v:Way}{ob:List (Nat × List AV)}(h:Gm v ob=true):v.OK ob∧(rngs v.fm).all (fun s=>s%64 !=63)=true:=by
 simp only[Gm,Bool.and_eq_true]at h
 obtain⟨⟨⟨⟨⟨h1,h2⟩,h3⟩,h4⟩,h5⟩,h6⟩:=h
 refine⟨⟨⟨h1,h2⟩,⟨h3,h4⟩,fun s hs=>?_⟩,h6⟩
 have:=List.all_eq_true.1 h5 s hs
 simpa using this
section
variable {X:Env} {d:Option Nat} {fid:Nat} {xs xs':List AV} {K:St→Prop} {st:St} {y y':AV} {ob ob':List (Nat × List AV)}
theorem Ac.weak{C:Ctx}{f:Nat}{xs ys:List AV}{o o':List (Nat × List AV)}{y:AV}(h:Ac C f ys o y o')(hw:Hs xs ys):Ac C f xs o y o' :=
 ⟨h.1,fun g w us hg hv ho=>h.2 g w us hg (hw g w us hv) ho⟩
theorem Ac.ren{C:Ctx}{f:Nat}{xs:List AV}{o o':List (Nat × List AV)}{y:AV}(h:Ac C f xs o y o')(ρ:Rn)(hρ:ρ.OK)(hext:∀ s,s∈names o→lk s ρ.m=some s):Ac C f xs o (y.ren ρ) (Dz ρ o') :=
 ⟨h.1,fun g w us hg hv ho=>Calls.mono (h.2 g w us hg hv ho) fun e w' ⟨u,g',he,hfr,hy,ho'⟩=>⟨u,g'.ren ρ g',he,hfr.ren hρ hext,VR.ren hρ _ _ hy,fun s cs hs=>by
  obtain⟨s0,cs0,h1,h2,rfl⟩:=HB hρ hs
  exact C2.ren hρ h1 (ho' s0 cs0 h2)⟩⟩
def R4(v:Way)(st:St):List (Nat × List AV)→Prop
 |[]=>True
 |(s,cs)::l=>(∃ x,lk s (Dz v.ρ st.objs)=some x∧Af x cs)∧R4 v st l
def KY:List (Nat × List AV)→List (Nat × List AV)→Prop
 |[],[]=>True
 |(s,x)::l,(s',y)::l'=>s=s'∧Hs x y∧KY l l'
 |_,_=>False
theorem R4.split{v:Way}{st:St}:∀ {ob:List (Nat × List AV)},R4 v st ob→∃ o2,names o2=names ob∧Vk v st o2∧KY o2 ob
 |[],_=>⟨[],rfl,trivial,trivial⟩
 |(s,cs)::l,⟨⟨x,h1,h2⟩,h3⟩=>by
  obtain⟨o2,a,b,c⟩:=R4.split h3
  exact⟨(s,x)::o2,by simp only[names,List.map_cons]at a ⊢;rw[a],⟨h1,b⟩,rfl,h2.AD,c⟩
theorem KY.get:∀ {o2 ob:List (Nat × List AV)},KY o2 ob→∀ s cs,lk s ob=some cs→∃ x,lk s o2=some x∧Hs x cs
 |[],[],_,s,cs,h=>by cases h
 |(k,x)::o2,(k',y)::ob,⟨e,hw,hr⟩,s,cs,h=>by
  subst e
  simp only[lk]at h ⊢
  split at h
  ·rename_i he
   injection h with h;subst h
   exact⟨x,by simp[he],hw⟩
  ·rename_i he
   obtain⟨x',h1,h2⟩:=KY.get hr s cs h
   exact⟨x',by simp[he,h1],h2⟩
 |[],_::_,h,_,_,_=>h.elim
 |_::_,[],h,_,_,_=>h.elim
theorem Ac.X4{C:Ctx}{f:Nat}{xs:List AV}{o o2 o':List (Nat × List AV)}{y:AV}(h:Ac C f xs o y o')(hn:names o2=names o)(hw:KY o2 o):Ac C f xs o2 y o' :=
 ⟨h.1,fun g w us hg hv ho=>by
  have:=h.2 g w us hg hv fun s cs hs=>by
   obtain⟨x,h1,h2⟩:=hw.get s cs hs
   exact(ho s x h1).lift rfl (ho s x h1).1 rfl (fun us hu=>h2 g w _ hu)
  rw[hn];exact this⟩
mutual
theorem FN:∀ x:AV,x.freeze []=x
 |.undef=>rfl
 |.v x=>rfl
 |.agg cs=>by simp only[AV.freeze,DC cs]
 |.tup cs=>by simp only[AV.freeze,DC cs]
 |.sl (.own r lo) n es=>by simp[AV.freeze]
 |.sl .no n es=>rfl
 |.sl .full n es=>rfl
 |.ptr s off=>rfl
 |.ep (.own r lo) i cells off=>by simp[AV.freeze]
 |.ep .no i cells off=>rfl
 |.ep .full i cells off=>rfl
 |.fn f caps=>by simp only[AV.freeze,DC caps]
 |.mv f caps=>by simp only[AV.freeze,DC caps]
 |.mp o=>rfl
 |.ifc t x=>by simp only[AV.freeze,FN x]
 |.hnd k r i j off m bss=>by simp[AV.freeze]
 |.mem b xs=>by simp only[AV.freeze,DC xs]
theorem DC:∀ xs:List AV,B0 [] xs=xs
 |[]=>rfl
 | x::xs=>by simp only[B0,FN x,DC xs]
end
theorem St.FN(st:St):st.freeze []=st:=by
 simp[St.freeze,Abs.FN,Abs.DC]
theorem A7(v:Way)(hok:Ac X.C fid xs' ob y ob')(hx:Af (Ei v.ρ xs) xs')(hv:Gm v ob=true)(hh:R4 v st ob)(hfl:v.ρ.bs=[]∨(Flat (y.ren v.back)∧Hq (Dz v.back ob')))
 (hk:K ((st.app (rngs v.back.l) (rngs v.fm) (rngs v.back.m) (Dz v.back ob')).put d (y.ren v.back))):AI X d fid xs K st:=by
 obtain⟨o2,a,b,c⟩:=hh.split
 have hv':Gm v o2=true:=by unfold Gm at hv ⊢;rw[a];exact hv
 refine .inl ⟨[],v,o2,(fun y2 o3=>y2=y∧o3=ob'),(Gm.ok hv').1,(Gm.ok hv').2,?_,?_,fun y2 o3 hS=>?_⟩
 ·rw[DC];exact((hok.weak hx.AD).X4 a c).toP
 ·rw[St.FN];exact b.has
 ·obtain⟨h1,h2⟩:=hS
  subst h1;subst h2
  rw[St.FN];exact⟨hfl,hk⟩
theorem Oq(fz:List Nat)(v:Way)(hok:Ac X.C fid xs' ob y ob')(hx:Af (Ei v.ρ (B0 fz xs)) xs')(hv:Gm v ob=true)(hh:R4 v (st.freeze fz) ob)(hfl:v.ρ.bs=[]∨(Flat (y.ren v.back)∧Hq (Dz v.back ob')))
 (hk:K (((st.freeze fz).app (rngs v.back.l) (rngs v.fm) (rngs v.back.m) (Dz v.back ob')).put d (y.ren v.back))):AI X d fid xs K st:=by
 obtain⟨o2,a,b,c⟩:=hh.split
 have hv':Gm v o2=true:=by unfold Gm at hv ⊢;rw[a];exact hv
 refine .inl ⟨fz,v,o2,(fun y2 o3=>y2=y∧o3=ob'),(Gm.ok hv').1,(Gm.ok hv').2,((hok.weak hx.AD).X4 a c).toP,b.has,fun y2 o3 hS=>?_⟩
 obtain⟨h1,h2⟩:=hS
 subst h1;subst h2
 exact⟨hfl,hk⟩
theorem FnP.weak{C:Ctx}{f:Nat}{xs ys:List AV}{o:List (Nat × List AV)}{S:AV→List (Nat × List AV)→Prop}(h:FnP C f ys o S)(hw:Hs xs ys):FnP C f xs o S :=
 ⟨h.1,fun g w us hg hv ho=>h.2 g w us hg (hw g w us hv) ho⟩
theorem FnP.X4{C:Ctx}{f:Nat}{xs:List AV}{o o2:List (Nat × List AV)}{S:AV→List (Nat × List AV)→Prop}(h:FnP C f xs o S)(hn:names o2=names o)(hw:KY o2 o):FnP C f xs o2 S :=
 ⟨h.1,fun g w us hg hv ho=>by
  have:=h.2 g w us hg hv fun s cs hs=>by
   obtain⟨x,h1,h2⟩:=hw.get s cs hs
   exact(ho s x h1).lift rfl (ho s x h1).1 rfl (fun us hu=>h2 g w _ hu)
  rw[hn];exact this⟩
theorem WI{r n:Nat}{es es':List (List AV)}{ys:List AV}(hok:Od X.C fid n es ys es')(hx:xs=.sl (.own r 0) n es::ys)(hk:K ((st.Ay r n 0 es').put d (.tup []))):AI X d fid xs K st :=
 .inr ⟨r,n,es,ys,es',hx,hok,hk⟩
theorem Ki:∀ l:List (Nat × List AV),F7 [] l=l
 |[]=>rfl
 |(k,x)::l=>by simp[F7,Ki l]
theorem Rj:st.app [] [] [] []=st:=by simp[St.app,Ki,Ii,Ih]
theorem Ae(hok:Ac X.C fid xs' [] y [])(hx:Af (Ei ⟨[],[],[]⟩ xs) xs')(hy:y.ren ⟨[],[],[]⟩=y')(hk:K (st.put d y')):AI X d fid xs K st:=by
 refine A7 ⟨⟨[],[],[]⟩,[],[]⟩ hok hx rfl trivial (.inl rfl) ?_
 show K ((st.app [] [] [] []).put d (y.ren ⟨[],[],[]⟩))
 rw[Rj,hy]
 exact hk
theorem EU(fz:List Nat)(hok:Ac X.C fid xs' [] y [])(hx:Af (Ei ⟨[],[],[]⟩ (B0 fz xs)) xs')(hy:y.ren ⟨[],[],[]⟩=y')(hk:K ((st.freeze fz).put d y')):AI X d fid xs K st:=by
 refine Oq fz ⟨⟨[],[],[]⟩,[],[]⟩ hok hx rfl trivial (.inl rfl) ?_
 show K (((st.freeze fz).app [] [] [] []).put d (y.ren ⟨[],[],[]⟩))
 rw[Rj,hy]
 exact hk
theorem Dr(bs:List Nat)(hok:Ac X.C fid xs' [] y [])(hx:Af (Ei ⟨[],[],bs⟩ xs) xs')(hy:y.ren ⟨[],[],[]⟩=y')(hf:Flat y')(hk:K (st.put d y')):AI X d fid xs K st:=by
 refine A7 ⟨⟨[],[],bs⟩,[],[]⟩ hok hx rfl trivial (.inr ?_) ?_
 ·show Flat (y.ren ⟨[],[],[]⟩)∧True
  rw[hy];exact⟨hf,trivial⟩
 ·show K ((st.app [] [] [] []).put d (y.ren ⟨[],[],[]⟩))
  rw[Rj,hy]
  exact hk
theorem Ab{body:(Ex→St→Prop)→St→Prop}{Q:Ex→St→Prop}{α:Type}(I:α→St)(Inv:α→Prop)(μ:α→Nat)(x0:α)(h0:Inv x0)(hi:Imp X st (I x0))
 (hr:∀ x,Inv x→∀ J:St→Prop,(∀ st' x',Inv x'→μ x'<μ x→Imp X st' (I x')→J st')→body (Pz J Q) (I x)):Xj X body Q st :=
 ⟨α,I,Inv,μ,x0,h0,hi,fun x hx=>hr x hx _ fun _ x' h1 h2 h3=>⟨x',h1,h2,h3⟩⟩
end
@[go_sem] theorem Zd{α:Type}(a:α)(p:α→Prop):(∃ x,some a=some x∧p x)=p a:=by simp
@[go_sem] theorem ab(x:AV):Bz x x=True:=eq_true .rfl
@[go_sem] theorem Zt(x:AV):Bz x .undef=True:=eq_true .undef
@[go_sem] theorem Y1(r lo n:Nat):Bz (.v (.slice none 0 0)) (.sl (.own r lo) (n+1) [])=True:=eq_true (.AA (by omega))
@[go_sem] theorem Zs(n:Nat):Bz (.v (.slice none 0 0)) (.sl .no (n+1) [])=True:=eq_true (.Au (by omega))
@[go_sem] theorem aa(n:Nat)(es:List (List AV)):Bz (.sl .full n es) (.sl .no n es)=True:=eq_true .full
theorem Bz.int{k:IntKind}{a b:Int}(h:a=b):Bz (.v (.int k a)) (.v (.int k b)):=.eq (by rw[h])
theorem Bz.sl{t:Tag}{n:Nat}{a b:List (List AV)}(h:a=b):Bz (.sl t n a) (.sl t n b):=.eq (by rw[h])
theorem AU{X:Env}{rs:List ResultVar}{y:AV}{o':List (Nat × List AV)}{st:St}(ρ:Rn)(xs:List AV)(h1:CX X.C st rs=some xs)(h2:ρ.OK)(h3:∀ s∈X.ext,lk s ρ.m=some s)(h4:Bz ((pack xs).ren ρ) y)(h5:Ff (J7 ρ st) o'):PZ X rs y o' .ret st :=
 ⟨xs,ρ,h1,h2,h3,h4,h5⟩
@[go_sem high] theorem Yc(xs:List AV):Af xs xs=True:=eq_true (.self xs)
@[go_sem] theorem Yb(x y:AV)(xs ys:List AV):Af (x::xs) (y::ys)=(Bz x y∧Af xs ys):=rfl
attribute [go_sem] R4 St.app F7 Ki Ii Ih
end Go.Abs
namespace Go.Abs
def Sv(P:Program)(src dst:TypeId):AV→Option AV
 |.v (.int _ n)=>match SU P src,SU P dst with
  |some _,some k=>some (.v (.int k (k.wrap n)))
  |_,_=>none
 |.v (.string s)=>if I5 P src∧I5 P dst then some (.v (.string s)) else none
 |.v (.slice none 0 0)=>if Ga P src∧I5 P dst then some (.v (.string ⟨#[]⟩)) else none
 |.sl _ n es=>if n=1∧Ga P src∧I5 P dst then (unbytes es).map fun l=>.v (.string ⟨l.toArray⟩) else none
 |_=>none
def RG:AV→Bool
 |.sl (.own _ _) _ _=>true
 |_=>false
def Zi:Fn→List Operand→Option Nat
 |.func f,[]=>some f
 |_,_=>none
def Om(C:Ctx)(b:Builtin)(xs:List Operand)(ts:List TypeId)(st:St):Option AV :=
 match b with
 |.len=>match xs,ts with
  |[x],[t]=>if JQ C.P t (ev C st x)=true then MT (ev C st x) else none
  |_,_=>none
 |.max=>match xs with
  |[x,y]=>V9 (ev C st x) (ev C st y)
  |_=>none
 |.min=>match xs with
  |[x,y]=>YE (ev C st x) (ev C st y)
  |_=>none
 |_=>none
def Va(C:Ctx)(o:Oper)(st:St):Option AV :=
 match o.op with
 |.move x=>some (ev C st x)
 |.assign x=>some (ev C st x)
 |.pick c a b=>JZ (ev C st c) (ev C st a) (ev C st b)
 |.load t a=>QE C t (ev C st a) st.objs
 |.fieldAddr t x i=>match AO C.P t i with
  |some off=>K7 off (ev C st x)
  |none=>none
 |.indexAddr t x i=>MP C t (ev C st x) (ev C st i)
 |.nilCheck x=>Ho (ev C st x)
 |.binOp op t x y _=>TV C.P op t (ev C st x) (ev C st y)
 |.unOp op _ x=>unA op (ev C st x)
 |.convert src dst x=>Sv C.P src dst (ev C st x)
 |.extract x i=>H9 i (ev C st x)
 |.field t x i=>OP C.P t i (ev C st x)
 |.index t x i=>V4 C.P t (ev C st i) (ev C st x)
 |.build t ps=>Mu C t (Gw C st ps.toList)
 |.slice t x lo hi mx=>if RG (ev C st x)&&mx.isSome then (Rt C st t (ev C st x) lo hi mx).map (·.1) else (F4 C st t (ev C st x) lo hi mx).map (·.1)
 |.makeFunc fn first caps=>(Zi fn first.toList).map fun f=>.fn f (evs C st caps.toList)
 |.makeInterface t x=>if C.P.concrete t then some (.ifc t (ev C st x)) else none
 |.call c=>match c.callee with
  |.builtin b=>Om C b c.args.toList c.argTypes.toList st
  |_=>none
 |_=>none
section
variable {C:Ctx} {A:A0} {N:Nat} {g g':Gh} {st st':St} {a:Act} {w w':World} {P:Program}
theorem Sw{src dst:TypeId}{x r:AV}{ux:Value}(hx:VR g w x ux)(h:Sv P src dst x=some r):∃ u,(convert src dst ux).run P w=.ok u w∧VR g w r u:=by
 unfold Sv at h
 split at h
 ·simp only[VR]at hx;subst hx
  split at h
  ·rename_i k1 k2 h1 h2
   simp at h;subst h
   refine⟨.int k2 (k2.wrap _),?_,by simp only[VR];rfl⟩
   simp[convert,run_underlying (Ks h1),run_underlying (Ks h2),Conv.intToInt]
  ·cases h
 ·simp only[VR]at hx;subst hx
  split at h
  ·rename_i hc
   simp at h;subst h
   exact⟨_,by simp[convert,run_underlying (CD hc.1),run_underlying (CD hc.2)];rfl,by simp[VR]⟩
  ·cases h
 ·simp only[VR]at hx;subst hx
  split at h
  ·rename_i hc
   simp at h;subst h
   obtain⟨e,h1,h2,h3⟩:=DW hc.1
   exact⟨.string .empty,by simp[convert,run_underlying h1,run_underlying h2,run_underlying (CD hc.2),Conv.bytesToString],by simp[VR];rfl⟩
  ·cases h
 ·rename_i t n es
  split at h
  ·rename_i hc
   obtain⟨rfl,hc⟩:=hc
   obtain⟨l,hl,rfl⟩:=Option.map_eq_some_iff.1 h
   obtain⟨e,h1,h2,h3⟩:=DW hc.1
   obtain⟨us,hs,hp,_⟩:=FL (n:=1) (es:=es) (by omega) (by simp[elems]) hx
   obtain⟨ns,rfl,rfl⟩:=I6 hl hp
   obtain⟨hlen,hsrc⟩:=hs
   refine⟨.string ⟨(ns.map (fun n=>UInt8.ofNat n.toNat)).toArray⟩,?_,by simp only[VR]⟩
   rcases hsrc with ⟨ad,c,rfl,hcell⟩|⟨h0,c,rfl⟩
   ·rw[run_convert_bytes_string w src dst e _ _ _ h1 h2 (CD hc.2)]
    have hlc:(loadCells ad es.length).run P w=.ok (ns.map (Value.int .u8)).toArray w:=by
     have:=run_loadCells_list (P:=P) w ad (ns.map (Value.int .u8)) hcell
     rwa [hlen,Nat.mul_one]at this
    rw[run_bytesToString w ad es.length c ns hlc,foldl_push]
    simp[ByteArray.empty,ByteArray.emptyWithCapacity]
    try rfl
   ·have:ns=[]:=by
     have:ns.length=0:=by simpa [h0]using hlen
     exact List.eq_nil_of_length_eq_zero this
    subst this
    simp[convert,run_underlying h1,run_underlying h2,run_underlying (CD hc.2),Conv.bytesToString]
    rfl
  ·cases h
 ·cases h
def Re(C:Ctx)(o:Oper)(a:Act)(g:Gh)(w:World)(x:AV):Prop:=∃ u,Does C.P o a w u w∧VR g w x u
theorem Re.of{o:Oper}{x:AV}{s:Sem Value}(ho:execOp a.eval o=(do Pure.pure (Next.value (← s))))(h:∃ u,s.run C.P w=.ok u w∧VR g w x u):Re C o a g w x:=by
 obtain⟨u,h1,h2⟩:=h
 exact⟨u,GQ ho h1,h2⟩
theorem Uo{x y r:AV}{ux uy:Value}{ts:Array TypeId}{ty:TypeId}(hx:VR g w x ux)(hy:VR g w y uy)(h:V9 x y=some r):∃ u,(Builtin.max_ ts ty #[ux,uy]).run P w=.ok u w∧VR g w r u:=by
 unfold V9 at h
 split at h
 ·simp only[VR]at hx hy;subst hx;subst hy
  have h':=Option.some.inj h;subst h'
  exact⟨_,by simp[Builtin.max_,Builtin.max2];rfl,by simp only[VR]⟩
 ·cases h
theorem Up{x y r:AV}{ux uy:Value}{ts:Array TypeId}{ty:TypeId}(hx:VR g w x ux)(hy:VR g w y uy)(h:YE x y=some r):∃ u,(Builtin.min_ ts ty #[ux,uy]).run P w=.ok u w∧VR g w r u:=by
 unfold YE at h
 split at h
 ·simp only[VR]at hx hy;subst hx;subst hy
  have h':=Option.some.inj h;subst h'
  exact⟨_,by simp[Builtin.min_,Builtin.min2];rfl,by simp only[VR]⟩
 ·cases h
theorem On(hR:R C A N g st a w){o:Oper}{b:Builtin}{xs:Array Operand}{ts:Array TypeId}{consts:Array Bool}(he:execOp a.eval o=builtin b ts o.type consts (xs.map a.eval)){x:AV}
 (h:Om C b xs.toList ts.toList st=some x):Re C o a g w x:=by
 unfold Om at h
 split at h
 ·split at h
  ·rename_i y t hy ht
   split at h
   ·rename_i hok
    refine .of he ?_
    rw[Sd hy,Sd ht]
    simp only[List.map_toArray,List.map_cons,List.map_nil]
    exact O3 hok (hR.ev y) h
   ·cases h
  ·cases h
 ·split at h
  ·rename_i y z hy
   refine .of he ?_
   rw[Mr hy]
   simp only[List.map_toArray,List.map_cons,List.map_nil]
   exact Uo (hR.ev y) (hR.ev z) h
  ·cases h
 ·split at h
  ·rename_i y z hy
   refine .of he ?_
   rw[Mr hy]
   simp only[List.map_toArray,List.map_cons,List.map_nil]
   exact Up (hR.ev y) (hR.ev z) h
  ·cases h
 ·cases h
theorem Tp(hR:R C A N g st a w){o:Oper}{x:AV}(h:Va C o st=some x):Re C o a g w x:=by
 obtain⟨dst,op,ty,after,x2,x3⟩:=o
 cases op<;>simp only[Va]at h
 case move y=>simp at h;subst h;exact⟨_,.inl rfl,hR.ev y⟩
 case assign y=>simp at h;subst h;exact⟨_,.inl rfl,hR.ev y⟩
 case pick c y z =>
  obtain⟨u,k1,k2⟩:=Pl (P:=C.P) (hR.ev c) (hR.ev y) (hR.ev z) h
  exact⟨u,.inl k1,k2⟩
 case load t p =>
  unfold QE at h
  split at h
  ·rename_i agg n h1 h2
   exact .of rfl (Lg hR h1 h2 (hR.ev p) h)
  ·cases h
 case fieldAddr t p i =>
  split at h
  ·rename_i off h1
   exact .of rfl (Nv h1 (hR.ev p) h)
  ·cases h
 case indexAddr t p i =>
  unfold MP at h
  split at h
  ·rename_i k ki hi
   have hiv:=hR.ev i
   rw[hi]at hiv
   simp only[VR]at hiv
   split at h
   ·rename_i e n he
    exact .of rfl (by rw[hiv];exact LU he (hR.ev p) h)
   ·split at h
    ·rename_i len n he
     exact .of rfl (by rw[hiv];exact LS he (hR.ev p) h)
    ·cases h
  ·cases h
 case nilCheck y =>
  have:=QP (C:=C) (a:=a) (hR.ev y) h (o:=⟨dst,.nilCheck y,ty,after,x2,x3⟩) rfl rfl
  exact⟨_,.inl this.1,this.2⟩
 case binOp op t y z _=>exact .of rfl (Qa (hR.ev y) (hR.ev z) h)
 case unOp op t y=>exact .of rfl (TL (hR.ev y) h)
 case convert s d y=>exact .of rfl (Sw (hR.ev y) h)
 case extract y i =>
  unfold H9 at h
  split at h
  ·rename_i cs hc
   have hy:=hR.ev y
   rw[hc]at hy
   simp only[VR]at hy
   obtain⟨us,hu,hv⟩:=hy
   obtain⟨u,h2,h3⟩:=VRs.get hv i _ h
   refine .of (s:=Instr.extract (a.eval y) i) rfl ⟨u,?_,h3⟩
   rw[hu]
   have:us[i]?=some u:=by simpa using h2
   simp[Instr.extract,this]
  ·cases h
 case field t y i=>exact .of rfl (LN (hR.ev y) h)
 case index t y i=>exact .of rfl (OY (hR.ev i) (hR.ev y) h)
 case build t ps =>
  unfold Mu at h
  rw[← Ip]at h
  split at h
  ·rename_i zs hz ha
   split at h
   ·rename_i hs
    obtain⟨r,h1,rfl⟩:=Option.map_eq_some_iff.1 h
    exact .of (OL a rfl) (Nk hz ha hs (by simp[parts]) (H0 hR ps) h1)
   ·cases h
  ·cases h
 case slice t y lo hi mx =>
  split at h
  ·obtain⟨p,h1,rfl⟩:=Option.map_eq_some_iff.1 h
   obtain⟨z,st'⟩:=p
   obtain⟨_,u,k1,k3⟩:=Qd hR h1
   exact .of rfl ⟨u,k1,k3⟩
  ·rename_i hc
   obtain⟨p,h1,rfl⟩:=Option.map_eq_some_iff.1 h
   obtain⟨z,st'⟩:=p
   obtain⟨u,w',g',k1,k2,k3,k4⟩:=KS hR h1
   have hp:(∀ r lo m es,ev C st y≠.sl (.own r lo) m es)∨mx=none:=by
    simp only[Bool.and_eq_true,not_and,Bool.not_eq_true]at hc
    cases hm:mx with
    |none=>exact .inr rfl
    |some m =>
     left
     intro r lo m' es he
     have:=hc (by rw[he];rfl)
     rw[hm]at this
     simp at this
   obtain⟨rfl,rfl⟩:=k4 hp
   exact .of rfl ⟨u,k1,k3⟩
 case makeFunc fn first caps =>
  obtain⟨f,hf,rfl⟩:=Option.map_eq_some_iff.1 h
  unfold Zi at hf
  split at hf
  ·rename_i f' hf'
   simp at hf;subst hf
   refine .of (s:=Instr.makeFunc (.func f') (first.map a.eval) (caps.map a.eval)) rfl ⟨_,rfl,?_⟩
   have hf0:first = #[]:=by
    cases first;simp_all
   subst hf0
   simp only[VR]
   refine⟨_,by simp;rfl,?_⟩
   have:=E5 hR caps.toList
   rw[Kk]
   simpa using this
  ·cases hf
 case makeInterface t y =>
  split at h
  ·rename_i hc
   have h':=Option.some.inj h;subst h'
   refine .of rfl ⟨_,run_makeInterface w t _ hc,?_⟩
   simp only[VR]
   exact⟨_,rfl,hR.ev y⟩
  ·cases h
 case call c =>
  split at h
  ·rename_i b hb
   obtain⟨callee,args,argTypes⟩:=c
   simp only at hb;subst hb
   obtain⟨consts,he⟩:=GI a (o:=⟨dst,.call { callee:=.builtin b,args,argTypes },ty,after,x2,x3⟩) rfl
   exact On hR he h
  ·cases h
 all_goals(cases h)
theorem Grow.refl(g:Gh)(w:World):Grow [] [] [] g w g w where
 toLasts:=O1 g w [] []
 os:=rfl
 tape:=⟨rfl,by first|exact Nat.le_refl _|exact Nat.le_succ _⟩
 output:=rfl
 size:=Nat.le_refl _
 other:=fun _ _ h=>⟨h,rfl⟩
 kept:=fun _ _ _ h _=>⟨h,rfl⟩
theorem bU{o:Oper}{x:AV}(h:Va C o st=some x):OpG C o st x [] [] [] []:=by
 intro A N g a w hR K Q hk
 obtain⟨u,h1,h2⟩:=Tp hR h
 exact h1.wp (hk u g w (Grow.refl g w) h2 (fun s cs hs=>by cases hs))
theorem Zu{o:Oper}{t d:Nat}{zs:List Value}(ho:o.op=.alloc t)(hd:o.dst=some d)(hz:zeroOf C.P t=some zs):OpG C o st (.ptr (nm d) 0) [] [nm d] [nm d] [(nm d,vals zs)]:=by
 intro A N g a w hR K Q hk
 have hzz:∃ z,(zeroValue t).run C.P w=.ok z w∧zs=z.cells.toList:=by
  unfold zeroOf at hz
  obtain⟨z,hz1,hz2⟩:=Option.map_eq_some_iff.1 hz
  obtain⟨i,hi,hiz⟩:=Option.bind_eq_some_iff.1 hz1
  exact⟨z,by simp[zeroValue,run_typeInfo hi,hiz],hz2.symm⟩
 obtain⟨z,hz1,rfl⟩:=hzz
 obtain⟨dst,op,ty,after,x2,x3⟩:=o
 simp only at ho hd
 subst ho;subst hd
 have hdoes:Does C.P ⟨some d,.alloc t,ty,after,x2,x3⟩ a w (.pointer (some ⟨w.heap.size,0,none⟩)) (w.alloc (.cells z.cells t)) :=
  GQ (s:=Instr.alloc t true (.tuple #[])) rfl (by simp[Instr.alloc,hz1,Lk])
 have hl:=IU g w (.cells z.cells t) (nm d)
 refine hdoes.wp (hk _ (g.B1 w.heap.size (nm d)) _ ?_ ?_ fun s cs hs=>?_)
 ·exact { toLasts:=hl,os:=rfl,tape:=⟨rfl,by first|exact Nat.le_refl _|exact Nat.le_succ _⟩,output:=rfl,size:=by simp,other:=fun b hb ho=>⟨by simp[Gh.B1,Nat.ne_of_lt hb,ho],alloc_old w _ b hb⟩,kept:=fun s _ _ ho hb=>⟨by simp[Gh.B1,Nat.ne_of_lt hb,ho],alloc_old w _ _ hb⟩ }
 ·simp[VR,Gh.B1,Il]
 ·simp only[lk]at hs
  split at hs
  ·rename_i he
   injection hs with hs;subst hs;subst he
   refine⟨by simp[Gh.B1],.inl ⟨Il d,z.cells,t,?_,F6 _⟩⟩
   have:(g.B1 w.heap.size (nm d)).box (nm d)=w.heap.size:=by simp[Gh.B1]
   rw[this]
   exact heap_alloc_new w _
  ·cases hs
end
end Go.Abs
namespace Go.Abs
structure Res where
 x:AV
 S:List Nat
 T:List Nat
 upd:List (Nat × List AV)
def tmD(dst:Nat→Option Nat)(res:Nat→Res)(D:Nat→Bool)(base:List (Nat × AV)):Nat→List (Nat × AV)
 | 0=>base
 | j+1=>match D j,dst j with
  | true,some d=>(d,(res j).x)::tmD dst res D base j
  |_,_=>tmD dst res D base j
def obD(res:Nat→Res)(D:Nat→Bool)(base:List (Nat × List AV)):Nat→List (Nat × List AV)
 | 0=>base
 | j+1=>if D j then (res j).upd++obD res D base j else obD res D base j
def Bb(ops:Array Oper)(i:Nat):List Nat:=match ops[i]? with
 |some o=>o.after.toList.filterMap fun e=>if Region.binds .any e then some e.on else none
 |none=>[]
def CV(tab:List (List Nat × List Nat))(i:Nat):List Nat:=(tab.getD i ([],[])).1
def GC(tab:List (List Nat × List Nat))(i:Nat):List Nat:=(tab.getD i ([],[])).2
def Dk(ops:Array Oper)(i:Nat):Option Nat:=(ops[i]?).bind (·.dst)
def Yz(d:Option Nat)(l:List Nat):Bool:=match d with
 |some t=>l.contains t
 |none=>false
def clash(ops:Array Oper)(tab:List (List Nat × List Nat))(i j:Nat):Bool :=
 (match Dk ops i,Dk ops j with
 |some d,some e=>d==e
 |_,_=>false)||Yz (Dk ops j) (GC tab i)||Yz (Dk ops i) (GC tab j)
def QW(ops:Array Oper)(k:Nat)(tab:List (List Nat × List Nat)):Bool :=
 decide (k≤ops.size)&&(List.range ops.size).all (fun i=>(Bb ops i).all (fun e=>decide (e<i)) &&
  (CV tab i).all (fun p=>(Bb ops i).any fun e=>p==e||(CV tab e).contains p) &&
  (decide (i<k)||(List.range i).all fun j=>(CV tab i).contains j)) &&
 (List.range k).all fun i=>(List.range i).all fun j=>(CV tab i).contains j||!(clash ops tab i j)
structure HZ(ops:Array Oper)(k:Nat)(tab:List (List Nat × List Nat)):Prop where
 le:k≤ops.size
 edge:∀ i,i<ops.size→∀ e∈Bb ops i,e<i
 pred:∀ i,i<ops.size→∀ p∈CV tab i,∃ e∈Bb ops i,p=e∨p∈CV tab e
 tail:∀ i,i<ops.size→k≤i→∀ j,j<i→j∈CV tab i
 apart:∀ i j,i<k→j<i→j∈CV tab i∨clash ops tab i j=false
theorem QW.spec{ops:Array Oper}{k:Nat}{tab:List (List Nat × List Nat)}(h:QW ops k tab=true):HZ ops k tab:=by
 simp only[QW,Bool.and_eq_true,decide_eq_true_eq,List.all_eq_true,List.mem_range,Bool.or_eq_true,List.any_eq_true,List.contains_iff_mem,beq_iff_eq,Bool.not_eq_true']at h
 obtain⟨⟨h1,h2⟩,h3⟩:=h
 exact⟨h1,fun i hi=>(h2 i hi).1.1,fun i hi=>(h2 i hi).1.2,fun i hi hk j hj=>((h2 i hi).2.resolve_left (by omega)) j hj,fun i j hi hj=>h3 i hi j hj⟩
def Closed(ops:Array Oper)(D:Nat→Bool):Prop:=∀ i,i<ops.size→D i=true→∀ e∈Bb ops i,D e=true
section
variable {ops:Array Oper} {k:Nat} {tab:List (List Nat × List Nat)} {D:Nat→Bool}
theorem Closed.pred(hr:HZ ops k tab)(hc:Closed ops D):∀ i,i<ops.size→D i=true→∀ p∈CV tab i,D p=true:=by
 intro i
 induction i using Nat.strongRecOn with
 |_ i ih =>
  intro hi hd p hp
  obtain⟨e,he,h|h⟩:=hr.pred i hi p hp
  ·subst h;exact hc i hi hd _ he
  ·have hlt:=hr.edge i hi e he
   exact ih e hlt (by omega) (hc i hi hd e he) p h
theorem KJ(hr:HZ ops k tab)(hc:Closed ops D){i:Nat}(hi:i<ops.size)(hd:∀ e∈Bb ops i,D e=true):∀ p∈CV tab i,D p=true:=by
 intro p hp
 obtain⟨e,he,h|h⟩:=hr.pred i hi p hp
 ·subst h;exact hd _ he
 ·exact hc.pred hr e (by have:=hr.edge i hi e he;omega) (hd e he) p h
variable {dst:Nat→Option Nat} {res res':Nat→Res} {base:List (Nat × AV)} {obase:List (Nat × List AV)}
theorem Iz{D D':Nat→Bool}:∀ n,(∀ j,j<n→res j=res' j∧D j=D' j)→tmD dst res D base n=tmD dst res' D' base n
 | 0,_=>rfl
 | n+1,h=>by
  simp only[tmD,(h n (by omega)).1,(h n (by omega)).2]
  rw[Iz n fun j hj=>h j (by omega)]
theorem Im{D D':Nat→Bool}:∀ n,(∀ j,j<n→res j=res' j∧D j=D' j)→obD res D obase n=obD res' D' obase n
 | 0,_=>rfl
 | n+1,h=>by
  simp only[obD,(h n (by omega)).1,(h n (by omega)).2]
  rw[Im n fun j hj=>h j (by omega)]
theorem O7{D D':Nat→Bool}{t:Nat}:∀ n,(∀ j,j<n→dst j=some t→D j=D' j)→lk t (tmD dst res D base n)=lk t (tmD dst res D' base n)
 | 0,_=>rfl
 | n+1,h=>by
  have ih:=O7 (D:=D) (D':=D') (t:=t) n fun j hj=>h j (by omega)
  cases hd:dst n with
  |none=>cases h1:D n<;>cases h2:D' n<;>simp only[tmD,hd,h1,h2]<;>exact ih
  |some d =>
   by_cases hdt:d=t
   ·have:=h n (by omega) (by rw[hd,hdt])
    cases h1:D n<;>rw[h1]at this<;>simp only[tmD,hd,h1,← this]
    ·exact ih
    ·simp[lk,hdt]
   ·cases h1:D n<;>cases h2:D' n<;>simp only[tmD,hd,h1,h2,lk,hdt,if_false]<;>exact ih
theorem Mm{i:Nat}:∀ n,i≤n→(∀ j,i≤j→j<n→D j=false)→tmD dst res D base n=tmD dst res D base i
 | 0,h,_=>by have:i=0:=by omega
             rw[this]
 | n+1,h,hd=>by
  by_cases hi:i=n+1
  ·rw[hi]
  ·have:=hd n (by omega) (by omega)
   simp only[tmD,this]
   exact Mm n (by omega) fun j h1 h2=>hd j h1 (by omega)
def Gp(i:Nat)(D:Nat→Bool)(j:Nat):Bool:=if j=i then true else D j
theorem Jh{i t:Nat}(hdi:dst i=some t):∀ n,i<n→(∀ j,i<j→j<n→D j=true→dst j≠some t)→lk t (tmD dst res (Gp i D) base n)=some (res i).x
 | 0,h,_=>by omega
 | n+1,h,hno=>by
  by_cases hin:i=n
  ·subst hin
   simp[tmD,Gp,hdi,lk]
  ·have ih:=Jh hdi n (by omega) fun j h1 h2=>hno j h1 (by omega)
   have hn:Gp i D n=D n:=by simp[Gp,Ne.symm hin]
   simp only[tmD,hn]
   cases h1:D n with
   | false=>simpa using ih
   | true =>
    have:=hno n (by omega) (by omega) h1
    cases hd:dst n with
    |none=>simpa using ih
    |some d =>
     have hdt:d≠t:=fun e=>this (by rw[hd,e])
     simp only[lk,hdt,if_false];exact ih
theorem O6{i s:Nat}(hi:D i=false):∀ n,i<n→(∀ c,lk s (res i).upd=some c→∀ j,j≠i→j<n→D j=true→lk s (res j).upd=none) →
 lk s (obD res (Gp i D) obase n)=(lk s (res i).upd).or (lk s (obD res D obase n))
 | 0,h,_=>by omega
 | n+1,h,hno=>by
  by_cases hin:i=n
  ·subst hin
   have h1:obD res (Gp i D) obase i=obD res D obase i:=Im i fun j hj=>⟨rfl,by simp[Gp,Nat.ne_of_lt hj]⟩
   simp only[obD,Gp,if_true,hi,Bool.false_eq_true,if_false,FR]
   rw[← h1]
  ·have ih:=O6 (s:=s) hi n (by omega) fun c hc j h1 h2=>hno c hc j h1 (by omega)
   have hn:Gp i D n=D n:=by simp[Gp,Ne.symm hin]
   simp only[obD,hn]
   cases h1:D n with
   | false=>simpa using ih
   | true =>
    simp only[if_true,FR,ih]
    cases hs:lk s (res i).upd with
    |none=>simp
    |some c =>
     have:=hno c hs n (Ne.symm hin) (by omega) h1
     simp[this]
def JI(S T:List Nat)(l:List (Nat × AV)):Prop:=KG S T l=l
def ES(S T:List Nat)(l:List (Nat × List AV)):Prop:=GB S T (F7 T l)=l
theorem Qs{S T:List Nat}{p:Nat × AV}{l:List (Nat × AV)}:JI S T (p::l)↔p.2.kill S T=p.2∧JI S T l:=by
 obtain⟨k,x⟩:=p
 simp only[JI,KG,List.cons.injEq,Prod.mk.injEq,true_and]
theorem QC(S T:List Nat):∀ l:List (Nat × List AV),(GB S T (F7 T l)).length≤l.length
 |[]=>by simp[F7,GB]
 |(k,x)::l=>by
  have:=QC S T l
  simp only[F7]
  split
  ·simp;omega
  ·rename_i hk
   simp[GB,hk];omega
theorem Qr{S T:List Nat}{p:Nat × List AV}{l:List (Nat × List AV)}:ES S T (p::l)↔p.1∉T∧Eb S T p.2=p.2∧ES S T l:=by
 obtain⟨k,x⟩:=p
 simp only[ES,F7]
 by_cases hk:k∈T
 ·simp only[hk,if_true,not_true_eq_false,false_and,iff_false]
  intro h
  have:=QC S T l
  rw[h]at this
  simp at this
  omega
 ·simp[hk,GB]
theorem Nz{S T:List Nat}{l m:List (Nat × List AV)}:ES S T (l++m)↔ES S T l∧ES S T m:=by
 induction l with
 | nil=>simp[ES,F7,GB]
 | cons p l ih =>
  simp only[List.cons_append,Qr,ih]
  constructor
  ·rintro⟨h1,h2,h3,h4⟩;exact⟨⟨h1,h2,h3⟩,h4⟩
  ·rintro⟨⟨h1,h2,h3⟩,h4⟩;exact⟨h1,h2,h3,h4⟩
theorem K9{S T:List Nat}:∀ {l:List (Nat × List AV)},ES S T l→∀ s∈T,lk s l=none
 |[],_,_,_=>rfl
 |(k,x)::l,h,s,hs=>by
  obtain⟨h1,_,h3⟩:=Qr.1 h
  have:k≠s:=fun e=>h1 (by rw[e];exact hs)
  simp only[lk,this,if_false]
  exact K9 h3 s hs
theorem SK{S T:List Nat}:∀ n,JI S T base→(∀ j,j<n→D j=true→(res j).x.kill S T=(res j).x)→JI S T (tmD dst res D base n)
 | 0,h,_=>h
 | n+1,h,hj=>by
  have ih:=SK n h fun j h1=>hj j (by omega)
  cases h1:D n with
  | false=>simpa [tmD,h1]using ih
  | true =>
   cases hd:dst n with
   |none=>simpa [tmD,h1,hd]using ih
   |some d=>simp only[tmD,h1,hd];exact Qs.2 ⟨hj n (by omega) h1,ih⟩
theorem SJ{S T:List Nat}:∀ n,ES S T obase→(∀ j,j<n→D j=true→ES S T (res j).upd)→ES S T (obD res D obase n)
 | 0,h,_=>h
 | n+1,h,hj=>by
  have ih:=SJ n h fun j h1=>hj j (by omega)
  cases h1:D n with
  | false=>simpa [obD,h1]using ih
  | true=>simp only[obD,h1,if_true];exact Nz.2 ⟨hj n (by omega) h1,ih⟩
theorem JK{S T:List Nat}:∀ n,JI S T (tmD dst res (fun _=>true) base n)→JI S T base∧∀ j,j<n→(dst j).isSome=true→(res j).x.kill S T=(res j).x
 | 0,h=>⟨h,fun j hj=>by omega⟩
 | n+1,h=>by
  cases hd:dst n with
  |none =>
   simp only[tmD,hd]at h
   obtain⟨h1,h2⟩:=JK n h
   exact⟨h1,fun j hj hs=>if e:j=n then by subst e;simp[hd]at hs else h2 j (by omega) hs⟩
  |some d =>
   simp only[tmD,hd]at h
   obtain⟨h0,h'⟩:=Qs.1 h
   obtain⟨h1,h2⟩:=JK n h'
   exact⟨h1,fun j hj hs=>if e:j=n then by subst e;exact h0 else h2 j (by omega) hs⟩
theorem Hx{S T:List Nat}:∀ n,ES S T (obD res (fun _=>true) obase n)→ES S T obase∧∀ j,j<n→ES S T (res j).upd
 | 0,h=>⟨h,fun j hj=>by omega⟩
 | n+1,h=>by
  simp only[obD,if_true]at h
  obtain⟨h0,h'⟩:=Nz.1 h
  obtain⟨h1,h2⟩:=Hx n h'
  exact⟨h1,fun j hj=>if e:j=n then by subst e;exact h0 else h2 j (by omega)⟩
end
end Go.Abs
