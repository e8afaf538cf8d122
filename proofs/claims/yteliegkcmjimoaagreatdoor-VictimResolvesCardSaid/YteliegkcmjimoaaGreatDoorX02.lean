/- part 2 of the proof -/
import Derived.WideKeyRuns
import Derived.Lib.ConvBytes
import Derived.Test.YteliegkcmjimoaaGreatDoorX01
set_option linter.all false
namespace Go.Abs
def bz(op:BinOp)(k:IntKind)(a b:Int):Option Value :=
 match op with
 |.add=>some (.int k (k.wrap (a+b)))
 |.sub=>some (.int k (k.wrap (a-b)))
 |.mul=>some (.int k (k.wrap (a*b)))
 |.quo=>if b=0 then none else some (.int k (k.wrap (a.tdiv b)))
 |.rem=>if b=0 then none else some (.int k (a.tmod b))
 |.and=>some (.int k (bits .and k a b))
 |.or=>some (.int k (bits .or k a b))
 |.xor=>some (.int k (bits .xor k a b))
 |.andNot=>some (.int k (bits .andNot k a b))
 |.eql=>some (.bool (a==b))
 |.neq=>some (.bool (a !=b))
 |.lss=>some (.bool (decide (a<b)))
 |.leq=>some (.bool (decide (a<=b)))
 |.gtr=>some (.bool (decide (b<a)))
 |.geq=>some (.bool (decide (b<=a)))
 |_=>none
def O9(op:BinOp)(k:IntKind)(a b:Int):Option Value :=
 match op with
 |.shl=>if b<0 then none else some (.int k (k.wrap (a*2 ^ (min b.toNat k.bits))))
 |.shr=>if b<0 then none else some (.int k (a.fdiv (2 ^ (min b.toNat k.bits))))
 |_=>none
def bX(op:BinOp)(a b:ByteArray):Option Value :=
 match op with
 |.add=>if a.size+b.size<=9223372036854775807 then some (.string (a++b)) else none
 |.eql=>some (.bool (a.toList==b.toList))
 |.neq=>some (.bool !(a.toList==b.toList))
 |.lss=>some (.bool (Op.bytesLess a.toList b.toList))
 |.leq=>some (.bool (Op.bytesLess a.toList b.toList||a.toList==b.toList))
 |.gtr=>some (.bool !(Op.bytesLess a.toList b.toList||a.toList==b.toList))
 |.geq=>some (.bool !(Op.bytesLess a.toList b.toList))
 |_=>none
def BT:List Nat->List Value->List Value->Option Bool
 |[],[],[]=>some true
 | 1::ks,.int k a::xs,.int k' b::ys=>if k=k' then (BT ks xs ys).map λr=>(a==b)&&r else none
 | 2::ks,.string a::xs,.string b::ys=>(BT ks xs ys).map λr=>(a.toList==b.toList)&&r
 | 0::ks,.bool a::xs,.bool b::ys=>(BT ks xs ys).map λr=>(a==b)&&r
 |_,_,_=>none
def FT:List AV->Option (List Value)
 |[]=>some []
 |.v x::cs=>(FT cs).map (x::·)
 |_=>none
def G0(P:Program)(f:TypeId->Option (List Nat)):List Field->Nat->Option (List Nat)
 |[],_=>some []
 | x::fs,off=>if x.name = "_"\/x.offset≠off then none else match f x.type with
  |some ks=>if Cn P x.type=some ks.length then (G0 P f fs (off+ks.length)).map (ks++·) else none
  |none=>none
def EV(P:Program):Nat->TypeId->Option (List Nat)
 | 0,_=>none
 | d+1,t=>match P.underlying t with
  |some .bool=>some [0]
  |some (.int _)=>some [1]
  |some .string=>some [2]
  |some (.struct fs)=>if P.stoodInHeld t then none else G0 P (EV P d) fs.toList 0
  |_=>none
def Jz(P:Program)(d:Nat):List Field->Nat->Option (List Nat):=G0 P (EV P d)
def structEq(P:Program)(t:TypeId):Option (List Nat):=if Bp P t==some true&&!(P.eqGuardType P.depth t) then EV P 20 t else none
def yy(P:Program)(t:TypeId):Bool:=match P.underlying t with
 |some .bool=>true
 |_=>false
def gD(P:Program)(op:BinOp)(t:TypeId):AV->AV->Option AV
 |.v (.int k a),.v (.int k' b)=>match op with
  |.shl=>(O9 .shl k a b).map .v
  |.shr=>(O9 .shr k a b).map .v
  | op=>if k=k' then (bz op k a b).map .v else none
 |.v (.string a),.v (.string b)=>(bX op a b).map .v
 |.v (.bool a),.v (.bool b)=>if yy P t then match op with
  |.eql=>some (.v (.bool (a==b)))
  |.neq=>some (.v (.bool (!(a==b))))
  |_=>none
  else none
 |.agg xs,.agg ys=>match structEq P t,FT xs,FT ys with
  |some ks,some us,some vs=>match op with
   |.eql=>(BT ks us vs).map λb=>.v (.bool b)
   |.neq=>(BT ks us vs).map λb=>.v (.bool (!b))
   |_=>none
  |_,_,_=>none
 |.v (.slice a _ _),.v (.slice none 0 0)=>if AZ P t then match op with
  |.eql=>some (.v (.bool a.isNone))
  |.neq=>some (.v (.bool (!a.isNone)))
  |_=>none
  else none
 |.sl _ _ (_::_),.v (.slice none 0 0)=>if AZ P t then match op with
  |.eql=>some (.v (.bool false))
  |.neq=>some (.v (.bool true))
  |_=>none
  else none
 |_,_=>none
def unA(op:UnOp):AV->Option AV
 |.v (.bool b)=>match op with
  |.not=>some (.v (.bool (!b)))
  |_=>none
 |.v (.int k n)=>match op with
  |.neg=>some (.v (.int k (k.wrap (0-n))))
  |.xor=>some (.v (.int k (bits .xor k (if k.signed then -1 else k.max) n)))
  |_=>none
 |_=>none
section
variable {g:Gh} {w:World} {P:Program}
def bA{op:BinOp}{t:TypeId}{k:IntKind}{a b:Int}{v:Value}(h:bz op k a b=some v):(binOp op t (.int k a) (.int k b)).run P w=.ok v w:=by cases op<;>simp only[bz,reduceCtorEq]at h<;>simp_all[binOp,Op.intDiv,Op.intArith,Op.intCmp,Op.intBits,bits]
def Uy{op:BinOp}{t:TypeId}{k k':IntKind}{a b:Int}{v:Value}(h:O9 op k a b=some v):(binOp op t (.int k a) (.int k' b)).run P w=.ok v w:=by
 unfold O9 at h;split at h
 ·split at h
  ·cases h
  ·rename_i hb;simp at h;subst h;simp[binOp,Op.shift,hb]
 ·split at h
  ·cases h
  ·rename_i hb;simp at h;subst h;simp[binOp,Op.shift,hb]
 grind
def ph{op:BinOp}{t:TypeId}{a b:ByteArray}{v:Value}(h:bX op a b=some v):(binOp op t (.string a) (.string b)).run P w=.ok v w:=by
 unfold bX at h;split at h
 ·split at h
  ·rename_i hb;simp at h;subst h;have N8:¬ (9223372036854775807<(a.size:Int)+(b.size:Int)):=by omega
   simp[binOp,Op.stringOp,N8]
  grind
 all_goals first
  |(simp only[Option.some.injEq]at h;subst h;simp[binOp,Op.stringOp];done)
  | cases h
def IS:∀ {ks:List Nat} {xs ys:List Value} {r:Bool},BT ks xs ys=some r->xs.length=ks.length/\ys.length=ks.length:=by
 intro ks xs ys
 induction ks,xs,ys using BT.induct with
 | case1=>simp
 | case2 ks k a xs b ys ih =>
  intro r h;simp only[BT,if_true]at h;grind[Option.map_eq_some_iff]
 | case3 ks k a xs k' b ys hk=>grind[BT]
 | case4 ks a xs b ys ih =>
  grind[BT,Option.map_eq_some_iff]
 | case5 ks a xs b ys ih =>
  grind[BT,Option.map_eq_some_iff]
 | case6 ks xs ys h1 h2 h3 h4 =>
  grind[BT.eq_5]
def Hg:∀ {ks ks':List Nat} {xs ys Sr ys':List Value} {r:Bool},xs.length=ks.length->ys.length=ks.length->BT (ks++ks') (xs++Sr) (ys++ys')=some r ->
 ∃ r1 r2,BT ks xs ys=some r1/\BT ks' Sr ys'=some r2/\r=(r1&&r2)
 |[],ks',[],[],Sr,ys',r,_,_,h=>⟨true,r,rfl,h,rfl⟩
 |[],_,_::_,_,_,_,_,h,_,_=>by grind
 |[],_,[],_::_,_,_,_,_,h,_=>by grind
 |_::_,_,[],_,_,_,_,h,_,_=>by grind
 |_::_,_,_::_,[],_,_,_,_,h,_=>by grind
 | k0::ks,ks',x::xs,y::ys,Sr,ys',r,hl,bj,h=>by
  simp at hl bj;simp at h;unfold BT at h;split at h
  ·grind
  ·rename_i ks0 k a xs0 k' b ys0 h1 h2 h3;simp at h1 h2 h3;obtain⟨rfl,rfl⟩:=h1;obtain⟨rfl,rfl⟩:=h2;obtain⟨rfl,rfl⟩:=h3;split at h
   ·rename_i hk;obtain⟨r0,h0,rfl⟩:=Option.map_eq_some_iff.1 h;obtain⟨r1,r2,e1,e2,rfl⟩:=Hg hl bj h0;grind[BT]
   grind
  ·rename_i ks0 a xs0 b ys0 h1 h2 h3;simp at h1 h2 h3;obtain⟨rfl,rfl⟩:=h1;obtain⟨rfl,rfl⟩:=h2;obtain⟨rfl,rfl⟩:=h3;obtain⟨r0,h0,rfl⟩:=Option.map_eq_some_iff.1 h;obtain⟨r1,r2,e1,e2,rfl⟩:=Hg hl bj h0;grind[BT]
  ·rename_i ks0 a xs0 b ys0 h1 h2 h3;simp at h1 h2 h3;obtain⟨rfl,rfl⟩:=h1;obtain⟨rfl,rfl⟩:=h2;obtain⟨rfl,rfl⟩:=h3;obtain⟨r0,h0,rfl⟩:=Option.map_eq_some_iff.1 h;obtain⟨r1,r2,e1,e2,rfl⟩:=Hg hl bj h0;grind[BT]
  grind
def valOf(agg:Bool)(us:List Value):Value:=if agg then .agg us.toArray else us.headD undef
def XB{t:TypeId}{agg:Bool}{n off:Nat}{us:List Value}(h1:Bp P t=some agg)(h2:Cn P t=some n)(hn:agg=false->n=1)(hl:off+n<=us.length) :
 (part t us.toArray off).run P w=.ok (valOf agg ((us.drop off).take n)) w:=by
 unfold part;rw[Sem.run_bind,Kp h1];cases agg with
 | true =>
  simp_all[run_sizeOf,valOf]
 | false =>
  have:=hn rfl;subst this;have AP:off<us.length:=by omega
  simp only[Result.andThen_ok,Bool.false_eq_true,if_false,List.getElem?_toArray,List.getElem?_eq_getElem AP,Sem.run_pure,valOf];grind[List.drop_eq_getElem_cons]
def ZA{d t:Nat}{ks:List Nat}(h:EV P d t=some ks):∃ agg,Bp P t=some agg/\(agg=false->ks.length=1):=by
 cases d with
 | zero=>grind[EV]
 | succ d =>
  simp[EV]at h;split at h<;>rename_i hu<;>simp only[Bp,hu,Option.map_some]<;>grind
def Ov{d D:Nat}(ih:∀ (t:Nat) (ks:List Nat) (agg:Bool) (us vs:List Value) (r:Bool),EV P d t=some ks->Bp P t=some agg->BT ks us vs=some r->(Op.equalIn D t (valOf agg us) (valOf agg vs)).run P w=.ok r w) :
 ∀ (fs:List Field) (off:Nat) (ks:List Nat),Jz P d fs off=some ks->∀ (us vs:List Value) (r:Bool),off<=us.length->off<=vs.length->BT ks (us.drop off) (vs.drop off)=some r->(Op.eqFields D us.toArray vs.toArray fs).run P w=.ok r w
 |[],off,ks,h,us,vs,r,hu,hv,hr=>by
  simp only[Jz,G0,Option.some.injEq]at h;subst h;have hl:=IS hr;have e1:us.drop off=[]:=List.eq_nil_of_length_eq_zero (by grind);have e2:vs.drop off=[]:=List.eq_nil_of_length_eq_zero (by grind);simp_all[BT,Op.eqFields]
 | f::fs,off,ks,h,us,vs,r,hu,hv,hr=>by
  simp only[Jz,G0]at h;split at h
  ·cases h
  ·rename_i hc;have cg:f.name≠"_":=λe=>hc (.inl e)
   have ba:f.offset=off:=Classical.byContradiction λe=>hc (.inr e)
   split at h
   ·rename_i k1 hn;split at h
    ·rename_i hs;obtain⟨k2,gn,rfl⟩:=Option.map_eq_some_iff.1 h;obtain⟨agg,nM,rR⟩:=ZA hn;have hl:=IS hr;simp at hl;have e1:us.drop off=(us.drop off).take k1.length++us.drop (off+k1.length):=by rw[<- List.drop_drop,List.take_append_drop]
     have e2:vs.drop off=(vs.drop off).take k1.length++vs.drop (off+k1.length):=by rw[<- List.drop_drop,List.take_append_drop]
     rw[e1,e2]at hr;obtain⟨r1,r2,m1,m2,rfl⟩:=Hg (by grind) (by grind) hr;have p1:=XB (w:=w) (us:=us) (off:=off) nM hs rR (by omega);have p2:=XB (w:=w) (us:=vs) (off:=off) nM hs rR (by omega);have q:=ih f.type k1 agg _ _ r1 hn nM m1;have rest:=Ov ih fs (off+k1.length) k2 gn us vs r2 (by omega) (by omega) m2;simp only[Op.eqFields,ne_eq,cg,not_false_eq_true,if_true,ba,Sem.run_bind,p1,p2,q,Result.andThen_ok];cases r1
     ·simp
     grind
    grind
   grind
def j0{us vs:List Value}{r:Bool}(h:BT [0] us vs=some r):∃ a b,us=[.bool a]/\vs=[.bool b]/\r=(a==b):=by
 have hl:=IS h
 match us,vs,hl,h with
 |[u],[v],_,h =>
  unfold BT at h;grind[BT]
def eq_int{us vs:List Value}{r:Bool}(h:BT [1] us vs=some r):∃ k a b,us=[.int k a]/\vs=[.int k b]/\r=(a==b):=by
 have hl:=IS h
 match us,vs,hl,h with
 |[u],[v],_,h =>
  unfold BT at h;split at h<;>simp_all[BT]
  grind
def YE{us vs:List Value}{r:Bool}(h:BT [2] us vs=some r):∃ a b,us=[.string a]/\vs=[.string b]/\r=(a.toList==b.toList):=by
 have hl:=IS h
 match us,vs,hl,h with
 |[u],[v],_,h =>
  unfold BT at h;grind[BT]
def LA:∀ (d D t:Nat) (ks:List Nat) (agg:Bool) (us vs:List Value) (r:Bool),d<=D->EV P d t=some ks->Bp P t=some agg->BT ks us vs=some r->(Op.equalIn D t (valOf agg us) (valOf agg vs)).run P w=.ok r w
 | 0,_,_,_,_,_,_,_,_,h,_,_=>by grind[EV]
 | d+1,0,_,_,_,_,_,_,hd,_,_,_=>by omega
 | d+1,D+1,t,ks,agg,us,vs,r,hd,h,ha,hr=>by
  simp[EV]at h;split at h<;>rename_i Vp<;>simp only[Bp,Vp,Option.map_some,Option.some.injEq]at ha
  ·subst ha;simp at h;subst h;obtain⟨a,b,rfl,rfl,rfl⟩:=j0 hr;simp[valOf,Op.equalIn,run_underlying Vp]
  ·subst ha;simp at h;subst h;obtain⟨k,a,b,rfl,rfl,rfl⟩:=eq_int hr;simp[valOf,Op.equalIn,run_underlying Vp]
  ·subst ha;simp at h;subst h;obtain⟨a,b,rfl,rfl,rfl⟩:=YE hr;simp[valOf,Op.equalIn,run_underlying Vp,beq_toListBytes]
  ·rename_i fs;subst ha;split at h
   ·cases h
   ·rename_i hs;have Su:P.fieldsOf t=fs:=by grind[Program.fieldsOf]
    have hfo:P.underlying t=some (.struct (P.fieldsOf t)):=by grind
    simp[valOf];rw[run_equalIn_struct w D t _ _ hfo (by grind),Su];exact Ov (λt ks agg us vs r k1 k2 k3=>LA d D t ks agg us vs r (by omega) k1 k2 k3) _ 0 ks h us vs r (Nat.zero_le _) (Nat.zero_le _) (by grind)
  grind
def NI:∀ {cs:List AV} {xs us:List Value},FT cs=some xs->Bf g w cs us->us=xs
 |[],xs,[],h,_=>by grind[FT]
 |[],_,_::_,_,h=>by grind[Bf]
 |.v x::cs,xs,[],_,h=>by grind[Bf]
 |.v x::cs,xs,u::us,h,hv=>by
  simp only[FT]at h;obtain⟨ys,h1,rfl⟩:=Option.map_eq_some_iff.1 h;simp only[Bf,VR]at hv;rw[hv.1,NI h1 hv.2]
 |.undef::_,_,_,h,_=>by grind[FT]
 |.agg _::_,_,_,h,_=>by grind[FT]
 |.BC _::_,_,_,h,_=>by grind[FT]
 |.sl _ _ _::_,_,_,h,_=>by grind[FT]
 |.ptr _ _::_,_,_,h,_=>by grind[FT]
 |.ep _ _ _ _::_,_,_,h,_=>by grind[FT]
 |.fn _ _::_,_,_,h,_=>by grind[FT]
 |.mv _ _::_,_,_,h,_=>by grind[FT]
 |.mp _::_,_,_,h,_=>by grind[FT]
 |.Kb _ _::_,_,_,h,_=>by grind[FT]
 |.mem _ _::_,_,_,h,_=>by grind[FT]
theorem NT(w:World)(D t:Nat){e:Nat}(he:P.underlying t=some (.slice e))(a:Option Addr)(n c:Nat):(Op.equalIn (D+1) t (.slice a n c) (.slice none 0 0)).run P w=.ok a.isNone w:=by cases a<;>simp[Op.equalIn,run_underlying he]
def Yq{op:BinOp}{t:TypeId}{p q:Operand}{x y z:AV}{ux uy:Value}(hx:VR g w x ux)(hy:VR g w y uy)(h:gD P op t x y=some z) :
 ∃ u,(do eqGuard op t p q ux uy;binOp op t ux uy:Sem Value).run P w=.ok u w/\VR g w z u:=by
 unfold gD at h;split at h
 ·rename_i k a k' b;simp[VR]at hx hy;subst hx;subst hy;have hg:eqGuard op t p q (.int k a) (.int k' b)=pure ():=by cases op<;>rfl
  rw[hg];simp;split at h
  ·obtain⟨v,h1,rfl⟩:=Option.map_eq_some_iff.1 h;simp_all[Uy,VR]
  ·obtain⟨v,h1,rfl⟩:=Option.map_eq_some_iff.1 h;simp_all[Uy,VR]
  ·split at h
   ·rename_i hk;subst hk;obtain⟨v,h1,rfl⟩:=Option.map_eq_some_iff.1 h;simp_all[bA,VR]
   grind
 ·rename_i a b;simp[VR]at hx hy;subst hx;subst hy;have hg:eqGuard op t p q (.string a) (.string b)=pure ():=by cases op<;>rfl
  rw[hg];simp;obtain⟨v,h1,rfl⟩:=Option.map_eq_some_iff.1 h;simp_all[ph,VR]
 ·rename_i a b;simp[VR]at hx hy;subst hx;subst hy;have hg:eqGuard op t p q (.bool a) (.bool b)=pure ():=by cases op<;>rfl
  rw[hg];simp;split at h
  ·rename_i ht;have hu:P.underlying t=some .bool:=by grind[yy]
   split at h
   ·simp at h;subst h;simp_all[VR,binOp,Op.equal,Op.maxDepth,run_equalIn_bool']
   ·simp at h;subst h;simp_all[VR,binOp,Op.equal,Op.maxDepth,run_equalIn_bool']
   grind
  grind
 ·rename_i xs ys;simp[VR]at hx hy;obtain⟨us,rfl,hx⟩:=hx;obtain⟨vs,rfl,hy⟩:=hy;split at h
  ·rename_i ks pN vs' nZ Y6 lR;have e1:=NI Y6 hx;have e2:=NI lR hy;unfold structEq at nZ;split at nZ
   ·rename_i hc;simp at hc;have hg:=run_eqGuard_agg (P:=P) w op t p q us vs hc.2;rw[Sem.run_bind,hg];simp;have key:∀ r,BT ks pN vs'=some r->(Op.equalIn 10000 t (.agg us) (.agg vs)).run P w=.ok r w:=λr hr=>by
     have:=LA (w:=w) 20 10000 t ks true pN vs' r (by omega) nZ hc.1 hr;simp[valOf]at this;rw[<- e1,<- e2]at this;omega
    split at h
    ·obtain⟨r,hr,rfl⟩:=Option.map_eq_some_iff.1 h;simp_all[VR,run_eql_struct]
    ·obtain⟨r,hr,rfl⟩:=Option.map_eq_some_iff.1 h;simp_all[VR,run_neq_struct]
    grind
   grind
  grind
 ·rename_i a n c;simp[VR]at hx hy;subst hx;subst hy;have hg:eqGuard op t p q (.slice a n c) (.slice none 0 0)=pure ():=by cases op<;>rfl
  rw[hg];simp;split at h
  ·rename_i hs;unfold AZ at hs;split at hs
   ·rename_i e he;have key:(Op.equal t (.slice a n c) (.slice none 0 0)).run P w=.ok a.isNone w:=by grind[Op.equal,Op.maxDepth,NT]
    split at h
    ·simp at h;subst h;simp_all[VR,binOp]
    ·simp only[Option.some.injEq]at h;subst h;simp_all[VR,binOp]
    grind
   grind
  grind
 ·rename_i tg m e0 es;have hux:∃ ad k c,ux=.slice (some ad) k c:=by
   by_cases ho:∃ r lo,tg=.own r lo
   ·obtain⟨r,lo,rfl⟩:=ho;simp only[VR,Dr]at hx;grind
   ·have hp:PR (CK g) w (.sl tg m (e0::es)) ux:=by
     simp_all[VR]
    simp only[PR]at hp;grind
  obtain⟨ad,n,c,rfl⟩:=hux;simp[VR]at hy;subst hy;have hg:eqGuard op t p q (.slice (some ad) n c) (.slice none 0 0)=pure ():=by cases op<;>rfl
  rw[hg];simp;split at h
  ·rename_i hs;unfold AZ at hs;split at hs
   ·rename_i e he;have key:(Op.equal t (.slice (some ad) n c) (.slice none 0 0)).run P w=.ok false w:=by grind[Op.equal,Op.maxDepth,NT]
    split at h
    ·simp at h;subst h;simp_all[VR,binOp]
    ·simp at h;subst h;simp_all[VR,binOp]
    grind
   grind
  grind
 grind
def fO{op:UnOp}{x z:AV}{ux:Value}(hx:VR g w x ux)(h:unA op x=some z):∃ u,(Op.unary op ux).run P w=.ok u w/\VR g w z u:=by
 unfold unA at h;split at h
 ·simp[VR]at hx;subst hx;split at h
  ·simp at h;subst h;simp_all[Op.unary,VR]
  grind
 ·simp[VR]at hx;subst hx;split at h
  ·simp only[Option.some.injEq]at h;subst h;simp_all[Op.unary,Op.intArith,VR]
  ·simp at h;subst h;simp_all[Op.unary,Op.intBits,bits,VR]
  grind
 grind
end
end Go.Abs
namespace Go.Abs
def cZ(P:Program)(t:TypeId)(st:St)(x y:AV):Option (AV × St):=match Cs P t with
 |some (_,n,_)=>match elems n y with
  |some fs=>match x with
   |.sl (.own r lo) m es=>if m=n then some (.v (.int .i64 (min fs.length es.length:Nat)),st.I1 r n lo (fs.take es.length)) else none
   |.v (.slice none 0 0)=>some (.v (.int .i64 0),st)
   |_=>none
  |none=>none
 |none=>none
def V1(P:Program)(t:TypeId)(st:St)(x:AV):Option (AV × St):=match Cs P t with
 |some (e,n,_)=>match zeroOf P e with
  |some zs=>if DD (vals zs)=true then match x with
   |.sl (.own r lo) m es=>if m=n then some (.BC [],st.I1 r n lo (List.replicate es.length (vals zs))) else none
   |.v (.slice none 0 0)=>some (.BC [],st)
   |_=>none
   else none
  |none=>none
 |none=>none
def qj(P:Program)(t:TypeId):AV->Option AV
 |.v (.slice _ _ c)=>if AZ P t=true then some (.v (.int .i64 c)) else none
 |_=>none
def lS(P:Program)(t:TypeId):Bool:=match P.underlying t with
 |some (.int .i64)=>true
 |_=>false
def iR{P:Program}{t:TypeId}(h:lS P t=true):P.underlying t=some (.int .i64):=by grind[lS]
def Og(P:Program)(k n:Nat)(t2:TypeId)(zs:List Value)(st:St)(x y:AV):Option (AV × St):=match x,y with
 |.v (.slice none 0 0),.v (.int .i64 m)=>if 0<=m/\m<=4294967296/\DD (vals zs)=true/\lS P t2=true then some (.sl (.own k 0) n (List.replicate m.toNat (vals zs)),st.kill [k] []) else none
 |_,_=>none
section
variable {C:Ctx} {A:A0} {N:Nat} {g g':Gh} {st:St} {a:Act} {w w':World} {P:Program}
theorem sZ(lo idx:Nat)(es:List (List AV)):over lo idx [] es=es:=by
 refine List.ext_getElem? λi=>?_
 grind[over]
def R.PW(hR:R C A N g st a w)(r n idx:Nat):R C A N g (st.I1 r n idx []) a w:=by
 have h1:∀ q lo m es u,Dr g w q lo m es u->VR g w (AV.Eh r n idx [] (.sl (.own q lo) m es)) u:=λq lo m es u hu=>by grind[AV.Eh,sZ,VR]
 have h3:∀ q l i d off u,Ix g w (.own q l) i d off u->VR g w (AV.Eh r n idx [] (.ep (.own q l) i d off)) u:=λq l i d off u hu=>by
  simp[AV.Eh];grind[VR]
 have Vr:∀ b,b<w.heap.size->CK g b->CK g b/\w.heap[b]?=w.heap[b]?:=λ_ _ h=>⟨h,rfl⟩
 exact hR.Cz (VR.Cz Vr h1 (λ_ _ _ hu=>hu) h3 (λ_ _ hu=>hu)) (Bf.Cz Vr h1 (λ_ _ _ hu=>hu) h3 (λ_ _ hu=>hu)) (λ_ h=>⟨rfl,h,rfl⟩) hR.fr
def RK{n:Nat}:∀ (fs:List (List AV)) (k:Nat),(∀ e∈fs,e.length=n)->(fs.take k).flatten=fs.flatten.take ((fs.take k).length*n)
 |[],k,_=>by simp
 | e::fs,0,_=>by simp
 | e::fs,k+1,h=>by
  have he:=h e (by simp);have ih:=RK fs k (λe' h'=>h e' (by grind));rw[List.take_succ_cons,List.flatten_cons,List.flatten_cons,List.length_cons,ih];rw[Nat.add_mul,Nat.one_mul,<- he,Nat.add_comm,List.take_length_add_append]
def gQ(hR:R C A N g st a w){t ty:Nat}{ts:Array TypeId}{x y z:AV}{ux uy:Value}(zc:ts[0]?=some t)(hx:VR g w x ux)(hy:VR g w y uy){st':St}(ha:cZ P t st x y=some (z,st')) :
 ∃ u w' g',(Builtin.copy_ ts ty #[ux,uy]).run P w=.ok u w'/\R C A N g' st' a w'/\VR g' w' z u:=by
 unfold cZ at ha;split at ha
 ·rename_i e n b ht;obtain⟨hu,i,zv,hi,hz,cm,Hb,ea,hn,hb⟩:=FJ ht;subst Hb;split at ha
  ·rename_i fs Su;obtain⟨us,su,pu,lu⟩:=L1 hn Su hy;have Abm:(Builtin.lenOf uy).run P w=.ok fs.length w:=by rcases su.2 with ⟨a',c,rfl,_⟩|⟨h0,c,rfl⟩<;>simp_all[Builtin.lenOf]
   have hfc:∀ k,k<=fs.length->(Builtin.firstCells i.size k uy).run P w=.ok (us.take (k*i.size)).toArray w:=λk hk=>by
    rcases su.2 with ⟨a',c,rfl,hc⟩|⟨h0,c,rfl⟩
    ·refine run_firstCells_some (P:=P) w i.size k a' _ c _ ?_ λj v hj=>hc j v ?_
     ·rw[List.length_take,su.1,Nat.min_eq_left (Nat.mul_le_mul_right _ hk)]
     grind
    simp_all[Builtin.firstCells]
   have AlK:Nat.min fs.length=λk=>min fs.length k:=rfl
   split at ha
   ·rename_i r lo m es;split at ha
    ·rename_i hm;subst hm;simp at ha;obtain⟨rfl,rfl⟩:=ha;have Abd:=hfc (min fs.length es.length) (Nat.min_le_left _ _);simp only[VR,Dr]at hx;obtain⟨_,⟨rfl,rfl⟩|⟨_,rfl,a',cap,rfl,_⟩|⟨cap,cur,T,rfl,h2,h3,h5,h6,h7,h8⟩⟩:=hx
     ·refine⟨.int .i64 ((min fs.length ([]:List (List AV)).length:Nat):Int),w,g,?_,hR.PW _ _ _,by grind[VR]⟩;simp_all[Builtin.copy_,run_underlying,sizeOf,typeInfo,goInt]
     ·refine⟨.int .i64 ((min fs.length ([]:List (List AV)).length:Nat):Int),w,g,?_,hR.PW _ _ _,by grind[VR]⟩;simp at Abd;cases a'<;>simp[Builtin.copy_,zc,run_underlying hu,Abm,sizeOf,typeInfo,hi,Abd,goInt,storeCells]
     ·have hl:(us.take (min fs.length es.length*i.size)).length=min fs.length es.length*i.size:=by
       rw[List.length_take,su.1,Nat.min_eq_left (Nat.mul_le_mul_right _ (Nat.min_le_left _ _))]
      have htl:(fs.take es.length).length=min fs.length es.length:=by grind
      have Md:lo*i.size+min fs.length es.length*i.size<=cur.size:=by
       rw[<- Nat.add_mul];exact Nat.le_trans (Nat.mul_le_mul_right _ (by omega)) h7
      have Sv:CR (CK g) w (fs.take es.length).flatten (us.take (min fs.length es.length*i.size)):=by simp_all[RK,CR.take]
      have GR:=run_storeCells_at P (g.row r) (lo*i.size) T (us.take (min fs.length es.length*i.size)) 0 cur w h6 (by omega) (CR.one Sv);have rW:=U0.eP (n:=i.size) (idx:=lo) (c:=fs.take es.length) h5 h6 (us:=us.take (min fs.length es.length*i.size)) (λe he=>lu e (List.mem_of_mem_take he)) (by grind) (by omega) Sv;simp only[Nat.add_zero]at GR;refine⟨.int .i64 ((min fs.length es.length:Nat):Int),_,g,?_,hR.I1 rW,by grind[VR]⟩;simp_all[Builtin.copy_,run_underlying,sizeOf,typeInfo,goInt]
    grind
   ·simp at ha;obtain⟨rfl,rfl⟩:=ha;simp[VR]at hx;subst hx;have Abd:=hfc 0 (Nat.zero_le _);refine⟨.int .i64 0,w,g,?_,hR,by grind[VR]⟩;simp_all[Builtin.copy_,run_underlying,sizeOf,typeInfo,goInt]
   grind
  grind
 grind
def MR(z:Value)(n:Nat)(h:0<z.cells.size):(Builtin.zeroCells z.cells n).toList=(List.replicate n z.cells.toList).flatten:=by
 apply List.ext_getElem?;intro j;cases hj:(List.replicate n z.cells.toList).flatten[j]? with
 |none =>
  simp_all[Builtin.zeroCells]
 |some v =>
  obtain⟨h1,h2⟩:=DN _ _ _ _ hj;simp_all[Builtin.zeroCells,getElem!_def]
def oW{t ty e:Nat}{i:TypeInfo}{zv:Value}(hu:P.underlying t=some (.slice e))(hi:P.info? e=some i)(hz:i.zero=some zv){ts:Array TypeId}(zc:ts[0]?=some t){ad:Addr}{n cap:Nat}(hn:0<n)
 (GR:(storeCells ad (Builtin.zeroCells zv.cells n).toList).run P w=.ok () w'):(Builtin.clear_ ts ty #[.slice (some ad) n cap]).run P w=.ok (.tuple #[]) w':=by
 obtain⟨q,rfl⟩:∃ q,n=q+1:=⟨n-1,by omega⟩;simp_all[Builtin.clear_,run_underlying,zeroValue,typeInfo]
def cW(hR:R C A N g st a w){t ty:Nat}{ts:Array TypeId}{x z:AV}{ux:Value}(zc:ts[0]?=some t)(hx:VR g w x ux){st':St}(ha:V1 P t st x=some (z,st')) :
 ∃ u w' g',(Builtin.clear_ ts ty #[ux]).run P w=.ok u w'/\R C A N g' st' a w'/\VR g' w' z u:=by
 unfold V1 at ha;split at ha
 ·rename_i e n b ht;obtain⟨hu,i,zv,hi,hz,cm,Hb,ea,hn,hb⟩:=FJ ht;subst Hb;have Uh:∀ g w,VR g w (.BC []) (.tuple #[]):=λg w=>by simp_all[VR,Bf]
  split at ha
  ·rename_i zs hzo;have pK:=JM hzo hi hz;split at ha
   ·rename_i CC;split at ha
    ·rename_i r lo m es;split at ha
     ·rename_i hm;subst hm;simp at ha;obtain⟨rfl,rfl⟩:=ha;simp only[VR,Dr]at hx;obtain⟨_,⟨rfl,rfl⟩|⟨_,rfl,a',cap,rfl,_⟩|⟨cap,cur,T,rfl,h2,h3,h5,h6,h7,h8⟩⟩:=hx
      ·refine⟨_,w,g,?_,hR.PW _ _ _,Uh _ _⟩;simp_all[Builtin.clear_,run_underlying]
      ·refine⟨_,w,g,?_,hR.PW _ _ _,Uh _ _⟩;cases a'<;>simp[Builtin.clear_,zc,run_underlying hu]
      ·by_cases h0:es.length=0
       ·have:es=[]:=List.eq_nil_of_length_eq_zero h0;subst this;refine⟨_,w,g,?_,hR.PW _ _ _,Uh _ _⟩;simp_all[Builtin.clear_,run_underlying]
       have hzl:zs.length=i.size:=by grind
       have hl:((List.replicate es.length zs).flatten).length=es.length*i.size:=by simp_all
       have Sv:CR (CK g) w (List.replicate es.length (vals zs)).flatten (List.replicate es.length zs).flatten:=I7 (Oc zs CC) _;have Md:lo*i.size+es.length*i.size<=cur.size:=by
        rw[<- Nat.add_mul];exact Nat.le_trans (Nat.mul_le_mul_right _ (by omega)) h7
       have GR:=run_storeCells_at P (g.row r) (lo*i.size) T (List.replicate es.length zs).flatten 0 cur w h6 (by omega) (CR.one Sv);have rW:=U0.eP (n:=i.size) (idx:=lo) (c:=List.replicate es.length (vals zs)) h5 h6 (us:=(List.replicate es.length zs).flatten) (λe he=>by grind[vals]) (by grind) (by omega) Sv;simp only[Nat.add_zero]at GR;have hzc:=MR zv es.length (by omega);rw[<- pK]at hzc;rw[<- hzc]at GR;refine⟨_,_,g,oW hu hi hz zc (by omega) GR,?_,Uh _ _⟩;rw[hzc];exact hR.I1 rW
     grind
    ·simp at ha;obtain⟨rfl,rfl⟩:=ha;simp[VR]at hx;subst hx;exact⟨_,w,g,by simp_all[Builtin.clear_,run_underlying],hR,Uh _ _⟩
    grind
   grind
  grind
 grind
def mW{t ty:Nat}{ts:Array TypeId}{x z:AV}{ux:Value}(zc:ts[0]?=some t)(hx:VR g w x ux)(ha:qj P t x=some z) :
 ∃ u,(Builtin.cap_ ts ty #[ux]).run P w=.ok u w/\VR g w z u:=by
 unfold qj at ha;split at ha
 ·split at ha
  ·rename_i hs;simp at ha;subst ha;simp[VR]at hx;subst hx;unfold AZ at hs;split at hs<;>simp_all[Builtin.cap_,run_underlying,goInt,VR]
  grind
 grind
def XX(hR:R C A N g st a w){t t2 ty e n b k:Nat}{zs:List Value}(ht:Cs P t=some (e,n,b))(hzo:zeroOf P e=some zs){x y z:AV}{ux uy:Value}(hx:VR g w x ux)(hy:VR g w y uy){st':St}
 (ha:Og P k n t2 zs st x y=some (z,st')):∃ u w' g',(Builtin.append_ #[t,t2] ty #[ux,uy]).run P w=.ok u w'/\R C A N g' st' a w'/\VR g' w' z u:=by
 obtain⟨hu,i,zv,hi,hz,cm,Hb,ea,hn,hb⟩:=FJ ht;subst Hb;have pK:=JM hzo hi hz;unfold Og at ha;split at ha
 ·rename_i m;split at ha
  ·rename_i hc;obtain⟨h0,Abn,CC,IE⟩:=hc
   replace IE:=iR IE
   simp at ha;obtain⟨rfl,rfl⟩:=ha;simp[VR]at hx hy;subst hx;subst hy;have hw:IntKind.i64.wrap m=m:=by grind[IntKind.wrap,IntKind.bits]
   have S2:m*(i.bytes:Int)<=4294967296*32768:=Int.mul_le_mul Abn (by omega) (by omega) (by omega)
   by_cases uD:m=0
   ·subst uD;refine⟨.slice none 0 0,w,g,?_,hR.kill [k] [] (λ_ _ h=>by cases h),?_⟩
    ·simp[Builtin.append_,run_underlying hu,run_underlying IE,sizeOf,typeInfo,hi,asInt,asIntOf,hw]
    simp_all[VR,Dr]
   ·have hzl:zs.length=i.size:=by grind
    have bb:m.toNat<=grownCap w m.toNat 0 e:=grownCap_ge w _ 0 e;have dz:grownCap w m.toNat 0 e<=maxLen:=grownCap_le_maxLen w _ 0 e (by grind[maxLen]);have hzc:=MR zv m.toNat (by omega);rw[<- pK]at hzc;obtain⟨g',k1,k2⟩:=hR.drew.newRow k [k] (by simp) (Builtin.zeroCells zv.cells m.toNat++Builtin.zeroCells zv.cells (grownCap w m.toNat 0 e-m.toNat)) e i.size (grownCap w m.toNat 0 e) (List.replicate m.toNat (vals zs)) (List.replicate m.toNat zs).flatten hn
     (λe' he=>by grind[vals])
     (I7 (Oc zs CC) _)
     (by simp[Array.size_append,size_zeroCells,cm];rw[<- Nat.add_mul];grind) (by grind) dz
     (λj v hj=>by grind)
    rw[List.length_replicate]at k2;refine⟨_,_,g',?_,k1,k2⟩;have n9:¬ m<0:=by omega
    have nP:¬ (281474976710656<m*(i.bytes:Int)):=by omega
    have rN:¬ (m.toNat*i.size=0):=by grind[Nat.mul_eq_zero]
    have hle:¬ (m.toNat<=0):=by omega
    have h63:¬ (9223372036854775807<(m.toNat:Int)):=by omega
    have hns:Builtin.nextslicecap m.toNat 0=m.toNat:=by grind[Builtin.nextslicecap]
    have Aet:¬ (281474976710656<m.toNat*i.bytes):=by grind
    have hm1:¬ (m.toNat=0):=by omega
    have hs0:¬ (i.size=0):=by omega
    have AhR:¬ (m<=0):=by omega
    have dC:max m 0=m:=by omega
    have AaZ:¬ (9223372036854775807<m):=by omega
    simp[Builtin.append_,run_underlying hu,run_underlying IE,sizeOf,typeInfo,zeroValue,hi,hz,asInt,asIntOf,hw,n9,nP,AhR,dC,AaZ,rN,hns,Aet,Question.forced,newRow,grownCap,Builtin.firstCells]
  grind
 grind
end
end Go.Abs
namespace Go.Abs
def dR(P:Program)(t:TypeId):Option (Bool × List Nat):=match Bp P t,EV P 20 t with
 |some agg,some ks=>some (agg,ks)
 |_,_=>none
def et(P:Program)(t:TypeId):Option (TypeId × Bool × List Nat × TypeId):=match P.underlying t with
 |some (.map k e)=>(dR P k).map λp=>(k,p.1,p.2,e)
 |_=>none
def zeroV(P:Program)(t:TypeId):Option Value:=(P.info? t).bind (·.zero)
def ga(P:Program)(t:TypeId):Option AV:=(zeroV P t).bind λz=>if z.oneCell'=true then some (.v z) else match z with
 |.agg cs=>some (.agg (vals cs.toList))
 |_=>none
def Hs(agg:Bool):AV->Option (List Value)
 |.agg cs=>if agg then FT cs else none
 |.v x=>if agg then none else some [x]
 |_=>none
def Ie(agg:Bool)(ks:List Nat)(us:List Value):List AV->Option (Option (Nat × AV))
 |[]=>some none
 |[_]=>none
 | k::v::l=>match Hs agg k with
  |some pN=>match BT ks us pN with
   |some true=>some (some (0,v))
   |some false=>(Ie agg ks us l).map λr=>r.map λp=>(p.1+1,p.2)
   |none=>none
  |none=>none
def Vw(P:Program)(t:TypeId)(cs:List AV)(k:AV):Option AV:=match et P t with
 |some (_,agg,ks,e)=>match Hs agg k with
  |some us=>if (BT ks us us).isSome then match Ie agg ks us cs with
   |some (some (_,v))=>some v
   |some none=>ga P e
   |none=>none
   else none
  |none=>none
 |none=>none
def HP(P:Program)(t:TypeId)(cs:List AV)(k:AV):Option AV:=match et P t with
 |some (_,agg,ks,e)=>match Hs agg k with
  |some us=>if (BT ks us us).isSome then match Ie agg ks us cs with
   |some (some (_,v))=>some (.BC [v,.v (.bool true)])
   |some none=>(ga P e).map λz=>.BC [z,.v (.bool false)]
   |none=>none
   else none
  |none=>none
 |none=>none
def PH(P:Program)(t:TypeId)(cs:List AV)(k v:AV):Option (List AV):=match et P t with
 |some (_,agg,ks,_)=>match Hs agg k with
  |some us=>if (BT ks us us).isSome then match Ie agg ks us cs with
   |some none=>some (cs++[k,v])
   |_=>none
   else none
  |none=>none
 |none=>none
section
variable {C:Ctx} {A:A0} {N:Nat} {g g':Gh} {st:St} {a:Act} {w w':World} {P:Program}
def Ih{agg:Bool}{k:AV}{us:List Value}{u:Value}(h:Hs agg k=some us)(hv:VR g w k u):u=valOf agg us:=by
 unfold Hs at h;split at h
 ·split at h
  ·rename_i cs ha;subst ha;simp[VR]at hv;obtain⟨vs,rfl,h2⟩:=hv;have:=NI h h2;simp[valOf,<- this]
  grind
 ·split at h
  ·cases h
  ·rename_i x ha;simp at h;subst h;simp[VR]at hv;subst hv;simp[valOf,Bool.eq_false_iff.2 ha]
 grind
def TT{d D:Nat}{em:Bool}(ih:∀ (t:Nat) (ks:List Nat) (agg:Bool) (us:List Value) (r:Bool),EV P d t=some ks->Bp P t=some agg->BT ks us us=some r->(Instr.checkKey em D t (valOf agg us)).run P w=.ok () w) :
 ∀ (fs:List Field) (off:Nat) (ks:List Nat),Jz P d fs off=some ks->∀ (us:List Value) (r:Bool),off<=us.length->BT ks (us.drop off) (us.drop off)=some r ->
  (forIn fs PUnit.unit (λf _=>do
   if f.name≠"_" then do
    Instr.checkKey em D f.type (<- part f.type us.toArray f.offset)
    pure (ForInStep.yield PUnit.unit)
   else pure (ForInStep.yield PUnit.unit)):Sem PUnit).run P w=.ok () w
 |[],off,ks,h,us,r,hu,hr=>by simp
 | f::fs,off,ks,h,us,r,hu,hr=>by
  simp only[Jz,G0]at h;split at h
  ·cases h
  ·rename_i hc;have cg:f.name≠"_":=λe=>hc (.inl e)
   have ba:f.offset=off:=Classical.byContradiction λe=>hc (.inr e)
   split at h
   ·rename_i k1 hn;split at h
    ·rename_i hs;obtain⟨k2,gn,rfl⟩:=Option.map_eq_some_iff.1 h;obtain⟨agg,nM,rR⟩:=ZA hn;have hl:=IS hr;simp only[List.length_drop,List.length_append]at hl;have e1:us.drop off=(us.drop off).take k1.length++us.drop (off+k1.length):=by rw[<- List.drop_drop,List.take_append_drop]
     rw[e1]at hr;obtain⟨r1,r2,m1,m2,rfl⟩:=Hg (by grind) (by grind) hr;have p1:=XB (w:=w) (us:=us) (off:=off) nM hs rR (by omega);have q:=ih f.type k1 agg _ r1 hn nM m1;have rest:=TT ih fs (off+k1.length) k2 gn us r2 (by omega) m2;simp only[List.forIn_cons,ne_eq,cg,not_false_eq_true,if_true,ba,Sem.run_bind,p1,q,Result.andThen_ok,Sem.run_pure];omega
    grind
   grind
def H7(em:Bool):∀ (d D t:Nat) (ks:List Nat) (agg:Bool) (us:List Value) (r:Bool),d<=D->EV P d t=some ks->Bp P t=some agg->BT ks us us=some r->(Instr.checkKey em D t (valOf agg us)).run P w=.ok () w
 | 0,_,_,_,_,_,_,_,h,_,_=>by grind[EV]
 | d+1,0,_,_,_,_,_,hd,_,_,_=>by omega
 | d+1,D+1,t,ks,agg,us,r,hd,h,ha,hr=>by
  simp[EV]at h;split at h<;>rename_i Vp<;>simp only[Bp,Vp,Option.map_some,Option.some.injEq]at ha
  ·simp_all[Instr.checkKey,run_underlying]
  ·simp_all[Instr.checkKey,run_underlying]
  ·simp_all[Instr.checkKey,run_underlying]
  ·rename_i fs;subst ha;split at h
   ·cases h
   ·simp only[valOf,if_true,Instr.checkKey,Sem.run_bind,run_underlying Vp,Result.andThen_ok];rw[<- Array.forIn_toList];have:=TT (em:=em) (λt ks agg us r k1 k2 k3=>H7 em d D t ks agg us r (by omega) k1 k2 k3) fs.toList 0 ks h us r (Nat.zero_le _) (by grind);simp_all
  grind
def HO{t:TypeId}{agg:Bool}{ks:List Nat}(h:dR P t=some (agg,ks)):Bp P t=some agg/\EV P 20 t=some ks:=by
 unfold dR at h;grind
def Tl{t k e:TypeId}{agg:Bool}{ks:List Nat}(h:et P t=some (k,agg,ks,e)):P.underlying t=some (.map k e)/\dR P k=some (agg,ks):=by
 unfold et at h;split at h
 ·rename_i k' e' hu;obtain⟨⟨a',ks'⟩,h1,h2⟩:=Option.map_eq_some_iff.1 h;grind
 grind
def UH{e:TypeId}{x:AV}(h:ga P e=some x):∃ z,(zeroValue e).run P w=.ok z w/\VR g w x z:=by
 unfold ga at h;obtain⟨z,h1,h2⟩:=Option.bind_eq_some_iff.1 h;unfold zeroV at h1;obtain⟨i,hi,hz⟩:=Option.bind_eq_some_iff.1 h1;refine⟨z,by simp[zeroValue,run_typeInfo hi,hz],?_⟩;split at h2
 ·grind[VR]
 ·split at h2
  ·simp at h2;subst h2;simp_all[VR,Kv]
  grind
def PV{kt:TypeId}{agg:Bool}{ks:List Nat}{us vs:List Value}{r:Bool}(hk:dR P kt=some (agg,ks))(h:BT ks us vs=some r):(Op.equal kt (valOf agg us) (valOf agg vs)).run P w=.ok r w:=by
 obtain⟨h1,h2⟩:=HO hk;exact LA 20 10000 kt ks agg us vs r (by omega) h2 h1 h
def HL{kt:TypeId}{agg:Bool}{ks:List Nat}{us:List Value}(hk:dR P kt=some (agg,ks)):∀ (cs:List AV) (es:List MapEntry) (i:Nat) (r:Option (Nat × AV)),Ie agg ks us cs=some r->Bf g w cs (DV es) ->
 (r=none->(Instr.findAsking kt (valOf agg us) es i).run P w=.ok none w) /\
 (∀ j v,r=some (j,v)->∃ e,es[j]?=some e/\(Instr.findAsking kt (valOf agg us) es i).run P w=.ok (some (i+j,e.val)) w/\VR g w v e.val)
 |[],[],i,r,h,_=>by
  simp[Ie]at h;subst h;simp_all[Instr.findAsking]
 |[],_::_,_,_,_,hv=>by grind[DV,Bf]
 |[_],_,_,_,h,_=>by grind[Ie]
 |_::_::_,[],_,_,_,hv=>by grind[DV,Bf]
 | k::v::l,e::es,i,r,h,hv=>by
  simp[DV,Bf]at hv;obtain⟨hv1,hv2,hv3⟩:=hv;simp[Ie]at h;split at h
  ·rename_i pN Y6;have Abj:=Ih Y6 hv1;split at h
   ·rename_i he;simp at h;subst h;simp_all[PV,Instr.findAsking]
   ·rename_i he;have q:=PV (w:=w) hk he;obtain⟨r0,h0,rfl⟩:=Option.map_eq_some_iff.1 h;obtain⟨k1,k2⟩:=HL hk l es (i+1) r0 h0 hv3;have step:(Instr.findAsking kt (valOf agg us) (e::es) i).run P w=(Instr.findAsking kt (valOf agg us) es (i+1)).run P w:=by simp_all[Instr.findAsking]
    refine⟨λhn=>?_,λj v' hj=>?_⟩
    ·simp_all
    ·cases r0<;>grind
   grind
  grind
def scal{kt:TypeId}{agg:Bool}{ks:List Nat}{us:List Value}(hk:dR P kt=some (agg,ks)){d:TypeDesc}(hd:P.underlying kt=some d)(hs:∀ pN b,BT ks us pN=some b->Instr.sameNow d (valOf agg us) (valOf agg pN)=some b) :
 ∀ (cs:List AV) (es:List MapEntry) (i:Nat) (r:Option (Nat × AV)),Ie agg ks us cs=some r->Bf g w cs (DV es)->∃ q,Instr.findNow d (valOf agg us) es i=some q/\(Instr.findAsking kt (valOf agg us) es i).run P w=.ok q w
 |[],[],i,r,h,_=>⟨none,rfl,by simp[Instr.findAsking]⟩
 |[],_::_,_,_,_,hv=>by grind[DV,Bf]
 |[_],_,_,_,h,_=>by grind[Ie]
 |_::_::_,[],_,_,_,hv=>by grind[DV,Bf]
 | k::v::l,e::es,i,r,h,hv=>by
  simp[DV,Bf]at hv;obtain⟨hv1,hv2,hv3⟩:=hv;simp[Ie]at h;split at h
  ·rename_i pN Y6;have Abj:=Ih Y6 hv1;split at h
   ·simp_all[PV,Instr.findNow,Instr.findAsking]
   ·rename_i he;have q:=PV (w:=w) hk he;obtain⟨r1,h1,rfl⟩:=Option.map_eq_some_iff.1 h;obtain⟨q',m1,m2⟩:=scal hk hd hs l es (i+1) r1 h1 hv3;simp_all[Instr.findNow,Instr.findAsking]
   grind
  grind
def run_findKey{kt:TypeId}{agg:Bool}{ks:List Nat}{us:List Value}(hk:dR P kt=some (agg,ks))(hu:(BT ks us us).isSome):∀ (cs:List AV) (es:List MapEntry) (r:Option (Nat × AV)),Ie agg ks us cs=some r->Bf g w cs (DV es) ->
 (Instr.findKey kt (valOf agg us) es).run P w=(Instr.findAsking kt (valOf agg us) es).run P w:=by
 intro cs es r hr hv;obtain⟨h1,h2⟩:=HO hk;simp[EV]at h2;obtain⟨r0,hu⟩:=Option.isSome_iff_exists.1 hu;have now:∀ (d:TypeDesc),P.underlying kt=some d->(∀ (cs:List AV) (es:List MapEntry) (i:Nat) (r:Option (Nat × AV)),Ie agg ks us cs=some r->Bf g w cs (DV es)->∃ q,Instr.findNow d (valOf agg us) es i=some q/\(Instr.findAsking kt (valOf agg us) es i).run P w=.ok q w) ->
  (Instr.findKey kt (valOf agg us) es).run P w=(Instr.findAsking kt (valOf agg us) es).run P w:=λd hd h=>by
  obtain⟨q,q1,q2⟩:=h cs es 0 r hr hv;rw[q2];simp[Instr.findKey,run_underlying hd,q1]
 split at h2<;>rename_i hd<;>simp only[Bp,hd,Option.map_some,Option.some.injEq]at h1
 ·subst h1;simp at h2;subst h2;refine now _ hd (scal hk hd λpN b hb=>?_);obtain⟨x,y,rfl,rfl,rfl⟩:=j0 hb;simp[valOf,Instr.sameNow]
 ·subst h1;simp at h2;subst h2;refine now _ hd (scal hk hd λpN b hb=>?_);obtain⟨k,x,y,rfl,rfl,rfl⟩:=eq_int hb;simp[valOf,Instr.sameNow]
 ·subst h1;simp at h2;subst h2;refine now _ hd (scal hk hd λpN b hb=>?_);obtain⟨x,y,rfl,rfl,rfl⟩:=YE hb;simp[valOf,Instr.sameNow,beq_toListBytes]
 ·grind[Go.run_findKey_eq]
 grind
def bH{t:TypeId}{cs:List AV}{k x:AV}{uk:Value}{b:Nat}{es:Array MapEntry}{Ys:Nat}(h:Vw P t cs k=some x)(hk:VR g w k uk)(hb:w.heap[b]?=some (.map es Ys))(hv:Bf g w cs (DV es.toList)) :
 ∃ u,(Instr.lookup t (.map (some b)) uk false).run P w=.ok u w/\VR g w x u:=by
 unfold Vw at h;split at h
 ·rename_i kt agg ks e hm;obtain⟨h1,h2⟩:=Tl hm;split at h
  ·rename_i us Y6;split at h
   ·rename_i OJ;obtain rfl:=Ih Y6 hk;obtain⟨r0,hr0⟩:=Option.isSome_iff_exists.1 OJ;have hY:=H7 (P:=P) (w:=w) es.isEmpty 20 10000 kt ks agg us r0 (by omega) (HO h2).2 (HO h2).1 hr0;split at h
    ·rename_i j v hf;simp at h;subst h;obtain⟨e',m1,m2,m3⟩:=(HL h2 cs es.toList 0 _ hf hv).2 j v rfl;have UM:=run_findKey h2 OJ cs es.toList _ hf hv;rw[m2]at UM;exact⟨e'.val,by simp[Instr.lookup,run_underlying h1,MapKept.run_getObj_map hb,hY,UM],m3⟩
    ·rename_i hf;have m:=(HL h2 cs es.toList 0 _ hf hv).1 rfl;have UM:=run_findKey h2 OJ cs es.toList _ hf hv;rw[m]at UM;obtain⟨z,z1,z2⟩:=UH (g:=g) (w:=w) h;exact⟨z,by simp[Instr.lookup,run_underlying h1,MapKept.run_getObj_map hb,hY,UM,z1],z2⟩
    grind
   grind
  grind
 grind
def W2{t:TypeId}{cs:List AV}{k x:AV}{uk:Value}{b:Nat}{es:Array MapEntry}{Ys:Nat}(h:HP P t cs k=some x)(hk:VR g w k uk)(hb:w.heap[b]?=some (.map es Ys))(hv:Bf g w cs (DV es.toList)) :
 ∃ u,(Instr.lookup t (.map (some b)) uk true).run P w=.ok u w/\VR g w x u:=by
 unfold HP at h;split at h
 ·rename_i kt agg ks e hm;obtain⟨h1,h2⟩:=Tl hm;split at h
  ·rename_i us Y6;split at h
   ·rename_i OJ;obtain rfl:=Ih Y6 hk;obtain⟨r0,hr0⟩:=Option.isSome_iff_exists.1 OJ;have hY:=H7 (P:=P) (w:=w) es.isEmpty 20 10000 kt ks agg us r0 (by omega) (HO h2).2 (HO h2).1 hr0;split at h
    ·rename_i j v hf;simp at h;subst h;obtain⟨e',m1,m2,m3⟩:=(HL h2 cs es.toList 0 _ hf hv).2 j v rfl;have UM:=run_findKey h2 OJ cs es.toList _ hf hv;rw[m2]at UM;exact⟨.tuple #[e'.val,.bool true],by simp[Instr.lookup,run_underlying h1,MapKept.run_getObj_map hb,hY,UM],by simp_all[VR,Bf]⟩
    ·rename_i hf;have m:=(HL h2 cs es.toList 0 _ hf hv).1 rfl;have UM:=run_findKey h2 OJ cs es.toList _ hf hv;rw[m]at UM;obtain⟨z0,hz0,rfl⟩:=Option.map_eq_some_iff.1 h;obtain⟨z,z1,z2⟩:=UH (g:=g) (w:=w) hz0;exact⟨.tuple #[z,.bool false],by simp[Instr.lookup,run_underlying h1,MapKept.run_getObj_map hb,hY,UM,z1],by simp_all[VR,Bf]⟩
    grind
   grind
  grind
 grind
theorem RJ:∀ (l m:List MapEntry),DV (l++m)=DV l++DV m
 |[],m=>rfl
 | e::l,m=>by simp[DV,RJ l m]
def bx{t:TypeId}{cs N7:List AV}{k v:AV}{uk uv:Value}{b:Nat}{es:Array MapEntry}{Ys:Nat}(h:PH P t cs k v=some N7)(hk:VR g w k uk)(hb:w.heap[b]?=some (.map es Ys))(hv:Bf g w cs (DV es.toList)) :
 (Instr.mapUpdate t (.map (some b)) uk uv).run P w=.ok () { w with heap:=w.heap.setIfInBounds b (.map (es.push { key:=uk,val:=uv,born:=Ys }) (Ys+1)) }/\N7=cs++[k,v]:=by
 unfold PH at h;split at h
 ·rename_i kt agg ks e hm;obtain⟨h1,h2⟩:=Tl hm;split at h
  ·rename_i us Y6;split at h
   ·rename_i OJ;obtain rfl:=Ih Y6 hk;obtain⟨r0,hr0⟩:=Option.isSome_iff_exists.1 OJ;have hY:=H7 (P:=P) (w:=w) false 20 10000 kt ks agg us r0 (by omega) (HO h2).2 (HO h2).1 hr0;split at h
    ·rename_i hf;simp at h;have m:=(HL h2 cs es.toList 0 _ hf hv).1 rfl;have UM:=run_findKey h2 OJ cs es.toList _ hf hv;rw[m]at UM;exact⟨by simp[Instr.mapUpdate,run_underlying h1,MapKept.run_getObj_map hb,hY,UM,MapKept.run_setObj_map _ hb],h.symm⟩
    grind
   grind
  grind
 grind
def R.AbV(h:R C A N g st a w)(s:Nat)(lL:Eg s=true)(hs:s∉A.ext) :
 R C A N (g.DJ w.heap.size s) ⟨(st.kill [] [s]).tmps,(s,[])::(st.kill [] [s]).Aj⟩ a (w.alloc (.map #[] 0)):=by
 have hl:=Nk g w (.map #[] 0) s;have Ig:Fr C A (g.DJ w.heap.size s) (w.alloc (.map #[] 0)):=h.fr.step hl rfl ⟨rfl,by simp⟩ rfl (by simp) (λb hb ho=>⟨by grind[Gh.DJ],At w _ b hb⟩) (λq hq he=>hs (by grind));have h1:=h.lasts hl Ig (λq N7 hq CZ=>by
  have ho:=h.ob q N7 hq;exact⟨by simp[Gh.DJ,Nat.ne_of_lt ho.lt,ho.1],At w _ _ ho.lt⟩)
 refine⟨h1.size,h1.defs,h1.tm,λq N7 hq=>?_,h1.fr⟩;simp[lk]at hq
 by_cases rY:s=q
 ·subst rY;simp only[if_true,Option.some.injEq]at hq;subst hq;refine⟨by simp[Gh.DJ],.inr ⟨lL,#[],0,?_,by simp[DV,Bf]⟩⟩;simp only[Gh.DJ,if_true];grind[heap_alloc_new]
 ·simp[rY]at hq;exact h1.ob q N7 hq
def R.Aci(h:R C A N g st a w){s:Nat}(lL:Eg s=true){cs:List AV}(hs:lk s st.Aj=some cs){es:Array MapEntry}{Ys uW:Nat}(hb:w.heap[g.box s]?=some (.map es Ys)){e:MapEntry}{k v:AV}(hk:VR g w k e.key)(hv:VR g w v e.val)(bc:Bf g w cs (DV es.toList)) :
 R C A N g ⟨st.tmps,H3 s (cs++[k,v]) st.Aj⟩ a { w with heap:=w.heap.setIfInBounds (g.box s) (.map (es.push e) uW) }:=by
 have rT:=(h.ob s cs hs).1;obtain⟨UP,hold⟩:=MapKept.heap_set (o':=.map (es.push e) uW) hb;generalize WI:({ w with heap:=w.heap.setIfInBounds (g.box s) (.map (es.push e) uW) }:World)=w';have hh:w'.heap=w.heap.setIfInBounds (g.box s) (.map (es.push e) uW):=by grind
 rw[<- hh]at UP hold;have hl:Lasts [] [] g w g w':=⟨λq hq ho=>⟨ho,hold q (λe=>by grind)⟩,λq r hq _ ho=>⟨ho,hold q (λe=>by grind)⟩,λ_ _=>rfl,λ_ _=>rfl⟩;have Ig:Fr C A g w':=h.fr.step hl (by rw[<- WI]) ⟨by rw[<- WI],by rw[<- WI];exact Nat.le_refl _⟩ (by rw[<- WI]) (by rw[hh];simp) (λq hq ho=>⟨ho,hold q (λe=>by subst e;rw[rT]at ho;cases ho)⟩) (λ_ _ he=>by cases he);have lift:∀ {ds:List AV} {vs:List Value},Bf g w ds vs->Bf g w' ds vs:=λhd=>by have:=Bf.lasts hl _ _ hd;rwa [Kn]at this
 refine⟨h.size,h.defs,λj y hy=>?_,λq N7 hq=>?_,Ig⟩
 ·obtain⟨u,h1,h2⟩:=h.tm j y hy;exact⟨u,h1,by have:=VR.lasts hl y u h2;grind[OO]⟩
 ·simp[iZ]at hq
  by_cases lM:q=s
  ·subst lM;simp[hs]at hq;subst hq;refine⟨rT,.inr ⟨lL,_,_,UP,?_⟩⟩;grind[RJ,Bf.append,DV,Bf]
  ·simp[lM]at hq;have h1:=(h.ob q N7 hq).1;exact(h.ob q N7 hq).lift rfl h1 (hold _ (λe=>by grind)) (λus h4=>lift h4)
def Er.map{s:Nat}{cs:List AV}(h:Er g w s cs)(hk:Eg s=true):∃ es Ys,w.heap[g.box s]?=some (.map es Ys)/\Bf g w cs (DV es.toList):=by obtain⟨_,⟨h1,_⟩|⟨_,h⟩⟩:=h<;>grind
end
end Go.Abs
namespace Go.Abs
def Yi(P:Program)(t:TypeId):Bool:=match P.underlying t with
 |some .string=>true
 |_=>false
def dO(P:Program)(t:TypeId):Option IntKind:=match P.underlying t with
 |some (.int k)=>some k
 |_=>none
def WU:AV->Option AV
 |.sl _ _ es=>some (.v (.int .i64 es.length))
 |.v (.slice none 0 0)=>some (.v (.int .i64 0))
 |.v (.string s)=>some (.v (.int .i64 s.size))
 |.mem true xs=>some (.v (.int .i64 xs.length))
 |_=>none
def P5(P:Program)(t:TypeId):AV->Bool
 |.v (.string _)=>Yi P t
 |_=>AZ P t
def O0:AV->AV->AV->Option AV
 |.v (.bool p),.v (.bool x),.v (.bool y)=>some (.v (.bool (bif p then x else y)))
 |.v (.bool true),x,_=>some x
 |.v (.bool false),_,y=>some y
 |_,_,_=>none
def Mq:AV->Option AV
 |.ptr s o=>some (.ptr s o)
 |.ep t i cs o=>some (.ep t i cs o)
 |.fn f cs=>some (.fn f cs)
 |_=>none
def V5(P:Program)(src dst:TypeId):AV->Option AV
 |.v (.int _ n)=>match dO P src,dO P dst with
  |some _,some k=>some (.v (.int k (k.wrap n)))
  |_,_=>none
 |_=>none
def placeOf(P:Program)(t:TypeId)(i:Nat):Option (Nat × Nat) :=
 match P.underlying t with
 |some (.struct fs)=>match fs[i]? with
  |some f=>(Cn P f.type).map λn=>(f.offset,n)
  |none=>none
 |some (.array _ e)=>(Cn P e).map λn=>(i*n,n)
 |_=>none
def sized(P:Program)(t:TypeId):Bool:=match P.underlying t with
 |some (.struct fs)=>fs.toList.all λf=>(Cn P f.type).isSome
 |some (.array _ e)=>(Cn P e).isSome
 |_=>false
def Wq(P:Program)(t:TypeId)(i:Nat):AV->Option AV
 |.agg cs=>match P.underlying t with
  |some (.struct fs)=>match fs[i]? with
   |some f=>match Bp P f.type,Cn P f.type with
    |some agg,some n=>if f.offset+n<=cs.length then oE agg ((cs.drop f.offset).take n) else none
    |_,_=>none
   |none=>none
  |_=>none
 |_=>none
def U9(P:Program)(t:TypeId):Option (Nat × Nat × Bool):=match P.underlying t with
 |some (.array len e)=>match Cn P e,Bp P e with
  |some n,some b=>some (len,n,b)
  |_,_=>none
 |_=>none
def E3(P:Program)(t:TypeId)(k:AV):AV->Option AV
 |.agg cs=>match k,U9 P t with
  |.v (.int _ k),some (len,n,b)=>if 0<=k/\k<len/\k.toNat*n+n<=cs.length then oE b ((cs.drop (k.toNat*n)).take n) else none
  |_,_=>none
 |.v (.string s)=>match k with
  |.v (.int _ k)=>if Yi P t=true/\0<=k then (s[k.toNat]?).map λc=>.v (.int .u8 c.toNat) else none
  |_=>none
 |_=>none
def DA(C:Ctx)(st:St):Option Operand->Option (Option Nat)
 |none=>some none
 |some o=>(P6 (ev C st o)).map some
def parts(C:Ctx)(st:St)(ps:Array (Nat × Operand)):List (Nat × AV):=ps.toList.map λp=>(p.1,ev C st p.2)
def nm(d:Nat):Nat:=d*64
def Mr(d:Nat):Eg (nm d)=false:=by simp[Eg,nm]
def jl(d:Nat):Nat:=d*64+62
def sK(d:Nat):Eg (jl d)=true:=by simp[Eg,jl]
def Jg(C:Ctx)(st:St)(t:TypeId)(x:AV)(lo hi mx:Option Operand):Option (AV × St) :=
 match DA C st lo,DA C st hi,DA C st mx with
 |some l,some h,some m=>match AE C.P t with
  |some (_,n)=>match elems n x with
   |some es=>match h,m with
    |some h,some m=>if m=h then K3 n true (l.getD 0) h st x else none
    |some h,none=>K3 n false (l.getD 0) h st x
    |none,none=>K3 n false (l.getD 0) es.length st x
    |none,some _=>none
   |none=>none
  |none=>match x,m with
   |.v (.string s),none=>if Yi C.P t/\l.getD 0<=h.getD s.size/\h.getD s.size<=s.size then some (.v (.string (s.extract (l.getD 0) (h.getD s.size))),st) else none
   |_,_=>none
 |_,_,_=>none
def LV(C:Ctx)(dst:Option Nat)(b:Builtin)(xs:List Operand)(ts:List TypeId)(st:St):Option (AV × St) :=
 match b with
 |.len=>match xs,ts with
  |[x],[t]=>if P5 C.P t (ev C st x)=true then (WU (ev C st x)).map (·,st) else none
  |_,_=>none
 |.append=>match dst,xs,ts with
  |some d,[x,y],[t,t2]=>match Cs C.P t with
   |some (e,n,_)=>if AZ C.P t2=true then Q9 (nm d) n st (ev C st x) (ev C st y) else match zeroOf C.P e with
    |some zs=>Og C.P (nm d) n t2 zs st (ev C st x) (ev C st y)
    |none=>none
   |none=>none
  |_,_,_=>none
 |.copy=>match xs,ts with
  |[x,y],t::_=>cZ C.P t st (ev C st x) (ev C st y)
  |_,_=>none
 |.clear=>match xs,ts with
  |[x],[t]=>V1 C.P t st (ev C st x)
  |_,_=>none
 |.cap=>match xs,ts with
  |[x],[t]=>(qj C.P t (ev C st x)).map (·,st)
  |_,_=>none
 |.max=>match xs with
  |[x,y]=>match ev C st x,ev C st y with
   |.v (.int k a),.v (.int _ b)=>some (.v (.int k (if b > a then b else a)),st)
   |_,_=>none
  |_=>none
 |.min=>match xs with
  |[x,y]=>match ev C st x,ev C st y with
   |.v (.int k a),.v (.int _ b)=>some (.v (.int k (if b<a then b else a)),st)
   |_,_=>none
  |_=>none
 |_=>none
def bG(P:Program)(t:TypeId)(Aj:List (Nat × List AV))(m k:AV):Option AV:=match m with
 |.mp s=>(lk s Aj).bind λcs=>Vw P t cs k
 |_=>none
def PJ(P:Program)(t:TypeId)(Aj:List (Nat × List AV))(m k:AV):Option AV:=match m with
 |.mp s=>(lk s Aj).bind λcs=>HP P t cs k
 |_=>none
def Pk(P:Program)(t:TypeId)(ok:Bool):AV->Option AV
 |.Kb t' y=>if P.concrete t=true/\t'=t then some (if ok=true then .BC [y,.v (.bool true)] else y) else none
 |_=>none
def RT(P:Program)(t:TypeId)(Aj:List (Nat × List AV))(m k v:AV):Option (List (Nat × List AV)):=match m with
 |.mp s=>(lk s Aj).bind λcs=>(PH P t cs k v).map λN7=>H3 s N7 Aj
 |_=>none
def JF(C:Ctx)(o:Oper)(st:St):Option (AV × St) :=
 match o.op with
 |.move x=>some (ev C st x,st)
 |.assign x=>some (ev C st x,st)
 |.pick c a b=>(O0 (ev C st c) (ev C st a) (ev C st b)).map (·,st)
 |.alloc t=>match o.dst,zeroOf C.P t with
  |some d,some zs=>some (.ptr (nm d) 0,⟨(st.kill [] [nm d]).tmps,(nm d,vals zs)::(st.kill [] [nm d]).Aj⟩)
  |_,_=>none
 |.box _ x=>match o.dst with
  |some d=>if DD (ev C st x).cells=true then some (.ptr (nm d) 0,⟨(st.kill [] [nm d]).tmps,(nm d,NQ [] [nm d] (ev C st x).cells)::(st.kill [] [nm d]).Aj⟩) else none
  |none=>none
 |.load t a=>match Bp C.P t,Cn C.P t with
  |some agg,some n=>(NS agg n st.Aj (ev C st a)).map (·,st)
  |_,_=>none
 |.store t a x=>match o.dst,Cn C.P t with
  |none,some n=>(TB n st (ev C st a) (ev C st x)).map (.undef,·)
  |_,_=>none
 |.fieldAddr t x i=>match Bq C.P t i with
  |some off=>(QA off (ev C st x)).map (·,st)
  |none=>none
 |.indexAddr t x i=>match ev C st i with
  |.v (.int _ k)=>match AE C.P t with
   |some (_,n)=>(Ta n k (ev C st x)).map (·,st)
   |none=>match El C.P t with
    |some (len,n)=>(S9 len n k (ev C st x)).map (·,st)
    |none=>none
  |_=>none
 |.nilCheck x=>(Mq (ev C st x)).map (·,st)
 |.binOp op t x y _=>(gD C.P op t (ev C st x) (ev C st y)).map (·,st)
 |.unOp op _ x=>(unA op (ev C st x)).map (·,st)
 |.convert src dst x=>(V5 C.P src dst (ev C st x)).map (·,st)
 |.extract x i=>match ev C st x with
  |.BC cs=>(cs[i]?).map (·,st)
  |_=>none
 |.field t x i=>(Wq C.P t i (ev C st x)).map (·,st)
 |.index t x i=>(E3 C.P t (ev C st i) (ev C st x)).map (·,st)
 |.build t ps=>match zeroOf C.P t,Bp C.P t with
  |some zs,some true=>if sized C.P t=true then (Oy (placeOf C.P t) (vals zs) (parts C st ps)).map (.agg ·,st) else none
  |_,_=>none
 |.buildSlice t len ps=>match o.dst,Cs C.P t with
  |some d,some (e,n,_)=>match zeroOf C.P e with
   |some zs=>sk (nm d) n len zs st (parts C st ps)
   |none=>none
  |_,_=>none
 |.makeSlice t l c=>match o.dst,Cs C.P t,ev C st l,ev C st c with
  |some d,some (e,n,_),.v (.int _ l),.v (.int _ c)=>match zeroOf C.P e with
   |some zs=>Zl (nm d) n zs st l c
   |none=>none
  |_,_,_,_=>none
 |.slice t x lo hi mx=>Jg C st t (ev C st x) lo hi mx
 |.makeFunc fn first CW=>match fn,first.toList,CW.toList with
  |.func f,[],cs=>some (.fn f (cs.map (ev C st)),st)
  |.func f,x::xs,[]=>some (.mv f ((x::xs).map (ev C st)),st)
  |_,_,_=>none
 |.makeInterface t x=>if C.P.concrete t then some (.Kb t (ev C st x),st) else none
 |.call c=>match c.callee with
  |.builtin b=>LV C o.dst b c.args.toList c.argTypes.toList st
  |_=>none
 |.makeMap _ rv=>match o.dst,rv with
  |some d,none=>some (.mp (jl d),⟨(st.kill [] [jl d]).tmps,(jl d,[])::(st.kill [] [jl d]).Aj⟩)
  |_,_=>none
 |.lookup t m k ok=>match ok with
  | false=>(bG C.P t st.Aj (ev C st m) (ev C st k)).map (·,st)
  | true=>(PJ C.P t st.Aj (ev C st m) (ev C st k)).map (·,st)
 |.typeAssert x _ t ok=>(Pk C.P t ok (ev C st x)).map (·,st)
 |.mapUpdate t m k v=>match o.dst with
  |none=>(RT C.P t st.Aj (ev C st m) (ev C st k) (ev C st v)).map λos=>(.undef,⟨st.tmps,os⟩)
  |some _=>none
 |_=>none
section
variable {C:Ctx} {A:A0} {N:Nat} {g g':Gh} {st:St} {a:Act} {w w':World} {P:Program}
def TC{t:TypeId}(h:Yi P t=true):P.underlying t=some .string:=by grind[Yi]
def oi{t:TypeId}{k:IntKind}(h:dO P t=some k):P.underlying t=some (.int k):=by grind[dO]
def LG{t:TypeId}(h:AZ P t=true):∃ e,P.underlying t=some (.slice e):=by grind[AZ]
def Xl{x y z r:AV}{ux uy uz:Value}(hx:VR g w x ux)(hy:VR g w y uy)(hz:VR g w z uz)(h:O0 x y z=some r) :
 ∃ u,(do pure (.value (if <- asBool ux then uy else uz)):Sem Next).run P w=.ok (.value u) w/\VR g w r u:=by
 unfold O0 at h;split at h
 ·rename_i p b c;simp[VR]at hx hy hz;subst hx;subst hy;subst hz;simp at h;subst h;simp_all[asBool,VR]
 ·simp_all[VR,asBool]
 ·simp_all[VR,asBool]
 grind
def Zi{t ty:TypeId}{x r:AV}{ux:Value}(ht:AZ P t=true\/Yi P t=true)(hx:VR g w x ux)(h:WU x=some r)
 (hk:(∃ s,x=.v (.string s))->Yi P t=true) (pG:(¬ ∃ s,x=.v (.string s))->AZ P t=true):∃ u,(Builtin.len_ #[t] ty #[ux]).run P w=.ok u w/\VR g w r u:=by
 unfold WU at h;split at h
 ·rename_i t' n es;simp at h;subst h;obtain⟨e,he⟩:=LG (pG (by grind));have:∃ a cap,ux=.slice a es.length cap:=by
   cases t' with
   | own r lo =>
    simp only[VR,Dr]at hx;grind
   | no=>simp only[VR,PR]at hx;grind
   | full=>simp only[VR,PR]at hx;grind
  obtain⟨a,cap,rfl⟩:=this;simp_all[Builtin.len_,run_underlying,goInt,VR]
 ·simp at h;subst h;simp[VR]at hx;subst hx;obtain⟨e,he⟩:=LG (pG (by grind));simp_all[Builtin.len_,run_underlying,goInt,VR]
 ·simp at h;subst h;simp_all[VR,TC,Builtin.len_,run_underlying,goInt]
 ·rename_i xs;simp at h;subst h;obtain⟨e,he⟩:=LG (pG (by grind));simp only[VR,gw]at hx;obtain⟨ad,vs,_,_,hv,cap,rfl,_,_⟩:=hx;have hl:=Bf.length hv;simp_all[Builtin.len_,run_underlying,goInt,VR]
 grind
def T0{src dst:TypeId}{x r:AV}{ux:Value}(hx:VR g w x ux)(h:V5 P src dst x=some r):∃ u,(convert src dst ux).run P w=.ok u w/\VR g w r u:=by
 unfold V5 at h;split at h
 ·simp[VR]at hx;subst hx;split at h
  ·rename_i k1 k2 h1 h2;simp at h;subst h;simp_all[VR,convert,run_underlying,oi,Conv.intToInt]
  grind
 grind
end
end Go.Abs
