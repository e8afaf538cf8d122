/- part 3 of the proof -/
import Derived.WideKeyRuns
import Derived.Test.YteliegkcmjimoaaGreatDoorV02
set_option linter.all false
namespace Go.Abs
def XZ(op:BinOp)(k:IntKind)(a b:Int):Option Value :=
 match op with
 |.add=>some (.int k (k.wrap (a+b)))
 |.sub=>some (.int k (k.wrap (a-b)))
 |.mul=>some (.int k (k.wrap (a*b)))
 |.quo=>if b=0 then none else some (.int k (k.wrap (a.tdiv b)))
 |.rem=>if b=0 then none else some (.int k (a.tmod b))
 |.and=>some (.int k (bits .and k a b))
 |.or=>some (.int k (bits .or k a b))
 |.xor=>some (.int k (bits .xor k a b))
 |.andNot=>some (.int k (bits .andNot k a b))
 |.eql=>some (.bool (a==b))
 |.neq=>some (.bool (a !=b))
 |.lss=>some (.bool (decide (a<b)))
 |.leq=>some (.bool (decide (a<=b)))
 |.gtr=>some (.bool (decide (b<a)))
 |.geq=>some (.bool (decide (b<=a)))
 |_=>none
def M5(op:BinOp)(k:IntKind)(a b:Int):Option Value :=
 match op with
 |.shl=>if b<0 then none else some (.int k (k.wrap (a*2 ^ (min b.toNat k.bits))))
 |.shr=>if b<0 then none else some (.int k (a.fdiv (2 ^ (min b.toNat k.bits))))
 |_=>none
def Yl(op:BinOp)(a b:ByteArray):Option Value :=
 match op with
 |.add=>if a.size+b.size<=9223372036854775807 then some (.string (a++b)) else none
 |.eql=>some (.bool (a.toList==b.toList))
 |.neq=>some (.bool !(a.toList==b.toList))
 |.lss=>some (.bool (Op.bytesLess a.toList b.toList))
 |.leq=>some (.bool (Op.bytesLess a.toList b.toList||a.toList==b.toList))
 |.gtr=>some (.bool !(Op.bytesLess a.toList b.toList||a.toList==b.toList))
 |.geq=>some (.bool !(Op.bytesLess a.toList b.toList))
 |_=>none
def BD:List Nat->List Value->List Value->Option Bool
 |[],[],[]=>some true
 | 1::ks,.int k a::xs,.int k' b::ys=>if k=k' then (BD ks xs ys).map λr=>(a==b)&&r else none
 | 2::ks,.string a::xs,.string b::ys=>(BD ks xs ys).map λr=>(a.toList==b.toList)&&r
 | 0::ks,.bool a::xs,.bool b::ys=>(BD ks xs ys).map λr=>(a==b)&&r
 |_,_,_=>none
def EW:List AV->Option (List Value)
 |[]=>some []
 |.v x::cs=>(EW cs).map (x::·)
 |_=>none
def FZ(P:Program)(f:TypeId->Option (List Nat)):List Field->Nat->Option (List Nat)
 |[],_=>some []
 | x::fs,off=>if x.name = "_"\/x.offset≠off then none else match f x.type with
  |some ks=>if BW P x.type=some ks.length then (FZ P f fs (off+ks.length)).map (ks++·) else none
  |none=>none
def D7(P:Program):Nat->TypeId->Option (List Nat)
 | 0,_=>none
 | d+1,t=>match P.underlying t with
  |some .bool=>some [0]
  |some (.int _)=>some [1]
  |some .string=>some [2]
  |some (.struct fs)=>if P.stoodInHeld t then none else FZ P (D7 P d) fs.toList 0
  |_=>none
def Ih(P:Program)(d:Nat):List Field->Nat->Option (List Nat):=FZ P (D7 P d)
def structEq(P:Program)(t:TypeId):Option (List Nat):=if Be P t==some true&&!(P.eqGuardType P.depth t) then D7 P 20 t else none
def qT(P:Program)(t:TypeId):Bool:=match P.underlying t with
 |some .bool=>true
 |_=>false
def bj(P:Program)(op:BinOp)(t:TypeId):AV->AV->Option AV
 |.v (.int k a),.v (.int k' b)=>match op with
  |.shl=>(M5 .shl k a b).map .v
  |.shr=>(M5 .shr k a b).map .v
  | op=>if k=k' then (XZ op k a b).map .v else none
 |.v (.string a),.v (.string b)=>(Yl op a b).map .v
 |.v (.bool a),.v (.bool b)=>if qT P t then match op with
  |.eql=>some (.v (.bool (a==b)))
  |.neq=>some (.v (.bool (!(a==b))))
  |_=>none
  else none
 |.agg xs,.agg ys=>match structEq P t,EW xs,EW ys with
  |some ks,some us,some vs=>match op with
   |.eql=>(BD ks us vs).map λb=>.v (.bool b)
   |.neq=>(BD ks us vs).map λb=>.v (.bool (!b))
   |_=>none
  |_,_,_=>none
 |.v (.slice a _ _),.v (.slice none 0 0)=>if AJ P t then match op with
  |.eql=>some (.v (.bool a.isNone))
  |.neq=>some (.v (.bool (!a.isNone)))
  |_=>none
  else none
 |.sl _ _ (_::_),.v (.slice none 0 0)=>if AJ P t then match op with
  |.eql=>some (.v (.bool false))
  |.neq=>some (.v (.bool true))
  |_=>none
  else none
 |_,_=>none
def vq(op:UnOp):AV->Option AV
 |.v (.bool b)=>match op with
  |.not=>some (.v (.bool (!b)))
  |_=>none
 |.v (.int k n)=>match op with
  |.neg=>some (.v (.int k (k.wrap (0-n))))
  |.xor=>some (.v (.int k (bits .xor k (if k.signed then -1 else k.max) n)))
  |_=>none
 |_=>none
section
variable {g:Gh} {w:World} {P:Program}
def X0{op:BinOp}{t:TypeId}{k:IntKind}{a b:Int}{v:Value}(h:XZ op k a b=some v):(binOp op t (.int k a) (.int k b)).run P w=.ok v w:=by
 cases op<;>simp only[XZ,reduceCtorEq]at h
 all_goals first
  |(split at h
    ·cases h
    ·rename_i hb;simp only[Option.some.injEq]at h;subst h;simp[binOp,Op.intDiv,hb]
     done)
  |(simp only[Option.some.injEq]at h
    subst h;simp[binOp,Op.intArith,Op.intCmp,Op.intBits,bits]
    done)
def R6{op:BinOp}{t:TypeId}{k k':IntKind}{a b:Int}{v:Value}(h:M5 op k a b=some v):(binOp op t (.int k a) (.int k' b)).run P w=.ok v w:=by
 unfold M5 at h;split at h
 ·split at h
  ·cases h
  ·rename_i hb;simp only[Option.some.injEq]at h;subst h;simp[binOp,Op.shift,hb]
 ·split at h
  ·cases h
  ·rename_i hb;simp only[Option.some.injEq]at h;subst h;simp[binOp,Op.shift,hb]
 ·cases h
def iD{op:BinOp}{t:TypeId}{a b:ByteArray}{v:Value}(h:Yl op a b=some v):(binOp op t (.string a) (.string b)).run P w=.ok v w:=by
 unfold Yl at h;split at h
 ·split at h
  ·rename_i hb;simp only[Option.some.injEq]at h;subst h;have LU:¬ (9223372036854775807<(a.size:Int)+(b.size:Int)):=by omega
   simp[binOp,Op.stringOp,LU]
  ·cases h
 all_goals first
  |(simp only[Option.some.injEq]at h;subst h;simp[binOp,Op.stringOp];done)
  | cases h
def HD:∀ {ks:List Nat} {xs ys:List Value} {r:Bool},BD ks xs ys=some r->xs.length=ks.length/\ys.length=ks.length:=by
 intro ks xs ys
 induction ks,xs,ys using BD.induct with
 | case1=>simp
 | case2 ks k a xs b ys ih =>
  intro r h;simp only[BD,if_true]at h;obtain⟨r0,h0,_⟩:=Option.map_eq_some_iff.1 h;have:=ih h0;simp[this]
 | case3 ks k a xs k' b ys hk=>intro r h;simp[BD,hk]at h
 | case4 ks a xs b ys ih =>
  intro r h;simp only[BD]at h;obtain⟨r0,h0,_⟩:=Option.map_eq_some_iff.1 h;have:=ih h0;simp[this]
 | case5 ks a xs b ys ih =>
  intro r h;simp only[BD]at h;obtain⟨r0,h0,_⟩:=Option.map_eq_some_iff.1 h;have:=ih h0;simp[this]
 | case6 ks xs ys h1 h2 h3 h4 =>
  intro r h;rw[BD.eq_5 _ _ _ h1 h2 h3 h4]at h;cases h
def Gi:∀ {ks yv:List Nat} {xs ys Qq ys':List Value} {r:Bool},xs.length=ks.length->ys.length=ks.length->BD (ks++yv) (xs++Qq) (ys++ys')=some r ->
 ∃ r1 r2,BD ks xs ys=some r1/\BD yv Qq ys'=some r2/\r=(r1&&r2)
 |[],yv,[],[],Qq,ys',r,_,_,h=>⟨true,r,rfl,h,rfl⟩
 |[],_,_::_,_,_,_,_,h,_,_=>by simp at h
 |[],_,[],_::_,_,_,_,_,h,_=>by simp at h
 |_::_,_,[],_,_,_,_,h,_,_=>by simp at h
 |_::_,_,_::_,[],_,_,_,_,h,_=>by simp at h
 | k0::ks,yv,x::xs,y::ys,Qq,ys',r,hl,Vc,h=>by
  simp only[List.length_cons,Nat.add_right_cancel_iff]at hl Vc;simp only[List.cons_append]at h;unfold BD at h;split at h
  ·rename_i h1 h2 h3;simp at h1
  ·rename_i ks0 k a xs0 k' b ys0 h1 h2 h3;simp only[List.cons.injEq]at h1 h2 h3;obtain⟨rfl,rfl⟩:=h1;obtain⟨rfl,rfl⟩:=h2;obtain⟨rfl,rfl⟩:=h3;split at h
   ·rename_i hk;obtain⟨r0,h0,rfl⟩:=Option.map_eq_some_iff.1 h;obtain⟨r1,r2,e1,e2,rfl⟩:=Gi hl Vc h0;exact⟨(a==b)&&r1,r2,by simp[BD,hk,e1],e2,by rw[Bool.and_assoc]⟩
   ·cases h
  ·rename_i ks0 a xs0 b ys0 h1 h2 h3;simp only[List.cons.injEq]at h1 h2 h3;obtain⟨rfl,rfl⟩:=h1;obtain⟨rfl,rfl⟩:=h2;obtain⟨rfl,rfl⟩:=h3;obtain⟨r0,h0,rfl⟩:=Option.map_eq_some_iff.1 h;obtain⟨r1,r2,e1,e2,rfl⟩:=Gi hl Vc h0;exact⟨(a.toList==b.toList)&&r1,r2,by simp[BD,e1],e2,by rw[Bool.and_assoc]⟩
  ·rename_i ks0 a xs0 b ys0 h1 h2 h3;simp only[List.cons.injEq]at h1 h2 h3;obtain⟨rfl,rfl⟩:=h1;obtain⟨rfl,rfl⟩:=h2;obtain⟨rfl,rfl⟩:=h3;obtain⟨r0,h0,rfl⟩:=Option.map_eq_some_iff.1 h;obtain⟨r1,r2,e1,e2,rfl⟩:=Gi hl Vc h0;exact⟨(a==b)&&r1,r2,by simp[BD,e1],e2,by rw[Bool.and_assoc]⟩
  ·cases h
def valOf(agg:Bool)(us:List Value):Value:=if agg then .agg us.toArray else us.headD undef
theorem UF{t:TypeId}{agg:Bool}{n off:Nat}{us:List Value}(h1:Be P t=some agg)(h2:BW P t=some n)(hn:agg=false->n=1)(hl:off+n<=us.length) :
 (part t us.toArray off).run P w=.ok (valOf agg ((us.drop off).take n)) w:=by
 unfold part;rw[Sem.run_bind,I0 h1];cases agg with
 | true =>
  simp only[Result.andThen_ok,if_true,Sem.run_bind,run_sizeOf h2,Sem.run_pure,valOf];congr 2;apply Array.ext';simp[List.drop_take,Nat.add_sub_cancel_left]
 | false =>
  have:=hn rfl;subst this;have Au:off<us.length:=by omega
  simp only[Result.andThen_ok,Bool.false_eq_true,if_false,List.getElem?_toArray,List.getElem?_eq_getElem Au,Sem.run_pure,valOf];congr 1;rw[List.drop_eq_getElem_cons Au];rfl
def Ww{d t:Nat}{ks:List Nat}(h:D7 P d t=some ks):∃ agg,Be P t=some agg/\(agg=false->ks.length=1):=by
 cases d with
 | zero=>simp[D7]at h
 | succ d =>
  simp only[D7]at h;split at h<;>rename_i hu<;>simp only[Be,hu,Option.map_some]
  ·simp at h;subst h;exact⟨false,rfl,λ_=>rfl⟩
  ·simp at h;subst h;exact⟨false,rfl,λ_=>rfl⟩
  ·simp at h;subst h;exact⟨false,rfl,λ_=>rfl⟩
  ·exact⟨true,rfl,λh=>by cases h⟩
  ·cases h
def Mr{d D:Nat}(ih:∀ (t:Nat) (ks:List Nat) (agg:Bool) (us vs:List Value) (r:Bool),D7 P d t=some ks->Be P t=some agg->BD ks us vs=some r->(Op.equalIn D t (valOf agg us) (valOf agg vs)).run P w=.ok r w) :
 ∀ (fs:List Field) (off:Nat) (ks:List Nat),Ih P d fs off=some ks->∀ (us vs:List Value) (r:Bool),off<=us.length->off<=vs.length->BD ks (us.drop off) (vs.drop off)=some r->(Op.eqFields D us.toArray vs.toArray fs).run P w=.ok r w
 |[],off,ks,h,us,vs,r,hu,hv,hr=>by
  simp only[Ih,FZ,Option.some.injEq]at h;subst h;have hl:=HD hr;have e1:us.drop off=[]:=List.eq_nil_of_length_eq_zero (by simpa using hl.1);have e2:vs.drop off=[]:=List.eq_nil_of_length_eq_zero (by simpa using hl.2);rw[e1,e2]at hr;simp only[BD,Option.some.injEq]at hr;subst hr;simp[Op.eqFields]
 | f::fs,off,ks,h,us,vs,r,hu,hv,hr=>by
  simp only[Ih,FZ]at h;split at h
  ·cases h
  ·rename_i hc;have eE:f.name≠"_":=λe=>hc (.inl e)
   have aZ:f.offset=off:=Classical.byContradiction λe=>hc (.inr e)
   split at h
   ·rename_i k1 hn;split at h
    ·rename_i hs;obtain⟨k2,SS,rfl⟩:=Option.map_eq_some_iff.1 h;obtain⟨agg,gu,kI⟩:=Ww hn;have hl:=HD hr;simp only[List.length_drop,List.length_append]at hl;have e1:us.drop off=(us.drop off).take k1.length++us.drop (off+k1.length):=by rw[<- List.drop_drop,List.take_append_drop]
     have e2:vs.drop off=(vs.drop off).take k1.length++vs.drop (off+k1.length):=by rw[<- List.drop_drop,List.take_append_drop]
     rw[e1,e2]at hr;obtain⟨r1,r2,m1,m2,rfl⟩:=Gi (by simp;omega) (by simp;omega) hr;have p1:=UF (w:=w) (us:=us) (off:=off) gu hs kI (by omega);have p2:=UF (w:=w) (us:=vs) (off:=off) gu hs kI (by omega);have q:=ih f.type k1 agg _ _ r1 hn gu m1;have rest:=Mr ih fs (off+k1.length) k2 SS us vs r2 (by omega) (by omega) m2;simp only[Op.eqFields,ne_eq,eE,not_false_eq_true,if_true,aZ,Sem.run_bind,p1,p2,q,Result.andThen_ok];cases r1
     ·simp
     ·simp[rest]
    ·cases h
   ·cases h
def Xm{us vs:List Value}{r:Bool}(h:BD [0] us vs=some r):∃ a b,us=[.bool a]/\vs=[.bool b]/\r=(a==b):=by
 have hl:=HD h
 match us,vs,hl,h with
 |[u],[v],_,h =>
  unfold BD at h;split at h<;>simp_all[BD]
def eq_int{us vs:List Value}{r:Bool}(h:BD [1] us vs=some r):∃ k a b,us=[.int k a]/\vs=[.int k b]/\r=(a==b):=by
 have hl:=HD h
 match us,vs,hl,h with
 |[u],[v],_,h =>
  unfold BD at h;split at h<;>simp_all[BD]
  exact⟨_,_,⟨rfl,rfl⟩,_,⟨rfl,rfl⟩,h.2.symm⟩
def QI{us vs:List Value}{r:Bool}(h:BD [2] us vs=some r):∃ a b,us=[.string a]/\vs=[.string b]/\r=(a.toList==b.toList):=by
 have hl:=HD h
 match us,vs,hl,h with
 |[u],[v],_,h =>
  unfold BD at h;split at h<;>simp_all[BD]
def J5:∀ (d D t:Nat) (ks:List Nat) (agg:Bool) (us vs:List Value) (r:Bool),d<=D->D7 P d t=some ks->Be P t=some agg->BD ks us vs=some r->(Op.equalIn D t (valOf agg us) (valOf agg vs)).run P w=.ok r w
 | 0,_,_,_,_,_,_,_,_,h,_,_=>by simp[D7]at h
 | d+1,0,_,_,_,_,_,_,hd,_,_,_=>by omega
 | d+1,D+1,t,ks,agg,us,vs,r,hd,h,ha,hr=>by
  simp only[D7]at h;split at h<;>rename_i LV<;>simp only[Be,LV,Option.map_some,Option.some.injEq]at ha
  ·subst ha;simp at h;subst h;obtain⟨a,b,rfl,rfl,rfl⟩:=Xm hr;simp[valOf,Op.equalIn,run_underlying LV]
  ·subst ha;simp at h;subst h;obtain⟨k,a,b,rfl,rfl,rfl⟩:=eq_int hr;simp[valOf,Op.equalIn,run_underlying LV]
  ·subst ha;simp at h;subst h;obtain⟨a,b,rfl,rfl,rfl⟩:=QI hr;simp[valOf,Op.equalIn,run_underlying LV,beq_toListBytes]
  ·rename_i fs;subst ha;split at h
   ·cases h
   ·rename_i hs;have NX:P.fieldsOf t=fs:=by simp only[Program.fieldsOf,LV]
    have hfo:P.underlying t=some (.struct (P.fieldsOf t)):=by rw[NX];exact LV
    simp only[valOf,if_true];rw[run_equalIn_struct w D t _ _ hfo (by simpa using hs),NX];exact Mr (λt ks agg us vs r k1 k2 k3=>J5 d D t ks agg us vs r (by omega) k1 k2 k3) _ 0 ks h us vs r (Nat.zero_le _) (Nat.zero_le _) (by simpa using hr)
  ·cases h
def LO:∀ {cs:List AV} {xs us:List Value},EW cs=some xs->Az g w cs us->us=xs
 |[],xs,[],h,_=>by simp[EW]at h;exact h.symm
 |[],_,_::_,_,h=>by simp[Az]at h
 |.v x::cs,xs,[],_,h=>by simp[Az]at h
 |.v x::cs,xs,u::us,h,hv=>by
  simp only[EW]at h;obtain⟨ys,h1,rfl⟩:=Option.map_eq_some_iff.1 h;simp only[Az,VR]at hv;rw[hv.1,LO h1 hv.2]
 |.undef::_,_,_,h,_=>by simp[EW]at h
 |.agg _::_,_,_,h,_=>by simp[EW]at h
 |.Bl _::_,_,_,h,_=>by simp[EW]at h
 |.sl _ _ _::_,_,_,h,_=>by simp[EW]at h
 |.ptr _ _::_,_,_,h,_=>by simp[EW]at h
 |.ep _ _ _ _::_,_,_,h,_=>by simp[EW]at h
 |.fn _ _::_,_,_,h,_=>by simp[EW]at h
 |.mv _ _::_,_,_,h,_=>by simp[EW]at h
 |.mp _::_,_,_,h,_=>by simp[EW]at h
 |.Gc _ _::_,_,_,h,_=>by simp[EW]at h
 |.mem _ _::_,_,_,h,_=>by simp[EW]at h
def LZ(w:World)(D t:Nat){e:Nat}(he:P.underlying t=some (.slice e))(a:Option Addr)(n c:Nat):(Op.equalIn (D+1) t (.slice a n c) (.slice none 0 0)).run P w=.ok a.isNone w:=by
 cases a<;>simp[Op.equalIn,run_underlying he]
def Vx{op:BinOp}{t:TypeId}{p q:Operand}{x y z:AV}{ux uy:Value}(hx:VR g w x ux)(hy:VR g w y uy)(h:bj P op t x y=some z) :
 ∃ u,(do eqGuard op t p q ux uy;binOp op t ux uy:Sem Value).run P w=.ok u w/\VR g w z u:=by
 unfold bj at h;split at h
 ·rename_i k a k' b;simp only[VR]at hx hy;subst hx;subst hy;have hg:eqGuard op t p q (.int k a) (.int k' b)=pure ():=by cases op<;>rfl
  rw[hg];simp only[Sem.run_bind,Sem.run_pure,Result.andThen_ok];split at h
  ·obtain⟨v,h1,rfl⟩:=Option.map_eq_some_iff.1 h;exact⟨v,R6 h1,by simp[VR]⟩
  ·obtain⟨v,h1,rfl⟩:=Option.map_eq_some_iff.1 h;exact⟨v,R6 h1,by simp[VR]⟩
  ·split at h
   ·rename_i hk;subst hk;obtain⟨v,h1,rfl⟩:=Option.map_eq_some_iff.1 h;exact⟨v,X0 h1,by simp[VR]⟩
   ·cases h
 ·rename_i a b;simp only[VR]at hx hy;subst hx;subst hy;have hg:eqGuard op t p q (.string a) (.string b)=pure ():=by cases op<;>rfl
  rw[hg];simp only[Sem.run_bind,Sem.run_pure,Result.andThen_ok];obtain⟨v,h1,rfl⟩:=Option.map_eq_some_iff.1 h;exact⟨v,iD h1,by simp[VR]⟩
 ·rename_i a b;simp only[VR]at hx hy;subst hx;subst hy;have hg:eqGuard op t p q (.bool a) (.bool b)=pure ():=by cases op<;>rfl
  rw[hg];simp only[Sem.run_bind,Sem.run_pure,Result.andThen_ok];split at h
  ·rename_i ht;have hu:P.underlying t=some .bool:=by
    unfold qT at ht;split at ht
    ·assumption
    ·cases ht
   split at h
   ·simp only[Option.some.injEq]at h;subst h;refine⟨.bool (a==b),?_,by simp[VR]⟩;have e:binOp .eql t (.bool a) (.bool b)=(do pure (.bool (<- Op.equal t (.bool a) (.bool b)))):=rfl;rw[e,Sem.run_bind];simp only[Op.equal,Op.maxDepth,run_equalIn_bool' w 9999 t a b hu,Result.andThen_ok,Sem.run_pure]
   ·simp only[Option.some.injEq]at h;subst h;refine⟨.bool (!(a==b)),?_,by simp[VR]⟩;have e:binOp .neq t (.bool a) (.bool b)=(do pure (.bool (!(<- Op.equal t (.bool a) (.bool b))))):=rfl;rw[e,Sem.run_bind];simp only[Op.equal,Op.maxDepth,run_equalIn_bool' w 9999 t a b hu,Result.andThen_ok,Sem.run_pure]
   ·cases h
  ·cases h
 ·rename_i xs ys;simp only[VR]at hx hy;obtain⟨us,rfl,hx⟩:=hx;obtain⟨vs,rfl,hy⟩:=hy;split at h
  ·rename_i ks fq vs' eN Si uG;have e1:=LO Si hx;have e2:=LO uG hy;unfold structEq at eN;split at eN
   ·rename_i hc;simp only[Bool.and_eq_true,beq_iff_eq,Bool.not_eq_true']at hc;have hg:=run_eqGuard_agg (P:=P) w op t p q us vs hc.2;rw[Sem.run_bind,hg];simp only[Result.andThen_ok];have key:∀ r,BD ks fq vs'=some r->(Op.equalIn 10000 t (.agg us) (.agg vs)).run P w=.ok r w:=λr hr=>by
     have:=J5 (w:=w) 20 10000 t ks true fq vs' r (by omega) eN hc.1 hr;simp only[valOf,if_true]at this;rw[<- e1,<- e2]at this;exact this
    split at h
    ·obtain⟨r,hr,rfl⟩:=Option.map_eq_some_iff.1 h;refine⟨.bool r,?_,by simp[VR]⟩;rw[run_eql_struct,key r hr];rfl
    ·obtain⟨r,hr,rfl⟩:=Option.map_eq_some_iff.1 h;refine⟨.bool (!r),?_,by simp[VR]⟩;rw[run_neq_struct,key r hr];rfl
    ·cases h
   ·cases eN
  ·cases h
 ·rename_i a n c;simp only[VR]at hx hy;subst hx;subst hy;have hg:eqGuard op t p q (.slice a n c) (.slice none 0 0)=pure ():=by cases op<;>rfl
  rw[hg];simp only[Sem.run_bind,Sem.run_pure,Result.andThen_ok];split at h
  ·rename_i hs;unfold AJ at hs;split at hs
   ·rename_i e he;have key:(Op.equal t (.slice a n c) (.slice none 0 0)).run P w=.ok a.isNone w:=by
     simp only[Op.equal,Op.maxDepth,LZ w 9999 t he]
    split at h
    ·simp only[Option.some.injEq]at h;subst h;refine⟨.bool a.isNone,?_,by simp[VR]⟩;have e:binOp .eql t (.slice a n c) (.slice none 0 0)=(do pure (.bool (<- Op.equal t (.slice a n c) (.slice none 0 0)))):=rfl;rw[e,Sem.run_bind,key];rfl
    ·simp only[Option.some.injEq]at h;subst h;refine⟨.bool (!a.isNone),?_,by simp[VR]⟩;have e:binOp .neq t (.slice a n c) (.slice none 0 0)=(do pure (.bool (!(<- Op.equal t (.slice a n c) (.slice none 0 0))))):=rfl;rw[e,Sem.run_bind,key];rfl
    ·cases h
   ·cases hs
  ·cases h
 ·rename_i tg m e0 es;have yn:∃ ad k c,ux=.slice (some ad) k c:=by
   by_cases ho:∃ r lo,tg=.own r lo
   ·obtain⟨r,lo,rfl⟩:=ho;simp only[VR,CM]at hx;obtain⟨_,⟨_,h⟩|⟨_,h,_⟩|⟨cap,cur,T,rfl,_⟩⟩:=hx
    ·cases h
    ·cases h
    ·exact⟨_,_,_,rfl⟩
   ·have hp:PR (BX g) w (.sl tg m (e0::es)) ux:=by
     cases tg with
     | own r lo=>exact absurd ⟨r,lo,rfl⟩ ho
     | no=>simpa [VR]using hx
     | full=>simpa [VR]using hx
    simp only[PR]at hp;obtain⟨_,a',cap,rfl,h2,h3,h4,h5,h|⟨ad,rfl,_⟩⟩:=hp
    ·cases h
    ·exact⟨_,_,_,rfl⟩
  obtain⟨ad,n,c,rfl⟩:=yn;simp only[VR]at hy;subst hy;have hg:eqGuard op t p q (.slice (some ad) n c) (.slice none 0 0)=pure ():=by cases op<;>rfl
  rw[hg];simp only[Sem.run_bind,Sem.run_pure,Result.andThen_ok];split at h
  ·rename_i hs;unfold AJ at hs;split at hs
   ·rename_i e he;have key:(Op.equal t (.slice (some ad) n c) (.slice none 0 0)).run P w=.ok false w:=by
     simp only[Op.equal,Op.maxDepth,LZ w 9999 t he,Option.isNone_some]
    split at h
    ·simp only[Option.some.injEq]at h;subst h;refine⟨.bool false,?_,by simp[VR]⟩;have e:binOp .eql t (.slice (some ad) n c) (.slice none 0 0)=(do pure (.bool (<- Op.equal t (.slice (some ad) n c) (.slice none 0 0)))):=rfl;rw[e,Sem.run_bind,key];rfl
    ·simp only[Option.some.injEq]at h;subst h;refine⟨.bool true,?_,by simp[VR]⟩;have e:binOp .neq t (.slice (some ad) n c) (.slice none 0 0)=(do pure (.bool (!(<- Op.equal t (.slice (some ad) n c) (.slice none 0 0))))):=rfl;rw[e,Sem.run_bind,key];rfl
    ·cases h
   ·cases hs
  ·cases h
 ·cases h
def aP{op:UnOp}{x z:AV}{ux:Value}(hx:VR g w x ux)(h:vq op x=some z):∃ u,(Op.unary op ux).run P w=.ok u w/\VR g w z u:=by
 unfold vq at h;split at h
 ·simp only[VR]at hx;subst hx;split at h
  ·simp only[Option.some.injEq]at h;subst h;exact⟨_,by simp[Op.unary];rfl,by simp[VR]⟩
  ·cases h
 ·simp only[VR]at hx;subst hx;split at h
  ·simp only[Option.some.injEq]at h;subst h;exact⟨_,by simp[Op.unary,Op.intArith];rfl,by simp[VR]⟩
  ·simp only[Option.some.injEq]at h;subst h;exact⟨_,by simp[Op.unary,Op.intBits,bits];rfl,by simp[VR,bits]⟩
  ·cases h
 ·cases h
end
end Go.Abs
namespace Go.Abs
def Y8(P:Program)(t:TypeId)(st:St)(x y:AV):Option (AV × St):=match Bz P t with
 |some (_,n,_)=>match elems n y with
  |some fs=>match x with
   |.sl (.own r lo) m es=>if m=n then some (.v (.int .i64 (min fs.length es.length:Nat)),st.AP r n lo (fs.take es.length)) else none
   |.v (.slice none 0 0)=>some (.v (.int .i64 0),st)
   |_=>none
  |none=>none
 |none=>none
def Tn(P:Program)(t:TypeId)(st:St)(x:AV):Option (AV × St):=match Bz P t with
 |some (e,n,_)=>match zeroOf P e with
  |some zs=>if Cx (vals zs)=true then match x with
   |.sl (.own r lo) m es=>if m=n then some (.Bl [],st.AP r n lo (List.replicate es.length (vals zs))) else none
   |.v (.slice none 0 0)=>some (.Bl [],st)
   |_=>none
   else none
  |none=>none
 |none=>none
def jq(P:Program)(t:TypeId):AV->Option AV
 |.v (.slice _ _ c)=>if AJ P t=true then some (.v (.int .i64 c)) else none
 |_=>none
def eU(P:Program)(t:TypeId):Bool:=match P.underlying t with
 |some (.int .i64)=>true
 |_=>false
def cg{P:Program}{t:TypeId}(h:eU P t=true):P.underlying t=some (.int .i64):=by
 unfold eU at h;split at h<;>simp_all
def Mf(P:Program)(k n:Nat)(t2:TypeId)(zs:List Value)(st:St)(x y:AV):Option (AV × St):=match x,y with
 |.v (.slice none 0 0),.v (.int .i64 m)=>if 0<=m/\m<=4294967296/\Cx (vals zs)=true/\eU P t2=true then some (.sl (.own k 0) n (List.replicate m.toNat (vals zs)),st.kill [k] []) else none
 |_,_=>none
section
variable {C:Ctx} {A:A0} {N:Nat} {g g':Gh} {st:St} {a:Act} {w w':World} {P:Program}
def lS(lo idx:Nat)(es:List (List AV)):over lo idx [] es=es:=by
 refine List.ext_getElem? λi=>?_
 simp only[over,List.getElem?_mapIdx,List.getElem?_nil,Option.getD_none];cases es[i]?<;>simp
mutual
def VR.DZ(r n idx:Nat):∀ (x:AV) (u:Value),VR g w x u->VR g w (x.AP r n idx []) u
 |.undef,_,_=>by simp[AV.AP,VR]
 |.v x,u,hu=>by simpa [AV.AP,VR]using hu
 |.agg cs,u,hu=>by
  simp only[AV.AP,VR]at hu ⊢;obtain⟨us,h1,h2⟩:=hu;exact⟨us,h1,Az.DZ r n idx cs us.toList h2⟩
 |.Bl cs,u,hu=>by
  simp only[AV.AP,VR]at hu ⊢;obtain⟨us,h1,h2⟩:=hu;exact⟨us,h1,Az.DZ r n idx cs us.toList h2⟩
 |.sl (.own q lo) m es,u,hu=>by
  simp only[AV.AP,lS];split
  ·split
   ·exact hu
   ·simp[VR]
  ·exact hu
 |.sl .no n es,u,hu=>by simpa only[AV.AP]using hu
 |.sl .full n es,u,hu=>by simpa only[AV.AP]using hu
 |.ptr s off,u,hu=>by simpa only[AV.AP]using hu
 |.mp s,u,hu=>by simpa only[AV.AP]using hu
 |.ep (.own q l) i d off,u,hu=>by
  simp only[AV.AP];split
  ·simp[VR]
  ·exact hu
 |.ep .no i cells off,u,hu=>by simpa only[AV.AP]using hu
 |.ep .full i cells off,u,hu=>by simpa only[AV.AP]using hu
 |.fn f Bi,u,hu=>by
  simp only[AV.AP,VR]at hu ⊢;obtain⟨us,h1,h2⟩:=hu;exact⟨us,h1,Az.DZ r n idx Bi us.toList h2⟩
 |.mv f Bi,u,hu=>by
  simp only[AV.AP,VR]at hu ⊢;obtain⟨us,h1,h2⟩:=hu;exact⟨us,h1,Az.DZ r n idx Bi us.toList h2⟩
 |.Gc t x,u,hu=>by
  simp only[AV.AP,VR]at hu ⊢;obtain⟨y,h1,h2⟩:=hu;exact⟨y,h1,VR.DZ r n idx x y h2⟩
 |.El k q i j off m bss,u,hu=>by
  simp only[AV.AP];split
  ·simp[VR]
  ·exact hu
 |.mem b xs,u,hu=>by
  simp only[AV.AP,VR]at hu ⊢;obtain⟨ad,vs,h1,h2,h3,h4⟩:=hu;exact⟨ad,vs,h1,h2,Az.DZ r n idx xs vs h3,h4⟩
def Az.DZ(r n idx:Nat):∀ (cs:List AV) (us:List Value),Az g w cs us->Az g w (EV r n idx [] cs) us
 |[],[],_=>by simp[EV,Az]
 |[],_::_,hu=>by simp[Az]at hu
 |_::_,[],hu=>by simp[Az]at hu
 | x::cs,u::us,hu=>by
  simp only[EV,Az]at hu ⊢;exact⟨VR.DZ r n idx x u hu.1,Az.DZ r n idx cs us hu.2⟩
end
def R.DZ(hR:R C A N g st a w)(r n idx:Nat):R C A N g (st.AP r n idx []) a w where
 size:=hR.size
 defs:=hR.defs
 tm:=λk x hx=>by
  simp only[St.AP,OM]at hx;obtain⟨y,hy,rfl⟩:=Option.map_eq_some_iff.1 hx;obtain⟨u,hu,hv⟩:=hR.tm k y hy;exact⟨u,hu,VR.DZ r n idx y u hv⟩
 ob:=λs cs hs=>by
  simp only[St.AP,OL]at hs;obtain⟨y,hy,rfl⟩:=Option.map_eq_some_iff.1 hs;exact(hR.ob s y hy).lift rfl (hR.ob s y hy).1 rfl (λus hu=>Az.DZ r n idx _ _ hu)
 fr:=hR.fr
def PF{n:Nat}:∀ (fs:List (List AV)) (k:Nat),(∀ e∈fs,e.length=n)->(fs.take k).flatten=fs.flatten.take ((fs.take k).length*n)
 |[],k,_=>by simp
 | e::fs,0,_=>by simp
 | e::fs,k+1,h=>by
  have he:=h e (by simp);have ih:=PF fs k (λe' h'=>h e' (by simp[h']));rw[List.take_succ_cons,List.flatten_cons,List.flatten_cons,List.length_cons,ih];rw[Nat.add_mul,Nat.one_mul,<- he,Nat.add_comm,List.take_length_add_append]
def bu(hR:R C A N g st a w){t ty:Nat}{ts:Array TypeId}{x y z:AV}{ux uy:Value}(a8:ts[0]?=some t)(hx:VR g w x ux)(hy:VR g w y uy){st':St}(ha:Y8 P t st x y=some (z,st')) :
 ∃ u w' g',(Builtin.copy_ ts ty #[ux,uy]).run P w=.ok u w'/\R C A N g' st' a w'/\VR g' w' z u:=by
 unfold Y8 at ha;split at ha
 ·rename_i e n b ht;obtain⟨hu,i,zv,hi,hz,SV,Ec,pw,hn,hb⟩:=DL ht;subst Ec;split at ha
  ·rename_i fs NX;obtain⟨us,su,pu,lu⟩:=HC hn NX hy;have XQ:(Builtin.lenOf uy).run P w=.ok fs.length w:=by
    rcases su.2 with ⟨a',c,rfl,_⟩|⟨h0,c,rfl⟩
    ·simp[Builtin.lenOf]
    ·simp[Builtin.lenOf,h0]
   have hfc:∀ k,k<=fs.length->(Builtin.firstCells i.size k uy).run P w=.ok (us.take (k*i.size)).toArray w:=λk hk=>by
    rcases su.2 with ⟨a',c,rfl,hc⟩|⟨h0,c,rfl⟩
    ·refine run_firstCells_some (P:=P) w i.size k a' _ c _ ?_ λj v hj=>hc j v ?_
     ·rw[List.length_take,su.1,Nat.min_eq_left (Nat.mul_le_mul_right _ hk)]
     ·rw[List.getElem?_take]at hj;split at hj
      ·exact hj
      ·cases hj
    ·have:us=[]:=List.eq_nil_of_length_eq_zero (by rw[su.1,h0];simp);subst this;simp[Builtin.firstCells]
   have pF:Nat.min fs.length=λk=>min fs.length k:=rfl
   split at ha
   ·rename_i r lo m es;split at ha
    ·rename_i hm;subst hm;simp only[Option.some.injEq,Prod.mk.injEq]at ha;obtain⟨rfl,rfl⟩:=ha;have Zv:=hfc (min fs.length es.length) (Nat.min_le_left _ _);simp only[VR,CM]at hx;obtain⟨_,⟨rfl,rfl⟩|⟨_,rfl,a',cap,rfl,_⟩|⟨cap,cur,T,rfl,h2,h3,h5,h6,h7,h8⟩⟩:=hx
     ·refine⟨.int .i64 ((min fs.length ([]:List (List AV)).length:Nat):Int),w,g,?_,hR.DZ _ _ _,by simp only[VR]⟩;simp only[List.length_nil,Nat.min_zero,Nat.zero_mul,List.take_zero]at Zv;simp[Builtin.copy_,a8,run_underlying hu,XQ,run_sizeOf,sizeOf,typeInfo,hi,pF,Zv,goInt]
     ·refine⟨.int .i64 ((min fs.length ([]:List (List AV)).length:Nat):Int),w,g,?_,hR.DZ _ _ _,by simp only[VR]⟩;simp only[List.length_nil,Nat.min_zero,Nat.zero_mul,List.take_zero]at Zv;cases a'<;>simp[Builtin.copy_,a8,run_underlying hu,XQ,run_sizeOf,sizeOf,typeInfo,hi,pF,Zv,goInt,storeCells]
     ·have hl:(us.take (min fs.length es.length*i.size)).length=min fs.length es.length*i.size:=by
       rw[List.length_take,su.1,Nat.min_eq_left (Nat.mul_le_mul_right _ (Nat.min_le_left _ _))]
      have htl:(fs.take es.length).length=min fs.length es.length:=by rw[List.length_take,Nat.min_comm]
      have Kb:lo*i.size+min fs.length es.length*i.size<=cur.size:=by
       rw[<- Nat.add_mul];exact Nat.le_trans (Nat.mul_le_mul_right _ (by have:=Nat.min_le_right fs.length es.length;omega)) h7
      have NP:B3 (BX g) w (fs.take es.length).flatten (us.take (min fs.length es.length*i.size)):=by
       rw[PF fs _ lu,htl];exact B3.take _ pu
      have HH:=run_storeCells_at P (g.row r) (lo*i.size) T (us.take (min fs.length es.length*i.size)) 0 cur w h6 (by rw[hl];simpa using Kb) (B3.one NP);have kL:=aX.Z6 (n:=i.size) (idx:=lo) (c:=fs.take es.length) h5 h6 (us:=us.take (min fs.length es.length*i.size)) (λe he=>lu e (List.mem_of_mem_take he)) (by rw[hl,htl]) (by rw[hl];exact Kb) NP;simp only[Nat.add_zero]at HH;refine⟨.int .i64 ((min fs.length es.length:Nat):Int),_,g,?_,hR.AP kL,by simp only[VR]⟩;simp[Builtin.copy_,a8,run_underlying hu,XQ,sizeOf,typeInfo,hi,pF,Zv,goInt,HH]
    ·cases ha
   ·simp only[Option.some.injEq,Prod.mk.injEq]at ha;obtain⟨rfl,rfl⟩:=ha;simp only[VR]at hx;subst hx;have Zv:=hfc 0 (Nat.zero_le _);refine⟨.int .i64 0,w,g,?_,hR,by simp only[VR]⟩;simp only[Nat.zero_mul,List.take_zero]at Zv;simp[Builtin.copy_,a8,run_underlying hu,XQ,sizeOf,typeInfo,hi,pF,Zv,goInt]
   ·cases ha
  ·cases ha
 ·cases ha
def K7(z:Value)(n:Nat)(h:0<z.cells.size):(Builtin.zeroCells z.cells n).toList=(List.replicate n z.cells.toList).flatten:=by
 apply List.ext_getElem?;intro j;cases hj:(List.replicate n z.cells.toList).flatten[j]? with
 |none =>
  have:=List.getElem?_eq_none_iff.1 hj;simp[List.length_flatten,Builtin.zeroCells]at this ⊢;rw[Nat.mul_comm];simpa [Nat.mul_comm]using this
 |some v =>
  obtain⟨h1,h2⟩:=CY _ _ _ _ hj;simp only[Array.length_toList,Array.getElem?_toList]at h1 h2;simp only[Builtin.zeroCells,Array.getElem?_toList,Array.getElem?_map,Array.getElem?_range,if_pos h2,Option.map_some];rw[getElem!_def,h1]
def im{t ty e:Nat}{i:TypeInfo}{zv:Value}(hu:P.underlying t=some (.slice e))(hi:P.info? e=some i)(hz:i.zero=some zv){ts:Array TypeId}(a8:ts[0]?=some t){ad:Addr}{n cap:Nat}(hn:0<n)
 (HH:(storeCells ad (Builtin.zeroCells zv.cells n).toList).run P w=.ok () w'):(Builtin.clear_ ts ty #[.slice (some ad) n cap]).run P w=.ok (.tuple #[]) w':=by
 obtain⟨q,rfl⟩:∃ q,n=q+1:=⟨n-1,by omega⟩;simp[Builtin.clear_,a8,run_underlying hu,zeroValue,typeInfo,hi,hz,HH]
def Y2(hR:R C A N g st a w){t ty:Nat}{ts:Array TypeId}{x z:AV}{ux:Value}(a8:ts[0]?=some t)(hx:VR g w x ux){st':St}(ha:Tn P t st x=some (z,st')) :
 ∃ u w' g',(Builtin.clear_ ts ty #[ux]).run P w=.ok u w'/\R C A N g' st' a w'/\VR g' w' z u:=by
 unfold Tn at ha;split at ha
 ·rename_i e n b ht;obtain⟨hu,i,zv,hi,hz,SV,Ec,pw,hn,hb⟩:=DL ht;subst Ec;have RV:∀ g w,VR g w (.Bl []) (.tuple #[]):=λg w=>by simp only[VR];exact⟨#[],rfl,by simp[Az]⟩
  split at ha
  ·rename_i zs hzo;have Wa:=Io hzo hi hz;split at ha
   ·rename_i Ce;split at ha
    ·rename_i r lo m es;split at ha
     ·rename_i hm;subst hm;simp only[Option.some.injEq,Prod.mk.injEq]at ha;obtain⟨rfl,rfl⟩:=ha;simp only[VR,CM]at hx;obtain⟨_,⟨rfl,rfl⟩|⟨_,rfl,a',cap,rfl,_⟩|⟨cap,cur,T,rfl,h2,h3,h5,h6,h7,h8⟩⟩:=hx
      ·refine⟨_,w,g,?_,hR.DZ _ _ _,RV _ _⟩;simp[Builtin.clear_,a8,run_underlying hu]
      ·refine⟨_,w,g,?_,hR.DZ _ _ _,RV _ _⟩;cases a'<;>simp[Builtin.clear_,a8,run_underlying hu]
      ·by_cases h0:es.length=0
       ·have:es=[]:=List.eq_nil_of_length_eq_zero h0;subst this;refine⟨_,w,g,?_,hR.DZ _ _ _,RV _ _⟩;simp[Builtin.clear_,a8,run_underlying hu]
       have b9:zs.length=i.size:=by rw[Wa];simpa using SV
       have hl:((List.replicate es.length zs).flatten).length=es.length*i.size:=by simp[List.length_flatten,b9]
       have NP:B3 (BX g) w (List.replicate es.length (vals zs)).flatten (List.replicate es.length zs).flatten:=HP (Mb zs Ce) _;have Kb:lo*i.size+es.length*i.size<=cur.size:=by
        rw[<- Nat.add_mul];exact Nat.le_trans (Nat.mul_le_mul_right _ (by omega)) h7
       have HH:=run_storeCells_at P (g.row r) (lo*i.size) T (List.replicate es.length zs).flatten 0 cur w h6 (by rw[hl];simpa using Kb) (B3.one NP);have kL:=aX.Z6 (n:=i.size) (idx:=lo) (c:=List.replicate es.length (vals zs)) h5 h6 (us:=(List.replicate es.length zs).flatten) (λe he=>by rw[List.eq_of_mem_replicate he];simp[vals,b9]) (by rw[hl];simp) (by rw[hl];exact Kb) NP;simp only[Nat.add_zero]at HH;have pP:=K7 zv es.length (by rw[SV];exact hn);rw[<- Wa]at pP;rw[<- pP]at HH;refine⟨_,_,g,im hu hi hz a8 (by omega) HH,?_,RV _ _⟩;rw[pP];exact hR.AP kL
     ·cases ha
    ·simp only[Option.some.injEq,Prod.mk.injEq]at ha;obtain⟨rfl,rfl⟩:=ha;simp only[VR]at hx;subst hx;exact⟨_,w,g,by simp[Builtin.clear_,a8,run_underlying hu],hR,RV _ _⟩
    ·cases ha
   ·cases ha
  ·cases ha
 ·cases ha
def fM{t ty:Nat}{ts:Array TypeId}{x z:AV}{ux:Value}(a8:ts[0]?=some t)(hx:VR g w x ux)(ha:jq P t x=some z) :
 ∃ u,(Builtin.cap_ ts ty #[ux]).run P w=.ok u w/\VR g w z u:=by
 unfold jq at ha;split at ha
 ·split at ha
  ·rename_i hs;simp only[Option.some.injEq]at ha;subst ha;simp only[VR]at hx;subst hx;unfold AJ at hs;split at hs
   ·rename_i e he;exact⟨_,by simp[Builtin.cap_,a8,run_underlying he,goInt];rfl,by simp[VR]⟩
   ·cases hs
  ·cases ha
 ·cases ha
def UW(hR:R C A N g st a w){t t2 ty e n b k:Nat}{zs:List Value}(ht:Bz P t=some (e,n,b))(hzo:zeroOf P e=some zs){x y z:AV}{ux uy:Value}(hx:VR g w x ux)(hy:VR g w y uy){st':St}
 (ha:Mf P k n t2 zs st x y=some (z,st')):∃ u w' g',(Builtin.append_ #[t,t2] ty #[ux,uy]).run P w=.ok u w'/\R C A N g' st' a w'/\VR g' w' z u:=by
 obtain⟨hu,i,zv,hi,hz,SV,Ec,pw,hn,hb⟩:=DL ht;subst Ec;have Wa:=Io hzo hi hz;unfold Mf at ha;split at ha
 ·rename_i m;split at ha
  ·rename_i hc;obtain⟨h0,ud,Ce,GP⟩:=hc
   replace GP:=cg GP
   simp only[Option.some.injEq,Prod.mk.injEq]at ha;obtain⟨rfl,rfl⟩:=ha;simp only[VR]at hx hy;subst hx;subst hy;have hw:IntKind.i64.wrap m=m:=by simp[IntKind.wrap,IntKind.signed,IntKind.bits];omega
   have Ka:m*(i.bytes:Int)<=4294967296*32768:=Int.mul_le_mul ud (by omega) (by omega) (by omega)
   by_cases kE:m=0
   ·subst kE;refine⟨.slice none 0 0,w,g,?_,hR.kill [k] [] (λ_ _ h=>by cases h),?_⟩
    ·simp[Builtin.append_,run_underlying hu,run_underlying GP,sizeOf,typeInfo,hi,asInt,asIntOf,hw]
    ·simp only[VR,CM,Int.toNat_zero,List.replicate_zero];exact⟨hn,.inl ⟨trivial,trivial⟩⟩
   ·have b9:zs.length=i.size:=by rw[Wa];simpa using SV
    have TU:m.toNat<=grownCap w m.toNat 0 e:=grownCap_ge w _ 0 e;have Zs:grownCap w m.toNat 0 e<=maxLen:=grownCap_le_maxLen w _ 0 e (by simp only[maxLen];omega);have pP:=K7 zv m.toNat (by rw[SV];exact hn);rw[<- Wa]at pP;obtain⟨g',k1,k2⟩:=hR.drew.newRow k [k] (by simp) (Builtin.zeroCells zv.cells m.toNat++Builtin.zeroCells zv.cells (grownCap w m.toNat 0 e-m.toNat)) e i.size (grownCap w m.toNat 0 e) (List.replicate m.toNat (vals zs)) (List.replicate m.toNat zs).flatten hn
     (λe' he=>by rw[List.eq_of_mem_replicate he];simp[vals,b9])
     (HP (Mb zs Ce) _)
     (by simp only[Array.size_append,size_zeroCells,SV];rw[<- Nat.add_mul];congr 1;omega) (by simpa using TU) Zs
     (λj v hj=>by
      have V3:j<(List.replicate m.toNat zs).flatten.length:=by
       rcases Nat.lt_or_ge j (List.replicate m.toNat zs).flatten.length with h|h
       ·exact h
       ·rw[List.getElem?_eq_none h]at hj;cases hj
      rw[<- pP]at hj V3;rw[Array.getElem?_append_left (by simpa using V3)];simpa using hj)
    rw[List.length_replicate]at k2;refine⟨_,_,g',?_,k1,k2⟩;have ui:¬ m<0:=by omega
    have NM:¬ (281474976710656<m*(i.bytes:Int)):=by omega
    have hnz:¬ (m.toNat*i.size=0):=by
     intro h;rcases Nat.mul_eq_zero.1 h with h|h<;>omega
    have hle:¬ (m.toNat<=0):=by omega
    have h63:¬ (9223372036854775807<(m.toNat:Int)):=by omega
    have rG:Builtin.nextslicecap m.toNat 0=m.toNat:=by simp[Builtin.nextslicecap];omega
    have xE:¬ (281474976710656<m.toNat*i.bytes):=by
     have:m.toNat*i.bytes<=4294967296*32768:=Nat.mul_le_mul (by omega) (by omega);omega
    have hm1:¬ (m.toNat=0):=by omega
    have uC:¬ (i.size=0):=by omega
    have Aba:¬ (m<=0):=by omega
    have Zy:max m 0=m:=by omega
    have tI:¬ (9223372036854775807<m):=by omega
    simp[Builtin.append_,run_underlying hu,run_underlying GP,sizeOf,typeInfo,zeroValue,hi,hz,asInt,asIntOf,hw,ui,NM,Aba,Zy,tI,hnz,hm1,uC,hle,h63,rG,xE,Question.forced,newRow,grownCap,Builtin.firstCells]
  ·cases ha
 ·cases ha
end
end Go.Abs
namespace Go.Abs
def ZG(P:Program)(t:TypeId):Option (Bool × List Nat):=match Be P t,D7 P 20 t with
 |some agg,some ks=>some (agg,ks)
 |_,_=>none
def ZR(P:Program)(t:TypeId):Option (TypeId × Bool × List Nat × TypeId):=match P.underlying t with
 |some (.map k e)=>(ZG P k).map λp=>(k,p.1,p.2,e)
 |_=>none
def zeroV(P:Program)(t:TypeId):Option Value:=(P.info? t).bind (·.zero)
def aW(P:Program)(t:TypeId):Option AV:=(zeroV P t).bind λz=>if z.oneCell'=true then some (.v z) else match z with
 |.agg cs=>some (.agg (vals cs.toList))
 |_=>none
def Gs(agg:Bool):AV->Option (List Value)
 |.agg cs=>if agg then EW cs else none
 |.v x=>if agg then none else some [x]
 |_=>none
def G4(agg:Bool)(ks:List Nat)(us:List Value):List AV->Option (Option (Nat × AV))
 |[]=>some none
 |[_]=>none
 | k::v::l=>match Gs agg k with
  |some fq=>match BD ks us fq with
   |some true=>some (some (0,v))
   |some false=>(G4 agg ks us l).map λr=>r.map λp=>(p.1+1,p.2)
   |none=>none
  |none=>none
def SZ(P:Program)(t:TypeId)(cs:List AV)(k:AV):Option AV:=match ZR P t with
 |some (_,agg,ks,e)=>match Gs agg k with
  |some us=>if (BD ks us us).isSome then match G4 agg ks us cs with
   |some (some (_,v))=>some v
   |some none=>aW P e
   |none=>none
   else none
  |none=>none
 |none=>none
def GR(P:Program)(t:TypeId)(cs:List AV)(k:AV):Option AV:=match ZR P t with
 |some (_,agg,ks,e)=>match Gs agg k with
  |some us=>if (BD ks us us).isSome then match G4 agg ks us cs with
   |some (some (_,v))=>some (.Bl [v,.v (.bool true)])
   |some none=>(aW P e).map λz=>.Bl [z,.v (.bool false)]
   |none=>none
   else none
  |none=>none
 |none=>none
def Ny(P:Program)(t:TypeId)(cs:List AV)(k v:AV):Option (List AV):=match ZR P t with
 |some (_,agg,ks,_)=>match Gs agg k with
  |some us=>if (BD ks us us).isSome then match G4 agg ks us cs with
   |some none=>some (cs++[k,v])
   |_=>none
   else none
  |none=>none
 |none=>none
section
variable {C:Ctx} {A:A0} {N:Nat} {g g':Gh} {st:St} {a:Act} {w w':World} {P:Program}
def Ha{agg:Bool}{k:AV}{us:List Value}{u:Value}(h:Gs agg k=some us)(hv:VR g w k u):u=valOf agg us:=by
 unfold Gs at h;split at h
 ·split at h
  ·rename_i cs ha;subst ha;simp only[VR]at hv;obtain⟨vs,rfl,h2⟩:=hv;have:=LO h h2;simp[valOf,<- this]
  ·cases h
 ·split at h
  ·cases h
  ·rename_i x ha;simp only[Option.some.injEq]at h;subst h;simp only[VR]at hv;subst hv;simp[valOf,Bool.eq_false_iff.2 ha]
 ·cases h
def RC{d D:Nat}{em:Bool}(ih:∀ (t:Nat) (ks:List Nat) (agg:Bool) (us:List Value) (r:Bool),D7 P d t=some ks->Be P t=some agg->BD ks us us=some r->(Instr.checkKey em D t (valOf agg us)).run P w=.ok () w) :
 ∀ (fs:List Field) (off:Nat) (ks:List Nat),Ih P d fs off=some ks->∀ (us:List Value) (r:Bool),off<=us.length->BD ks (us.drop off) (us.drop off)=some r ->
  (forIn fs PUnit.unit (λf _=>do
   if f.name≠"_" then do
    Instr.checkKey em D f.type (<- part f.type us.toArray f.offset)
    pure (ForInStep.yield PUnit.unit)
   else pure (ForInStep.yield PUnit.unit)):Sem PUnit).run P w=.ok () w
 |[],off,ks,h,us,r,hu,hr=>by simp
 | f::fs,off,ks,h,us,r,hu,hr=>by
  simp only[Ih,FZ]at h;split at h
  ·cases h
  ·rename_i hc;have eE:f.name≠"_":=λe=>hc (.inl e)
   have aZ:f.offset=off:=Classical.byContradiction λe=>hc (.inr e)
   split at h
   ·rename_i k1 hn;split at h
    ·rename_i hs;obtain⟨k2,SS,rfl⟩:=Option.map_eq_some_iff.1 h;obtain⟨agg,gu,kI⟩:=Ww hn;have hl:=HD hr;simp only[List.length_drop,List.length_append]at hl;have e1:us.drop off=(us.drop off).take k1.length++us.drop (off+k1.length):=by rw[<- List.drop_drop,List.take_append_drop]
     rw[e1]at hr;obtain⟨r1,r2,m1,m2,rfl⟩:=Gi (by simp;omega) (by simp;omega) hr;have p1:=UF (w:=w) (us:=us) (off:=off) gu hs kI (by omega);have q:=ih f.type k1 agg _ r1 hn gu m1;have rest:=RC ih fs (off+k1.length) k2 SS us r2 (by omega) m2;simp only[List.forIn_cons,ne_eq,eE,not_false_eq_true,if_true,aZ,Sem.run_bind,p1,q,Result.andThen_ok,Sem.run_pure];exact rest
    ·cases h
   ·cases h
def G2(em:Bool):∀ (d D t:Nat) (ks:List Nat) (agg:Bool) (us:List Value) (r:Bool),d<=D->D7 P d t=some ks->Be P t=some agg->BD ks us us=some r->(Instr.checkKey em D t (valOf agg us)).run P w=.ok () w
 | 0,_,_,_,_,_,_,_,h,_,_=>by simp[D7]at h
 | d+1,0,_,_,_,_,_,hd,_,_,_=>by omega
 | d+1,D+1,t,ks,agg,us,r,hd,h,ha,hr=>by
  simp only[D7]at h;split at h<;>rename_i LV<;>simp only[Be,LV,Option.map_some,Option.some.injEq]at ha
  ·subst ha;simp at h;subst h;obtain⟨a,b,rfl,_,rfl⟩:=Xm hr;simp[valOf,Instr.checkKey,run_underlying LV]
  ·subst ha;simp at h;subst h;obtain⟨k,a,b,rfl,_,rfl⟩:=eq_int hr;simp[valOf,Instr.checkKey,run_underlying LV]
  ·subst ha;simp at h;subst h;obtain⟨a,b,rfl,_,rfl⟩:=QI hr;simp[valOf,Instr.checkKey,run_underlying LV]
  ·rename_i fs;subst ha;split at h
   ·cases h
   ·simp only[valOf,if_true,Instr.checkKey,Sem.run_bind,run_underlying LV,Result.andThen_ok];rw[<- Array.forIn_toList];have:=RC (em:=em) (λt ks agg us r k1 k2 k3=>G2 em d D t ks agg us r (by omega) k1 k2 k3) fs.toList 0 ks h us r (Nat.zero_le _) (by simpa using hr);simp at this ⊢;rw[this];rfl
  ·cases h
def GQ{t:TypeId}{agg:Bool}{ks:List Nat}(h:ZG P t=some (agg,ks)):Be P t=some agg/\D7 P 20 t=some ks:=by
 unfold ZG at h;split at h
 ·rename_i h1 h2;simp only[Option.some.injEq,Prod.mk.injEq]at h;obtain⟨rfl,rfl⟩:=h;exact⟨h1,h2⟩
 ·cases h
def Q7{t k e:TypeId}{agg:Bool}{ks:List Nat}(h:ZR P t=some (k,agg,ks,e)):P.underlying t=some (.map k e)/\ZG P k=some (agg,ks):=by
 unfold ZR at h;split at h
 ·rename_i k' e' hu;obtain⟨⟨a',yv⟩,h1,h2⟩:=Option.map_eq_some_iff.1 h;simp only[Prod.mk.injEq]at h2;obtain⟨rfl,rfl,rfl,rfl⟩:=h2;exact⟨hu,h1⟩
 ·cases h
def Sc{e:TypeId}{x:AV}(h:aW P e=some x):∃ z,(zeroValue e).run P w=.ok z w/\VR g w x z:=by
 unfold aW at h;obtain⟨z,h1,h2⟩:=Option.bind_eq_some_iff.1 h;unfold zeroV at h1;obtain⟨i,hi,hz⟩:=Option.bind_eq_some_iff.1 h1;refine⟨z,by simp[zeroValue,run_typeInfo hi,hz],?_⟩;split at h2
 ·simp only[Option.some.injEq]at h2;subst h2;simp[VR]
 ·split at h2
  ·simp only[Option.some.injEq]at h2;subst h2;simp only[VR];exact⟨_,rfl,H0 _⟩
  ·cases h2
def NJ{kt:TypeId}{agg:Bool}{ks:List Nat}{us vs:List Value}{r:Bool}(hk:ZG P kt=some (agg,ks))(h:BD ks us vs=some r):(Op.equal kt (valOf agg us) (valOf agg vs)).run P w=.ok r w:=by
 obtain⟨h1,h2⟩:=GQ hk;exact J5 20 10000 kt ks agg us vs r (by omega) h2 h1 h
def GM{kt:TypeId}{agg:Bool}{ks:List Nat}{us:List Value}(hk:ZG P kt=some (agg,ks)):∀ (cs:List AV) (es:List MapEntry) (i:Nat) (r:Option (Nat × AV)),G4 agg ks us cs=some r->Az g w cs (Dc es) ->
 (r=none->(Instr.findAsking kt (valOf agg us) es i).run P w=.ok none w) /\
 (∀ j v,r=some (j,v)->∃ e,es[j]?=some e/\(Instr.findAsking kt (valOf agg us) es i).run P w=.ok (some (i+j,e.val)) w/\VR g w v e.val)
 |[],[],i,r,h,_=>by
  simp only[G4,Option.some.injEq]at h;subst h;exact⟨λ_=>by simp[Instr.findAsking],λ_ _ h=>by cases h⟩
 |[],_::_,_,_,_,hv=>by simp[Dc,Az]at hv
 |[_],_,_,_,h,_=>by simp[G4]at h
 |_::_::_,[],_,_,_,hv=>by simp[Dc,Az]at hv
 | k::v::l,e::es,i,r,h,hv=>by
  simp only[Dc,Az]at hv;obtain⟨yo,pL,hv3⟩:=hv;simp only[G4]at h;split at h
  ·rename_i fq Si;have XP:=Ha Si yo;split at h
   ·rename_i he;simp only[Option.some.injEq]at h;subst h;have q:=NJ (w:=w) hk he;refine⟨λh=>(by cases h),λj v' hj=>?_⟩;simp only[Option.some.injEq,Prod.mk.injEq]at hj;obtain⟨rfl,rfl⟩:=hj;exact⟨e,rfl,by simp[Instr.findAsking,XP,q],pL⟩
   ·rename_i he;have q:=NJ (w:=w) hk he;obtain⟨r0,h0,rfl⟩:=Option.map_eq_some_iff.1 h;obtain⟨k1,k2⟩:=GM hk l es (i+1) r0 h0 hv3;have step:(Instr.findAsking kt (valOf agg us) (e::es) i).run P w=(Instr.findAsking kt (valOf agg us) es (i+1)).run P w:=by simp[Instr.findAsking,XP,q]
    refine⟨λhn=>?_,λj v' hj=>?_⟩
    ·rw[step];exact k1 (by cases r0<;>simp_all)
    ·cases r0 with
     |none=>simp at hj
     |some p =>
      simp only[Option.map_some,Option.some.injEq,Prod.mk.injEq]at hj;obtain⟨rfl,rfl⟩:=hj;obtain⟨e',m1,m2,m3⟩:=k2 p.1 p.2 rfl;exact⟨e',by simpa using m1,by rw[step,m2];congr 3;omega,m3⟩
   ·cases h
  ·cases h
def scal{kt:TypeId}{agg:Bool}{ks:List Nat}{us:List Value}(hk:ZG P kt=some (agg,ks)){d:TypeDesc}(hd:P.underlying kt=some d)(hs:∀ fq b,BD ks us fq=some b->Instr.sameNow d (valOf agg us) (valOf agg fq)=some b) :
 ∀ (cs:List AV) (es:List MapEntry) (i:Nat) (r:Option (Nat × AV)),G4 agg ks us cs=some r->Az g w cs (Dc es)->∃ q,Instr.findNow d (valOf agg us) es i=some q/\(Instr.findAsking kt (valOf agg us) es i).run P w=.ok q w
 |[],[],i,r,h,_=>⟨none,rfl,by simp[Instr.findAsking]⟩
 |[],_::_,_,_,_,hv=>by simp[Dc,Az]at hv
 |[_],_,_,_,h,_=>by simp[G4]at h
 |_::_::_,[],_,_,_,hv=>by simp[Dc,Az]at hv
 | k::v::l,e::es,i,r,h,hv=>by
  simp only[Dc,Az]at hv;obtain⟨yo,pL,hv3⟩:=hv;simp only[G4]at h;split at h
  ·rename_i fq Si;have XP:=Ha Si yo;split at h
   ·rename_i he;have q:=NJ (w:=w) hk he;exact⟨some (i,e.val),by simp[Instr.findNow,XP,hs fq true he],by simp[Instr.findAsking,XP,q]⟩
   ·rename_i he;have q:=NJ (w:=w) hk he;obtain⟨r1,h1,rfl⟩:=Option.map_eq_some_iff.1 h;obtain⟨q',m1,m2⟩:=scal hk hd hs l es (i+1) r1 h1 hv3;exact⟨q',by simp[Instr.findNow,XP,hs fq false he,m1],by simp[Instr.findAsking,XP,q,m2]⟩
   ·cases h
  ·cases h
def run_findKey{kt:TypeId}{agg:Bool}{ks:List Nat}{us:List Value}(hk:ZG P kt=some (agg,ks))(hu:(BD ks us us).isSome):∀ (cs:List AV) (es:List MapEntry) (r:Option (Nat × AV)),G4 agg ks us cs=some r->Az g w cs (Dc es) ->
 (Instr.findKey kt (valOf agg us) es).run P w=(Instr.findAsking kt (valOf agg us) es).run P w:=by
 intro cs es r hr hv;obtain⟨h1,h2⟩:=GQ hk;simp only[D7]at h2;obtain⟨r0,hu⟩:=Option.isSome_iff_exists.1 hu;have now:∀ (d:TypeDesc),P.underlying kt=some d->(∀ (cs:List AV) (es:List MapEntry) (i:Nat) (r:Option (Nat × AV)),G4 agg ks us cs=some r->Az g w cs (Dc es)->∃ q,Instr.findNow d (valOf agg us) es i=some q/\(Instr.findAsking kt (valOf agg us) es i).run P w=.ok q w) ->
  (Instr.findKey kt (valOf agg us) es).run P w=(Instr.findAsking kt (valOf agg us) es).run P w:=λd hd h=>by
  obtain⟨q,q1,q2⟩:=h cs es 0 r hr hv;rw[q2];simp[Instr.findKey,run_underlying hd,q1]
 split at h2<;>rename_i hd<;>simp only[Be,hd,Option.map_some,Option.some.injEq]at h1
 ·subst h1;simp at h2;subst h2;refine now _ hd (scal hk hd λfq b hb=>?_);obtain⟨x,y,rfl,rfl,rfl⟩:=Xm hb;simp[valOf,Instr.sameNow]
 ·subst h1;simp at h2;subst h2;refine now _ hd (scal hk hd λfq b hb=>?_);obtain⟨k,x,y,rfl,rfl,rfl⟩:=eq_int hb;simp[valOf,Instr.sameNow]
 ·subst h1;simp at h2;subst h2;refine now _ hd (scal hk hd λfq b hb=>?_);obtain⟨x,y,rfl,rfl,rfl⟩:=QI hb;simp[valOf,Instr.sameNow,beq_toListBytes]
 ·exact Go.run_findKey_eq w (by simp[hd]) _ _
 ·cases h2
def X6{t:TypeId}{cs:List AV}{k x:AV}{uk:Value}{b:Nat}{es:Array MapEntry}{Vy:Nat}(h:SZ P t cs k=some x)(hk:VR g w k uk)(hb:w.heap[b]?=some (.map es Vy))(hv:Az g w cs (Dc es.toList)) :
 ∃ u,(Instr.lookup t (.map (some b)) uk false).run P w=.ok u w/\VR g w x u:=by
 unfold SZ at h;split at h
 ·rename_i kt agg ks e hm;obtain⟨h1,h2⟩:=Q7 hm;split at h
  ·rename_i us Si;split at h
   ·rename_i KC;obtain rfl:=Ha Si hk;obtain⟨r0,yd⟩:=Option.isSome_iff_exists.1 KC;have tM:=G2 (P:=P) (w:=w) es.isEmpty 20 10000 kt ks agg us r0 (by omega) (GQ h2).2 (GQ h2).1 yd;split at h
    ·rename_i j v hf;simp only[Option.some.injEq]at h;subst h;obtain⟨e',m1,m2,m3⟩:=(GM h2 cs es.toList 0 _ hf hv).2 j v rfl;have U9:=run_findKey h2 KC cs es.toList _ hf hv;rw[m2]at U9;exact⟨e'.val,by simp[Instr.lookup,run_underlying h1,MapKept.run_getObj_map hb,tM,U9],m3⟩
    ·rename_i hf;have m:=(GM h2 cs es.toList 0 _ hf hv).1 rfl;have U9:=run_findKey h2 KC cs es.toList _ hf hv;rw[m]at U9;obtain⟨z,z1,z2⟩:=Sc (g:=g) (w:=w) h;exact⟨z,by simp[Instr.lookup,run_underlying h1,MapKept.run_getObj_map hb,tM,U9,z1],z2⟩
    ·cases h
   ·cases h
  ·cases h
 ·cases h
def Uh{t:TypeId}{cs:List AV}{k x:AV}{uk:Value}{b:Nat}{es:Array MapEntry}{Vy:Nat}(h:GR P t cs k=some x)(hk:VR g w k uk)(hb:w.heap[b]?=some (.map es Vy))(hv:Az g w cs (Dc es.toList)) :
 ∃ u,(Instr.lookup t (.map (some b)) uk true).run P w=.ok u w/\VR g w x u:=by
 unfold GR at h;split at h
 ·rename_i kt agg ks e hm;obtain⟨h1,h2⟩:=Q7 hm;split at h
  ·rename_i us Si;split at h
   ·rename_i KC;obtain rfl:=Ha Si hk;obtain⟨r0,yd⟩:=Option.isSome_iff_exists.1 KC;have tM:=G2 (P:=P) (w:=w) es.isEmpty 20 10000 kt ks agg us r0 (by omega) (GQ h2).2 (GQ h2).1 yd;split at h
    ·rename_i j v hf;simp only[Option.some.injEq]at h;subst h;obtain⟨e',m1,m2,m3⟩:=(GM h2 cs es.toList 0 _ hf hv).2 j v rfl;have U9:=run_findKey h2 KC cs es.toList _ hf hv;rw[m2]at U9;exact⟨.tuple #[e'.val,.bool true],by simp[Instr.lookup,run_underlying h1,MapKept.run_getObj_map hb,tM,U9],by simp only[VR];exact⟨_,rfl,by simp[Az,VR,m3]⟩⟩
    ·rename_i hf;have m:=(GM h2 cs es.toList 0 _ hf hv).1 rfl;have U9:=run_findKey h2 KC cs es.toList _ hf hv;rw[m]at U9;obtain⟨z0,yt,rfl⟩:=Option.map_eq_some_iff.1 h;obtain⟨z,z1,z2⟩:=Sc (g:=g) (w:=w) yt;exact⟨.tuple #[z,.bool false],by simp[Instr.lookup,run_underlying h1,MapKept.run_getObj_map hb,tM,U9,z1],by simp only[VR];exact⟨_,rfl,by simp[Az,VR,z2]⟩⟩
    ·cases h
   ·cases h
  ·cases h
 ·cases h
def PE:∀ (l m:List MapEntry),Dc (l++m)=Dc l++Dc m
 |[],m=>rfl
 | e::l,m=>by simp[Dc,PE l m]
def XY{t:TypeId}{cs Mp:List AV}{k v:AV}{uk uv:Value}{b:Nat}{es:Array MapEntry}{Vy:Nat}(h:Ny P t cs k v=some Mp)(hk:VR g w k uk)(hb:w.heap[b]?=some (.map es Vy))(hv:Az g w cs (Dc es.toList)) :
 (Instr.mapUpdate t (.map (some b)) uk uv).run P w=.ok () { w with heap:=w.heap.setIfInBounds b (.map (es.push { key:=uk,val:=uv,born:=Vy }) (Vy+1)) }/\Mp=cs++[k,v]:=by
 unfold Ny at h;split at h
 ·rename_i kt agg ks e hm;obtain⟨h1,h2⟩:=Q7 hm;split at h
  ·rename_i us Si;split at h
   ·rename_i KC;obtain rfl:=Ha Si hk;obtain⟨r0,yd⟩:=Option.isSome_iff_exists.1 KC;have tM:=G2 (P:=P) (w:=w) false 20 10000 kt ks agg us r0 (by omega) (GQ h2).2 (GQ h2).1 yd;split at h
    ·rename_i hf;simp only[Option.some.injEq]at h;have m:=(GM h2 cs es.toList 0 _ hf hv).1 rfl;have U9:=run_findKey h2 KC cs es.toList _ hf hv;rw[m]at U9;exact⟨by simp[Instr.mapUpdate,run_underlying h1,MapKept.run_getObj_map hb,tM,U9,MapKept.run_setObj_map _ hb],h.symm⟩
    ·cases h
   ·cases h
  ·cases h
 ·cases h
def R.uV(h:R C A N g st a w)(s:Nat)(Ys:isMap s=true)(hs:s∉A.ext) :
 R C A N (g.CI w.heap.size s) ⟨(st.kill [] [s]).tmps,(s,[])::(st.kill [] [s]).Ah⟩ a (w.alloc (.map #[] 0)):=by
 have hl:=Ly g w (.map #[] 0) s;have Gq:Fr C A (g.CI w.heap.size s) (w.alloc (.map #[] 0)):=h.fr.step hl rfl ⟨rfl,by first|exact Nat.le_refl _|exact Nat.le_succ _⟩ rfl (by simp) (λb hb ho=>⟨by simp[Gh.CI,Nat.ne_of_lt hb,ho],alloc_old w _ b hb⟩) (λq hq he=>hs (by simpa [List.mem_singleton.1 he]using hq));have h1:=h.lasts hl Gq (λq Mp hq Ca=>by
  have ho:=h.ob q Mp hq;exact⟨by simp[Gh.CI,Nat.ne_of_lt ho.lt,ho.1],alloc_old w _ _ ho.lt⟩)
 refine⟨h1.size,h1.defs,h1.tm,λq Mp hq=>?_,h1.fr⟩;simp only[lk]at hq
 by_cases yi:s=q
 ·subst yi;simp only[if_true,Option.some.injEq]at hq;subst hq;refine⟨by simp[Gh.CI],.inr ⟨Ys,#[],0,?_,by simp[Dc,Az]⟩⟩;simp only[Gh.CI,if_true];exact heap_alloc_new w _
 ·simp only[yi,if_false]at hq;exact h1.ob q Mp hq
def R.vk(h:R C A N g st a w){s:Nat}(Ys:isMap s=true){cs:List AV}(hs:lk s st.Ah=some cs){es:Array MapEntry}{Vy nh:Nat}(hb:w.heap[g.box s]?=some (.map es Vy)){e:MapEntry}{k v:AV}(hk:VR g w k e.key)(hv:VR g w v e.val)(RR:Az g w cs (Dc es.toList)) :
 R C A N g ⟨st.tmps,GY s (cs++[k,v]) st.Ah⟩ a { w with heap:=w.heap.setIfInBounds (g.box s) (.map (es.push e) nh) }:=by
 have TY:=(h.ob s cs hs).1;obtain⟨Jg,hold⟩:=MapKept.heap_set (o':=.map (es.push e) nh) hb;generalize PN:({ w with heap:=w.heap.setIfInBounds (g.box s) (.map (es.push e) nh) }:World)=w';have hh:w'.heap=w.heap.setIfInBounds (g.box s) (.map (es.push e) nh):=by rw[<- PN]
 rw[<- hh]at Jg hold;have hl:Lasts [] [] g w g w':=⟨λq hq ho=>⟨ho,hold q (λe=>by subst e;rw[TY]at ho;cases ho)⟩,λq r hq _ ho=>⟨ho,hold q (λe=>by subst e;rw[TY]at ho;cases ho)⟩,λ_ _=>rfl,λ_ _=>rfl,λq r i hq _ ho=>⟨ho,hold q (λe=>by subst e;rw[TY]at ho;cases ho)⟩,λ_ _ _=>rfl⟩;have Gq:Fr C A g w':=h.fr.step hl (by rw[<- PN]) ⟨by rw[<- PN],by rw[<- PN];exact Nat.le_refl _⟩ (by rw[<- PN]) (by rw[hh];simp) (λq hq ho=>⟨ho,hold q (λe=>by subst e;rw[TY]at ho;cases ho)⟩) (λ_ _ he=>by cases he);have lift:∀ {ds:List AV} {vs:List Value},Az g w ds vs->Az g w' ds vs:=λhd=>by have:=Az.lasts hl _ _ hd;rwa [D5]at this
 refine⟨h.size,h.defs,λj y hy=>?_,λq Mp hq=>?_,Gq⟩
 ·obtain⟨u,h1,h2⟩:=h.tm j y hy;exact⟨u,h1,by have:=VR.lasts hl y u h2;rwa [Jh]at this⟩
 ·simp only[cp]at hq
  by_cases Yu:q=s
  ·subst Yu;simp only[if_true,hs,Option.map_some,Option.some.injEq]at hq;subst hq;refine⟨TY,.inr ⟨Ys,_,_,Jg,?_⟩⟩;rw[Array.toList_push,PE];exact Az.append (lift RR) (lift (by simp[Dc,Az,hk,hv]))
  ·simp only[Yu,if_false]at hq;have h1:=(h.ob q Mp hq).1;exact(h.ob q Mp hq).lift rfl h1 (hold _ (λe=>by rw[e,TY]at h1;injection h1 with h1;exact Yu h1.symm)) (λus h4=>lift h4)
def DO.map{s:Nat}{cs:List AV}(h:DO g w s cs)(hk:isMap s=true):∃ es Vy,w.heap[g.box s]?=some (.map es Vy)/\Az g w cs (Dc es.toList):=by
 obtain⟨_,⟨h1,_⟩|⟨_,h⟩⟩:=h
 ·rw[hk]at h1;cases h1
 ·exact h
end
end Go.Abs
