/- part 4 of the proof -/
import Derived.Lib.ConvBytes
import Derived.Test.YteliegkcmjimoaaGreatDoorV03
set_option linter.all false
namespace Go.Abs
def LK(P:Program)(t:TypeId):Bool:=match P.underlying t with
 |some .string=>true
 |_=>false
def Vg(P:Program)(t:TypeId):Option IntKind:=match P.underlying t with
 |some (.int k)=>some k
 |_=>none
def Q4:AV->Option AV
 |.sl _ _ es=>some (.v (.int .i64 es.length))
 |.v (.slice none 0 0)=>some (.v (.int .i64 0))
 |.v (.string s)=>some (.v (.int .i64 s.size))
 |.El .Xl _ _ _ _ _ bss=>some (.v (.int .i64 bss.length))
 |.El .iW _ _ _ _ _ [b]=>some (.v (.int .i64 b.length))
 |.mem true xs=>some (.v (.int .i64 xs.length))
 |_=>none
def MJ(P:Program)(t:TypeId):AV->Bool
 |.v (.string _)=>LK P t
 |_=>AJ P t
def MU:AV->AV->AV->Option AV
 |.v (.bool p),.v (.bool x),.v (.bool y)=>some (.v (.bool (bif p then x else y)))
 |.v (.bool true),x,_=>some x
 |.v (.bool false),_,y=>some y
 |_,_,_=>none
def KN:AV->Option AV
 |.ptr s o=>some (.ptr s o)
 |.ep t i cs o=>some (.ep t i cs o)
 |.fn f cs=>some (.fn f cs)
 |_=>none
def Le(l:List UInt8):List (List AV):=l.map λb=>[.v (.int .u8 b.toNat)]
def unbytes:List (List AV)->Option (List UInt8)
 |[]=>some []
 |[.v (.int .u8 n)]::es=>(unbytes es).map (UInt8.ofNat n.toNat::·)
 |_=>none
def H8(P:Program)(t:TypeId):Bool:=match P.underlying t with
 |some (.slice e)=>match P.underlying e,BW P e with
  |some (.int .u8),some 1=>true
  |_,_=>false
 |_=>false
def Y5(P:Program)(src dst:TypeId)(st:St)(x:AV):Option (AV × St) :=
 match x with
 |.v (.int _ n)=>match Vg P src,Vg P dst with
  |some _,some k=>some (.v (.int k (k.wrap n)),st)
  |_,_=>none
 |.v (.string s)=>if LK P src/\LK P dst then some (.v (.string s),st) else if LK P src/\H8 P dst/\s.size<=4294967296 then some (.sl .no 1 (Le s.data.toList),st) else none
 |.v (.slice none 0 0)=>if H8 P src/\LK P dst then some (.v (.string ⟨#[]⟩),st) else none
 |.sl t n es=>if n=1 then
  if H8 P src/\LK P dst then (unbytes es).map λl=>(.v (.string ⟨l.toArray⟩),st)
  else match t,es with
   |.own r 0,e::es=>if src=dst/\H8 P src then some (.sl .no 1 (e::es),st.kill [r] []) else none
   |_,_=>none
  else none
 |_=>none
def placeOf(P:Program)(t:TypeId)(i:Nat):Option (Nat × Nat) :=
 match P.underlying t with
 |some (.struct fs)=>match fs[i]? with
  |some f=>(BW P f.type).map λn=>(f.offset,n)
  |none=>none
 |some (.array _ e)=>(BW P e).map λn=>(i*n,n)
 |_=>none
def sized(P:Program)(t:TypeId):Bool:=match P.underlying t with
 |some (.struct fs)=>fs.toList.all λf=>(BW P f.type).isSome
 |some (.array _ e)=>(BW P e).isSome
 |_=>false
def TJ(P:Program)(t:TypeId)(i:Nat):AV->Option AV
 |.agg cs=>match P.underlying t with
  |some (.struct fs)=>match fs[i]? with
   |some f=>match Be P f.type,BW P f.type with
    |some agg,some n=>if f.offset+n<=cs.length then cz agg ((cs.drop f.offset).take n) else none
    |_,_=>none
   |none=>none
  |_=>none
 |_=>none
def SA(P:Program)(t:TypeId):Option (Nat × Nat × Bool):=match P.underlying t with
 |some (.array len e)=>match BW P e,Be P e with
  |some n,some b=>some (len,n,b)
  |_,_=>none
 |_=>none
def NQ(P:Program)(t:TypeId)(k:AV):AV->Option AV
 |.agg cs=>match k,SA P t with
  |.v (.int _ k),some (len,n,b)=>if 0<=k/\k<len/\k.toNat*n+n<=cs.length then cz b ((cs.drop (k.toNat*n)).take n) else none
  |_,_=>none
 |.v (.string s)=>match k with
  |.v (.int _ k)=>if LK P t=true/\0<=k then (s[k.toNat]?).map λc=>.v (.int .u8 c.toNat) else none
  |_=>none
 |_=>none
def Cp(C:Ctx)(st:St):Option Operand->Option (Option Nat)
 |none=>some none
 |some o=>(N1 (ev C st o)).map some
def parts(C:Ctx)(st:St)(ps:Array (Nat × Operand)):List (Nat × AV):=ps.toList.map λp=>(p.1,ev C st p.2)
def nm(d:Nat):Nat:=d*64
def KO(d:Nat):isMap (nm d)=false:=by simp[isMap,nm]
def cD(d:Nat):Nat:=d*64+62
def lJ(d:Nat):isMap (cD d)=true:=by simp[isMap,cD]
def HW(C:Ctx)(st:St)(t:TypeId)(x:AV)(lo hi mx:Option Operand):Option (AV × St) :=
 match Cp C st lo,Cp C st hi,Cp C st mx with
 |some l,some h,some m=>match As C.P t with
  |some (_,n)=>match elems n x with
   |some es=>match h,m with
    |some h,some m=>if m=h then Js n true (l.getD 0) h st x else none
    |some h,none=>Js n false (l.getD 0) h st x
    |none,none=>Js n false (l.getD 0) es.length st x
    |none,some _=>none
   |none=>none
  |none=>match x,m with
   |.v (.string s),none=>if LK C.P t/\l.getD 0<=h.getD s.size/\h.getD s.size<=s.size then some (.v (.string (s.extract (l.getD 0) (h.getD s.size))),st) else none
   |_,_=>none
 |_,_,_=>none
def Kp(C:Ctx)(dst:Option Nat)(b:Builtin)(xs:List Operand)(ts:List TypeId)(st:St):Option (AV × St) :=
 match b with
 |.len=>match xs,ts with
  |[x],[t]=>if MJ C.P t (ev C st x)=true then (Q4 (ev C st x)).map (·,st) else none
  |_,_=>none
 |.append=>match dst,xs,ts with
  |some d,[x,y],[t,t2]=>match Bz C.P t with
   |some (e,n,_)=>if AJ C.P t2=true then O4 (nm d) n st (ev C st x) (ev C st y) else match zeroOf C.P e with
    |some zs=>Mf C.P (nm d) n t2 zs st (ev C st x) (ev C st y)
    |none=>none
   |none=>none
  |_,_,_=>none
 |.copy=>match xs,ts with
  |[x,y],t::_=>Y8 C.P t st (ev C st x) (ev C st y)
  |_,_=>none
 |.clear=>match xs,ts with
  |[x],[t]=>Tn C.P t st (ev C st x)
  |_,_=>none
 |.cap=>match xs,ts with
  |[x],[t]=>(jq C.P t (ev C st x)).map (·,st)
  |_,_=>none
 |.max=>match xs with
  |[x,y]=>match ev C st x,ev C st y with
   |.v (.int k a),.v (.int _ b)=>some (.v (.int k (if b > a then b else a)),st)
   |_,_=>none
  |_=>none
 |.min=>match xs with
  |[x,y]=>match ev C st x,ev C st y with
   |.v (.int k a),.v (.int _ b)=>some (.v (.int k (if b<a then b else a)),st)
   |_,_=>none
  |_=>none
 |_=>none
def X5(P:Program)(t:TypeId)(Ah:List (Nat × List AV))(m k:AV):Option AV:=match m with
 |.mp s=>(lk s Ah).bind λcs=>SZ P t cs k
 |_=>none
def NB(P:Program)(t:TypeId)(Ah:List (Nat × List AV))(m k:AV):Option AV:=match m with
 |.mp s=>(lk s Ah).bind λcs=>GR P t cs k
 |_=>none
def Nc(P:Program)(t:TypeId)(ok:Bool):AV->Option AV
 |.Gc t' y=>if P.concrete t=true/\t'=t then some (if ok=true then .Bl [y,.v (.bool true)] else y) else none
 |_=>none
def PS(P:Program)(t:TypeId)(Ah:List (Nat × List AV))(m k v:AV):Option (List (Nat × List AV)):=match m with
 |.mp s=>(lk s Ah).bind λcs=>(Ny P t cs k v).map λMp=>GY s Mp Ah
 |_=>none
def Hn(C:Ctx)(o:Oper)(st:St):Option (AV × St) :=
 match o.op with
 |.move x=>some (ev C st x,st)
 |.assign x=>some (ev C st x,st)
 |.pick c a b=>(MU (ev C st c) (ev C st a) (ev C st b)).map (·,st)
 |.alloc t=>match o.dst,zeroOf C.P t with
  |some d,some zs=>some (.ptr (nm d) 0,⟨(st.kill [] [nm d]).tmps,(nm d,vals zs)::(st.kill [] [nm d]).Ah⟩)
  |_,_=>none
 |.box _ x=>match o.dst with
  |some d=>if Cx (ev C st x).cells=true then some (.ptr (nm d) 0,⟨(st.kill [] [nm d]).tmps,(nm d,EK [] [nm d] (ev C st x).cells)::(st.kill [] [nm d]).Ah⟩) else none
  |none=>none
 |.load t a=>match Be C.P t,BW C.P t with
  |some agg,some n=>(LX agg n st.Ah (ev C st a)).map (·,st)
  |_,_=>none
 |.store t a x=>match o.dst,BW C.P t with
  |none,some n=>(Rk n st (ev C st a) (ev C st x)).map (.undef,·)
  |_,_=>none
 |.fieldAddr t x i=>match Bk C.P t i with
  |some off=>(Oz off (ev C st x)).map (·,st)
  |none=>none
 |.indexAddr t x i=>match ev C st i with
  |.v (.int _ k)=>match As C.P t with
   |some (_,n)=>(QY n k (ev C st x)).map (·,st)
   |none=>match Dj C.P t with
    |some (len,n)=>(QX len n k (ev C st x)).map (·,st)
    |none=>none
  |_=>none
 |.nilCheck x=>(KN (ev C st x)).map (·,st)
 |.binOp op t x y _=>(bj C.P op t (ev C st x) (ev C st y)).map (·,st)
 |.unOp op _ x=>(vq op (ev C st x)).map (·,st)
 |.convert src dst x=>Y5 C.P src dst st (ev C st x)
 |.extract x i=>match ev C st x with
  |.Bl cs=>(cs[i]?).map (·,st)
  |_=>none
 |.field t x i=>(TJ C.P t i (ev C st x)).map (·,st)
 |.index t x i=>(NQ C.P t (ev C st i) (ev C st x)).map (·,st)
 |.build t ps=>match zeroOf C.P t,Be C.P t with
  |some zs,some true=>if sized C.P t=true then (Mu (placeOf C.P t) (vals zs) (parts C st ps)).map (.agg ·,st) else none
  |_,_=>none
 |.buildSlice t len ps=>match o.dst,Bz C.P t with
  |some d,some (e,n,_)=>match zeroOf C.P e with
   |some zs=>lb (nm d) n len zs st (parts C st ps)
   |none=>none
  |_,_=>none
 |.makeSlice t l c=>match o.dst,Bz C.P t,ev C st l,ev C st c with
  |some d,some (e,n,_),.v (.int _ l),.v (.int _ c)=>match zeroOf C.P e with
   |some zs=>Wj (nm d) n zs st l c
   |none=>none
  |_,_,_,_=>none
 |.slice t x lo hi mx=>HW C st t (ev C st x) lo hi mx
 |.makeFunc fn first Bi=>match fn,first.toList,Bi.toList with
  |.func f,[],cs=>some (.fn f (cs.map (ev C st)),st)
  |.func f,x::xs,[]=>some (.mv f ((x::xs).map (ev C st)),st)
  |_,_,_=>none
 |.makeInterface t x=>if C.P.concrete t then some (.Gc t (ev C st x),st) else none
 |.call c=>match c.callee with
  |.builtin b=>Kp C o.dst b c.args.toList c.argTypes.toList st
  |_=>none
 |.makeMap _ rv=>match o.dst,rv with
  |some d,none=>some (.mp (cD d),⟨(st.kill [] [cD d]).tmps,(cD d,[])::(st.kill [] [cD d]).Ah⟩)
  |_,_=>none
 |.lookup t m k ok=>match ok with
  | false=>(X5 C.P t st.Ah (ev C st m) (ev C st k)).map (·,st)
  | true=>(NB C.P t st.Ah (ev C st m) (ev C st k)).map (·,st)
 |.typeAssert x _ t ok=>(Nc C.P t ok (ev C st x)).map (·,st)
 |.mapUpdate t m k v=>match o.dst with
  |none=>(PS C.P t st.Ah (ev C st m) (ev C st k) (ev C st v)).map λos=>(.undef,⟨st.tmps,os⟩)
  |some _=>none
 |_=>none
section
variable {C:Ctx} {A:A0} {N:Nat} {g g':Gh} {st:St} {a:Act} {w w':World} {P:Program}
def Dv{t:TypeId}(h:LK P t=true):P.underlying t=some .string:=by
 unfold LK at h;split at h<;>simp_all
def Nz{t:TypeId}{k:IntKind}(h:Vg P t=some k):P.underlying t=some (.int k):=by
 unfold Vg at h;split at h<;>simp_all
def Gl{t:TypeId}(h:AJ P t=true):∃ e,P.underlying t=some (.slice e):=by
 unfold AJ at h;split at h<;>simp_all
def Fa{t:TypeId}(h:H8 P t=true):∃ e,P.underlying t=some (.slice e)/\P.underlying e=some (.int .u8)/\BW P e=some 1:=by
 unfold H8 at h;split at h
 ·rename_i e he;split at h
  ·rename_i h1 h2;exact⟨e,he,h1,h2⟩
  ·cases h
 ·cases h
def Us{x y z r:AV}{ux uy uz:Value}(hx:VR g w x ux)(hy:VR g w y uy)(hz:VR g w z uz)(h:MU x y z=some r) :
 ∃ u,(do pure (.value (if <- asBool ux then uy else uz)):Sem Next).run P w=.ok (.value u) w/\VR g w r u:=by
 unfold MU at h;split at h
 ·rename_i p b c;simp only[VR]at hx hy hz;subst hx;subst hy;subst hz;simp at h;subst h;refine⟨_,by simp[asBool];rfl,?_⟩;cases p<;>simp[VR]
 ·simp only[VR]at hx;subst hx;simp at h;subst h;exact⟨uy,by simp[asBool],hy⟩
 ·simp only[VR]at hx;subst hx;simp at h;subst h;exact⟨uz,by simp[asBool],hz⟩
 ·cases h
def Wi{t ty:TypeId}{x r:AV}{ux:Value}(ht:AJ P t=true\/LK P t=true)(hx:VR g w x ux)(h:Q4 x=some r)
 (hk:(∃ s,x=.v (.string s))->LK P t=true) (a7:(¬ ∃ s,x=.v (.string s))->AJ P t=true):∃ u,(Builtin.len_ #[t] ty #[ux]).run P w=.ok u w/\VR g w r u:=by
 unfold Q4 at h;split at h
 ·rename_i t' n es;simp at h;subst h;obtain⟨e,he⟩:=Gl (a7 (by rintro⟨s,hs⟩;cases hs));have:∃ a cap,ux=.slice a es.length cap:=by
   cases t' with
   | own r lo =>
    simp only[VR,CM]at hx;obtain⟨_,⟨rfl,rfl⟩|⟨_,rfl,a,cap,rfl,_⟩|⟨cap,_,_,rfl,_⟩⟩:=hx
    ·exact⟨none,0,rfl⟩
    ·exact⟨a,cap,rfl⟩
    ·exact⟨_,cap,rfl⟩
   | no=>simp only[VR,PR]at hx;obtain⟨_,a,cap,rfl,_⟩:=hx;exact⟨a,cap,rfl⟩
   | full=>simp only[VR,PR]at hx;obtain⟨_,a,cap,rfl,_⟩:=hx;exact⟨a,cap,rfl⟩
  obtain⟨a,cap,rfl⟩:=this;exact⟨_,by simp[Builtin.len_,run_underlying he,goInt];rfl,by simp[VR]⟩
 ·simp at h;subst h;simp only[VR]at hx;subst hx;obtain⟨e,he⟩:=Gl (a7 (by rintro⟨s,hs⟩;cases hs));exact⟨_,by simp[Builtin.len_,run_underlying he,goInt];rfl,by simp[VR]⟩
 ·simp at h;subst h;simp only[VR]at hx;subst hx;have he:=Dv (hk ⟨_,rfl⟩);exact⟨_,by simp[Builtin.len_,run_underlying he,goInt];rfl,by simp[VR]⟩
 ·rename_i r _ _ _ m bss;simp at h;subst h;obtain⟨e,he⟩:=Gl (a7 (by rintro⟨s,hs⟩;cases hs));simp only[VR]at hx;obtain⟨hm,⟨rfl,rfl⟩|⟨cap,cur,T,rfl,_⟩⟩:=hx
  ·exact⟨_,by simp[Builtin.len_,run_underlying he,goInt];rfl,by simp[VR]⟩
  ·exact⟨_,by simp[Builtin.len_,run_underlying he,goInt];rfl,by simp[VR]⟩
 ·rename_i r _ _ _ m b;simp at h;subst h;obtain⟨e,he⟩:=Gl (a7 (by rintro⟨s,hs⟩;cases hs));simp only[VR]at hx;obtain⟨hm,b',ky,hi⟩:=hx;simp only[List.cons.injEq,and_true]at ky;subst ky;rcases hi with ⟨rfl,a,cap,rfl,_⟩|⟨cap,cur,T,rfl,_⟩
  ·exact⟨_,by simp[Builtin.len_,run_underlying he,goInt];rfl,by simp[VR]⟩
  ·exact⟨_,by simp[Builtin.len_,run_underlying he,goInt];rfl,by simp[VR]⟩
 ·rename_i xs;simp at h;subst h;obtain⟨e,he⟩:=Gl (a7 (by rintro⟨s,hs⟩;cases hs));simp only[VR,Yz]at hx;obtain⟨ad,vs,_,_,hv,cap,rfl,_,_⟩:=hx;have hl:=Az.length hv;exact⟨_,by simp[Builtin.len_,run_underlying he,goInt];rfl,by simp[VR,hl]⟩
 ·cases h
def Ro{ro:Nat->Prop}:∀ l:List UInt8,B3 ro w (Le l).flatten (l.map λb=>Value.int .u8 b.toNat)
 |[]=>by simp[Le,B3]
 | b::l=>by
  have:=Ro (ro:=ro) l;simp only[Le,List.map_cons,List.flatten_cons,List.cons_append,List.nil_append,B3,PR]at this ⊢;exact⟨⟨trivial,rfl⟩,this⟩
def LL{ro:Nat->Prop}:∀ {es:List (List AV)} {us:List Value} {l:List UInt8},unbytes es=some l->B3 ro w es.flatten us->∃ ns:List Int,us=ns.map (Value.int .u8)/\l=ns.map (λn=>UInt8.ofNat n.toNat)
 |[],[],l,h,_=>by simp[unbytes]at h;subst h;exact⟨[],rfl,rfl⟩
 |[],_::_,_,_,hp=>by simp[B3]at hp
 | e::es,us,l,h,hp=>by
  unfold unbytes at h;split at h
  ·rename_i heq;cases heq
  ·rename_i n NK heq;injection heq with h1 h2
   subst h1;subst h2;obtain⟨l',Vc,rfl⟩:=Option.map_eq_some_iff.1 h;simp only[List.flatten_cons,List.cons_append,List.nil_append]at hp
   match us,hp with
   | u::us,hp =>
    simp only[B3,PR]at hp;obtain⟨ns,rfl,rfl⟩:=LL Vc hp.2;exact⟨n::ns,by simp[hp.1.1],by simp⟩
   |[],hp=>simp[B3]at hp
  ·cases h
def foldl_push(ns:List Int):∀ acc:ByteArray,(ns.foldl (λr n=>r.push (UInt8.ofNat n.toNat)) acc)=⟨acc.data++(ns.map (λn=>UInt8.ofNat n.toNat)).toArray⟩:=by
 induction ns with
 | nil=>intro acc;cases acc;simp
 | cons n ns ih =>
  intro acc;rw[List.foldl_cons,ih];simp[ByteArray.push]
def bt(hR:R C A N g st a w){src dst:TypeId}{x r:AV}{ux:Value}(hx:VR g w x ux){st':St}(h:Y5 P src dst st x=some (r,st')) :
 ∃ u w' g',(convert src dst ux).run P w=.ok u w'/\R C A N g' st' a w'/\VR g' w' r u:=by
 unfold Y5 at h;split at h
 ·-- an integer
  simp only[VR]at hx;subst hx;split at h
  ·rename_i k1 k2 h1 h2;simp at h;obtain⟨rfl,rfl⟩:=h;refine⟨.int k2 (k2.wrap _),w,g,?_,hR,by simp only[VR];rfl⟩;simp[convert,run_underlying (Nz h1),run_underlying (Nz h2),Conv.intToInt]
  ·cases h
 ·simp only[VR]at hx;subst hx;rename_i s;split at h
  ·rename_i hc;simp at h;obtain⟨rfl,rfl⟩:=h;exact⟨_,w,g,by simp[convert,run_underlying (Dv hc.1),run_underlying (Dv hc.2)];rfl,hR,by simp[VR]⟩
  ·split at h
   ·rename_i hc;simp at h;obtain⟨rfl,rfl⟩:=h;obtain⟨e,h1,h2,h3⟩:=Fa hc.2.1;have CZ:=Lib.run_convert_string_bytes (P:=P) w src dst e s (Dv hc.1) h1 h2;obtain⟨g',k1,k2,k3⟩:=hR.yH (w':=Lib.bytesWorld w e s) (by simp[Lib.bytesWorld,World.freeze];rfl) ⟨by simp[Lib.bytesWorld,World.freeze],by simp only[Lib.bytesWorld,World.freeze];exact Nat.le_succ _⟩ (by simp[Lib.bytesWorld,World.freeze];rfl) (Lib.bytesWorld_size w e s) (λb hb=>Lib.bytesWorld_at_old w e s b hb);refine⟨_,_,g',CZ,k1,?_⟩;have XU:(Le s.data.toList).length=s.size:=by simp[Le]
    simp only[VR,PR];refine⟨(λ_ _ h=>by cases h),_,_,by rw[XU],by rw[XU];exact grownCap_ge w s.size 0 e,grownCap_le_maxLen w s.size 0 e (by simp only[maxLen];omega),(λh=>by cases h),by omega,?_⟩;refine .inr ⟨_,rfl,k2,CH.Dt _ _ _ 1 0 (λe' SR=>by simp only[Le,List.mem_map]at SR;obtain⟨_,_,rfl⟩:=SR;rfl) (Ro _) λj v hj=>?_⟩;have V3:j<s.size:=by
     rcases Nat.lt_or_ge j s.size with h|h
     ·exact h
     ·rw[List.getElem?_eq_none (by simpa using h)]at hj;cases hj
    simp only[Nat.zero_mul,Nat.zero_add,add_lit];rw[Lib.bytesWorld_cell w e s j V3,<- hj,List.getElem?_map];have xV:j<s.data.toList.length:=by simpa using V3
    simp[List.getD,List.getElem?_eq_getElem xV]
   ·cases h
 ·simp only[VR]at hx;subst hx;split at h
  ·rename_i hc;simp at h;obtain⟨rfl,rfl⟩:=h;obtain⟨e,h1,h2,h3⟩:=Fa hc.1;exact⟨.string .empty,w,g,by simp[convert,run_underlying h1,run_underlying h2,run_underlying (Dv hc.2),Conv.bytesToString],hR,by simp[VR];rfl⟩
  ·cases h
 ·rename_i t n es;split at h
  ·rename_i hn;subst hn;split at h
   ·rename_i hc;obtain⟨l,hl,he⟩:=Option.map_eq_some_iff.1 h;simp only[Prod.mk.injEq]at he;obtain⟨rfl,rfl⟩:=he;obtain⟨e,h1,h2,h3⟩:=Fa hc.1;obtain⟨us,hs,hp,_⟩:=HC (n:=1) (es:=es) (by omega) (by simp[elems]) hx;obtain⟨ns,rfl,rfl⟩:=LL hl hp;obtain⟨hlen,uE⟩:=hs;refine⟨.string ⟨(ns.map (λn=>UInt8.ofNat n.toNat)).toArray⟩,w,g,?_,hR,by simp only[VR]⟩;rcases uE with ⟨ad,c,rfl,Hu⟩|⟨h0,c,rfl⟩
    ·rw[run_convert_bytes_string w src dst e _ _ _ h1 h2 (Dv hc.2)];have x4:(loadCells ad es.length).run P w=.ok (ns.map (Value.int .u8)).toArray w:=by
      have:=run_loadCells_list (P:=P) w ad (ns.map (Value.int .u8)) Hu
      rwa [hlen,Nat.mul_one]at this
     rw[run_bytesToString w ad es.length c ns x4,foldl_push];simp[ByteArray.empty,ByteArray.emptyWithCapacity]
     try rfl
    ·have:ns=[]:=by
      have:ns.length=0:=by simpa [h0]using hlen
      exact List.eq_nil_of_length_eq_zero this
     subst this;simp[convert,run_underlying h1,run_underlying h2,run_underlying (Dv hc.2),Conv.bytesToString];rfl
   ·split at h
    ·rename_i t0 es0 r0 e0 es1;split at h
     ·rename_i hc;simp at h;obtain⟨rfl,rfl⟩:=h;obtain⟨rfl,hc⟩:=hc;obtain⟨e,h1,h2,h3⟩:=Fa hc;simp only[VR,CM]at hx;obtain⟨_,⟨_,h0⟩|⟨_,h0,_⟩|⟨cap,cur,T,rfl,k2,k3,k5,k6,k7,k8⟩⟩:=hx
      ·cases h0
      ·cases h0
      ·have uD:w.shape? (g.row r0)=some (T,cur.size):=by simp[World.shape?,k6]
       have CZ:(convert src src (.slice (some ⟨g.row r0,0*1,none⟩) (e0::es1).length cap)).run P w=.ok (.slice (some ⟨g.row r0,0*1,none⟩) (e0::es1).length cap) (w.freeze ⟨g.row r0,cur.size,none⟩ 1):=by
        simp[convert,run_underlying h1,run_underlying h2,markStringish,uD]
       have OF:∀ b,b≠g.row r0->(w.freeze ⟨g.row r0,cur.size,none⟩ 1).heap[b]?=w.heap[b]?:=λb hb=>by
        simp[World.freeze,Array.getElem?_modify,Ne.symm hb]
       have KC:(w.freeze ⟨g.row r0,cur.size,none⟩ 1).heap[g.row r0]?=some (.cells cur T (cur.size,cur.size+1)):=by
        simp[World.freeze,Array.getElem?_modify,k6]
       let g':Gh:={ g with own:=λx=>if x=g.row r0 then .ro else g.own x }
       have hl:Lasts [r0] [] g w g' (w.freeze ⟨g.row r0,cur.size,none⟩ 1):=by
        refine⟨λb _ ho=>?_,λb q _ hq ho=>?_,λ_ _=>rfl,λ_ _=>rfl,λb q i _ _ ho=>?_,λ_ _ _=>rfl⟩
        ·have Ca:b≠g.row r0:=λe=>by rw[e,k5]at ho;cases ho
         exact⟨by simp[g',Ca,ho],OF b Ca⟩
        ·have Ca:b≠g.row r0:=λe=>by rw[e,k5]at ho;injection ho with ho;exact hq (by simp[ho])
         exact⟨by simp[g',Ca,ho],OF b Ca⟩
        ·have Ca:b≠g.row r0:=λe=>by rw[e,k5]at ho;cases ho
         exact⟨by simp[g',Ca,ho],OF b Ca⟩
       refine⟨_,_,g',CZ,?_,?_⟩
       ·refine hR.lasts hl (hR.fr.step hl (by simp[World.freeze]) ⟨by simp[World.freeze],by simp[World.freeze]⟩ (by simp[World.freeze]) (by simp[World.freeze]) (λb _ ho=>?_) (λ_ _ h=>by cases h)) (λs cs hs _=>?_)
        ·have Ca:b≠g.row r0:=λe=>by rw[e,k5]at ho;cases ho
         exact⟨by simp[g',Ca,ho],OF b Ca⟩
        ·have ho:=(hR.ob s cs hs).1;have Ca:g.box s≠g.row r0:=λe=>by rw[e,k5]at ho;cases ho
         exact⟨by simp[g',Ca,ho],OF _ Ca⟩
       ·simp only[VR,PR];obtain⟨us,m1,m2,m3⟩:=CH.list _ _ _ _ k8;refine⟨(λ_ _ h=>by cases h),_,_,rfl,k2,by omega,(λh=>by cases h),by omega,.inr ⟨_,rfl,by simp[g',BX],?_⟩⟩;refine CH.Dt _ us _ 1 0 (CH.lens k8) (B3.mono hl.M1 m1) λj v hj=>?_
        have:=m3 j v hj;simp only[add_lit]at this ⊢;rw[cell_of_row _ _ _ _ _ _ k6]at this;rw[cell_of_row _ _ _ _ _ _ KC];exact this
     ·cases h
    ·cases h
  ·cases h
 ·cases h
end
end Go.Abs
namespace Go.Abs
section
variable {C:Ctx} {A:A0} {N:Nat} {g g':Gh} {st:St} {a:Act} {w w':World}
def OP{P:Program}{t:TypeId}{v:Value}{w:World}:(newVar t v).run P w=.ok ⟨w.heap.size,0,none⟩ (w.alloc (.cells v.cells t)):=by simp[newVar,newRow]
def Gw(hR:R C A N g st a w)(l:List Operand):Az g w (l.map (ev C st)) (l.map a.eval):=by
 induction l with
 | nil=>simp[Az]
 | cons x l ih=>simp only[List.map_cons,Az];exact⟨hR.ev x,ih⟩
def cC{x:AV}{n:Nat}{u:Value}(h:N1 x=some n)(hx:VR g w x u):∃ k,u=.int k n:=by
 unfold N1 at h;split at h
 ·rename_i k i;split at h
  ·rename_i h0;simp at h;subst h;simp only[VR]at hx;subst hx;exact⟨k,by rw[Int.toNat_of_nonneg h0]⟩
  ·cases h
 ·cases h
def HA(hR:R C A N g st a w){o:Option Operand}{b:Option Nat}(h:Cp C st o=some b):(o.map a.eval=none/\b=none)\/(∃ n k,b=some n/\o.map a.eval=some (.int k n)):=by
 unfold Cp at h;split at h
 ·simp at h;subst h;exact .inl ⟨rfl,rfl⟩
 ·rename_i x;obtain⟨n,hn,rfl⟩:=Option.map_eq_some_iff.1 h;obtain⟨k,hk⟩:=cC hn (hR.ev x);exact .inr ⟨n,k,rfl,by simp[hk]⟩
def Oc{P:Program}{t e:TypeId}{x:Value}{lo hi mx:Option Value}(h:P.underlying t=some (.slice e)):(Instr.sliceAt t x lo hi mx).run P w=(Instr.slice t x lo hi mx).run P w:=by
 simp[Instr.sliceAt,run_underlying h]
def UI{P:Program}{t:TypeId}{x:Value}{lo hi mx:Option Value}(h:P.underlying t=some .string):(Instr.sliceAt t x lo hi mx).run P w=(Instr.slice t x lo hi mx).run P w:=by
 simp[Instr.sliceAt,run_underlying h]
def Kv{P:Program}{t e n:Nat}(h:As P t=some (e,n)):P.underlying t=some (.slice e)/\BW P e=some n:=by
 unfold As at h;split at h
 ·rename_i e' he;obtain⟨n',gG,hh⟩:=Option.map_eq_some_iff.1 h;simp only[Prod.mk.injEq]at hh;obtain⟨rfl,rfl⟩:=hh;exact⟨he,gG⟩
 ·cases h
def Od(hR:R C A N g st a w){t:TypeId}{x:Operand}{lo hi mx:Option Operand}{z:AV}{st':St}(h:HW C st t (ev C st x) lo hi mx=some (z,st')) :
 ∃ u w' g',(Instr.sliceAt t (a.eval x) (lo.map a.eval) (hi.map a.eval) (mx.map a.eval)).run C.P w=.ok u w'/\R C A N g' st' a w'/\VR g' w' z u/\(((∀ r lo m es,ev C st x≠.sl (.own r lo) m es)\/mx=none)->g'=g/\w'=w):=by
 unfold HW at h;split at h
 ·rename_i l hh m hl hhh hm;have bl:=HA hR hl;have bh:=HA hR hhh;have bm:=HA hR hm;split at h
  ·rename_i e n eH;obtain⟨eS,GP⟩:=Kv eH;rw[Oc eS];split at h
   ·rename_i es iP;have hlen:∀ NK,elems n (ev C st x)=some NK->NK.length=es.length:=λNK h'=>by rw[iP]at h';simp at h';rw[h']
    have RS:∃ kl,(lo.map a.eval=none/\l.getD 0=0)\/lo.map a.eval=some (.int kl (l.getD 0:Nat)):=by
     rcases bl with ⟨h1,rfl⟩|⟨n',k,rfl,h1⟩
     ·exact⟨.i64,.inl ⟨h1,rfl⟩⟩
     ·exact⟨k,.inr h1⟩
    obtain⟨kl,RS⟩:=RS;split at h
    ·rename_i h0 m0;split at h
     ·rename_i hmh;subst hmh;rcases bh with ⟨_,hc⟩|⟨n',kh,hc,h2⟩
      ·cases hc
      ·injection hc with hc;subst hc
       rcases bm with ⟨_,hc⟩|⟨n'',km,hc,h3⟩
       ·cases hc
       ·injection hc with hc;subst hc
        obtain⟨u,g',k1,k2,k3,k4⟩:=M6 (full:=true) (mx:=mx.map a.eval) hR eH (hR.ev x) hlen RS (.inr h2) (by simp only[if_true];exact h3) (λ_=>h2) h;exact⟨u,w,g',k1,k2,k3,λhp=>⟨k4 (hp.imp id λhm=>by subst hm;simp at h3),rfl⟩⟩
     ·cases h
    ·rename_i h0;rcases bh with ⟨_,hc⟩|⟨n',kh,hc,h2⟩
     ·cases hc
     ·injection hc with hc;subst hc
      rcases bm with ⟨h3,_⟩|⟨_,_,hc,_⟩
      ·obtain⟨u,g',k1,k2,k3,k4⟩:=M6 (full:=false) (mx:=mx.map a.eval) (km:=.i64) hR eH (hR.ev x) hlen RS (.inr h2) (by rw[h3];rfl) (λh=>by cases h) h;exact⟨u,w,g',k1,k2,k3,λ_=>⟨k4 (.inr rfl),rfl⟩⟩
      ·cases hc
    ·rcases bh with ⟨h2,_⟩|⟨_,_,hc,_⟩
     ·rcases bm with ⟨h3,_⟩|⟨_,_,hc,_⟩
      ·obtain⟨u,g',k1,k2,k3,k4⟩:=M6 (full:=false) (mx:=mx.map a.eval) (kh:=.i64) (km:=.i64) hR eH (hR.ev x) hlen RS (.inl ⟨h2,rfl⟩) (by rw[h3];rfl) (λh=>by cases h) h;exact⟨u,w,g',k1,k2,k3,λ_=>⟨k4 (.inr rfl),rfl⟩⟩
      ·cases hc
     ·cases hc
    ·cases h
   ·cases h
  ·split at h
   ·rename_i s mT;split at h
    ·rename_i hc;simp at h;obtain⟨rfl,rfl⟩:=h;obtain⟨hs,h1,h2⟩:=hc;have HH:=Dv hs;rw[UI HH];have rQ:=hR.ev x;rw[mT]at rQ;simp only[VR]at rQ;rw[rQ];have e3:mx.map a.eval=none:=by
      rcases bm with ⟨h3,_⟩|⟨_,_,hc,_⟩
      ·exact h3
      ·cases hc
     rw[e3];refine⟨.string (s.extract (l.getD 0) (hh.getD s.size)),w,g,?_,hR,by simp only[VR],λ_=>⟨rfl,rfl⟩⟩;rcases bl with ⟨e1,rfl⟩|⟨n1,k1,rfl,e1⟩<;>rcases bh with ⟨e2,rfl⟩|⟨n2,k2,rfl,e2⟩<;>rw[e1,e2]<;>simp only[Option.getD_none,Option.getD_some]at h1 h2 ⊢
     ·simp[Instr.slice,run_underlying HH,Instr.sliceBounds]
     ·have b:=run_sliceBound (P:=C.P) (w:=w) k2 n2 s.size .sliceAlen (by omega) (by omega);simp[Instr.slice,run_underlying HH,Instr.sliceBounds,b]
     ·have b:=run_sliceBound (P:=C.P) (w:=w) k1 n1 s.size .sliceB (by omega) (by omega);simp[Instr.slice,run_underlying HH,Instr.sliceBounds,b]
     ·have b:=run_sliceBound (P:=C.P) (w:=w) k2 n2 s.size .sliceAlen (by omega) (by omega);have b':=run_sliceBound (P:=C.P) (w:=w) k1 n1 n2 .sliceB (by omega) (by omega);simp only[Int.toNat_natCast]at b b';simp[Instr.slice,run_underlying HH,Instr.sliceBounds,b,b']
    ·cases h
   ·cases h
 ·cases h
def ZQ{P:Program}(fs:List Field)(h:∀ f∈fs,(BW P f.type).isSome):(fs.mapM λf=>(do pure (f.offset,<- sizeOf f.type):Sem (Nat × Nat))).run P w=.ok (fs.map λf=>(f.offset,(BW P f.type).getD 0)) w:=by
 induction fs with
 | nil=>simp
 | cons f fs ih =>
  have hf:=h f (by simp);obtain⟨n,hn⟩:=Option.isSome_iff_exists.1 hf;rw[List.mapM_cons];simp only[Sem.run_bind,run_sizeOf hn,Result.andThen_ok,Sem.run_pure,ih (λf' eI=>h f' (by simp[eI])),List.map_cons,hn,Option.getD_some]
def OA(p q:Nat->Option (Nat × Nat)):∀ (l:List (Nat × Value)) (cs:Array Value),(∀ x∈l,p x.1=q x.1)->Instr.fill p cs l=Instr.fill q cs l
 |[],_,_=>rfl
 |(i,v)::l,cs,h=>by
  have h0:=h (i,v) (by simp);simp only at h0;simp only[Instr.fill,h0];split
  ·rfl
  ·split
   ·rfl
   ·exact OA p q l _ λx hx=>h x (by simp[hx])
def Rw{P:Program}{t:TypeId}{zs:List Value}(hz:zeroOf P t=some zs)(hag:Be P t=some true)(Ec:sized P t=true){ps:List (Nat × AV)}{pv:List (Nat × Value)}
 (h1:ps.map (·.1)=pv.map (·.1)) (h2:Az g w (ps.map (·.2)) (pv.map (·.2))) {L:List AV} (hf:Mu (placeOf P t) (vals zs) ps=some L) :
 ∃ u,(Instr.build t pv.toArray).run P w=.ok u w/\VR g w (.agg L) u:=by
 have Wa:∃ i z,P.info? t=some i/\i.zero=some z/\zs=z.cells.toList:=by
  unfold zeroOf at hz;obtain⟨z,pO,kS⟩:=Option.map_eq_some_iff.1 hz;obtain⟨i,hi,rB⟩:=Option.bind_eq_some_iff.1 pO;exact⟨i,z,hi,rB,kS.symm⟩
 obtain⟨i,z,hi,rB,rfl⟩:=Wa;obtain⟨cur,k1,k2⟩:=Lr (placeOf P t) ps pv (vals z.cells.toList) z.cells L h1 h2 (H0 _) hf;refine⟨.agg cur,?_,cur,rfl,k2⟩;unfold sized at Ec;split at Ec
 ·rename_i fs hu;have Fw:∀ f∈fs.toList,(BW P f.type).isSome:=λf hf=>List.all_eq_true.1 Ec f hf
  have rE:(fs.mapM λf=>(do pure (f.offset,<- sizeOf f.type):Sem (Nat × Nat))).run P w=.ok (fs.toList.map λf=>(f.offset,(BW P f.type).getD 0)).toArray w:=by
   have e:=Array.mapM_eq_mapM_toList (m:=Sem) (xs:=fs) (f:=λf=>(do pure (f.offset,<- sizeOf f.type):Sem (Nat × Nat)));rw[e];simp only[Sem.run_map,ZQ _ Fw,Result.andThen_ok]
  have hp:∀ i,((fs.toList.map λf=>(f.offset,(BW P f.type).getD 0)).toArray)[i]?=placeOf P t i:=λi=>by
   simp only[placeOf,hu,List.getElem?_toArray,List.getElem?_map,Array.getElem?_toList];cases eL:fs[i]? with
   |none=>rfl
   |some f =>
    have hm:f∈fs.toList:=by
     rw[<- Array.getElem?_toList]at eL;exact List.mem_of_getElem? eL
    obtain⟨n,hn⟩:=Option.isSome_iff_exists.1 (Fw f hm);simp[hn]
  have eJ:=OA (λi=>((fs.toList.map λf=>(f.offset,(BW P f.type).getD 0)).toArray)[i]?) (placeOf P t) pv z.cells (λx _=>hp x.1);rw[k1]at eJ;unfold Instr.build;simp only[Sem.run_bind,zeroValue,run_typeInfo hi,Result.andThen_ok,rB,Sem.run_pure,run_underlying hu,rE,eJ]
 ·rename_i n e hu;obtain⟨m,hm⟩:=Option.isSome_iff_exists.1 Ec;have hp:∀ i,(some (i*m,m):Option (Nat × Nat))=placeOf P t i:=λi=>by simp[placeOf,hu,hm]
  have eJ:=OA (λi=>some (i*m,m)) (placeOf P t) pv z.cells (λx _=>hp x.1);rw[k1]at eJ;unfold Instr.build;simp only[Sem.run_bind,zeroValue,run_typeInfo hi,Result.andThen_ok,rB,Sem.run_pure,run_underlying hu,run_sizeOf hm,eJ]
 ·cases Ec
def PC{P:Program}{t:TypeId}{i:Nat}{x z:AV}{ux:Value}(hx:VR g w x ux)(h:TJ P t i x=some z):∃ u,(Instr.field t ux i).run P w=.ok u w/\VR g w z u:=by
 unfold TJ at h;split at h
 ·rename_i cs;simp only[VR]at hx;obtain⟨us,rfl,hv⟩:=hx;split at h
  ·rename_i fs hu;split at h
   ·rename_i f hf;split at h
    ·rename_i agg n h1 h2;split at h
     ·rename_i hle;have hlen:cs.length=us.toList.length:=Az.length hv;have ED:=Az.take n (Az.drop f.offset hv);have hl:((cs.drop f.offset).take n).length=n:=by simp;omega
      unfold Instr.field;simp only[Sem.run_bind,run_underlying hu,Result.andThen_ok,hf,asAgg,Sem.run_pure,part,I0 h1];cases agg with
      | true =>
       simp only[cz,if_true,Option.some.injEq]at h;subst h;simp only[if_true,Sem.run_bind,run_sizeOf h2,Result.andThen_ok,Sem.run_pure];refine⟨_,rfl,_,rfl,?_⟩;simpa [List.drop_take,Nat.add_sub_cancel_left]using ED
      | false =>
       simp only[cz,Bool.false_eq_true,if_false]at h;split at h
       ·rename_i c hc;simp at h;subst h;rw[hc]at ED
        match Si:(us.toList.drop f.offset).take n,ED with
        |[u],ED =>
         simp only[Az]at ED;have h0:us[f.offset]?=some u:=by
          have:((us.toList.drop f.offset).take n)[0]?=some u:=by rw[Si];rfl
          rw[List.getElem?_take]at this;split at this
          ·rw[List.getElem?_drop]at this;simpa using this
          ·cases this
         simp only[Bool.false_eq_true,if_false,h0,Sem.run_pure];exact⟨u,rfl,ED.1⟩
        |[],ED=>simp[Az]at ED
        |_::_::_,ED=>simp[Az]at ED
       ·cases h
     ·cases h
    ·cases h
   ·cases h
  ·cases h
 ·cases h
def T2{P:Program}{t:TypeId}{k x z:AV}{uk ux:Value}(hk:VR g w k uk)(hx:VR g w x ux)(h:NQ P t k x=some z):∃ u,(Instr.index t ux uk).run P w=.ok u w/\VR g w z u:=by
 unfold NQ at h;split at h
 ·rename_i cs;simp only[VR]at hx;obtain⟨us,rfl,hv⟩:=hx;split at h
  ·rename_i kk ki len n b he;simp only[VR]at hk;subst hk;split at h
   ·rename_i hle;obtain⟨h0,h1,h2⟩:=hle;unfold SA at he;split at he
    ·rename_i yw e hu;split at he
     ·rename_i n' b' hn hb;simp only[Option.some.injEq,Prod.mk.injEq]at he;obtain⟨rfl,rfl,rfl⟩:=he;have hlen:cs.length=us.toList.length:=Az.length hv;have ED:=Az.take n' (Az.drop (ki.toNat*n') hv);unfold Instr.index;simp only[asIntOf,Sem.run_bind,Sem.run_pure,Result.andThen_ok,run_underlying hu,h0,h1,and_self,if_true,run_sizeOf hn,part,I0 hb];cases b' with
      | true =>
       simp only[cz,if_true,Option.some.injEq]at h;subst h;simp only[if_true,Sem.run_bind,run_sizeOf hn,Result.andThen_ok,Sem.run_pure];refine⟨_,rfl,_,rfl,?_⟩;simpa [List.drop_take,Nat.add_sub_cancel_left]using ED
      | false =>
       simp only[cz,Bool.false_eq_true,if_false]at h;split at h
       ·rename_i c hc;simp at h;subst h;rw[hc]at ED
        match Si:(us.toList.drop (ki.toNat*n')).take n',ED with
        |[u],ED =>
         simp only[Az]at ED;have h0:us[ki.toNat*n']?=some u:=by
          have:((us.toList.drop (ki.toNat*n')).take n')[0]?=some u:=by rw[Si];rfl
          rw[List.getElem?_take]at this;split at this
          ·rw[List.getElem?_drop]at this;simpa using this
          ·cases this
         simp only[Bool.false_eq_true,if_false,h0,Sem.run_pure];exact⟨u,rfl,ED.1⟩
        |[],ED=>simp[Az]at ED
        |_::_::_,ED=>simp[Az]at ED
       ·cases h
     ·cases he
    ·cases he
   ·cases h
  ·cases h
 ·rename_i s;split at h
  ·rename_i kk ki;simp only[VR]at hk hx;subst hk;subst hx;split at h
   ·rename_i hc;obtain⟨hs,h0⟩:=hc;obtain⟨b,hb,rfl⟩:=Option.map_eq_some_iff.1 h;unfold Instr.index;simp only[asIntOf,Sem.run_bind,Sem.run_pure,Result.andThen_ok,run_underlying (Dv hs),h0,if_true,hb];exact⟨_,rfl,by simp[VR]⟩
   ·cases h
  ·cases h
 ·cases h
end
end Go.Abs
namespace Go.Abs
section
variable {C:Ctx} {A:A0} {N:Nat} {g g':Gh} {st st':St} {a:Act} {w w':World}
def Steps(C:Ctx)(A:A0)(N:Nat)(o:Oper)(a:Act)(w:World)(x:AV)(st':St):Prop :=
 ∃ u w' g',Does C.P o a w u w'/\R C A N g' st' a w'/\VR g' w' x u
def Steps.pure(hR:R C A N g st a w){o:Oper}{x:AV}{s:Sem Value}(ho:execOp a.eval o=(do Pure.pure (Next.value (<- s))))(h:∃ u,s.run C.P w=.ok u w/\VR g w x u):Steps C A N o a w x st:=by
 obtain⟨u,h1,h2⟩:=h;exact⟨u,w,g,IV ho h1,hR,h2⟩
def Steps.of{o:Oper}{x:AV}{s:Sem Value}(ho:execOp a.eval o=(do Pure.pure (Next.value (<- s))))(h:∃ u w' g',s.run C.P w=.ok u w'/\R C A N g' st' a w'/\VR g' w' x u):Steps C A N o a w x st':=by
 obtain⟨u,w',g',h1,h2,h3⟩:=h;exact⟨u,w',g',IV ho h1,h2,h3⟩
def Dm{α:Type}{m:Option α}{f:α->AV}{st st':St}{x:AV}(h:(m.map λy=>(f y,st))=some (x,st')):∃ y,m=some y/\f y=x/\st'=st:=by
 cases m with
 |none=>cases h
 |some y=>simp at h;exact⟨y,rfl,h.1,h.2.symm⟩
def Wt{x r:AV}{ux:Value}(hx:VR g w x ux)(h:KN x=some r){o:Oper}{y:Operand}(ho:o.op=.nilCheck y)(hy:a.eval y=ux):(execOp a.eval o).run C.P w=.ok (.value ux) w/\VR g w r ux:=by
 unfold KN at h;split at h
 ·simp at h;subst h;refine⟨?_,hx⟩;simp only[VR]at hx;obtain⟨_,rfl⟩:=hx;simp[execOp,ho,hy]
 ·simp at h;subst h;refine⟨?_,hx⟩;have:∃ ad,ux=.pointer (some ad):=by
   simp only[VR]at hx;unfold Fz at hx;split at hx
   ·obtain⟨_,_,hx,_⟩:=hx;exact⟨_,hx⟩
   ·obtain⟨_,hx,_⟩:=hx;exact⟨_,hx⟩
  obtain⟨ad,rfl⟩:=this;simp[execOp,ho,hy]
 ·simp at h;subst h;refine⟨?_,hx⟩;simp only[VR]at hx;obtain⟨us,hx,_⟩:=hx;subst hx;simp[execOp,ho,hy]
 ·cases h
def Wl(a:Act)(ps:Array (Nat × Operand))(f:Nat × Operand->Nat × Value)(h:∀ i x,f (i,x)=(i,a.eval x)):ps.map f=(ps.toList.map λp=>(p.1,a.eval p.2)).toArray:=by
 have:f=λp=>(p.1,a.eval p.2):=funext fun⟨i,x⟩=>h i x
 subst this;cases ps;simp
def TB(ρ:Act){o:Oper}{t:TypeId}{ps:Array (Nat × Operand)}(ho:o.op=.build t ps):execOp ρ.eval o=(do Pure.pure (Next.value (<- Instr.build t (ps.toList.map λp=>(p.1,ρ.eval p.2)).toArray))):=by
 unfold execOp;rw[ho];dsimp only;rw[Wl ρ ps _ (λ_ _=>rfl)]
def Is(ρ:Act){o:Oper}{t:TypeId}{len:Nat}{ps:Array (Nat × Operand)}(ho:o.op=.buildSlice t len ps):execOp ρ.eval o=(do Pure.pure (Next.value (<- Instr.buildSlice t len (ps.toList.map λp=>(p.1,ρ.eval p.2)).toArray))):=by
 unfold execOp;rw[ho];dsimp only;rw[Wl ρ ps _ (λ_ _=>rfl)]
def Km(hR:R C A N g st a w)(ps:Array (Nat × Operand)):Az g w ((parts C st ps).map (·.2)) ((ps.toList.map λp=>(p.1,a.eval p.2)).map (·.2)):=by
 have:=Gw hR (ps.toList.map (·.2));simpa [parts,List.map_map,Function.comp_def]using this
def RY(S T:List Nat):∀ zs:List Value,EK S T (vals zs)=vals zs
 |[]=>rfl
 | z::zs=>by
  have:=RY S T zs;simp only[vals,List.map_cons,EK,AV.kill]at this ⊢;rw[this]
theorem IK(ρ:Act){o:Oper}{b:Builtin}{xs:Array Operand}{ts:Array TypeId}(ho:o.op=.call { callee:=.builtin b,args:=xs,argTypes:=ts }):∃ consts,execOp ρ.eval o=builtin b ts o.type consts (xs.map ρ.eval):=by
 refine⟨xs.map fun|.const _=>true|_=>false,?_⟩;unfold execOp;rw[ho];rfl
def T9{t ty:TypeId}{x r:AV}{ux:Value}{P:Program}(ht:MJ P t x=true)(hx:VR g w x ux)(h:Q4 x=some r):∃ u,(Builtin.len_ #[t] ty #[ux]).run P w=.ok u w/\VR g w r u:=by
 by_cases hs:∃ s,x=.v (.string s)
 ·have:LK P t=true:=by obtain⟨s,rfl⟩:=hs;exact ht
  exact Wi (.inr this) hx h (λ_=>this) (λhn=>(hn hs).elim)
 ·have:AJ P t=true:=by
   unfold MJ at ht;split at ht
   ·exact(hs ⟨_,rfl⟩).elim
   ·exact ht
  exact Wi (.inl this) hx h (λh=>(hs h).elim) (λ_=>this)
def YJ{α:Type}{a:Array α}{x:α}(h:a.toList=[x]):a = #[x]:=by cases a;simp_all
def Qy{α:Type}{a:Array α}{x y:α}(h:a.toList=[x,y]):a = #[x,y]:=by cases a;simp_all
def Th(hR:R C A N g st a w){o:Oper}{b:Builtin}{xs:Array Operand}{ts:Array TypeId}{consts:Array Bool}(he:execOp a.eval o=builtin b ts o.type consts (xs.map a.eval)){x:AV}
 (h:Kp C o.dst b xs.toList ts.toList st=some (x,st')):Steps C A N o a w x st':=by
 unfold Kp at h;split at h
 ·split at h
  ·rename_i y t hy ht;split at h
   ·rename_i Ce;obtain⟨r,h1,rfl,rfl⟩:=Dm h;refine .pure hR he ?_;rw[YJ hy,YJ ht];simp only[List.map_toArray,List.map_cons,List.map_nil];exact T9 Ce (hR.ev y) h1
   ·cases h
  ·cases h
 ·split at h
  ·rename_i d y z t t2 hd hy ht;split at h
   ·rename_i e n b hr;split at h
    ·rename_i hs;refine .of he ?_;rw[Qy hy,Qy ht];simp only[List.map_toArray,List.map_cons,List.map_nil];exact W6 hR hr hs (hR.ev y) (hR.ev z) h
    ·split at h
     ·rename_i zs SV;refine .of he ?_;rw[Qy hy,Qy ht];simp only[List.map_toArray,List.map_cons,List.map_nil];exact UW hR hr SV (hR.ev y) (hR.ev z) h
     ·cases h
   ·cases h
  ·cases h
 ·split at h
  ·rename_i y z t tl hy ht;refine .of he ?_;rw[Qy hy];simp only[List.map_toArray,List.map_cons,List.map_nil];exact bu hR (by rw[<- Array.getElem?_toList,ht];rfl) (hR.ev y) (hR.ev z) h
  ·cases h
 ·split at h
  ·rename_i y t hy ht;refine .of he ?_;rw[YJ hy,YJ ht];simp only[List.map_toArray,List.map_cons,List.map_nil];exact Y2 hR rfl (hR.ev y) h
  ·cases h
 ·split at h
  ·rename_i y t hy ht;obtain⟨r,h1,rfl,rfl⟩:=Dm h;refine .pure hR he ?_;rw[YJ hy,YJ ht];simp only[List.map_toArray,List.map_cons,List.map_nil];exact fM rfl (hR.ev y) h1
  ·cases h
 ·split at h
  ·rename_i y z hy;split at h
   ·rename_i k p k' q hp hq;have h':=Option.some.inj h;obtain⟨rfl,rfl⟩:=Prod.mk.inj h';have e1:=hR.ev y;have e2:=hR.ev z;rw[hp]at e1;rw[hq]at e2;simp only[VR]at e1 e2;refine .pure hR he ⟨_,?_,by simp only[VR];rfl⟩;rw[Qy hy];simp[Builtin.max_,Builtin.max2,e1,e2]
   ·cases h
  ·cases h
 ·split at h
  ·rename_i y z hy;split at h
   ·rename_i k p k' q hp hq;have h':=Option.some.inj h;obtain⟨rfl,rfl⟩:=Prod.mk.inj h';have e1:=hR.ev y;have e2:=hR.ev z;rw[hp]at e1;rw[hq]at e2;simp only[VR]at e1 e2;refine .pure hR he ⟨_,?_,by simp only[VR];rfl⟩;rw[Qy hy];simp[Builtin.min_,Builtin.min2,e1,e2]
   ·cases h
  ·cases h
 ·cases h
def Tq{P:Program}{t:TypeId}(h:P.concrete t=true):∃ u,P.underlying t=some u/\∀ ms,u≠.interface ms:=by
 unfold Program.concrete at h;cases hd:P.underlying t with
 |none=>simp[hd]at h
 |some d=>exact⟨d,rfl,λms e=>by subst e;simp[hd]at h⟩
def O8{P:Program}{x y:AV}{u:Value}{xt t:TypeId}{ok:Bool}(hx:VR g w x u)(h:Nc P t ok x=some y):∃ v,(Instr.typeAssert u xt t ok).run P w=.ok v w/\VR g w y v:=by
 unfold Nc at h;split at h
 ·rename_i t' z;split at h
  ·rename_i hc;obtain⟨hc,rfl⟩:=hc;have h':=Option.some.inj h;subst h';simp only[VR]at hx;obtain⟨v,rfl,hv⟩:=hx;obtain⟨ut,hu,hn⟩:=Tq hc;cases ok with
   | false=>exact⟨v,by cases ut<;>simp[Instr.typeAssert,run_underlying hu]<;>exact absurd rfl (hn _),by simpa using hv⟩
   | true=>exact⟨.tuple #[v,.bool true],by cases ut<;>simp[Instr.typeAssert,run_underlying hu]<;>exact absurd rfl (hn _),by simp only[if_true,VR];exact⟨_,rfl,by simp[Az,VR,hv]⟩⟩
  ·cases h
 ·cases h
def JX(hR:R C A N g st a w){o:Oper}(H6:∀ d,o.dst=some d->nm d∉A.ext/\cD d∉A.ext){x:AV}(h:Hn C o st=some (x,st')):Steps C A N o a w x st':=by
 obtain⟨dst,op,ty,after,x2,x3⟩:=o;simp only at H6;cases op<;>simp only[Hn]at h
 case makeMap t rv =>
  split at h
  ·rename_i d;have h':=Option.some.inj h;obtain⟨rfl,rfl⟩:=Prod.mk.inj h';have hb:=hR.uV (cD d) (lJ d) (H6 d rfl).2;refine .of (s:=Instr.makeMap t none) rfl ⟨.map (some w.heap.size),_,_,?_,hb,?_⟩
   ·simp[Instr.makeMap,newObj];rfl
   ·simp[VR,Gh.CI,lJ]
  ·cases h
 case lookup t m k ok =>
  split at h
  ·obtain⟨r,h1,rfl,rfl⟩:=Dm h;unfold X5 at h1;split at h1
   ·rename_i s hm;obtain⟨cs,h2,h3⟩:=Option.bind_eq_some_iff.1 h1;have e1:=hR.ev m;rw[hm]at e1;simp only[VR]at e1;obtain⟨m1,m2⟩:=e1;obtain⟨es,Vy,k1,k2⟩:=(hR.ob s cs h2).map m1;obtain⟨u,j1,j2⟩:=X6 h3 (hR.ev k) k1 k2;exact .pure hR (s:=Instr.lookup t (a.eval m) (a.eval k) false) rfl ⟨u,by rw[m2];exact j1,j2⟩
   ·cases h1
  ·obtain⟨r,h1,rfl,rfl⟩:=Dm h;unfold NB at h1;split at h1
   ·rename_i s hm;obtain⟨cs,h2,h3⟩:=Option.bind_eq_some_iff.1 h1;have e1:=hR.ev m;rw[hm]at e1;simp only[VR]at e1;obtain⟨m1,m2⟩:=e1;obtain⟨es,Vy,k1,k2⟩:=(hR.ob s cs h2).map m1;obtain⟨u,j1,j2⟩:=Uh h3 (hR.ev k) k1 k2;exact .pure hR (s:=Instr.lookup t (a.eval m) (a.eval k) true) rfl ⟨u,by rw[m2];exact j1,j2⟩
   ·cases h1
 case typeAssert y xt t ok =>
  obtain⟨r,h1,rfl,rfl⟩:=Dm h;obtain⟨u,j1,j2⟩:=O8 (P:=C.P) (xt:=xt) (hR.ev y) h1;exact .pure hR (s:=Instr.typeAssert (a.eval y) xt t ok) rfl ⟨u,j1,j2⟩
 case mapUpdate t m k v =>
  split at h
  ·obtain⟨r,h1,h4⟩:=Option.map_eq_some_iff.1 h;obtain⟨rfl,rfl⟩:=Prod.mk.inj h4;unfold PS at h1;split at h1
   ·rename_i s hm;obtain⟨cs,h2,h3⟩:=Option.bind_eq_some_iff.1 h1;obtain⟨Mp,h5,rfl⟩:=Option.map_eq_some_iff.1 h3;have e1:=hR.ev m;rw[hm]at e1;simp only[VR]at e1;obtain⟨m1,m2⟩:=e1;obtain⟨es,Vy,k1,k2⟩:=(hR.ob s cs h2).map m1;obtain⟨j1,rfl⟩:=XY (uv:=a.eval v) h5 (hR.ev k) k1 k2;exact⟨undef,_,g,.inr ⟨by simp only[execOp,m2,Sem.run_bind,j1];rfl,rfl⟩,hR.vk m1 h2 k1 (e:=⟨a.eval k,a.eval v,Vy⟩) (hR.ev k) (hR.ev v) k2,by simp[VR]⟩
   ·cases h1
  ·cases h
 case move y=>simp at h;obtain⟨rfl,rfl⟩:=h;exact⟨_,w,g,.inl rfl,hR,hR.ev y⟩
 case assign y=>simp at h;obtain⟨rfl,rfl⟩:=h;exact⟨_,w,g,.inl rfl,hR,hR.ev y⟩
 case pick c y z =>
  obtain⟨r,h1,rfl,rfl⟩:=Dm h;obtain⟨u,k1,k2⟩:=Us (P:=C.P) (hR.ev c) (hR.ev y) (hR.ev z) h1;exact⟨u,w,g,.inl k1,hR,k2⟩
 case alloc t =>
  split at h
  ·rename_i d zs hz;have h':=Option.some.inj h;obtain⟨rfl,rfl⟩:=Prod.mk.inj h';have Wa:∃ z,(zeroValue t).run C.P w=.ok z w/\zs=z.cells.toList:=by
    unfold zeroOf at hz;obtain⟨z,pO,kS⟩:=Option.map_eq_some_iff.1 hz;obtain⟨i,hi,rB⟩:=Option.bind_eq_some_iff.1 pO;exact⟨z,by simp[zeroValue,run_typeInfo hi,rB],kS.symm⟩
   obtain⟨z,pO,rfl⟩:=Wa;have hk:EK [] [nm d] (vals z.cells.toList)=vals z.cells.toList:=RY [] [nm d] _;have hb:=hR.CI (nm d) (KO d) (H6 d rfl).1 z.cells t (vals z.cells.toList) (H0 _);rw[hk]at hb;refine .of (s:=Instr.alloc t true (.tuple #[])) rfl ⟨.pointer (some ⟨w.heap.size,0,none⟩),_,_,?_,hb,?_⟩
   ·simp[Instr.alloc,pO,OP]
   ·simp[VR,Gh.CI,KO]
  ·cases h
 case box t y =>
  split at h
  ·rename_i d;split at h
   ·rename_i Ce;have h':=Option.some.inj h;obtain⟨rfl,rfl⟩:=Prod.mk.inj h';have hb:=hR.CI (nm d) (KO d) (H6 d rfl).1 (a.eval y).cells t (ev C st y).cells (VR.cells (hR.ev y) Ce);refine .of (s:=Instr.box t (a.eval y)) rfl ⟨.pointer (some ⟨w.heap.size,0,none⟩),_,_,?_,hb,?_⟩
    ·simp[Instr.box,OP]
    ·simp[VR,Gh.CI,KO]
   ·cases h
  ·cases h
 case load t p =>
  split at h
  ·rename_i agg n h1 h2;obtain⟨r,h3,rfl,rfl⟩:=Dm h;exact .pure hR rfl (LA hR h1 h2 (hR.ev p) h3)
  ·cases h
 case store t p y =>
  split at h
  ·rename_i n hd h2;obtain⟨r,h3,h4⟩:=Option.map_eq_some_iff.1 h;simp at h4;obtain⟨rfl,rfl⟩:=h4;obtain⟨w',g',k1,k2⟩:=aN hR h2 (hR.ev p) (hR.ev y) h3;exact⟨undef,w',g',.inr ⟨by simp[execOp,k1],rfl⟩,k2,by simp[VR]⟩
  ·cases h
 case fieldAddr t p i =>
  split at h
  ·rename_i off h1;obtain⟨r,h3,rfl,rfl⟩:=Dm h;exact .pure hR rfl (RK h1 (hR.ev p) h3)
  ·cases h
 case indexAddr t p i =>
  split at h
  ·rename_i k ki hi;have pD:=hR.ev i;rw[hi]at pD;simp only[VR]at pD;split at h
   ·rename_i e n he;obtain⟨r,h3,rfl,rfl⟩:=Dm h;exact .pure hR rfl (by rw[pD];exact PQ he (hR.ev p) h3)
   ·split at h
    ·rename_i len n he;obtain⟨r,h3,rfl,rfl⟩:=Dm h;exact .pure hR rfl (by rw[pD];exact PO he (hR.ev p) h3)
    ·cases h
  ·cases h
 case nilCheck y =>
  obtain⟨r,h1,rfl,rfl⟩:=Dm h;have:=Wt (C:=C) (a:=a) (hR.ev y) h1 (o:=⟨dst,.nilCheck y,ty,after,x2,x3⟩) rfl rfl;exact⟨_,w,g,.inl this.1,hR,this.2⟩
 case binOp op t y z _ =>
  obtain⟨r,h1,rfl,rfl⟩:=Dm h;exact .pure hR rfl (Vx (hR.ev y) (hR.ev z) h1)
 case unOp op t y =>
  obtain⟨r,h1,rfl,rfl⟩:=Dm h;exact .pure hR rfl (aP (hR.ev y) h1)
 case convert s d y=>exact .of rfl (bt hR (hR.ev y) h)
 case extract y i =>
  split at h
  ·rename_i cs hc;obtain⟨r,h1,rfl,rfl⟩:=Dm h;have hy:=hR.ev y;rw[hc]at hy;simp only[VR]at hy;obtain⟨us,hu,hv⟩:=hy;obtain⟨u,h2,h3⟩:=Az.get hv i _ h1;refine .pure hR (s:=Instr.extract (a.eval y) i) rfl ⟨u,?_,h3⟩;rw[hu];have:us[i]?=some u:=by simpa using h2
   simp[Instr.extract,this]
  ·cases h
 case field t y i =>
  obtain⟨r,h1,rfl,rfl⟩:=Dm h;exact .pure hR rfl (PC (hR.ev y) h1)
 case index t y i =>
  obtain⟨r,h1,rfl,rfl⟩:=Dm h;exact .pure hR rfl (T2 (hR.ev i) (hR.ev y) h1)
 case build t ps =>
  split at h
  ·rename_i zs hz ha;split at h
   ·rename_i hs;obtain⟨r,h1,rfl,rfl⟩:=Dm h;exact .pure hR (TB a rfl) (Rw hz ha hs (by simp[parts]) (Km hR ps) h1)
   ·cases h
  ·cases h
 case buildSlice t len ps =>
  split at h
  ·rename_i d e n b hd hr;split at h
   ·rename_i zs hz;exact .of (Is a rfl) (gV hR hr hz (by simp[parts]) (Km hR ps) h)
   ·cases h
  ·cases h
 case makeSlice t l c =>
  split at h
  ·rename_i d e n b kl lv kc cv hd hr hl hc;split at h
   ·rename_i zs hz;have h1:=hR.ev l;have h2:=hR.ev c;rw[hl]at h1;rw[hc]at h2;simp only[VR]at h1 h2;refine .of (s:=Instr.makeSlice t (a.eval l) (a.eval c)) rfl ?_;rw[h1,h2];exact ct hR hr hz h
   ·cases h
  ·cases h
 case slice t y lo hi mx =>
  obtain⟨u,w',g',k1,k2,k3,_⟩:=Od hR h;exact .of rfl ⟨u,w',g',k1,k2,k3⟩
 case makeFunc fn first Bi =>
  split at h
  ·rename_i f hf;have h':=Option.some.inj h;obtain⟨rfl,rfl⟩:=Prod.mk.inj h';refine .pure hR (s:=Instr.makeFunc (.func f) (first.map a.eval) (Bi.map a.eval)) rfl ⟨_,rfl,?_⟩;have xN:first = #[]:=by
    cases first;simp_all
   subst xN;simp only[VR];refine⟨_,by simp;rfl,?_⟩;have:=Gw hR Bi.toList;simpa using this
  ·rename_i f y ys hf hc;have h':=Option.some.inj h;obtain⟨rfl,rfl⟩:=Prod.mk.inj h';refine .pure hR (s:=Instr.makeFunc (.func f) (first.map a.eval) (Bi.map a.eval)) rfl ⟨_,rfl,?_⟩;have xN:Bi = #[]:=by
    cases Bi;simp_all
   subst xN;simp only[VR];refine⟨_,by simp;rfl,?_⟩;have:=Gw hR first.toList;rw[hf]at this;simpa [hf]using this
  ·cases h
 case makeInterface t y =>
  split at h
  ·rename_i hc;have h':=Option.some.inj h;obtain⟨rfl,rfl⟩:=Prod.mk.inj h';refine .pure hR rfl ⟨_,run_makeInterface w t _ hc,?_⟩;simp only[VR];exact⟨_,rfl,hR.ev y⟩
  ·cases h
 case call c =>
  split at h
  ·rename_i b hb;obtain⟨callee,args,argTypes⟩:=c;simp only at hb;subst hb;obtain⟨consts,he⟩:=IK a (o:=⟨dst,.call { callee:=.builtin b,args,argTypes },ty,after,x2,x3⟩) rfl;exact Th hR he h
  ·cases h
 all_goals(cases h)
end
end Go.Abs
