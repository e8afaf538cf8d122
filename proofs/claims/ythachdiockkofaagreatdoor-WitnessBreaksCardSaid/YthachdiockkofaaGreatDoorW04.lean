/- part 4 of the proof -/
import Derived.Lib.ConvBytes
import Derived.Test.YthachdiockkofaaGreatDoorW03
set_option linter.all false
namespace Go.Abs
def JW(P:Program)(t:TypeId):Bool:=match P.underlying t with
 |some .string=>true
 |_=>false
def Us(P:Program)(t:TypeId):Option IntKind:=match P.underlying t with
 |some (.int k)=>some k
 |_=>none
def Oe:AV→Option AV
 |.sl _ _ es=>some (.v (.int .i64 es.length))
 |.v (.slice none 0 0)=>some (.v (.int .i64 0))
 |.v (.string s)=>some (.v (.int .i64 s.size))
 |.hnd .dsl _ _ _ _ _ bss=>some (.v (.int .i64 bss.length))
 |.hnd .isl _ _ _ _ _ [b]=>some (.v (.int .i64 b.length))
 |.mem true xs=>some (.v (.int .i64 xs.length))
 |_=>none
def KM(P:Program)(t:TypeId):AV→Bool
 |.v (.string _)=>JW P t
 |_=>AI P t
def KW:AV→AV→AV→Option AV
 |.v (.bool p),.v (.bool x),.v (.bool y)=>some (.v (.bool (bif p then x else y)))
 |.v (.bool true),x,_=>some x
 |.v (.bool false),_,y=>some y
 |_,_,_=>none
def Ib:AV→Option AV
 |.ptr s o=>some (.ptr s o)
 |.ep t i cs o=>some (.ep t i cs o)
 |.fn f cs=>some (.fn f cs)
 |_=>none
def Jv(l:List UInt8):List (List AV):=l.map fun b=>[.v (.int .u8 b.toNat)]
def unbytes:List (List AV)→Option (List UInt8)
 |[]=>some []
 |[.v (.int .u8 n)]::es=>(unbytes es).map (UInt8.ofNat n.toNat::·)
 |_=>none
def GU(P:Program)(t:TypeId):Bool:=match P.underlying t with
 |some (.slice e)=>match P.underlying e,BJ P e with
  |some (.int .u8),some 1=>true
  |_,_=>false
 |_=>false
def WJ(P:Program)(src dst:TypeId)(st:St)(x:AV):Option (AV × St) :=
 match x with
 |.v (.int _ n)=>match Us P src,Us P dst with
  |some _,some k=>some (.v (.int k (k.wrap n)),st)
  |_,_=>none
 |.v (.string s)=>if JW P src∧JW P dst then some (.v (.string s),st) else if JW P src∧GU P dst∧s.size≤4294967296 then some (.sl .no 1 (Jv s.data.toList),st) else none
 |.v (.slice none 0 0)=>if GU P src∧JW P dst then some (.v (.string ⟨#[]⟩),st) else none
 |.sl t n es=>if n=1 then
  if GU P src∧JW P dst then (unbytes es).map fun l=>(.v (.string ⟨l.toArray⟩),st)
  else match t,es with
   |.own r 0,e::es=>if src=dst∧GU P src then some (.sl .no 1 (e::es),st.kill [r] []) else none
   |_,_=>none
  else none
 |_=>none
def placeOf(P:Program)(t:TypeId)(i:Nat):Option (Nat × Nat) :=
 match P.underlying t with
 |some (.struct fs)=>match fs[i]? with
  |some f=>(BJ P f.type).map fun n=>(f.offset,n)
  |none=>none
 |some (.array _ e)=>(BJ P e).map fun n=>(i*n,n)
 |_=>none
def sized(P:Program)(t:TypeId):Bool:=match P.underlying t with
 |some (.struct fs)=>fs.toList.all fun f=>(BJ P f.type).isSome
 |some (.array _ e)=>(BJ P e).isSome
 |_=>false
def Qf(P:Program)(t:TypeId)(i:Nat):AV→Option AV
 |.agg cs=>match P.underlying t with
  |some (.struct fs)=>match fs[i]? with
   |some f=>match AZ P f.type,BJ P f.type with
    |some agg,some n=>if f.offset+n≤cs.length then mkA agg ((cs.drop f.offset).take n) else none
    |_,_=>none
   |none=>none
  |_=>none
 |_=>none
def Pv(P:Program)(t:TypeId):Option (Nat × Nat × Bool):=match P.underlying t with
 |some (.array len e)=>match BJ P e,AZ P e with
  |some n,some b=>some (len,n,b)
  |_,_=>none
 |_=>none
def X6(P:Program)(t:TypeId)(k:AV):AV→Option AV
 |.agg cs=>match k,Pv P t with
  |.v (.int _ k),some (len,n,b)=>if 0≤k∧k<len∧k.toNat*n+n≤cs.length then mkA b ((cs.drop (k.toNat*n)).take n) else none
  |_,_=>none
 |.v (.string s)=>match k with
  |.v (.int _ k)=>if JW P t=true∧0≤k then (s[k.toNat]?).map fun c=>.v (.int .u8 c.toNat) else none
  |_=>none
 |_=>none
def B4(C:Ctx)(st:St):Option Operand→Option (Option Nat)
 |none=>some none
 |some o=>(LP (ev C st o)).map some
def parts(C:Ctx)(st:St)(ps:Array (Nat × Operand)):List (Nat × AV):=ps.toList.map fun p=>(p.1,ev C st p.2)
def nm(d:Nat):Nat:=d*64
theorem Ja(d:Nat):isMap (nm d)=false:=by simp[isMap,nm]
def nmM(d:Nat):Nat:=d*64+62
theorem ZO(d:Nat):isMap (nmM d)=true:=by simp[isMap,nmM]
def GK(C:Ctx)(st:St)(t:TypeId)(x:AV)(lo hi mx:Option Operand):Option (AV × St) :=
 match B4 C st lo,B4 C st hi,B4 C st mx with
 |some l,some h,some m=>match Au C.P t with
  |some (_,n)=>match elems n x with
   |some es=>match h,m with
    |some h,some m=>if m=h then H6 n true (l.getD 0) h st x else none
    |some h,none=>H6 n false (l.getD 0) h st x
    |none,none=>H6 n false (l.getD 0) es.length st x
    |none,some _=>none
   |none=>none
  |none=>match x,m with
   |.v (.string s),none=>if JW C.P t∧l.getD 0≤h.getD s.size∧h.getD s.size≤s.size then some (.v (.string (s.extract (l.getD 0) (h.getD s.size))),st) else none
   |_,_=>none
 |_,_,_=>none
def IT(C:Ctx)(dst:Option Nat)(b:Builtin)(xs:List Operand)(ts:List TypeId)(st:St):Option (AV × St) :=
 match b with
 |.len=>match xs,ts with
  |[x],[t]=>if KM C.P t (ev C st x)=true then (Oe (ev C st x)).map (·,st) else none
  |_,_=>none
 |.append=>match dst,xs,ts with
  |some d,[x,y],[t,t2]=>match Bg C.P t with
   |some (e,n,_)=>if AI C.P t2=true then MC (nm d) n st (ev C st x) (ev C st y) else match zeroOf C.P e with
    |some zs=>Ki C.P (nm d) n t2 zs st (ev C st x) (ev C st y)
    |none=>none
   |none=>none
  |_,_,_=>none
 |.copy=>match xs,ts with
  |[x,y],t::_=>T8 C.P t st (ev C st x) (ev C st y)
  |_,_=>none
 |.clear=>match xs,ts with
  |[x],[t]=>PY C.P t st (ev C st x)
  |_,_=>none
 |.cap=>match xs,ts with
  |[x],[t]=>(YR C.P t (ev C st x)).map (·,st)
  |_,_=>none
 |.max=>match xs with
  |[x,y]=>match ev C st x,ev C st y with
   |.v (.int k a),.v (.int _ b)=>some (.v (.int k (if b > a then b else a)),st)
   |_,_=>none
  |_=>none
 |.min=>match xs with
  |[x,y]=>match ev C st x,ev C st y with
   |.v (.int k a),.v (.int _ b)=>some (.v (.int k (if b<a then b else a)),st)
   |_,_=>none
  |_=>none
 |_=>none
def Px(P:Program)(t:TypeId)(Al:List (Nat × List AV))(m k:AV):Option AV:=match m with
 |.mp s=>(lk s Al).bind fun cs=>Lx P t cs k
 |_=>none
def M7(P:Program)(t:TypeId)(Al:List (Nat × List AV))(m k v:AV):Option (List (Nat × List AV)):=match m with
 |.mp s=>(lk s Al).bind fun cs=>(Lu P t cs k v).map fun cs'=>FL s cs' Al
 |_=>none
def Gk(C:Ctx)(o:Oper)(st:St):Option (AV × St) :=
 match o.op with
 |.move x=>some (ev C st x,st)
 |.assign x=>some (ev C st x,st)
 |.pick c a b=>(KW (ev C st c) (ev C st a) (ev C st b)).map (·,st)
 |.alloc t=>match o.dst,zeroOf C.P t with
  |some d,some zs=>some (.ptr (nm d) 0,⟨(st.kill [] [nm d]).tmps,(nm d,vals zs)::(st.kill [] [nm d]).Al⟩)
  |_,_=>none
 |.box _ x=>match o.dst with
  |some d=>if Cc (ev C st x).cells=true then some (.ptr (nm d) 0,⟨(st.kill [] [nm d]).tmps,(nm d,Ej [] [nm d] (ev C st x).cells)::(st.kill [] [nm d]).Al⟩) else none
  |none=>none
 |.load t a=>match AZ C.P t,BJ C.P t with
  |some agg,some n=>(O6 agg n st.Al (ev C st a)).map (·,st)
  |_,_=>none
 |.store t a x=>match o.dst,BJ C.P t with
  |none,some n=>(Ov n st (ev C st a) (ev C st x)).map (.undef,·)
  |_,_=>none
 |.fieldAddr t x i=>match A1 C.P t i with
  |some off=>(Md off (ev C st x)).map (·,st)
  |none=>none
 |.indexAddr t x i=>match ev C st i with
  |.v (.int _ k)=>match Au C.P t with
   |some (_,n)=>(N9 n k (ev C st x)).map (·,st)
   |none=>match Dp C.P t with
    |some (len,n)=>(N8 len n k (ev C st x)).map (·,st)
    |none=>none
  |_=>none
 |.nilCheck x=>(Ib (ev C st x)).map (·,st)
 |.binOp op t x y _=>(VG C.P op t (ev C st x) (ev C st y)).map (·,st)
 |.unOp op _ x=>(unA op (ev C st x)).map (·,st)
 |.convert src dst x=>WJ C.P src dst st (ev C st x)
 |.extract x i=>match ev C st x with
  |.tup cs=>(cs[i]?).map (·,st)
  |_=>none
 |.field t x i=>(Qf C.P t i (ev C st x)).map (·,st)
 |.index t x i=>(X6 C.P t (ev C st i) (ev C st x)).map (·,st)
 |.build t ps=>match zeroOf C.P t,AZ C.P t with
  |some zs,some true=>if sized C.P t=true then (Kz (placeOf C.P t) (vals zs) (parts C st ps)).map (.agg ·,st) else none
  |_,_=>none
 |.buildSlice t len ps=>match o.dst,Bg C.P t with
  |some d,some (e,n,_)=>match zeroOf C.P e with
   |some zs=>Zv (nm d) n len zs st (parts C st ps)
   |none=>none
  |_,_=>none
 |.makeSlice t l c=>match o.dst,Bg C.P t,ev C st l,ev C st c with
  |some d,some (e,n,_),.v (.int _ l),.v (.int _ c)=>match zeroOf C.P e with
   |some zs=>R7 (nm d) n zs st l c
   |none=>none
  |_,_,_,_=>none
 |.slice t x lo hi mx=>GK C st t (ev C st x) lo hi mx
 |.makeFunc fn first AU=>match fn,first.toList,AU.toList with
  |.func f,[],cs=>some (.fn f (cs.map (ev C st)),st)
  |.func f,x::xs,[]=>some (.mv f ((x::xs).map (ev C st)),st)
  |_,_,_=>none
 |.makeInterface t x=>if C.P.concrete t then some (.ifc t (ev C st x),st) else none
 |.call c=>match c.callee with
  |.builtin b=>IT C o.dst b c.args.toList c.argTypes.toList st
  |_=>none
 |.makeMap _ rv=>match o.dst,rv with
  |some d,none=>some (.mp (nmM d),⟨(st.kill [] [nmM d]).tmps,(nmM d,[])::(st.kill [] [nmM d]).Al⟩)
  |_,_=>none
 |.lookup t m k ok=>match ok with
  | false=>(Px C.P t st.Al (ev C st m) (ev C st k)).map (·,st)
  | true=>none
 |.mapUpdate t m k v=>match o.dst with
  |none=>(M7 C.P t st.Al (ev C st m) (ev C st k) (ev C st v)).map fun os=>(.undef,⟨st.tmps,os⟩)
  |some _=>none
 |_=>none
section
variable {C:Ctx} {A:A0} {N:Nat} {g g':Gh} {st:St} {a:Act} {w w':World} {P:Program}
theorem C8{t:TypeId}(h:JW P t=true):P.underlying t=some .string:=by
 unfold JW at h;split at h<;>simp_all
theorem Lv{t:TypeId}{k:IntKind}(h:Us P t=some k):P.underlying t=some (.int k):=by
 unfold Us at h;split at h<;>simp_all
theorem FB{t:TypeId}(h:AI P t=true):∃ e,P.underlying t=some (.slice e):=by
 unfold AI at h;split at h<;>simp_all
theorem EE{t:TypeId}(h:GU P t=true):∃ e,P.underlying t=some (.slice e)∧P.underlying e=some (.int .u8)∧BJ P e=some 1:=by
 unfold GU at h;split at h
 ·rename_i e he;split at h
  ·rename_i h1 h2;exact⟨e,he,h1,h2⟩
  ·cases h
 ·cases h
theorem QK{x y z r:AV}{ux uy uz:Value}(hx:VR g w x ux)(hy:VR g w y uy)(hz:VR g w z uz)(h:KW x y z=some r) :
 ∃ u,(do pure (.value (if ← asBool ux then uy else uz)):Sem Next).run P w=.ok (.value u) w∧VR g w r u:=by
 unfold KW at h;split at h
 ·rename_i p b c;simp only[VR]at hx hy hz;subst hx;subst hy;subst hz;simp at h;subst h;refine⟨_,by simp[asBool];rfl,?_⟩;cases p<;>simp[VR]
 ·simp only[VR]at hx;subst hx;simp at h;subst h;exact⟨uy,by simp[asBool],hy⟩
 ·simp only[VR]at hx;subst hx;simp at h;subst h;exact⟨uz,by simp[asBool],hz⟩
 ·cases h
theorem R5{t ty:TypeId}{x r:AV}{ux:Value}(ht:AI P t=true∨JW P t=true)(hx:VR g w x ux)(h:Oe x=some r)
 (hk:(∃ s,x=.v (.string s))→JW P t=true) (hk':(¬ ∃ s,x=.v (.string s))→AI P t=true):∃ u,(Builtin.len_ #[t] ty #[ux]).run P w=.ok u w∧VR g w r u:=by
 unfold Oe at h;split at h
 ·rename_i t' n es;simp at h;subst h;obtain⟨e,he⟩:=FB (hk' (by rintro⟨s,hs⟩;cases hs));have:∃ a cap,ux=.slice a es.length cap:=by
   cases t' with
   | own r lo =>
    simp only[VR,Cq]at hx;obtain⟨_,⟨rfl,rfl⟩|⟨_,rfl,a,cap,rfl,_⟩|⟨cap,_,_,rfl,_⟩⟩:=hx
    ·exact⟨none,0,rfl⟩
    ·exact⟨a,cap,rfl⟩
    ·exact⟨_,cap,rfl⟩
   | no=>simp only[VR,PR]at hx;obtain⟨_,a,cap,rfl,_⟩:=hx;exact⟨a,cap,rfl⟩
   | full=>simp only[VR,PR]at hx;obtain⟨_,a,cap,rfl,_⟩:=hx;exact⟨a,cap,rfl⟩
  obtain⟨a,cap,rfl⟩:=this;exact⟨_,by simp[Builtin.len_,run_underlying he,goInt];rfl,by simp[VR]⟩
 ·simp at h;subst h;simp only[VR]at hx;subst hx;obtain⟨e,he⟩:=FB (hk' (by rintro⟨s,hs⟩;cases hs));exact⟨_,by simp[Builtin.len_,run_underlying he,goInt];rfl,by simp[VR]⟩
 ·simp at h;subst h;simp only[VR]at hx;subst hx;have he:=C8 (hk ⟨_,rfl⟩);exact⟨_,by simp[Builtin.len_,run_underlying he,goInt];rfl,by simp[VR]⟩
 ·rename_i r _ _ _ m bss;simp at h;subst h;obtain⟨e,he⟩:=FB (hk' (by rintro⟨s,hs⟩;cases hs));simp only[VR]at hx;obtain⟨hm,⟨rfl,rfl⟩|⟨cap,cur,T,rfl,_⟩⟩:=hx
  ·exact⟨_,by simp[Builtin.len_,run_underlying he,goInt];rfl,by simp[VR]⟩
  ·exact⟨_,by simp[Builtin.len_,run_underlying he,goInt];rfl,by simp[VR]⟩
 ·rename_i r _ _ _ m b;simp at h;subst h;obtain⟨e,he⟩:=FB (hk' (by rintro⟨s,hs⟩;cases hs));simp only[VR]at hx;obtain⟨hm,b',hbb,hi⟩:=hx;simp only[List.cons.injEq,and_true]at hbb;subst hbb;rcases hi with ⟨rfl,a,cap,rfl,_⟩|⟨cap,cur,T,rfl,_⟩
  ·exact⟨_,by simp[Builtin.len_,run_underlying he,goInt];rfl,by simp[VR]⟩
  ·exact⟨_,by simp[Builtin.len_,run_underlying he,goInt];rfl,by simp[VR]⟩
 ·rename_i xs;simp at h;subst h;obtain⟨e,he⟩:=FB (hk' (by rintro⟨s,hs⟩;cases hs));simp only[VR,Vx]at hx;obtain⟨ad,vs,_,_,hv,cap,rfl,_,_⟩:=hx;have hl:=VRs.length hv;exact⟨_,by simp[Builtin.len_,run_underlying he,goInt];rfl,by simp[VR,hl]⟩
 ·cases h
theorem Oy{ro:Nat→Prop}:∀ l:List UInt8,PRl ro w (Jv l).flatten (l.map fun b=>Value.int .u8 b.toNat)
 |[]=>by simp[Jv,PRl]
 | b::l=>by
  have:=Oy (ro:=ro) l;simp only[Jv,List.map_cons,List.flatten_cons,List.cons_append,List.nil_append,PRl,PR]at this ⊢;exact⟨⟨trivial,rfl⟩,this⟩
theorem JX{ro:Nat→Prop}:∀ {es:List (List AV)} {us:List Value} {l:List UInt8},unbytes es=some l→PRl ro w es.flatten us→∃ ns:List Int,us=ns.map (Value.int .u8)∧l=ns.map (fun n=>UInt8.ofNat n.toNat)
 |[],[],l,h,_=>by simp[unbytes]at h;subst h;exact⟨[],rfl,rfl⟩
 |[],_::_,_,_,hp=>by simp[PRl]at hp
 | e::es,us,l,h,hp=>by
  unfold unbytes at h;split at h
  ·rename_i heq;cases heq
  ·rename_i n es' heq;injection heq with h1 h2
   subst h1;subst h2;obtain⟨l',hl',rfl⟩:=Option.map_eq_some_iff.1 h;simp only[List.flatten_cons,List.cons_append,List.nil_append]at hp
   match us,hp with
   | u::us,hp =>
    simp only[PRl,PR]at hp;obtain⟨ns,rfl,rfl⟩:=JX hl' hp.2;exact⟨n::ns,by simp[hp.1.1],by simp⟩
   |[],hp=>simp[PRl]at hp
  ·cases h
theorem foldl_push(ns:List Int):∀ acc:ByteArray,(ns.foldl (fun r n=>r.push (UInt8.ofNat n.toNat)) acc)=⟨acc.data++(ns.map (fun n=>UInt8.ofNat n.toNat)).toArray⟩:=by
 induction ns with
 | nil=>intro acc;cases acc;simp
 | cons n ns ih =>
  intro acc;rw[List.foldl_cons,ih];simp[ByteArray.push]
theorem VN(hR:R C A N g st a w){src dst:TypeId}{x r:AV}{ux:Value}(hx:VR g w x ux){st':St}(h:WJ P src dst st x=some (r,st')) :
 ∃ u w' g',(convert src dst ux).run P w=.ok u w'∧R C A N g' st' a w'∧VR g' w' r u:=by
 unfold WJ at h;split at h
 ·-- an integer
  simp only[VR]at hx;subst hx;split at h
  ·rename_i k1 k2 h1 h2;simp at h;obtain⟨rfl,rfl⟩:=h;refine⟨.int k2 (k2.wrap _),w,g,?_,hR,by simp only[VR];rfl⟩;simp[convert,run_underlying (Lv h1),run_underlying (Lv h2),Conv.intToInt]
  ·cases h
 ·simp only[VR]at hx;subst hx;rename_i s;split at h
  ·rename_i hc;simp at h;obtain⟨rfl,rfl⟩:=h;exact⟨_,w,g,by simp[convert,run_underlying (C8 hc.1),run_underlying (C8 hc.2)];rfl,hR,by simp[VR]⟩
  ·split at h
   ·rename_i hc;simp at h;obtain⟨rfl,rfl⟩:=h;obtain⟨e,h1,h2,h3⟩:=EE hc.2.1;have hrun:=Lib.run_convert_string_bytes (P:=P) w src dst e s (C8 hc.1) h1 h2;obtain⟨g',k1,k2,k3⟩:=hR.ff (w':=Lib.bytesWorld w e s) (by simp[Lib.bytesWorld,World.freeze];rfl) ⟨by simp[Lib.bytesWorld,World.freeze],by simp only[Lib.bytesWorld,World.freeze];exact Nat.le_succ _⟩ (by simp[Lib.bytesWorld,World.freeze];rfl) (Lib.bytesWorld_size w e s) (fun b hb=>Lib.bytesWorld_at_old w e s b hb);refine⟨_,_,g',hrun,k1,?_⟩;have hsl:(Jv s.data.toList).length=s.size:=by simp[Jv]
    simp only[VR,PR];refine⟨(fun _ _ h=>by cases h),_,_,by rw[hsl],by rw[hsl];exact grownCap_ge w s.size 0 e,grownCap_le_maxLen w s.size 0 e (by simp only[maxLen];omega),(fun h=>by cases h),by omega,?_⟩;refine .inr ⟨_,rfl,k2,PRe.C4 _ _ _ 1 0 (fun e' he'=>by simp only[Jv,List.mem_map]at he';obtain⟨_,_,rfl⟩:=he';rfl) (Oy _) fun j v hj=>?_⟩;have hj':j<s.size:=by
     rcases Nat.lt_or_ge j s.size with h|h
     ·exact h
     ·rw[List.getElem?_eq_none (by simpa using h)]at hj;cases hj
    simp only[Nat.zero_mul,Nat.zero_add,add_lit];rw[Lib.bytesWorld_cell w e s j hj',← hj,List.getElem?_map];have hjl:j<s.data.toList.length:=by simpa using hj'
    simp[List.getD,List.getElem?_eq_getElem hjl]
   ·cases h
 ·simp only[VR]at hx;subst hx;split at h
  ·rename_i hc;simp at h;obtain⟨rfl,rfl⟩:=h;obtain⟨e,h1,h2,h3⟩:=EE hc.1;exact⟨.string .empty,w,g,by simp[convert,run_underlying h1,run_underlying h2,run_underlying (C8 hc.2),Conv.bytesToString],hR,by simp[VR];rfl⟩
  ·cases h
 ·rename_i t n es;split at h
  ·rename_i hn;subst hn;split at h
   ·rename_i hc;obtain⟨l,hl,he⟩:=Option.map_eq_some_iff.1 h;simp only[Prod.mk.injEq]at he;obtain⟨rfl,rfl⟩:=he;obtain⟨e,h1,h2,h3⟩:=EE hc.1;obtain⟨us,hs,hp,_⟩:=Gs (n:=1) (es:=es) (by omega) (by simp[elems]) hx;obtain⟨ns,rfl,rfl⟩:=JX hl hp;obtain⟨hlen,hsrc⟩:=hs;refine⟨.string ⟨(ns.map (fun n=>UInt8.ofNat n.toNat)).toArray⟩,w,g,?_,hR,by simp only[VR]⟩;rcases hsrc with ⟨ad,c,rfl,hcell⟩|⟨h0,c,rfl⟩
    ·rw[run_convert_bytes_string w src dst e _ _ _ h1 h2 (C8 hc.2)];have hlc:(loadCells ad es.length).run P w=.ok (ns.map (Value.int .u8)).toArray w:=by
      have:=run_loadCells_list (P:=P) w ad (ns.map (Value.int .u8)) hcell
      rwa [hlen,Nat.mul_one]at this
     rw[run_bytesToString w ad es.length c ns hlc,foldl_push];simp[ByteArray.empty,ByteArray.emptyWithCapacity]
     try rfl
    ·have:ns=[]:=by
      have:ns.length=0:=by simpa [h0]using hlen
      exact List.eq_nil_of_length_eq_zero this
     subst this;simp[convert,run_underlying h1,run_underlying h2,run_underlying (C8 hc.2),Conv.bytesToString];rfl
   ·split at h
    ·rename_i t0 es0 r0 e0 es1;split at h
     ·rename_i hc;simp at h;obtain⟨rfl,rfl⟩:=h;obtain⟨rfl,hc⟩:=hc;obtain⟨e,h1,h2,h3⟩:=EE hc;simp only[VR,Cq]at hx;obtain⟨_,⟨_,h0⟩|⟨_,h0,_⟩|⟨cap,cur,T,rfl,k2,k3,k5,k6,k7,k8⟩⟩:=hx
      ·cases h0
      ·cases h0
      ·have hsh:w.shape? (g.row r0)=some (T,cur.size):=by simp[World.shape?,k6]
       have hrun:(convert src src (.slice (some ⟨g.row r0,0*1,none⟩) (e0::es1).length cap)).run P w=.ok (.slice (some ⟨g.row r0,0*1,none⟩) (e0::es1).length cap) (w.freeze ⟨g.row r0,cur.size,none⟩ 1):=by
        simp[convert,run_underlying h1,run_underlying h2,markStringish,hsh]
       have hother:∀ b,b≠g.row r0→(w.freeze ⟨g.row r0,cur.size,none⟩ 1).heap[b]?=w.heap[b]?:=fun b hb=>by
        simp[World.freeze,Array.getElem?_modify,Ne.symm hb]
       have hself:(w.freeze ⟨g.row r0,cur.size,none⟩ 1).heap[g.row r0]?=some (.cells cur T (cur.size,cur.size+1)):=by
        simp[World.freeze,Array.getElem?_modify,k6]
       let g':Gh:={ g with own:=fun x=>if x=g.row r0 then .ro else g.own x }
       have hl:Lasts [r0] [] g w g' (w.freeze ⟨g.row r0,cur.size,none⟩ 1):=by
        refine⟨fun b _ ho=>?_,fun b q _ hq ho=>?_,fun _ _=>rfl,fun _ _=>rfl,fun b q i _ _ ho=>?_,fun _ _ _=>rfl⟩
        ·have hne:b≠g.row r0:=fun e=>by rw[e,k5]at ho;cases ho
         exact⟨by simp[g',hne,ho],hother b hne⟩
        ·have hne:b≠g.row r0:=fun e=>by rw[e,k5]at ho;injection ho with ho;exact hq (by simp[ho])
         exact⟨by simp[g',hne,ho],hother b hne⟩
        ·have hne:b≠g.row r0:=fun e=>by rw[e,k5]at ho;cases ho
         exact⟨by simp[g',hne,ho],hother b hne⟩
       refine⟨_,_,g',hrun,?_,?_⟩
       ·refine hR.lasts hl (hR.fr.step hl (by simp[World.freeze]) ⟨by simp[World.freeze],by simp[World.freeze]⟩ (by simp[World.freeze]) (by simp[World.freeze]) (fun b _ ho=>?_) (fun _ _ h=>by cases h)) (fun s cs hs _=>?_)
        ·have hne:b≠g.row r0:=fun e=>by rw[e,k5]at ho;cases ho
         exact⟨by simp[g',hne,ho],hother b hne⟩
        ·have ho:=(hR.ob s cs hs).1;have hne:g.box s≠g.row r0:=fun e=>by rw[e,k5]at ho;cases ho
         exact⟨by simp[g',hne,ho],hother _ hne⟩
       ·simp only[VR,PR];obtain⟨us,m1,m2,m3⟩:=PRe.list _ _ _ _ k8;refine⟨(fun _ _ h=>by cases h),_,_,rfl,k2,by omega,(fun h=>by cases h),by omega,.inr ⟨_,rfl,by simp[g',BM],?_⟩⟩;refine PRe.C4 _ us _ 1 0 (PRe.lens k8) (PRl.mono hl.ro' m1) fun j v hj=>?_
        have:=m3 j v hj;simp only[add_lit]at this ⊢;rw[cell_of_row _ _ _ _ _ _ k6]at this;rw[cell_of_row _ _ _ _ _ _ hself];exact this
     ·cases h
    ·cases h
  ·cases h
 ·cases h
end
end Go.Abs
namespace Go.Abs
section
variable {C:Ctx} {A:A0} {N:Nat} {g g':Gh} {st:St} {a:Act} {w w':World}
theorem Mp{P:Program}{t:TypeId}{v:Value}{w:World}:(newVar t v).run P w=.ok ⟨w.heap.size,0,none⟩ (w.alloc (.cells v.cells t)):=by simp[newVar,newRow]
theorem FG(hR:R C A N g st a w)(l:List Operand):VRs g w (l.map (ev C st)) (l.map a.eval):=by
 induction l with
 | nil=>simp[VRs]
 | cons x l ih=>simp only[List.map_cons,VRs];exact⟨hR.ev x,ih⟩
theorem Wh{x:AV}{n:Nat}{u:Value}(h:LP x=some n)(hx:VR g w x u):∃ k,u=.int k n:=by
 unfold LP at h;split at h
 ·rename_i k i;split at h
  ·rename_i h0;simp at h;subst h;simp only[VR]at hx;subst hx;exact⟨k,by rw[Int.toNat_of_nonneg h0]⟩
  ·cases h
 ·cases h
theorem Gp(hR:R C A N g st a w){o:Option Operand}{b:Option Nat}(h:B4 C st o=some b):(o.map a.eval=none∧b=none)∨(∃ n k,b=some n∧o.map a.eval=some (.int k n)):=by
 unfold B4 at h;split at h
 ·simp at h;subst h;exact .inl ⟨rfl,rfl⟩
 ·rename_i x;obtain⟨n,hn,rfl⟩:=Option.map_eq_some_iff.1 h;obtain⟨k,hk⟩:=Wh hn (hR.ev x);exact .inr ⟨n,k,rfl,by simp[hk]⟩
theorem LX{P:Program}{t e:TypeId}{x:Value}{lo hi mx:Option Value}(h:P.underlying t=some (.slice e)):(Instr.sliceAt t x lo hi mx).run P w=(Instr.slice t x lo hi mx).run P w:=by
 simp[Instr.sliceAt,run_underlying h]
theorem QW{P:Program}{t:TypeId}{x:Value}{lo hi mx:Option Value}(h:P.underlying t=some .string):(Instr.sliceAt t x lo hi mx).run P w=(Instr.slice t x lo hi mx).run P w:=by
 simp[Instr.sliceAt,run_underlying h]
theorem IZ{P:Program}{t e n:Nat}(h:Au P t=some (e,n)):P.underlying t=some (.slice e)∧BJ P e=some n:=by
 unfold Au at h;split at h
 ·rename_i e' he;obtain⟨n',hn',hh⟩:=Option.map_eq_some_iff.1 h;simp only[Prod.mk.injEq]at hh;obtain⟨rfl,rfl⟩:=hh;exact⟨he,hn'⟩
 ·cases h
theorem LY(hR:R C A N g st a w){t:TypeId}{x:Operand}{lo hi mx:Option Operand}{z:AV}{st':St}(h:GK C st t (ev C st x) lo hi mx=some (z,st')) :
 ∃ u w' g',(Instr.sliceAt t (a.eval x) (lo.map a.eval) (hi.map a.eval) (mx.map a.eval)).run C.P w=.ok u w'∧R C A N g' st' a w'∧VR g' w' z u∧(((∀ r lo m es,ev C st x≠.sl (.own r lo) m es)∨mx=none)→g'=g∧w'=w):=by
 unfold GK at h;split at h
 ·rename_i l hh m hl hhh hm;have bl:=Gp hR hl;have bh:=Gp hR hhh;have bm:=Gp hR hm;split at h
  ·rename_i e n hen;obtain⟨ht1,ht2⟩:=IZ hen;rw[LX ht1];split at h
   ·rename_i es hes;have hlen:∀ es',elems n (ev C st x)=some es'→es'.length=es.length:=fun es' h'=>by rw[hes]at h';simp at h';rw[h']
    have hlo:∃ kl,(lo.map a.eval=none∧l.getD 0=0)∨lo.map a.eval=some (.int kl (l.getD 0:Nat)):=by
     rcases bl with ⟨h1,rfl⟩|⟨n',k,rfl,h1⟩
     ·exact⟨.i64,.inl ⟨h1,rfl⟩⟩
     ·exact⟨k,.inr h1⟩
    obtain⟨kl,hlo⟩:=hlo;split at h
    ·rename_i h0 m0;split at h
     ·rename_i hmh;subst hmh;rcases bh with ⟨_,hc⟩|⟨n',kh,hc,h2⟩
      ·cases hc
      ·injection hc with hc;subst hc
       rcases bm with ⟨_,hc⟩|⟨n'',km,hc,h3⟩
       ·cases hc
       ·injection hc with hc;subst hc
        obtain⟨u,g',k1,k2,k3,k4⟩:=K8 (full:=true) (mx:=mx.map a.eval) hR hen (hR.ev x) hlen hlo (.inr h2) (by simp only[if_true];exact h3) (fun _=>h2) h;exact⟨u,w,g',k1,k2,k3,fun hp=>⟨k4 (hp.imp id fun hm=>by subst hm;simp at h3),rfl⟩⟩
     ·cases h
    ·rename_i h0;rcases bh with ⟨_,hc⟩|⟨n',kh,hc,h2⟩
     ·cases hc
     ·injection hc with hc;subst hc
      rcases bm with ⟨h3,_⟩|⟨_,_,hc,_⟩
      ·obtain⟨u,g',k1,k2,k3,k4⟩:=K8 (full:=false) (mx:=mx.map a.eval) (km:=.i64) hR hen (hR.ev x) hlen hlo (.inr h2) (by rw[h3];rfl) (fun h=>by cases h) h;exact⟨u,w,g',k1,k2,k3,fun _=>⟨k4 (.inr rfl),rfl⟩⟩
      ·cases hc
    ·rcases bh with ⟨h2,_⟩|⟨_,_,hc,_⟩
     ·rcases bm with ⟨h3,_⟩|⟨_,_,hc,_⟩
      ·obtain⟨u,g',k1,k2,k3,k4⟩:=K8 (full:=false) (mx:=mx.map a.eval) (kh:=.i64) (km:=.i64) hR hen (hR.ev x) hlen hlo (.inl ⟨h2,rfl⟩) (by rw[h3];rfl) (fun h=>by cases h) h;exact⟨u,w,g',k1,k2,k3,fun _=>⟨k4 (.inr rfl),rfl⟩⟩
      ·cases hc
     ·cases hc
    ·cases h
   ·cases h
  ·split at h
   ·rename_i s hxs;split at h
    ·rename_i hc;simp at h;obtain⟨rfl,rfl⟩:=h;obtain⟨hs,h1,h2⟩:=hc;have hst:=C8 hs;rw[QW hst];have hxv:=hR.ev x;rw[hxs]at hxv;simp only[VR]at hxv;rw[hxv];have e3:mx.map a.eval=none:=by
      rcases bm with ⟨h3,_⟩|⟨_,_,hc,_⟩
      ·exact h3
      ·cases hc
     rw[e3];refine⟨.string (s.extract (l.getD 0) (hh.getD s.size)),w,g,?_,hR,by simp only[VR],fun _=>⟨rfl,rfl⟩⟩;rcases bl with ⟨e1,rfl⟩|⟨n1,k1,rfl,e1⟩<;>rcases bh with ⟨e2,rfl⟩|⟨n2,k2,rfl,e2⟩<;>rw[e1,e2]<;>simp only[Option.getD_none,Option.getD_some]at h1 h2 ⊢
     ·simp[Instr.slice,run_underlying hst,Instr.sliceBounds]
     ·have b:=run_sliceBound (P:=C.P) (w:=w) k2 n2 s.size .sliceAlen (by omega) (by omega);simp[Instr.slice,run_underlying hst,Instr.sliceBounds,b]
     ·have b:=run_sliceBound (P:=C.P) (w:=w) k1 n1 s.size .sliceB (by omega) (by omega);simp[Instr.slice,run_underlying hst,Instr.sliceBounds,b]
     ·have b:=run_sliceBound (P:=C.P) (w:=w) k2 n2 s.size .sliceAlen (by omega) (by omega);have b':=run_sliceBound (P:=C.P) (w:=w) k1 n1 n2 .sliceB (by omega) (by omega);simp only[Int.toNat_natCast]at b b';simp[Instr.slice,run_underlying hst,Instr.sliceBounds,b,b']
    ·cases h
   ·cases h
 ·cases h
theorem UH{P:Program}(fs:List Field)(h:∀ f∈fs,(BJ P f.type).isSome):(fs.mapM fun f=>(do pure (f.offset,← sizeOf f.type):Sem (Nat × Nat))).run P w=.ok (fs.map fun f=>(f.offset,(BJ P f.type).getD 0)) w:=by
 induction fs with
 | nil=>simp
 | cons f fs ih =>
  have hf:=h f (by simp);obtain⟨n,hn⟩:=Option.isSome_iff_exists.1 hf;rw[List.mapM_cons];simp only[Sem.run_bind,run_sizeOf hn,Result.andThen_ok,Sem.run_pure,ih (fun f' hf'=>h f' (by simp[hf'])),List.map_cons,hn,Option.getD_some]
theorem Me(p q:Nat→Option (Nat × Nat)):∀ (l:List (Nat × Value)) (cs:Array Value),(∀ x∈l,p x.1=q x.1)→Instr.fill p cs l=Instr.fill q cs l
 |[],_,_=>rfl
 |(i,v)::l,cs,h=>by
  have h0:=h (i,v) (by simp);simp only at h0;simp only[Instr.fill,h0];split
  ·rfl
  ·split
   ·rfl
   ·exact Me p q l _ fun x hx=>h x (by simp[hx])
theorem OH{P:Program}{t:TypeId}{zs:List Value}(hz:zeroOf P t=some zs)(hag:AZ P t=some true)(hsz:sized P t=true){ps:List (Nat × AV)}{pv:List (Nat × Value)}
 (h1:ps.map (·.1)=pv.map (·.1)) (h2:VRs g w (ps.map (·.2)) (pv.map (·.2))) {L:List AV} (hf:Kz (placeOf P t) (vals zs) ps=some L) :
 ∃ u,(Instr.build t pv.toArray).run P w=.ok u w∧VR g w (.agg L) u:=by
 have hzz:∃ i z,P.info? t=some i∧i.zero=some z∧zs=z.cells.toList:=by
  unfold zeroOf at hz;obtain⟨z,hz1,hz2⟩:=Option.map_eq_some_iff.1 hz;obtain⟨i,hi,hiz⟩:=Option.bind_eq_some_iff.1 hz1;exact⟨i,z,hi,hiz,hz2.symm⟩
 obtain⟨i,z,hi,hiz,rfl⟩:=hzz;obtain⟨cur,k1,k2⟩:=JD (placeOf P t) ps pv (vals z.cells.toList) z.cells L h1 h2 (GM _) hf;refine⟨.agg cur,?_,cur,rfl,k2⟩;unfold sized at hsz;split at hsz
 ·rename_i fs hu;have hall:∀ f∈fs.toList,(BJ P f.type).isSome:=fun f hf=>List.all_eq_true.1 hsz f hf
  have hmm:(fs.mapM fun f=>(do pure (f.offset,← sizeOf f.type):Sem (Nat × Nat))).run P w=.ok (fs.toList.map fun f=>(f.offset,(BJ P f.type).getD 0)).toArray w:=by
   have e:=Array.mapM_eq_mapM_toList (m:=Sem) (xs:=fs) (f:=fun f=>(do pure (f.offset,← sizeOf f.type):Sem (Nat × Nat)));rw[e];simp only[Sem.run_map,UH _ hall,Result.andThen_ok]
  have hp:∀ i,((fs.toList.map fun f=>(f.offset,(BJ P f.type).getD 0)).toArray)[i]?=placeOf P t i:=fun i=>by
   simp only[placeOf,hu,List.getElem?_toArray,List.getElem?_map,Array.getElem?_toList];cases hfi:fs[i]? with
   |none=>rfl
   |some f =>
    have hm:f∈fs.toList:=by
     rw[← Array.getElem?_toList]at hfi;exact List.mem_of_getElem? hfi
    obtain⟨n,hn⟩:=Option.isSome_iff_exists.1 (hall f hm);simp[hn]
  have hf2:=Me (fun i=>((fs.toList.map fun f=>(f.offset,(BJ P f.type).getD 0)).toArray)[i]?) (placeOf P t) pv z.cells (fun x _=>hp x.1);rw[k1]at hf2;unfold Instr.build;simp only[Sem.run_bind,zeroValue,run_typeInfo hi,Result.andThen_ok,hiz,Sem.run_pure,run_underlying hu,hmm,hf2]
 ·rename_i n e hu;obtain⟨m,hm⟩:=Option.isSome_iff_exists.1 hsz;have hp:∀ i,(some (i*m,m):Option (Nat × Nat))=placeOf P t i:=fun i=>by simp[placeOf,hu,hm]
  have hf2:=Me (fun i=>some (i*m,m)) (placeOf P t) pv z.cells (fun x _=>hp x.1);rw[k1]at hf2;unfold Instr.build;simp only[Sem.run_bind,zeroValue,run_typeInfo hi,Result.andThen_ok,hiz,Sem.run_pure,run_underlying hu,run_sizeOf hm,hf2]
 ·cases hsz
theorem MY{P:Program}{t:TypeId}{i:Nat}{x z:AV}{ux:Value}(hx:VR g w x ux)(h:Qf P t i x=some z):∃ u,(Instr.field t ux i).run P w=.ok u w∧VR g w z u:=by
 unfold Qf at h;split at h
 ·rename_i cs;simp only[VR]at hx;obtain⟨us,rfl,hv⟩:=hx;split at h
  ·rename_i fs hu;split at h
   ·rename_i f hf;split at h
    ·rename_i agg n h1 h2;split at h
     ·rename_i hle;have hlen:cs.length=us.toList.length:=VRs.length hv;have hsub:=VRs.take n (VRs.drop f.offset hv);have hl:((cs.drop f.offset).take n).length=n:=by simp;omega
      unfold Instr.field;simp only[Sem.run_bind,run_underlying hu,Result.andThen_ok,hf,asAgg,Sem.run_pure,part,HI h1];cases agg with
      | true =>
       simp only[mkA,if_true,Option.some.injEq]at h;subst h;simp only[if_true,Sem.run_bind,run_sizeOf h2,Result.andThen_ok,Sem.run_pure];refine⟨_,rfl,_,rfl,?_⟩;simpa [List.drop_take,Nat.add_sub_cancel_left]using hsub
      | false =>
       simp only[mkA,Bool.false_eq_true,if_false]at h;split at h
       ·rename_i c hc;simp at h;subst h;rw[hc]at hsub
        match hus:(us.toList.drop f.offset).take n,hsub with
        |[u],hsub =>
         simp only[VRs]at hsub;have h0:us[f.offset]?=some u:=by
          have:((us.toList.drop f.offset).take n)[0]?=some u:=by rw[hus];rfl
          rw[List.getElem?_take]at this;split at this
          ·rw[List.getElem?_drop]at this;simpa using this
          ·cases this
         simp only[Bool.false_eq_true,if_false,h0,Sem.run_pure];exact⟨u,rfl,hsub.1⟩
        |[],hsub=>simp[VRs]at hsub
        |_::_::_,hsub=>simp[VRs]at hsub
       ·cases h
     ·cases h
    ·cases h
   ·cases h
  ·cases h
 ·cases h
theorem Qp{P:Program}{t:TypeId}{k x z:AV}{uk ux:Value}(hk:VR g w k uk)(hx:VR g w x ux)(h:X6 P t k x=some z):∃ u,(Instr.index t ux uk).run P w=.ok u w∧VR g w z u:=by
 unfold X6 at h;split at h
 ·rename_i cs;simp only[VR]at hx;obtain⟨us,rfl,hv⟩:=hx;split at h
  ·rename_i kk ki len n b he;simp only[VR]at hk;subst hk;split at h
   ·rename_i hle;obtain⟨h0,h1,h2⟩:=hle;unfold Pv at he;split at he
    ·rename_i len' e hu;split at he
     ·rename_i n' b' hn hb;simp only[Option.some.injEq,Prod.mk.injEq]at he;obtain⟨rfl,rfl,rfl⟩:=he;have hlen:cs.length=us.toList.length:=VRs.length hv;have hsub:=VRs.take n' (VRs.drop (ki.toNat*n') hv);unfold Instr.index;simp only[asIntOf,Sem.run_bind,Sem.run_pure,Result.andThen_ok,run_underlying hu,h0,h1,and_self,if_true,run_sizeOf hn,part,HI hb];cases b' with
      | true =>
       simp only[mkA,if_true,Option.some.injEq]at h;subst h;simp only[if_true,Sem.run_bind,run_sizeOf hn,Result.andThen_ok,Sem.run_pure];refine⟨_,rfl,_,rfl,?_⟩;simpa [List.drop_take,Nat.add_sub_cancel_left]using hsub
      | false =>
       simp only[mkA,Bool.false_eq_true,if_false]at h;split at h
       ·rename_i c hc;simp at h;subst h;rw[hc]at hsub
        match hus:(us.toList.drop (ki.toNat*n')).take n',hsub with
        |[u],hsub =>
         simp only[VRs]at hsub;have h0:us[ki.toNat*n']?=some u:=by
          have:((us.toList.drop (ki.toNat*n')).take n')[0]?=some u:=by rw[hus];rfl
          rw[List.getElem?_take]at this;split at this
          ·rw[List.getElem?_drop]at this;simpa using this
          ·cases this
         simp only[Bool.false_eq_true,if_false,h0,Sem.run_pure];exact⟨u,rfl,hsub.1⟩
        |[],hsub=>simp[VRs]at hsub
        |_::_::_,hsub=>simp[VRs]at hsub
       ·cases h
     ·cases he
    ·cases he
   ·cases h
  ·cases h
 ·rename_i s;split at h
  ·rename_i kk ki;simp only[VR]at hk hx;subst hk;subst hx;split at h
   ·rename_i hc;obtain⟨hs,h0⟩:=hc;obtain⟨b,hb,rfl⟩:=Option.map_eq_some_iff.1 h;unfold Instr.index;simp only[asIntOf,Sem.run_bind,Sem.run_pure,Result.andThen_ok,run_underlying (C8 hs),h0,if_true,hb];exact⟨_,rfl,by simp[VR]⟩
   ·cases h
  ·cases h
 ·cases h
end
end Go.Abs
namespace Go.Abs
section
variable {C:Ctx} {A:A0} {N:Nat} {g g':Gh} {st st':St} {a:Act} {w w':World}
def Steps(C:Ctx)(A:A0)(N:Nat)(o:Oper)(a:Act)(w:World)(x:AV)(st':St):Prop :=
 ∃ u w' g',Does C.P o a w u w'∧R C A N g' st' a w'∧VR g' w' x u
theorem Steps.pure(hR:R C A N g st a w){o:Oper}{x:AV}{s:Sem Value}(ho:execOp a.eval o=(do Pure.pure (Next.value (← s))))(h:∃ u,s.run C.P w=.ok u w∧VR g w x u):Steps C A N o a w x st:=by
 obtain⟨u,h1,h2⟩:=h;exact⟨u,w,g,HB ho h1,hR,h2⟩
theorem Steps.of{o:Oper}{x:AV}{s:Sem Value}(ho:execOp a.eval o=(do Pure.pure (Next.value (← s))))(h:∃ u w' g',s.run C.P w=.ok u w'∧R C A N g' st' a w'∧VR g' w' x u):Steps C A N o a w x st':=by
 obtain⟨u,w',g',h1,h2,h3⟩:=h;exact⟨u,w',g',HB ho h1,h2,h3⟩
theorem Dw{α:Type}{m:Option α}{f:α→AV}{st st':St}{x:AV}(h:(m.map fun y=>(f y,st))=some (x,st')):∃ y,m=some y∧f y=x∧st'=st:=by
 cases m with
 |none=>cases h
 |some y=>simp at h;exact⟨y,rfl,h.1,h.2.symm⟩
theorem Sh{x r:AV}{ux:Value}(hx:VR g w x ux)(h:Ib x=some r){o:Oper}{y:Operand}(ho:o.op=.nilCheck y)(hy:a.eval y=ux):(execOp a.eval o).run C.P w=.ok (.value ux) w∧VR g w r ux:=by
 unfold Ib at h;split at h
 ·simp at h;subst h;refine⟨?_,hx⟩;simp only[VR]at hx;obtain⟨_,rfl⟩:=hx;simp[execOp,ho,hy]
 ·simp at h;subst h;refine⟨?_,hx⟩;have:∃ ad,ux=.pointer (some ad):=by
   simp only[VR]at hx;unfold Fg at hx;split at hx
   ·obtain⟨_,_,hx,_⟩:=hx;exact⟨_,hx⟩
   ·obtain⟨_,hx,_⟩:=hx;exact⟨_,hx⟩
  obtain⟨ad,rfl⟩:=this;simp[execOp,ho,hy]
 ·simp at h;subst h;refine⟨?_,hx⟩;simp only[VR]at hx;obtain⟨us,hx,_⟩:=hx;subst hx;simp[execOp,ho,hy]
 ·cases h
theorem R9(a:Act)(ps:Array (Nat × Operand))(f:Nat × Operand→Nat × Value)(h:∀ i x,f (i,x)=(i,a.eval x)):ps.map f=(ps.toList.map fun p=>(p.1,a.eval p.2)).toArray:=by
 have:f=fun p=>(p.1,a.eval p.2):=funext fun⟨i,x⟩=>h i x
 subst this;cases ps;simp
theorem Qb(ρ:Act){o:Oper}{t:TypeId}{ps:Array (Nat × Operand)}(ho:o.op=.build t ps):execOp ρ.eval o=(do Pure.pure (Next.value (← Instr.build t (ps.toList.map fun p=>(p.1,ρ.eval p.2)).toArray))):=by
 unfold execOp;rw[ho];dsimp only;rw[R9 ρ ps _ (fun _ _=>rfl)]
theorem Ha(ρ:Act){o:Oper}{t:TypeId}{len:Nat}{ps:Array (Nat × Operand)}(ho:o.op=.buildSlice t len ps):execOp ρ.eval o=(do Pure.pure (Next.value (← Instr.buildSlice t len (ps.toList.map fun p=>(p.1,ρ.eval p.2)).toArray))):=by
 unfold execOp;rw[ho];dsimp only;rw[R9 ρ ps _ (fun _ _=>rfl)]
theorem IQ(hR:R C A N g st a w)(ps:Array (Nat × Operand)):VRs g w ((parts C st ps).map (·.2)) ((ps.toList.map fun p=>(p.1,a.eval p.2)).map (·.2)):=by
 have:=FG hR (ps.toList.map (·.2));simpa [parts,List.map_map,Function.comp_def]using this
theorem O2(S T:List Nat):∀ zs:List Value,Ej S T (vals zs)=vals zs
 |[]=>rfl
 | z::zs=>by
  have:=O2 S T zs;simp only[vals,List.map_cons,Ej,AV.kill]at this ⊢;rw[this]
theorem Hu(ρ:Act){o:Oper}{b:Builtin}{xs:Array Operand}{ts:Array TypeId}(ho:o.op=.call { callee:=.builtin b,args:=xs,argTypes:=ts }):∃ consts,execOp ρ.eval o=builtin b ts o.type consts (xs.map ρ.eval):=by
 refine⟨xs.map fun|.const _=>true|_=>false,?_⟩;unfold execOp;rw[ho];rfl
theorem Qu{t ty:TypeId}{x r:AV}{ux:Value}{P:Program}(ht:KM P t x=true)(hx:VR g w x ux)(h:Oe x=some r):∃ u,(Builtin.len_ #[t] ty #[ux]).run P w=.ok u w∧VR g w r u:=by
 by_cases hs:∃ s,x=.v (.string s)
 ·have:JW P t=true:=by obtain⟨s,rfl⟩:=hs;exact ht
  exact R5 (.inr this) hx h (fun _=>this) (fun hn=>(hn hs).elim)
 ·have:AI P t=true:=by
   unfold KM at ht;split at ht
   ·exact(hs ⟨_,rfl⟩).elim
   ·exact ht
  exact R5 (.inl this) hx h (fun h=>(hs h).elim) (fun _=>this)
theorem TN{α:Type}{a:Array α}{x:α}(h:a.toList=[x]):a = #[x]:=by cases a;simp_all
theorem NM{α:Type}{a:Array α}{x y:α}(h:a.toList=[x,y]):a = #[x,y]:=by cases a;simp_all
theorem PQ(hR:R C A N g st a w){o:Oper}{b:Builtin}{xs:Array Operand}{ts:Array TypeId}{consts:Array Bool}(he:execOp a.eval o=builtin b ts o.type consts (xs.map a.eval)){x:AV}
 (h:IT C o.dst b xs.toList ts.toList st=some (x,st')):Steps C A N o a w x st':=by
 unfold IT at h;split at h
 ·split at h
  ·rename_i y t hy ht;split at h
   ·rename_i hok;obtain⟨r,h1,rfl,rfl⟩:=Dw h;refine .pure hR he ?_;rw[TN hy,TN ht];simp only[List.map_toArray,List.map_cons,List.map_nil];exact Qu hok (hR.ev y) h1
   ·cases h
  ·cases h
 ·split at h
  ·rename_i d y z t t2 hd hy ht;split at h
   ·rename_i e n b hr;split at h
    ·rename_i hs;refine .of he ?_;rw[NM hy,NM ht];simp only[List.map_toArray,List.map_cons,List.map_nil];exact SN hR hr hs (hR.ev y) (hR.ev z) h
    ·split at h
     ·rename_i zs hzs;refine .of he ?_;rw[NM hy,NM ht];simp only[List.map_toArray,List.map_cons,List.map_nil];exact Q7 hR hr hzs (hR.ev y) (hR.ev z) h
     ·cases h
   ·cases h
  ·cases h
 ·split at h
  ·rename_i y z t tl hy ht;refine .of he ?_;rw[NM hy];simp only[List.map_toArray,List.map_cons,List.map_nil];exact VO hR (by rw[← Array.getElem?_toList,ht];rfl) (hR.ev y) (hR.ev z) h
  ·cases h
 ·split at h
  ·rename_i y t hy ht;refine .of he ?_;rw[TN hy,TN ht];simp only[List.map_toArray,List.map_cons,List.map_nil];exact T4 hR rfl (hR.ev y) h
  ·cases h
 ·split at h
  ·rename_i y t hy ht;obtain⟨r,h1,rfl,rfl⟩:=Dw h;refine .pure hR he ?_;rw[TN hy,TN ht];simp only[List.map_toArray,List.map_cons,List.map_nil];exact Xx rfl (hR.ev y) h1
  ·cases h
 ·split at h
  ·rename_i y z hy;split at h
   ·rename_i k p k' q hp hq;have h':=Option.some.inj h;obtain⟨rfl,rfl⟩:=Prod.mk.inj h';have e1:=hR.ev y;have e2:=hR.ev z;rw[hp]at e1;rw[hq]at e2;simp only[VR]at e1 e2;refine .pure hR he ⟨_,?_,by simp only[VR];rfl⟩;rw[NM hy];simp[Builtin.max_,Builtin.max2,e1,e2]
   ·cases h
  ·cases h
 ·split at h
  ·rename_i y z hy;split at h
   ·rename_i k p k' q hp hq;have h':=Option.some.inj h;obtain⟨rfl,rfl⟩:=Prod.mk.inj h';have e1:=hR.ev y;have e2:=hR.ev z;rw[hp]at e1;rw[hq]at e2;simp only[VR]at e1 e2;refine .pure hR he ⟨_,?_,by simp only[VR];rfl⟩;rw[NM hy];simp[Builtin.min_,Builtin.min2,e1,e2]
   ·cases h
  ·cases h
 ·cases h
theorem IA(hR:R C A N g st a w){o:Oper}(hext:∀ d,o.dst=some d→nm d∉A.ext∧nmM d∉A.ext){x:AV}(h:Gk C o st=some (x,st')):Steps C A N o a w x st':=by
 obtain⟨dst,op,ty,after,x2,x3⟩:=o;simp only at hext;cases op<;>simp only[Gk]at h
 case makeMap t rv =>
  split at h
  ·rename_i d;have h':=Option.some.inj h;obtain⟨rfl,rfl⟩:=Prod.mk.inj h';have hb:=hR.cZ (nmM d) (ZO d) (hext d rfl).2;refine .of (s:=Instr.makeMap t none) rfl ⟨.map (some w.heap.size),_,_,?_,hb,?_⟩
   ·simp[Instr.makeMap,newObj];rfl
   ·simp[VR,Gh.Co,ZO]
  ·cases h
 case lookup t m k ok =>
  split at h
  ·obtain⟨r,h1,rfl,rfl⟩:=Dw h;unfold Px at h1;split at h1
   ·rename_i s hm;obtain⟨cs,h2,h3⟩:=Option.bind_eq_some_iff.1 h1;have e1:=hR.ev m;rw[hm]at e1;simp only[VR]at e1;obtain⟨m1,m2⟩:=e1;obtain⟨es,clk,k1,k2⟩:=(hR.ob s cs h2).map m1;obtain⟨u,j1,j2⟩:=Tf h3 (hR.ev k) k1 k2;exact .pure hR (s:=Instr.lookup t (a.eval m) (a.eval k) false) rfl ⟨u,by rw[m2];exact j1,j2⟩
   ·cases h1
  ·cases h
 case mapUpdate t m k v =>
  split at h
  ·obtain⟨r,h1,h4⟩:=Option.map_eq_some_iff.1 h;obtain⟨rfl,rfl⟩:=Prod.mk.inj h4;unfold M7 at h1;split at h1
   ·rename_i s hm;obtain⟨cs,h2,h3⟩:=Option.bind_eq_some_iff.1 h1;obtain⟨cs',h5,rfl⟩:=Option.map_eq_some_iff.1 h3;have e1:=hR.ev m;rw[hm]at e1;simp only[VR]at e1;obtain⟨m1,m2⟩:=e1;obtain⟨es,clk,k1,k2⟩:=(hR.ob s cs h2).map m1;obtain⟨j1,rfl⟩:=S8 (uv:=a.eval v) h5 (hR.ev k) k1 k2;exact⟨undef,_,g,.inr ⟨by simp only[execOp,m2,Sem.run_bind,j1];rfl,rfl⟩,hR.dg m1 h2 k1 (e:=⟨a.eval k,a.eval v,clk⟩) (hR.ev k) (hR.ev v) k2,by simp[VR]⟩
   ·cases h1
  ·cases h
 case move y=>simp at h;obtain⟨rfl,rfl⟩:=h;exact⟨_,w,g,.inl rfl,hR,hR.ev y⟩
 case assign y=>simp at h;obtain⟨rfl,rfl⟩:=h;exact⟨_,w,g,.inl rfl,hR,hR.ev y⟩
 case pick c y z =>
  obtain⟨r,h1,rfl,rfl⟩:=Dw h;obtain⟨u,k1,k2⟩:=QK (P:=C.P) (hR.ev c) (hR.ev y) (hR.ev z) h1;exact⟨u,w,g,.inl k1,hR,k2⟩
 case alloc t =>
  split at h
  ·rename_i d zs hz;have h':=Option.some.inj h;obtain⟨rfl,rfl⟩:=Prod.mk.inj h';have hzz:∃ z,(zeroValue t).run C.P w=.ok z w∧zs=z.cells.toList:=by
    unfold zeroOf at hz;obtain⟨z,hz1,hz2⟩:=Option.map_eq_some_iff.1 hz;obtain⟨i,hi,hiz⟩:=Option.bind_eq_some_iff.1 hz1;exact⟨z,by simp[zeroValue,run_typeInfo hi,hiz],hz2.symm⟩
   obtain⟨z,hz1,rfl⟩:=hzz;have hk:Ej [] [nm d] (vals z.cells.toList)=vals z.cells.toList:=O2 [] [nm d] _;have hb:=hR.Co (nm d) (Ja d) (hext d rfl).1 z.cells t (vals z.cells.toList) (GM _);rw[hk]at hb;refine .of (s:=Instr.alloc t true (.tuple #[])) rfl ⟨.pointer (some ⟨w.heap.size,0,none⟩),_,_,?_,hb,?_⟩
   ·simp[Instr.alloc,hz1,Mp]
   ·simp[VR,Gh.Co,Ja]
  ·cases h
 case box t y =>
  split at h
  ·rename_i d;split at h
   ·rename_i hok;have h':=Option.some.inj h;obtain⟨rfl,rfl⟩:=Prod.mk.inj h';have hb:=hR.Co (nm d) (Ja d) (hext d rfl).1 (a.eval y).cells t (ev C st y).cells (VR.cells (hR.ev y) hok);refine .of (s:=Instr.box t (a.eval y)) rfl ⟨.pointer (some ⟨w.heap.size,0,none⟩),_,_,?_,hb,?_⟩
    ·simp[Instr.box,Mp]
    ·simp[VR,Gh.Co,Ja]
   ·cases h
  ·cases h
 case load t p =>
  split at h
  ·rename_i agg n h1 h2;obtain⟨r,h3,rfl,rfl⟩:=Dw h;exact .pure hR rfl (Ml hR h1 h2 (hR.ev p) h3)
  ·cases h
 case store t p y =>
  split at h
  ·rename_i n hd h2;obtain⟨r,h3,h4⟩:=Option.map_eq_some_iff.1 h;simp at h4;obtain⟨rfl,rfl⟩:=h4;obtain⟨w',g',k1,k2⟩:=Vn hR h2 (hR.ev p) (hR.ev y) h3;exact⟨undef,w',g',.inr ⟨by simp[execOp,k1],rfl⟩,k2,by simp[VR]⟩
  ·cases h
 case fieldAddr t p i =>
  split at h
  ·rename_i off h1;obtain⟨r,h3,rfl,rfl⟩:=Dw h;exact .pure hR rfl (OS h1 (hR.ev p) h3)
  ·cases h
 case indexAddr t p i =>
  split at h
  ·rename_i k ki hi;have hiv:=hR.ev i;rw[hi]at hiv;simp only[VR]at hiv;split at h
   ·rename_i e n he;obtain⟨r,h3,rfl,rfl⟩:=Dw h;exact .pure hR rfl (by rw[hiv];exact M6 he (hR.ev p) h3)
   ·split at h
    ·rename_i len n he;obtain⟨r,h3,rfl,rfl⟩:=Dw h;exact .pure hR rfl (by rw[hiv];exact M5 he (hR.ev p) h3)
    ·cases h
  ·cases h
 case nilCheck y =>
  obtain⟨r,h1,rfl,rfl⟩:=Dw h;have:=Sh (C:=C) (a:=a) (hR.ev y) h1 (o:=⟨dst,.nilCheck y,ty,after,x2,x3⟩) rfl rfl;exact⟨_,w,g,.inl this.1,hR,this.2⟩
 case binOp op t y z _ =>
  obtain⟨r,h1,rfl,rfl⟩:=Dw h;exact .pure hR rfl (RA (hR.ev y) (hR.ev z) h1)
 case unOp op t y =>
  obtain⟨r,h1,rfl,rfl⟩:=Dw h;exact .pure hR rfl (Vp (hR.ev y) h1)
 case convert s d y=>exact .of rfl (VN hR (hR.ev y) h)
 case extract y i =>
  split at h
  ·rename_i cs hc;obtain⟨r,h1,rfl,rfl⟩:=Dw h;have hy:=hR.ev y;rw[hc]at hy;simp only[VR]at hy;obtain⟨us,hu,hv⟩:=hy;obtain⟨u,h2,h3⟩:=VRs.get hv i _ h1;refine .pure hR (s:=Instr.extract (a.eval y) i) rfl ⟨u,?_,h3⟩;rw[hu];have:us[i]?=some u:=by simpa using h2
   simp[Instr.extract,this]
  ·cases h
 case field t y i =>
  obtain⟨r,h1,rfl,rfl⟩:=Dw h;exact .pure hR rfl (MY (hR.ev y) h1)
 case index t y i =>
  obtain⟨r,h1,rfl,rfl⟩:=Dw h;exact .pure hR rfl (Qp (hR.ev i) (hR.ev y) h1)
 case build t ps =>
  split at h
  ·rename_i zs hz ha;split at h
   ·rename_i hs;obtain⟨r,h1,rfl,rfl⟩:=Dw h;exact .pure hR (Qb a rfl) (OH hz ha hs (by simp[parts]) (IQ hR ps) h1)
   ·cases h
  ·cases h
 case buildSlice t len ps =>
  split at h
  ·rename_i d e n b hd hr;split at h
   ·rename_i zs hz;exact .of (Ha a rfl) (Ya hR hr hz (by simp[parts]) (IQ hR ps) h)
   ·cases h
  ·cases h
 case makeSlice t l c =>
  split at h
  ·rename_i d e n b kl lv kc cv hd hr hl hc;split at h
   ·rename_i zs hz;have h1:=hR.ev l;have h2:=hR.ev c;rw[hl]at h1;rw[hc]at h2;simp only[VR]at h1 h2;refine .of (s:=Instr.makeSlice t (a.eval l) (a.eval c)) rfl ?_;rw[h1,h2];exact Wc hR hr hz h
   ·cases h
  ·cases h
 case slice t y lo hi mx =>
  obtain⟨u,w',g',k1,k2,k3,_⟩:=LY hR h;exact .of rfl ⟨u,w',g',k1,k2,k3⟩
 case makeFunc fn first AU =>
  split at h
  ·rename_i f hf;have h':=Option.some.inj h;obtain⟨rfl,rfl⟩:=Prod.mk.inj h';refine .pure hR (s:=Instr.makeFunc (.func f) (first.map a.eval) (AU.map a.eval)) rfl ⟨_,rfl,?_⟩;have hf0:first = #[]:=by
    cases first;simp_all
   subst hf0;simp only[VR];refine⟨_,by simp;rfl,?_⟩;have:=FG hR AU.toList;simpa using this
  ·rename_i f y ys hf hc;have h':=Option.some.inj h;obtain⟨rfl,rfl⟩:=Prod.mk.inj h';refine .pure hR (s:=Instr.makeFunc (.func f) (first.map a.eval) (AU.map a.eval)) rfl ⟨_,rfl,?_⟩;have hf0:AU = #[]:=by
    cases AU;simp_all
   subst hf0;simp only[VR];refine⟨_,by simp;rfl,?_⟩;have:=FG hR first.toList;rw[hf]at this;simpa [hf]using this
  ·cases h
 case makeInterface t y =>
  split at h
  ·rename_i hc;have h':=Option.some.inj h;obtain⟨rfl,rfl⟩:=Prod.mk.inj h';refine .pure hR rfl ⟨_,run_makeInterface w t _ hc,?_⟩;simp only[VR];exact⟨_,rfl,hR.ev y⟩
  ·cases h
 case call c =>
  split at h
  ·rename_i b hb;obtain⟨callee,args,argTypes⟩:=c;simp only at hb;subst hb;obtain⟨consts,he⟩:=Hu a (o:=⟨dst,.call { callee:=.builtin b,args,argTypes },ty,after,x2,x3⟩) rfl;exact PQ hR he h
  ·cases h
 all_goals(cases h)
end
end Go.Abs
