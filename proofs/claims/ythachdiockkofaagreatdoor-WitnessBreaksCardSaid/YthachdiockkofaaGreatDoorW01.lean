/- part 1 of the proof -/
import Derived.Test.YthachdiockkofaaGreatDoorW00
set_option linter.all false
namespace Go.Abs
def A1(P:Program)(s:TypeId)(f:Nat):Option Nat :=
 match P.underlying s with
 |some (.struct fs)=>match fs[f]? with
  |some fd=>match BJ P fd.type with
   |some (_+1)=>some fd.offset
   |_=>none
  |none=>none
 |_=>none
def Md(off:Nat):AV→Option AV
 |.ptr s o=>some (.ptr s (o+off))
 |.ep t i cs o=>some (.ep t i cs (o+off))
 |_=>none
def Au(P:Program)(t:TypeId):Option (TypeId × Nat) :=
 match P.underlying t with
 |some (.slice e)=>(BJ P e).map fun n=>(e,n)
 |_=>none
def Dp(P:Program)(t:TypeId):Option (Nat × Nat) :=
 match P.underlying t with
 |some (.array len e)=>(BJ P e).map fun n=>(len,n)
 |_=>none
def N9(n:Nat)(i:Int):AV→Option AV
 |.sl (.own r lo) m es=>if m=n∧0≤i then match es[i.toNat]? with
  |some c=>some (.ep (.own r 0) (lo+i.toNat) c 0)
  |none=>none
  else none
 |.sl t m es=>if m=n∧0≤i then match es[i.toNat]? with
  |some c=>some (.ep .no i.toNat c 0)
  |none=>none
  else none
 |.hnd .dsl r _ _ _ m bss=>if n=1∧0≤i then match bss[i.toNat]? with
  |some b=>some (.hnd .dp r i.toNat 0 0 m [b])
  |none=>none
  else none
 |.hnd .isl r q _ _ m [b]=>if m=n∧0≤i then match b[i.toNat]? with
  |some c=>some (.hnd .iep r q i.toNat 0 m [[c]])
  |none=>none
  else none
 |.mem true xs=>if n=1∧0≤i then match xs[i.toNat]? with
  |some c=>some (.mem false [c])
  |none=>none
  else none
 |_=>none
def N8(len n:Nat)(i:Int):AV→Option AV
 |.ptr s o=>if 0≤i∧i<len then some (.ptr s (o+i.toNat*n)) else none
 |.ep t j cs o=>if 0≤i∧i<len then some (.ep t j cs (o+i.toNat*n)) else none
 |_=>none
section
variable {C:Ctx} {A:A0} {N:Nat} {g g':Gh} {st:St} {a:Act} {w w':World} {P:Program}
theorem Y4{t:Tag}{i:Nat}{cs:List AV}{o k:Nat}{u:Value}(h:Fg g w t i cs o u):∃ ad:Addr,u=.pointer (some ad)∧Fg g w t i cs (o+k) (.pointer (some (ad.add k))):=by
 cases t with
 | own r lo =>
  simp only[Fg]at h ⊢;obtain⟨cur,T,h1,h2⟩:=h;refine⟨_,h1,cur,T,?_,h2⟩;rw[add_lit,Nat.add_assoc]
 | no =>
  simp only[Fg]at h ⊢;obtain⟨ad,h1,h2⟩:=h;exact⟨_,h1,ad,by rw[add_add],h2⟩
 | full =>
  simp only[Fg]at h ⊢;obtain⟨ad,h1,h2⟩:=h;exact⟨_,h1,ad,by rw[add_add],h2⟩
theorem OS{s f off:Nat}(ho:A1 P s f=some off){p x:AV}{up:Value}(hp:VR g w p up)(hx:Md off p=some x):∃ u,(Instr.fieldAt s up f).run P w=.ok u w∧VR g w x u:=by
 unfold A1 at ho;split at ho
 ·rename_i fs hs;split at ho
  ·rename_i fd hf;split at ho
   ·rename_i k hk;simp at ho;subst ho;have run:∀ ad:Addr,(Instr.fieldAt s (.pointer (some ad)) f).run P w=.ok (.pointer (some (ad.add fd.offset))) w:=fun ad=>by
     simp[Instr.fieldAt,run_underlying hs,hf,Instr.sureAddr,fieldPlace,run_sizeOf hk]
    unfold Md at hx;split at hx
    ·simp at hx;subst hx;simp only[VR]at hp;obtain⟨hmp,rfl⟩:=hp;refine⟨_,run _,?_⟩;simp only[VR,add_lit,hmp,and_self]
    ·simp at hx;subst hx;simp only[VR]at hp;obtain⟨ad,rfl,h2⟩:=Y4 (k:=fd.offset) hp;exact⟨_,run _,h2⟩
    ·cases hx
   ·cases ho
  ·cases ho
 ·cases ho
theorem M6{t:TypeId}{e:TypeId}{n:Nat}(ht:Au P t=some (e,n)){k:IntKind}{i:Int}{p x:AV}{up:Value}(hp:VR g w p up)(hx:N9 n i p=some x) :
 ∃ u,(Instr.indexAt t up (.int k i)).run P w=.ok u w∧VR g w x u:=by
 unfold Au at ht;split at ht
 ·rename_i e' hs;obtain⟨n',hn,he⟩:=Option.map_eq_some_iff.1 ht;simp only[Prod.mk.injEq]at he;obtain⟨rfl,rfl⟩:=he;have run:∀ (ad:Addr) (len cap:Nat),0≤i→i<len→(Instr.indexAt t (.slice (some ad) len cap) (.int k i)).run P w=.ok (.pointer (some (ad.add (i.toNat*n')))) w:=fun ad len cap h0 h1=>by
   simp[Instr.indexAt,asIntOf,run_underlying hs,h0,h1,run_sizeOf hn]
  unfold N9 at hx;split at hx
  ·rename_i r lo m es;split at hx
   ·rename_i hc;obtain⟨rfl,h0⟩:=hc;split at hx
    ·rename_i c hc;simp at hx;subst hx;have hlt:i.toNat<es.length:=by
      rcases Nat.lt_or_ge i.toNat es.length with h|h
      ·exact h
      ·rw[List.getElem?_eq_none h]at hc;cases hc
     simp only[VR,Cq]at hp;obtain⟨hm,⟨_,h2⟩|⟨_,h2,_⟩|⟨cap,cur,T,h1,h2,h3,h5,h6,h7,h8⟩⟩:=hp
     ·subst h2;simp at hlt
     ·subst h2;simp at hlt
     ·subst h1;refine⟨_,run _ _ _ h0 (by omega),?_⟩;obtain⟨hcl,hcp⟩:=PRe.at_ es _ m 0 h8 _ _ hc;simp only[VR,Fg];refine⟨cur,T,?_,h5,h6,?_,?_⟩
      ·rw[add_lit,hcl,Nat.add_mul];simp
      ·rw[hcl];exact Nat.le_trans (Nat.mul_le_mul_right _ (by omega)) h7
      ·have:=PRc.shift c ⟨g.row r,lo*m,none⟩ ((0+i.toNat)*m) 0 hcp;rw[add_lit]at this
       rwa [hcl,Nat.add_mul,show lo*m+i.toNat*m=lo*m+(0+i.toNat)*m from by simp]
    ·cases hx
   ·cases hx
  ·rename_i t' m es hno;split at hx
   ·rename_i hc;obtain⟨rfl,h0⟩:=hc;split at hx
    ·rename_i c hc;simp at hx;subst hx;have hlt:i.toNat<es.length:=by
      rcases Nat.lt_or_ge i.toNat es.length with h|h
      ·exact h
      ·rw[List.getElem?_eq_none h]at hc;cases hc
     have hp':PR (BM g) w (.sl t' m es) up:=by
      cases t' with
      | own r lo=>exact absurd rfl (hno r lo)
      | no=>simpa [VR]using hp
      | full=>simpa [VR]using hp
     simp only[PR]at hp';obtain⟨_,ad',cap,h1,h2,h3,h4,h5,h6|⟨ad,h6,h7,h8⟩⟩:=hp'
     ·subst h6;simp at hlt
     ·subst h6;subst h1;refine⟨_,run _ _ _ h0 (by omega),?_⟩;obtain⟨hcl,hcp⟩:=PRe.at_ es _ m 0 h8 _ _ hc;simp only[VR,Fg];refine⟨ad.add (i.toNat*m),by rw[Addr.add_zero'],by omega,by rw[EA];exact h7,?_⟩;exact PRc.shift c ad (i.toNat*m) 0 (by simpa using hcp)
    ·cases hx
   ·cases hx
  ·rename_i r _ _ _ m bss;split at hx
   ·rename_i hc;obtain⟨rfl,h0⟩:=hc;split at hx
    ·rename_i b hb;simp at hx;subst hx;have hlt:i.toNat<bss.length:=by
      rcases Nat.lt_or_ge i.toNat bss.length with h|h
      ·exact h
      ·rw[List.getElem?_eq_none h]at hb;cases hb
     simp only[VR]at hp;obtain⟨hm,⟨_,h2⟩|⟨cap,cur,T,h1,h2,h3,h5,h6,h7,h8⟩⟩:=hp
     ·subst h2;simp at hlt
     ·subst h1;refine⟨_,run _ _ _ h0 (by omega),?_⟩;obtain⟨v,hv,hi⟩:=h8 _ _ hb;simp only[VR];exact⟨hm,b,rfl,cur,T,v,by rw[add_lit];simp,h5,h6,hv,hi⟩
    ·cases hx
   ·cases hx
  ·rename_i r q _ _ m b;split at hx
   ·rename_i hc;obtain⟨rfl,h0⟩:=hc;split at hx
    ·rename_i c hc;simp at hx;subst hx;have hlt:i.toNat<b.length:=by
      rcases Nat.lt_or_ge i.toNat b.length with h|h
      ·exact h
      ·rw[List.getElem?_eq_none h]at hc;cases hc
     simp only[VR]at hp;obtain⟨hm,b',hbb,hi⟩:=hp;simp only[List.cons.injEq,and_true]at hbb;subst hbb;rcases hi with ⟨h2,_⟩|⟨cap,cur,T,h1,h2,h3,h5,h6,h7,h8⟩
     ·subst h2;simp at hlt
     ·subst h1;refine⟨_,run _ _ _ h0 (by omega),?_⟩;obtain⟨hcl,hcp⟩:=PRe.at_ b _ m 0 h8 _ _ hc;simp only[VR];refine⟨hm,c,rfl,hcl,cur,T,by rw[add_lit];simp,h5,h6,?_,?_⟩
      ·exact Nat.le_trans (Nat.mul_le_mul_right _ (by omega)) h7
      ·have:=PRc.shift c ⟨g.inn r q,0,none⟩ ((0+i.toNat)*m) 0 hcp;rw[add_lit]at this;simpa using this
    ·cases hx
   ·cases hx
  ·rename_i xs;split at hx
   ·rename_i hc;obtain⟨rfl,h0⟩:=hc;split at hx
    ·rename_i c hc;simp at hx;subst hx;simp only[VR,Vx]at hp;obtain⟨ad,vs,q1,q2,q3,cap,rfl,q4,q5⟩:=hp;obtain⟨v,e1,e2⟩:=VRs.get q3 _ _ hc;have hlt:i.toNat<vs.length:=by
      rcases Nat.lt_or_ge i.toNat vs.length with h|h
      ·exact h
      ·rw[List.getElem?_eq_none h]at e1;cases e1
     refine⟨_,run _ _ _ h0 (by omega),?_⟩;simp only[VR,Vx,Nat.mul_one];refine⟨ad.add i.toNat,[v],by rw[EA];exact q1,⟨by simp,fun k hk=>?_⟩,by simp only[VRs];exact⟨e2,trivial⟩,rfl⟩;have hk0:k=0:=by simp at hk;omega
     subst hk0;rw[Addr.add_zero',q2.2 _ hlt,e1];rfl
    ·cases hx
   ·cases hx
  ·cases hx
 ·cases ht
theorem M5{t:TypeId}{len n:Nat}(ht:Dp P t=some (len,n)){k:IntKind}{i:Int}{p x:AV}{up:Value}(hp:VR g w p up)(hx:N8 len n i p=some x) :
 ∃ u,(Instr.indexAt t up (.int k i)).run P w=.ok u w∧VR g w x u:=by
 unfold Dp at ht;split at ht
 ·rename_i len' e' hs;obtain⟨n',hn,he⟩:=Option.map_eq_some_iff.1 ht;simp only[Prod.mk.injEq]at he;obtain⟨rfl,rfl⟩:=he;have run:∀ (ad:Addr),0≤i→i<len'→(Instr.indexAt t (.pointer (some ad)) (.int k i)).run P w=.ok (.pointer (some (ad.add (i.toNat*n')))) w:=fun ad h0 h1=>by
   simp[Instr.indexAt,asIntOf,run_underlying hs,Instr.sureAddr,h0,h1,run_sizeOf hn]
  unfold N8 at hx;split at hx
  ·split at hx
   ·rename_i hc;simp at hx;subst hx;simp only[VR]at hp;obtain⟨hmp,rfl⟩:=hp;refine⟨_,run _ hc.1 hc.2,?_⟩;simp only[VR,add_lit,hmp,and_self]
   ·cases hx
  ·split at hx
   ·rename_i hc;simp at hx;subst hx;simp only[VR]at hp;obtain⟨ad,rfl,h2⟩:=Y4 (k:=i.toNat*n') hp;exact⟨_,run _ hc.1 hc.2,h2⟩
   ·cases hx
  ·cases hx
 ·cases ht
theorem QH{c:AV}{u:Value}(h:H2 c=true)(hv:VR g w c u):u.oneCell'=true:=by
 cases c with
 | v x=>simp only[VR]at hv;subst hv;exact h
 | sl t n es =>
  cases t with
  | own r lo =>
   simp only[VR,Cq]at hv;obtain⟨_,⟨rfl,_⟩|⟨_,_,_,_,rfl,_⟩|⟨_,_,_,rfl,_⟩⟩:=hv<;>rfl
  | no=>simp only[VR,PR]at hv;obtain⟨_,_,_,rfl,_⟩:=hv;rfl
  | full=>simp only[VR,PR]at hv;obtain⟨_,_,_,rfl,_⟩:=hv;rfl
 | ptr s o=>simp only[VR]at hv;obtain⟨_,rfl⟩:=hv;rfl
 | mp s=>simp only[VR]at hv;obtain⟨_,rfl⟩:=hv;rfl
 | ep t i cs o =>
  simp only[VR]at hv;obtain⟨ad,_,rfl,_⟩:=WO hv;rfl
 | fn f AU=>simp only[VR]at hv;obtain⟨_,rfl,_⟩:=hv;rfl
 | mv f AU=>simp only[VR]at hv;obtain⟨_,rfl,_⟩:=hv;rfl
 | ifc t x=>simp only[VR]at hv;obtain⟨_,rfl,_⟩:=hv;rfl
 | hnd k r i j off m bss =>
  simp only[VR]at hv;obtain⟨_,hv⟩:=hv;cases k with
  | dsl=>rcases hv with ⟨rfl,_⟩|⟨_,_,_,rfl,_⟩<;>rfl
  | dp=>obtain⟨_,_,_,_,_,rfl,_⟩:=hv;rfl
  | isl=>obtain⟨_,_,hi⟩:=hv;rcases hi with ⟨_,_,_,rfl,_⟩|⟨_,_,_,rfl,_⟩<;>rfl
  | iep=>obtain⟨_,_,_,_,_,rfl,_⟩:=hv;rfl
 | undef=>simp[H2]at h
 | agg cs=>simp[H2]at h
 | tup cs=>simp[H2]at h
 | mem b xs=>simp[H2]at h
theorem Is:∀ {cs:List AV} {us:List Value},Cc cs=true→VRs g w cs us→∀ u∈us,u.oneCell'=true
 |[],[],_,_,u,hu=>by simp at hu
 |[],_::_,_,h,_,_=>by simp[VRs]at h
 |_::_,[],_,h,_,_=>by simp[VRs]at h
 | c::cs,v::us,ho,h,u,hu=>by
  simp only[Cc,Bool.and_eq_true]at ho;simp only[VRs]at h;rcases List.mem_cons.1 hu with rfl|hu
  ·exact QH ho.1 h.1
  ·exact Is ho.2 h.2 u hu
theorem SU{u:Value}(h:u.oneCell'=true):u.cells = #[u]:=by cases u<;>simp_all[Value.cells,Value.oneCell']
theorem VR.cells{x:AV}{u:Value}(hv:VR g w x u)(ho:Cc x.cells=true):VRs g w x.cells u.cells.toList:=by
 by_cases hx:∃ cs,x=.agg cs
 ·obtain⟨cs,rfl⟩:=hx;simp only[VR]at hv;obtain⟨us,rfl,h⟩:=hv;simpa [AV.cells,Value.cells]using h
 ·have hc:x.cells=[x]:=by
   cases x with
   | agg cs=>exact absurd ⟨cs,rfl⟩ hx
   |_=>rfl
  rw[hc]at ho ⊢;simp only[Cc,Bool.and_true]at ho;rw[SU (QH ho hv)];simp[VRs,hv]
mutual
theorem HX:∀ x:AV,x.kill [] []=x
 |.undef=>by simp[AV.kill]
 |.v x=>by simp[AV.kill]
 |.agg cs=>by simp[AV.kill,DJ cs]
 |.tup cs=>by simp[AV.kill,DJ cs]
 |.sl (.own r lo) n es=>by simp[AV.kill]
 |.sl .no n es=>by simp[AV.kill]
 |.sl .full n es=>by simp[AV.kill]
 |.ptr s off=>by simp[AV.kill]
 |.ep (.own r lo) i cells off=>by simp[AV.kill]
 |.ep .no i cells off=>by simp[AV.kill]
 |.ep .full i cells off=>by simp[AV.kill]
 |.fn f AU=>by simp[AV.kill,DJ AU]
 |.mv f AU=>by simp[AV.kill,DJ AU]
 |.mp s=>by simp[AV.kill]
 |.ifc t x=>by simp[AV.kill,HX x]
 |.hnd k r i j off m bss=>by simp[AV.kill]
 |.mem b xs=>by simp[AV.kill,DJ xs]
theorem DJ:∀ cs:List AV,Ej [] [] cs=cs
 |[]=>by simp[Ej]
 | c::cs=>by simp[Ej,HX c,DJ cs]
end
theorem I8:∀ l,LN [] [] l=l
 |[]=>rfl
 |(k,x)::l=>by simp[LN,HX,I8 l]
theorem I7:∀ l,Hk [] [] l=l
 |[]=>rfl
 |(k,x)::l=>by simp[Hk,DJ,I7 l]
theorem Mv(st:St):st.kill [] []=st:=by simp[St.kill,I8,I7]
end
def FL{α:Type}(k:Nat)(x:α):List (Nat × α)→List (Nat × α)
 |[]=>[]
 |(j,y)::l=>if j=k then (j,x)::l else (j,y)::FL k x l
theorem V9{α:Type}(k:Nat)(x:α)(j:Nat):∀ l:List (Nat × α),lk j (FL k x l)=if j=k then (lk j l).map (fun _=>x) else lk j l
 |[]=>by simp[FL,lk]
 |(i,y)::l=>by
  simp only[FL]
  by_cases hik:i=k
  ·subst hik
   by_cases hij:i=j
   ·subst hij;simp[lk]
   ·simp only[if_true,lk,hij,if_false];have:j≠i:=fun e=>hij e.symm
    simp[this]
  ·simp only[hik,if_false,lk]
   by_cases hij:i=j
   ·subst hij;simp[hik]
   ·simp only[hij,if_false];exact V9 k x j l
def cut(L:List AV)(off:Nat)(cs:List AV):List AV:=L.take off++cs++L.drop (off+cs.length)
section
variable {C:Ctx} {A:A0} {N:Nat} {g g':Gh} {st:St} {a:Act} {w w':World} {P:Program}
theorem Od{b s:Nat}(h:g.own b=.box s)(cs:Array Value):Lasts [] [] g w g (w.setRow b cs) where
 ro:=fun k hk ho=>⟨ho,setRow_other w b k cs (fun e=>by subst e;rw[h]at ho;cases ho)⟩
 row:=fun k q hk _ ho=>⟨ho,setRow_other w b k cs (fun e=>by subst e;rw[h]at ho;cases ho)⟩
 rows:=fun _ _=>rfl
 boxes:=fun _ _=>rfl
 inn:=fun k q i hk _ ho=>⟨ho,setRow_other w b k cs (fun e=>by subst e;rw[h]at ho;cases ho)⟩
 inns:=fun _ _ _=>rfl
theorem JT{t:TypeId}{n:Nat}{b o:Nat}{T:TypeId}{cur:Array Value}{v:Value}(h2:BJ P t=some n)(hn:v.cells.size=n)(hg:w.heap[b]?=some (.cells cur T (0,0)))
 (hle:o+n≤cur.size) (h1:∀ u∈v.cells.toList,u.oneCell'=true) :
 (storeVar t ⟨b,o,none⟩ v).run P w=.ok () (w.setRow b (cur.toList.take o++v.cells.toList++cur.toList.drop (o+n)).toArray):=by
 unfold storeVar;simp only[Sem.run_bind,run_sizeOf h2,Result.andThen_ok,ne_eq,hn,not_true,if_false];have:=run_storeCells_at P b o T v.cells.toList 0 cur w hg (by rw[Array.length_toList,hn];omega) h1;simpa [hn]using this
theorem R.ai(h:R C A N g st a w){t:TypeId}{n:Nat}(h2:BJ P t=some n){s off:Nat}(hmp:isMap s=false){cs:List AV}(hs:lk s st.Al=some cs){x:AV}{u:Value}(hx:VR g w x u)(ho:Cc x.cells=true)
 (hn:x.cells.length=n) (hle:off+n≤cs.length) :
 ∃ w',(Instr.storeAt t (.pointer (some ⟨g.box s,off,none⟩)) u).run P w=.ok () w'∧R C A N g ⟨st.tmps,FL s (cut cs off x.cells) st.Al⟩ a w':=by
 have hown:=(h.ob s cs hs).1;obtain⟨cur,T,hh,hv⟩:=(h.ob s cs hs).cells hmp;have hxc:=VR.cells hx ho;have hul:u.cells.size=n:=by rw[← hn,VRs.length hxc];simp
 have hcl:cs.length=cur.size:=by rw[VRs.length hv];simp
 have hrun:=JT (P:=P) (w:=w) (o:=off) h2 hul hh (by omega) (Is ho hxc);generalize hnew:(cur.toList.take off++u.cells.toList++cur.toList.drop (off+n)).toArray=new at hrun;refine⟨w.setRow (g.box s) new,by simpa [Instr.storeAt,Instr.sureAddr]using hrun,?_⟩;have hl:=Od (w:=w) hown new;have hfr:Fr C A g (w.setRow (g.box s) new):=h.fr.step hl rfl ⟨rfl,by first|exact Nat.le_refl _|exact Nat.le_succ _⟩ rfl (by simp) (fun b hb hb'=>⟨hb',setRow_other w _ b _ (fun e=>by subst e;rw[hown]at hb';cases hb')⟩) (fun _ _ he=>by cases he);refine⟨h.size,h.defs,fun k y hy=>?_,fun q cs' hq=>?_,hfr⟩
 ·obtain⟨v,h1,h2⟩:=h.tm k y hy;exact⟨v,h1,by have:=VR.lasts hl y v h2;rwa [HX]at this⟩
 ·simp only[V9]at hq
  by_cases hqs:q=s
  ·subst hqs;simp only[if_true,hs,Option.map_some,Option.some.injEq]at hq;subst hq;refine⟨hown,.inl ⟨hmp,new,T,setRow_heap w _ cur new T _ hh,?_⟩⟩;have lift:∀ {ds:List AV} {vs:List Value},VRs g w ds vs→VRs g (w.setRow (g.box q) new) ds vs:=fun hd=>by have:=VRs.lasts hl _ _ hd;rwa [DJ]at this
   unfold cut;have e:new.toList=cur.toList.take off++u.cells.toList++cur.toList.drop (off+n):=by rw[← hnew]
   rw[hn,e];exact VRs.append (VRs.append (lift (VRs.take off hv)) (lift hxc)) (lift (VRs.drop (off+n) hv))
  ·simp only[hqs,if_false]at hq;have h1:=(h.ob q cs' hq).1;refine(h.ob q cs' hq).lift rfl h1 (setRow_other w _ _ _ (fun e=>by rw[e,hown]at h1;injection h1 with h1;exact hqs h1.symm)) (fun us h4=>by have:=VRs.lasts hl _ _ h4;rwa [DJ]at this)
end
end Go.Abs
namespace Go.Abs
def Bg(P:Program)(t:TypeId):Option (TypeId × Nat × Nat) :=
 match P.underlying t with
 |some (.slice e)=>match P.info? e with
  |some i=>match i.zero with
   |some z=>if z.cells.size=i.size∧0<i.size∧i.bytes≤32768 then some (e,i.size,i.bytes) else none
   |none=>none
  |none=>none
 |_=>none
theorem Dr{P:Program}{t e n b:Nat}(h:Bg P t=some (e,n,b)):P.underlying t=some (.slice e)∧∃ i z,P.info? e=some i∧i.zero=some z∧z.cells.size=n∧i.size=n∧i.bytes=b∧0<n∧b≤32768:=by
 unfold Bg at h;split at h
 ·rename_i e' he;split at h
  ·rename_i i hi;split at h
   ·rename_i z hz;split at h
    ·rename_i hc;simp only[Option.some.injEq,Prod.mk.injEq]at h;obtain⟨rfl,rfl,rfl⟩:=h;exact⟨he,i,z,hi,hz,hc.1,rfl,rfl,hc.2.1,hc.2.2⟩
    ·cases h
   ·cases h
  ·cases h
 ·cases h
def AI(P:Program)(t:TypeId):Bool:=match P.underlying t with
 |some (.slice _)=>true
 |_=>false
section
variable {P:Program} {w:World}
theorem FE{size n:Nat}{x:Value}{news:List Value}(hl:news.length=n*size)(hx:(∃ a c,x=.slice (some a) n c∧∀ (j:Nat) (v:Value),news[j]?=some v→w.cell? (a.add j)=some v)∨(n=0∧∃ c,x=.slice none 0 c)) :
 (Builtin.firstCells size n x).run P w=.ok news.toArray w:=by
 rcases hx with ⟨a,c,rfl,h⟩|⟨rfl,c,rfl⟩
 ·exact run_firstCells_some (P:=P) w size n a n c news hl h
 ·have:news=[]:=List.eq_nil_of_length_eq_zero (by simpa using hl);subst this;simp[Builtin.firstCells]
def PF(w:World)(size m:Nat)(x:Value)(news:List Value):Prop :=
 news.length=m*size∧((∃ a c,x=.slice (some a) m c∧∀ (j:Nat) (v:Value),news[j]?=some v→w.cell? (a.add j)=some v)∨(m=0∧∃ c,x=.slice none 0 c))
theorem Fc{t t2 ty e:TypeId}{i:TypeInfo}{z:Value}(ht:P.underlying t=some (.slice e))(ht2:AI P t2=true)(hi:P.info? e=some i)(hz:i.zero=some z)
 {base:Option Addr} {sLen sCap:Nat} {olds:List Value} (ho:PF w i.size sLen (.slice base sLen sCap) olds) {x:Value} {m:Nat} {news:List Value} (hx:PF w i.size m x news)
 (hg:sCap<sLen+m) (hle:sLen≤sCap) (hb:(sLen+m)*i.bytes≤140737488355328) (h63:sLen+m≤9223372036854775807) :
 (Builtin.append_ #[t,t2] ty #[.slice base sLen sCap,x]).run P w =
  .ok (.slice (some ⟨w.heap.size,0,none⟩) (sLen+m) (grownCap w (sLen+m) sCap e))
   (w.drew.alloc (.cells (olds.toArray++news.toArray++Builtin.zeroCells z.cells (grownCap w (sLen+m) sCap e-(sLen+m))) e)):=by
 have hn:¬ (sLen+m≤sCap):=by omega
 have h63':¬ (9223372036854775807<((sLen:Int)+(m:Int))):=by omega
 have hfit:=growslice_fits (need:=sLen+m) (old:=sCap) hg hb;have h48':¬ (281474976710656<Builtin.nextslicecap (sLen+m) sCap*i.bytes):=by omega
 have hf:(Builtin.firstCells i.size m x).run P w.drew=.ok news.toArray w.drew:=FE hx.1 (by
  rcases hx.2 with ⟨a,c,h1,h2⟩|h
  ·exact .inl ⟨a,c,h1,by simpa using h2⟩
  ·exact .inr h)
 have hfo:(Builtin.firstCells i.size sLen (.slice base sLen sCap)).run P w.drew=.ok olds.toArray w.drew:=FE ho.1 (by
  rcases ho.2 with ⟨a,c,h1,h2⟩|h
  ·exact .inl ⟨a,c,h1,by simpa using h2⟩
  ·exact .inr h)
 have hlen:(Builtin.lenOf x).run P w=.ok m w:=by
  rcases hx.2 with ⟨a,c,rfl,_⟩|⟨rfl,c,rfl⟩<;>simp[Builtin.lenOf]
 unfold AI at ht2;split at ht2
 ·rename_i e2 he2;simp[Builtin.append_,run_underlying ht,run_underlying he2,sizeOf,typeInfo,zeroValue,hi,hz,hlen,hn,h63',h48',Question.forced,hf,hfo,newRow,grownCap];congr 2;apply Array.ext';simp[List.append_assoc]
 ·cases ht2
theorem Ey{t t2 ty e:TypeId}{i:TypeInfo}(ht:P.underlying t=some (.slice e))(ht2:AI P t2=true)(hi:P.info? e=some i)
 {base:Option Addr} {sLen sCap:Nat} {x:Value} (hx:PF w i.size 0 x []) (hle:sLen≤sCap) :
 (Builtin.append_ #[t,t2] ty #[.slice base sLen sCap,x]).run P w=.ok (.slice base sLen sCap) w:=by
 have hf:(Builtin.firstCells i.size 0 x).run P w=.ok #[] w:=FE (news:=[]) hx.1 hx.2;have hlen:(Builtin.lenOf x).run P w=.ok 0 w:=by
  rcases hx.2 with ⟨a,c,rfl,_⟩|⟨_,c,rfl⟩<;>simp[Builtin.lenOf]
 unfold AI at ht2;split at ht2
 ·rename_i e2 he2;cases base<;>simp[Builtin.append_,run_underlying ht,run_underlying he2,sizeOf,typeInfo,hi,hlen,hle,hf,storeCells]
 ·cases ht2
theorem Jh{t t2 ty e:TypeId}{i:TypeInfo}(ht:P.underlying t=some (.slice e))(ht2:AI P t2=true)(hi:P.info? e=some i)
 {b sLen sCap:Nat} {T:TypeId} {cur:Array Value} (hb:w.heap[b]?=some (.cells cur T (0,0))) {x:Value} {m:Nat} {news:List Value} (hx:PF w i.size m x news)
 (h1:∀ u∈news,u.oneCell'=true) (hroom:sLen+m≤sCap) (hfit:sLen*i.size+news.length≤cur.size) :
 (Builtin.append_ #[t,t2] ty #[.slice (some ⟨b,0,none⟩) sLen sCap,x]).run P w =
  .ok (.slice (some ⟨b,0,none⟩) (sLen+m) sCap) (w.setRow b (cur.toList.take (sLen*i.size)++news++cur.toList.drop (sLen*i.size+news.length)).toArray):=by
 have hf:(Builtin.firstCells i.size m x).run P w=.ok news.toArray w:=FE hx.1 hx.2;have hlen:(Builtin.lenOf x).run P w=.ok m w:=by
  rcases hx.2 with ⟨a,c,rfl,_⟩|⟨rfl,c,rfl⟩<;>simp[Builtin.lenOf]
 have hst:=run_storeCells_at P b (sLen*i.size) T news 0 cur w hb (by simpa using hfit) h1;simp only[Nat.add_zero]at hst;unfold AI at ht2;split at ht2
 ·rename_i e2 he2;simp[Builtin.append_,run_underlying ht,run_underlying he2,sizeOf,typeInfo,hi,hlen,hroom,hf,add_lit,hst]
 ·cases ht2
end
section
variable {C:Ctx} {A:A0} {N:Nat} {g g':Gh} {st:St} {a:Act} {w w':World} {P:Program}
def elems(n:Nat):AV→Option (List (List AV))
 |.v (.slice _ 0 _)=>some []
 |.sl _ m es=>if m=n then some es else none
 |_=>none
theorem Gs{n:Nat}{x:AV}{es:List (List AV)}{u:Value}(hn:0<n)(h:elems n x=some es)(hv:VR g w x u) :
 ∃ us:List Value,PF w n es.length u us∧PRl (BM g) w es.flatten us∧(∀ e∈es,e.length=n):=by
 unfold elems at h;split at h
 ·rename_i a0 c0;simp at h;subst h;simp only[VR]at hv;subst hv;refine⟨[],⟨by simp,?_⟩,by simp[PRl],by simp⟩;cases a0 with
  |none=>exact .inr ⟨rfl,c0,rfl⟩
  |some a'=>exact .inl ⟨a',c0,rfl,by simp⟩
 ·rename_i t m es';split at h
  ·rename_i hm;simp at h;subst h;subst hm
   by_cases ho:∃ r lo,t=.own r lo
   ·obtain⟨r,lo,rfl⟩:=ho;simp only[VR,Cq]at hv;obtain⟨_,⟨rfl,rfl⟩|⟨_,rfl,a',cap,rfl,_⟩|⟨cap,cur,T,rfl,h2,h3,h5,h6,h7,h8⟩⟩:=hv
    ·exact⟨[],⟨by simp,.inr ⟨rfl,0,rfl⟩⟩,by simp[PRl],by simp⟩
    ·refine⟨[],⟨by simp,?_⟩,by simp[PRl],by simp⟩;cases a' with
     |none=>exact .inr ⟨rfl,cap,rfl⟩
     |some a'=>exact .inl ⟨a',cap,rfl,by simp⟩
    ·obtain⟨us,k1,k2,k3⟩:=PRe.list es' _ m 0 h8;exact⟨us,⟨k2,.inl ⟨_,cap,rfl,fun j v hj=>by simpa using k3 j v hj⟩⟩,k1,PRe.lens h8⟩
   ·have hp:PR (BM g) w (.sl t m es') u:=by
     cases t with
     | own r lo=>exact absurd ⟨r,lo,rfl⟩ ho
     | no=>simpa [VR]using hv
     | full=>simpa [VR]using hv
    simp only[PR]at hp;obtain⟨_,a',cap,rfl,h2,h3,h4,h5,rfl|⟨ad,rfl,h7,h8⟩⟩:=hp
    ·refine⟨[],⟨by simp,?_⟩,by simp[PRl],by simp⟩;cases a' with
     |none=>exact .inr ⟨rfl,cap,rfl⟩
     |some a'=>exact .inl ⟨a',cap,rfl,by simp⟩
    ·obtain⟨us,k1,k2,k3⟩:=PRe.list es' _ m 0 h8;exact⟨us,⟨k2,.inl ⟨_,cap,rfl,fun j v hj=>by simpa using k3 j v hj⟩⟩,k1,PRe.lens h8⟩
  ·cases h
 ·cases h
end
def MC(k n:Nat)(st:St)(x y:AV):Option (AV × St) :=
 match elems n x,elems n y with
 |some es,some fs=>if es.length+fs.length≤4294967296 then match x with
  |.v (.slice none 0 0)=>some (.sl (.own k 0) n (es++fs),st.kill [k] [])
  |.sl (.own r 0) _ _=>some (.sl (.own k 0) n (es++fs),st.kill [r,k] [])
  |_=>none
  else none
 |_,_=>none
section
variable {C:Ctx} {A:A0} {N:Nat} {g g':Gh} {st:St} {a:Act} {w w':World} {P:Program}
theorem Qs(g:Gh)(w:World)(S T:List Nat):Lasts S T g w g w:=⟨fun _ _ h=>⟨h,rfl⟩,fun _ _ _ _ h=>⟨h,rfl⟩,fun _ _=>rfl,fun _ _=>rfl,fun _ _ _ _ _ h=>⟨h,rfl⟩,fun _ _ _=>rfl⟩
theorem V5(g:Gh)(w:World)(S T:List Nat):Lasts S T g w g w.drew:=⟨fun _ _ h=>⟨h,rfl⟩,fun _ _ _ _ h=>⟨h,rfl⟩,fun _ _=>rfl,fun _ _=>rfl,fun _ _ _ _ _ h=>⟨h,rfl⟩,fun _ _ _=>rfl⟩
theorem R.drew(h:R C A N g st a w):R C A N g st a w.drew:=by
 have hl:=V5 g w [] [];have:=h.lasts hl (h.fr.step hl rfl ⟨rfl,by first|exact Nat.le_refl _|exact Nat.le_succ _⟩ rfl (Nat.le_refl _) (fun b _ ho=>⟨ho,rfl⟩) (fun _ _ he=>by cases he)) (fun s cs hs _=>⟨(h.ob s cs hs).1,rfl⟩)
 rwa [Mv]at this
theorem R.kill(h:R C A N g st a w)(S T:List Nat)(hT:∀ s∈A.ext,s∉T):R C A N g (st.kill S T) a w:=by
 have hl:=Qs g w S T;exact h.lasts hl (h.fr.step hl rfl ⟨rfl,by first|exact Nat.le_refl _|exact Nat.le_succ _⟩ rfl (Nat.le_refl _) (fun b _ ho=>⟨ho,rfl⟩) hT) (fun s cs hs _=>⟨(h.ob s cs hs).1,rfl⟩)
theorem TE{cs:List AV}{us:List Value}(h:PRl (BM g) w cs us):PRl (BM g) w.drew cs us:=PRl.mono (w:=w) (w':=w.drew) (fun _ _ h=>⟨h,rfl⟩) h
theorem R.NL(h:R C A N g st a w){k n:Nat}{S:List Nat}(hk:k∈S){e:TypeId}{z:Value}(hzs:z.cells.size=n)(hn:0<n){es fs:List (List AV)}{us vs:List Value}
 (h1:PRl (BM g) w es.flatten us) (h2:PRl (BM g) w fs.flatten vs) (hl1:∀ e∈es,e.length=n) (hl2:∀ e∈fs,e.length=n) (hu:us.length=es.length*n) (hv:vs.length=fs.length*n)
 {cap:Nat} (hcap:es.length+fs.length≤cap) (hm:cap≤maxLen) :
 ∃ g',R C A N g' (st.kill S []) a (w.drew.alloc (.cells (us.toArray++vs.toArray++Builtin.zeroCells z.cells (cap-(es.length+fs.length))) e)) ∧
  VR g' (w.drew.alloc (.cells (us.toArray++vs.toArray++Builtin.zeroCells z.cells (cap-(es.length+fs.length))) e)) (.sl (.own k 0) n (es++fs)) (.slice (some ⟨w.heap.size,0,none⟩) (es.length+fs.length) cap):=by
 have:=h.drew.newRow k S hk (us.toArray++vs.toArray++Builtin.zeroCells z.cells (cap-(es.length+fs.length))) e n cap (es++fs) (us++vs) hn
  (fun e he=>(List.mem_append.1 he).elim (hl1 e) (hl2 e))
  (by rw[List.flatten_append];exact PRl.append (TE h1) (TE h2))
  (by
   simp only[Array.size_append,List.size_toArray,size_zeroCells,hzs,hu,hv];rw[← Nat.add_mul,← Nat.add_mul];congr 1;omega)
  (by simpa using hcap) hm
  (fun j v hj=>by
   have hj':j<(us++vs).length:=by
    rcases Nat.lt_or_ge j (us++vs).length with h|h
    ·exact h
    ·rw[List.getElem?_eq_none h]at hj;cases hj
   rw[Array.getElem?_append_left (by simpa using hj')];simpa using hj)
 obtain⟨g',k1,k2⟩:=this;refine⟨g',k1,?_⟩;rw[List.length_append]at k2;exact k2
theorem SN(hR:R C A N g st a w){t t2 ty e n b k:Nat}(ht:Bg P t=some (e,n,b))(ht2:AI P t2=true){x y z:AV}{ux uy:Value}(hx:VR g w x ux)(hy:VR g w y uy){st':St}
 (ha:MC k n st x y=some (z,st')):∃ u w' g',(Builtin.append_ #[t,t2] ty #[ux,uy]).run P w=.ok u w'∧R C A N g' st' a w'∧VR g' w' z u:=by
 obtain⟨hu,i,zv,hi,hz,hzs,hsz,hby,hn,hb⟩:=Dr ht;subst hsz;unfold MC at ha;split at ha
 ·rename_i es fs hes hfs;split at ha
  ·rename_i hlen;obtain⟨vs,sy,py,ly⟩:=Gs hn hfs hy;obtain⟨us,sx,px,lx⟩:=Gs hn hes hx;have hbytes:(es.length+fs.length)*i.bytes≤140737488355328:=by
    have:(es.length+fs.length)*i.bytes≤4294967296*32768:=Nat.mul_le_mul hlen (by omega);omega
   have hcapm:∀ old,grownCap w (es.length+fs.length) old e≤maxLen:=fun old=>grownCap_le_maxLen w _ old e (by simp only[maxLen];omega)
   have hcapge:∀ old,es.length+fs.length≤grownCap w (es.length+fs.length) old e:=fun old=>grownCap_ge w _ old e
   split at ha
   ·-- nil
    simp only[Option.some.injEq,Prod.mk.injEq]at ha;obtain⟨rfl,rfl⟩:=ha;have hnil:es=[]:=by
     simp only[elems,Option.some.injEq]at hes;exact hes.symm
    subst hnil;simp only[VR]at hx;subst hx
    by_cases hm:fs.length=0
    ·have hf:fs=[]:=List.eq_nil_of_length_eq_zero hm;subst hf;have hv0:vs=[]:=List.eq_nil_of_length_eq_zero (by simpa using sy.1);subst hv0;exact⟨_,_,g,Ey hu ht2 hi sy (Nat.le_refl 0),hR.kill [k] [] (fun _ _ h=>by cases h),by simp only[VR,Cq,List.append_nil];exact⟨hn,.inl ⟨trivial,trivial⟩⟩⟩
    ·have hrun:=Fc (ty:=ty) hu ht2 hi hz (base:=none) (sLen:=0) (sCap:=0) (olds:=[]) ⟨by simp,.inr ⟨rfl,0,rfl⟩⟩ sy (by omega) (Nat.le_refl 0) (by simpa using hbytes) (by simp at hlen;omega);obtain⟨g',k1,k2⟩:=hR.NL (k:=k) (S:=[k]) (by simp) (e:=e) hzs hn (es:=[]) (us:=[]) (by simp[PRl]) py (by simp) ly (by simp) sy.1 (hcapge 0) (hcapm 0);simp only[List.length_nil,Nat.zero_add]at hrun k1 k2;exact⟨_,_,g',hrun,k1,k2⟩
   ·rename_i r m es';simp only[Option.some.injEq,Prod.mk.injEq]at ha;obtain⟨rfl,rfl⟩:=ha;have hes':m=i.size∧es'=es:=by
     simp only[elems]at hes;split at hes
     ·rename_i hm;simp at hes;exact⟨hm,hes⟩
     ·cases hes
    obtain⟨rfl,rfl⟩:=hes';simp only[VR,Cq]at hx;obtain⟨_,⟨rfl,rfl⟩|⟨h0,_⟩|⟨cap,cur,T,rfl,h2,h3,h5,h6,h7,h8⟩⟩:=hx
    ·by_cases hm:fs.length=0
     ·have hf:fs=[]:=List.eq_nil_of_length_eq_zero hm;subst hf;have hv0:vs=[]:=List.eq_nil_of_length_eq_zero (by simpa using sy.1);subst hv0;exact⟨_,_,g,Ey hu ht2 hi sy (Nat.le_refl 0),hR.kill [r,k] [] (fun _ _ h=>by cases h),by simp only[VR,Cq,List.append_nil];exact⟨hn,.inl ⟨trivial,trivial⟩⟩⟩
     ·have hrun:=Fc (ty:=ty) hu ht2 hi hz (base:=none) (sLen:=0) (sCap:=0) (olds:=[]) ⟨by simp,.inr ⟨rfl,0,rfl⟩⟩ sy (by omega) (Nat.le_refl 0) (by simpa using hbytes) (by simp at hlen;omega);obtain⟨g',k1,k2⟩:=hR.NL (k:=k) (S:=[r,k]) (by simp) (e:=e) hzs hn (es:=[]) (us:=[]) (by simp[PRl]) py (by simp) ly (by simp) sy.1 (hcapge 0) (hcapm 0);simp only[List.length_nil,Nat.zero_add]at hrun k1 k2;exact⟨_,_,g',hrun,k1,k2⟩
    ·omega
    ·simp only[Nat.zero_mul,Nat.zero_add]at h7 h8 sx ⊢
     by_cases hroom:es'.length+fs.length≤cap
     ·-- in place
      have hfit:es'.length*i.size+vs.length≤cur.size:=by
       rw[sy.1,← Nat.add_mul];exact Nat.le_trans (Nat.mul_le_mul_right _ hroom) h7
      have hrun:=Jh (ty:=ty) hu ht2 hi h6 sy (PRl.one py) hroom hfit;generalize hnew:(cur.toList.take (es'.length*i.size)++vs++cur.toList.drop (es'.length*i.size+vs.length)).toArray=new at hrun;have hnb:∀ b',b'≠g.row r→(w.setRow (g.row r) new).heap[b']?=w.heap[b']?:=fun b' hb'=>setRow_other w _ b' new hb'
      have hl:Lasts [r,k] [] g w (g.newRow (g.row r) k) (w.setRow (g.row r) new):=by
       refine⟨fun b' _ ho=>?_,fun b' q _ hq ho=>?_,fun q hq=>?_,fun _ _=>rfl,fun b' q i _ hq ho=>?_,fun _ _ _=>rfl⟩
       ·have hne:b'≠g.row r:=fun e=>by rw[e,h5]at ho;cases ho
        exact⟨by simp[Gh.newRow,hne,ho],hnb b' hne⟩
       ·have hne:b'≠g.row r:=fun e=>by rw[e,h5]at ho;injection ho with ho;exact hq (by simp[ho])
        exact⟨by simp[Gh.newRow,hne,ho],hnb b' hne⟩
       ·have:q≠k:=fun e=>hq (by simp[e])
        simp[Gh.newRow,this]
       ·have hne:b'≠g.row r:=fun e=>by rw[e,h5]at ho;cases ho
        exact⟨by simp[Gh.newRow,hne,ho],hnb b' hne⟩
      refine⟨_,_,g.newRow (g.row r) k,hrun,?_,?_⟩
      ·refine hR.lasts hl (hR.fr.step hl rfl ⟨rfl,by first|exact Nat.le_refl _|exact Nat.le_succ _⟩ rfl (by simp) (fun b' _ ho=>?_) (fun _ _ h=>by cases h)) (fun s cs hs _=>?_)
       ·have hne:b'≠g.row r:=fun e=>by rw[e,h5]at ho;cases ho
        exact⟨by simp[Gh.newRow,hne,ho],hnb b' hne⟩
       ·have ho:=(hR.ob s cs hs).1;have hne:g.box s≠g.row r:=fun e=>by rw[e,h5]at ho;cases ho
        exact⟨by simp[Gh.newRow,hne,ho],hnb _ hne⟩
      ·simp only[VR,Cq];have hrow:(g.newRow (g.row r) k).row k=g.row r:=by simp[Gh.newRow]
       refine⟨hn,.inr (.inr ⟨cap,new,T,?_,?_,by omega,?_,?_,?_,?_⟩)⟩
       ·rw[hrow];simp
       ·simpa using hroom
       ·rw[hrow];simp[Gh.newRow]
       ·rw[hrow];exact setRow_heap w _ cur new T _ h6
       ·rw[← hnew];simp only[List.size_toArray,List.length_append,List.length_take,List.length_drop,Array.length_toList];rw[Nat.zero_add,Nat.min_eq_left (by omega)];omega
       ·rw[hrow];refine PRe.C4 (es'++fs) (us++vs) _ _ 0 (fun e he=>(List.mem_append.1 he).elim (lx e) (ly e)) ?_ ?_
        ·rw[List.flatten_append];exact PRl.append (PRl.mono hl.ro' px) (PRl.mono hl.ro' py)
        ·intro j v hj;simp only[Nat.zero_mul,Nat.zero_add,add_lit];rw[cell_of_row _ _ _ _ _ _ (setRow_heap w _ cur new T _ h6),← hnew];have hux:us.length=es'.length*i.size:=sx.1;have htake:cur.toList.take (es'.length*i.size)=us:=by
          apply List.ext_getElem?;intro q;rw[List.getElem?_take]
          by_cases hq:q<es'.length*i.size
          ·rw[if_pos hq];have hq':us[q]?=some (us[q]'(by omega)):=List.getElem?_eq_getElem (by omega);rcases sx.2 with ⟨a',c',he,hcell⟩|⟨h0,_⟩
           ·injection he with he1 he2 he3
            simp only[Option.some.injEq]at he1;have:=hcell q _ hq';rw[← he1,add_lit,cell_of_row _ _ _ _ _ _ h6]at this;rw[hq'];simpa using this
           ·rw[h0]at hq;simp at hq
          ·rw[if_neg hq,List.getElem?_eq_none (by omega)]
         rw[htake];have hj':j<(us++vs).length:=by
          rcases Nat.lt_or_ge j (us++vs).length with h|h
          ·exact h
          ·rw[List.getElem?_eq_none h]at hj;cases hj
         simp only[List.getElem?_toArray];rw[List.getElem?_append_left hj'];exact hj
     ·have hrun:=Fc (ty:=ty) hu ht2 hi hz (base:=some ⟨g.row r,0,none⟩) (sLen:=es'.length) (sCap:=cap) (olds:=us) sx sy (by omega) h2 hbytes (by omega);obtain⟨g',k1,k2⟩:=hR.NL (k:=k) (S:=[r,k]) (by simp) (e:=e) hzs hn px py lx ly sx.1 sy.1 (hcapge cap) (hcapm cap);exact⟨_,_,g',hrun,k1,k2⟩
   ·cases ha
  ·cases ha
 ·cases ha
end
end Go.Abs
namespace Go.Abs
def zeroOf(P:Program)(t:TypeId):Option (List Value):=((P.info? t).bind (·.zero)).map (·.cells.toList)
def vals(zs:List Value):List AV:=zs.map .v
def Kz(place:Nat→Option (Nat × Nat))(L:List AV):List (Nat × AV)→Option (List AV)
 |[]=>some L
 |(i,x)::rest=>match place i with
  |none=>none
  |some (off,size)=>if Cc x.cells=true∧x.cells.length=size∧off+size≤L.length then Kz place (cut L off x.cells) rest else none
def chunk(n:Nat):Nat→List AV→List (List AV)
 | 0,_=>[]
 | k+1,L=>L.take n::chunk n k (L.drop n)
theorem NQ(n:Nat):∀ (k:Nat) (L:List AV),L.length=k*n→(chunk n k L).length=k∧(∀ e∈chunk n k L,e.length=n)∧(chunk n k L).flatten=L
 | 0,L,h=>by
  have:L=[]:=List.eq_nil_of_length_eq_zero (by simpa using h);subst this;simp[chunk]
 | k+1,L,h=>by
  have hn:n≤L.length:=by rw[h,Nat.add_mul];omega
  obtain⟨h1,h2,h3⟩:=NQ n k (L.drop n) (by simp[h,Nat.add_mul]);refine⟨by simp[chunk,h1],fun e he=>?_,by simp[chunk,h3]⟩;simp only[chunk]at he;rcases List.mem_cons.1 he with rfl|he
  ·simp;omega
  ·exact h2 e he
section
variable {C:Ctx} {A:A0} {N:Nat} {g g':Gh} {st:St} {a:Act} {w w':World} {P:Program}
theorem GM(zs:List Value):VRs g w (vals zs) zs:=by
 induction zs with
 | nil=>simp[vals,VRs]
 | cons z zs ih=>simp only[vals,List.map_cons,VRs];exact⟨by simp[VR],ih⟩
theorem XT(v:List Value):∀ (k off:Nat) (arr:Array Value),off+k+v.length≤arr.size →
 ((v.zipIdx k).foldl (fun cs (p:Value × Nat)=>cs.setIfInBounds (off+p.2) p.1) arr).toList=arr.toList.take (off+k)++v++arr.toList.drop (off+k+v.length):=by
 induction v with
 | nil=>intro k off arr _;simp
 | cons x v ih =>
  intro k off arr h;simp only[List.length_cons]at h;simp only[List.zipIdx_cons,List.foldl_cons];rw[ih (k+1) off _ (by simp;omega)];simp only[Array.toList_setIfInBounds,List.length_cons];have hlt:off+k<arr.toList.length:=by simp;omega
  rw[show off+(k+1)=(off+k)+1 from by omega];rw[List.take_succ_eq_append_getElem (by simpa using hlt)];simp only[List.getElem_set_self,List.take_set_of_le (Nat.le_refl _),List.append_assoc,List.cons_append];rw[List.drop_set_of_lt (by omega),show off+k+1+v.length=off+k+(v.length+1) from by omega];rfl
theorem XU(v:Array Value)(off:Nat)(arr:Array Value)(h:off+v.size≤arr.size) :
 (v.zipIdx.foldl (fun cs (p:Value × Nat)=>cs.setIfInBounds (off+p.2) p.1) arr).toList=arr.toList.take off++v.toList++arr.toList.drop (off+v.size):=by
 have:=XT v.toList 0 off arr (by simpa using h);simp only[Nat.add_zero,Array.length_toList]at this;rw[← this,← Array.foldl_toList];simp
theorem JD(place:Nat→Option (Nat × Nat)):∀ (parts:List (Nat × AV)) (pv:List (Nat × Value)) (L:List AV) (cur:Array Value) (L':List AV),
 parts.map (·.1)=pv.map (·.1)→VRs g w (parts.map (·.2)) (pv.map (·.2))→VRs g w L cur.toList→Kz place L parts=some L'→∃ cur',Instr.fill place cur pv=some cur'∧VRs g w L' cur'.toList
 |[],[],L,cur,L',_,_,hL,h=>by
  simp only[Kz,Option.some.injEq]at h;subst h;exact⟨cur,by simp[Instr.fill],hL⟩
 |[],_::_,_,_,_,h,_,_,_=>by simp at h
 |_::_,[],_,_,_,h,_,_,_=>by simp at h
 |(i,x)::parts,(j,v)::pv,L,cur,L',hi,hp,hL,h=>by
  simp only[List.map_cons,List.cons.injEq]at hi;obtain⟨rfl,hi⟩:=hi;simp only[List.map_cons,VRs]at hp;simp only[Kz]at h;split at h
  ·cases h
  ·rename_i off size hpl;split at h
   ·rename_i hc;obtain⟨ho,hs,hle⟩:=hc;have hx:=VR.cells hp.1 ho;have hvs:v.cells.size=size:=by rw[← hs,VRs.length hx];simp
    have hcl:L.length=cur.size:=by rw[VRs.length hL];simp
    have hnot:¬ (v.cells.size≠size∨off+v.cells.size > cur.size):=by omega
    have key:=XU v.cells off cur (by omega);have:=JD place parts pv (cut L off x.cells) (v.cells.zipIdx.foldl (fun cs (p:Value × Nat)=>cs.setIfInBounds (off+p.2) p.1) cur) L' hi hp.2 (by
     rw[key];unfold cut;rw[hs,← hvs];exact VRs.append (VRs.append (VRs.take off hL) hx) (VRs.drop _ hL)) h
    obtain⟨cur',h1,h2⟩:=this;refine⟨cur',?_,h2⟩;have hnot':(decide (v.cells.size≠size)||decide (off+v.cells.size > cur.size))=false:=by
     simp only[Bool.or_eq_false_iff,decide_eq_false_iff_not];exact not_or.1 hnot
    simp only[Instr.fill,hpl,hnot',Bool.false_eq_true,if_false];exact h1
   ·cases h
theorem bF{S:List Nat}:∀ {c p:AV} {u:Value},VR g w c u→Gj c=some p→(∀ r∈rowsOf [c],r∈S)→H2 c=true→PR (BM (g.freeze S)) w p u
 |.undef,_,_,_,_,_,ho=>by simp[H2]at ho
 |.v x,p,u,hv,hp,_,ho=>by
  simp only[Gj,Option.some.injEq]at hp;subst hp;simp only[VR]at hv;simp only[PR];exact⟨hv,ho⟩
 |.sl (.own r 0) n es,p,u,hv,hp,hs,_=>by
  simp only[Gj,Option.some.injEq]at hp;subst hp;have:=VR.freeze (S:=S) _ u hv;have hr:r∈S:=hs r (by simp[rowsOf]);simp only[AV.freeze,hr,if_true]at this;simpa [VR]using this
 |.sl (.own r (lo+1)) n es,p,u,hv,hp,hs,_=>by simp[Gj]at hp
 |.sl .no n es,p,u,hv,hp,hs,_=>by
  simp only[Gj,Option.some.injEq]at hp;subst hp;have:=VR.freeze (S:=S) _ u hv;simpa [VR,AV.freeze]using this
 |.sl .full n es,p,u,hv,hp,hs,_=>by
  simp only[Gj,Option.some.injEq]at hp;subst hp;have:=VR.freeze (S:=S) _ u hv;simpa [VR,AV.freeze]using this
 |.agg _,_,_,_,hp,_,_=>by simp[Gj]at hp
 |.tup _,_,_,_,hp,_,_=>by simp[Gj]at hp
 |.ptr _ _,_,_,_,hp,_,_=>by simp[Gj]at hp
 |.ep _ _ _ _,_,_,_,hp,_,_=>by simp[Gj]at hp
 |.fn f [],p,u,hv,hp,hs,_=>by
  simp only[Gj,Option.some.injEq]at hp;subst hp;simp only[VR]at hv;obtain⟨us,rfl,h⟩:=hv
  match h':us.toList,h with
  |[],_=>simp only[PR];exact⟨trivial,by rw[show us = #[] by simpa using h']⟩
  |_::_,h=>simp[VRs]at h
 |.fn _ (_::_),_,_,_,hp,_,_=>by simp[Gj]at hp
 |.mv _ _,_,_,_,hp,_,_=>by simp[Gj]at hp
 |.mp _,_,_,_,hp,_,_=>by simp[Gj]at hp
 |.ifc _ _,_,_,_,hp,_,_=>by simp[Gj]at hp
 |.mem _ _,_,_,_,hp,_,_=>by simp[Gj]at hp
theorem O9(c:AV)(cs:List AV)(r:Nat):r∈rowsOf (c::cs)↔r∈rowsOf [c]∨r∈rowsOf cs:=by
 cases c with
 | sl t n es =>
  cases t with
  | own q lo=>cases lo<;>simp[rowsOf]
  |_=>simp[rowsOf]
 |_=>simp[rowsOf]
theorem Nq{S:List Nat}:∀ {cs ps:List AV} {us:List Value},VRs g w cs us→K0 cs=some ps→(∀ r∈rowsOf cs,r∈S)→Cc cs=true→PRl (BM (g.freeze S)) w ps us
 |[],_,[],_,hp,_,_=>by simp[K0]at hp;subst hp;simp[PRl]
 |[],_,_::_,h,_,_,_=>by simp[VRs]at h
 |_::_,_,[],h,_,_,_=>by simp[VRs]at h
 | c::cs,ps,u::us,h,hp,hs,ho=>by
  simp only[VRs]at h;simp only[Cc,Bool.and_eq_true]at ho;simp only[K0]at hp;split at hp
  ·rename_i x xs hx hxs;simp only[Option.some.injEq]at hp;subst hp;simp only[PRl];exact⟨bF h.1 hx (fun r hr=>hs r ((O9 c cs r).2 (.inl hr))) ho.1,Nq h.2 hxs (fun r hr=>hs r ((O9 c cs r).2 (.inr hr))) ho.2⟩
  ·cases hp
end
def R7(k n:Nat)(zs:List Value)(st:St)(l c:Int):Option (AV × St) :=
 if 0≤l∧l≤c∧c≤4294967296∧Cc (vals zs)=true then some (.sl (.own k 0) n (List.replicate l.toNat (vals zs)),st.kill [k] []) else none
def Zv(k n len:Nat)(zs:List Value)(st:St)(parts:List (Nat × AV)):Option (AV × St) :=
 match Kz (fun i=>some (i*n,n)) (List.replicate len (vals zs)).flatten parts with
 |some L=>match K0 L with
  |some ps=>if Cc L=true∧ps.length=len*n∧len*n≤16777216 then some (.sl (.own k 0) n (chunk n len ps),(st.freeze (rowsOf L)).kill [k] []) else none
  |none=>if n=1∧0<len∧L.length=len∧len≤16777216 then some (.mem true L,st) else none
 |none=>none
section
variable {C:Ctx} {A:A0} {N:Nat} {g g':Gh} {st:St} {a:Act} {w w':World} {P:Program}
theorem G6{t:TypeId}{zs:List Value}{i:TypeInfo}{z:Value}(h:zeroOf P t=some zs)(hi:P.info? t=some i)(hz:i.zero=some z):zs=z.cells.toList:=by
 simp[zeroOf,hi,hz]at h;exact h.symm
theorem CD(zs:List Value):∀ (l j:Nat) (v:Value),(List.replicate l zs).flatten[j]?=some v→zs[j%zs.length]?=some v∧j<l*zs.length
 | 0,j,v,h=>by simp at h
 | l+1,j,v,h=>by
  rw[List.replicate_succ,List.flatten_cons,List.getElem?_append]at h;split at h
  ·rename_i hj;rw[Nat.mod_eq_of_lt hj];exact⟨h,by rw[Nat.add_mul];omega⟩
  ·rename_i hj;obtain⟨h1,h2⟩:=CD zs l _ v h;refine⟨?_,by rw[Nat.add_mul];omega⟩
   rwa [Nat.mod_eq_sub_mod (by omega)]
theorem Kd{ro:Nat→Prop}:∀ (zs:List Value),Cc (vals zs)=true→PRl ro w (vals zs) zs
 |[],_=>by simp[vals,PRl]
 | z::zs,h=>by
  simp only[vals,List.map_cons,Cc,Bool.and_eq_true,H2]at h;simp only[vals,List.map_cons,PRl,PR];exact⟨⟨trivial,h.1⟩,Kd zs h.2⟩
theorem GG{ro:Nat→Prop}{cs:List AV}{us:List Value}(h:PRl ro w cs us):∀ l:Nat,PRl ro w (List.replicate l cs).flatten (List.replicate l us).flatten
 | 0=>by simp[PRl]
 | l+1=>by
  rw[List.replicate_succ,List.replicate_succ,List.flatten_cons,List.flatten_cons];exact PRl.append h (GG h l)
theorem Wc(hR:R C A N g st a w){t e n b k:Nat}{zs:List Value}(ht:Bg P t=some (e,n,b))(hzs:zeroOf P e=some zs){kl kc:IntKind}{l c:Int}{z:AV}{st':St}(ha:R7 k n zs st l c=some (z,st')) :
 ∃ u w' g',(Instr.makeSlice t (.int kl l) (.int kc c)).run P w=.ok u w'∧R C A N g' st' a w'∧VR g' w' z u:=by
 obtain⟨hu,i,zv,hi,hz,hzsz,hsz,hby,hn,hb⟩:=Dr ht;have hzz:=G6 hzs hi hz;unfold R7 at ha;split at ha
 ·rename_i hc;obtain⟨h0,hlc,hmax,hok⟩:=hc;simp only[Option.some.injEq,Prod.mk.injEq]at ha;obtain⟨rfl,rfl⟩:=ha;have hbytes:(i.bytes:Int)*c≤281474976710656:=by
   have:(i.bytes:Int)*c≤32768*4294967296:=Int.mul_le_mul (by omega) hmax (by omega) (by omega);omega
  have hrun:=run_make (P:=P) w t e i zv hu hi hz kl kc l c h0 hlc hbytes (by omega);have hzl:zs.length=n:=by rw[hzz];simpa using hzsz
  obtain⟨g',k1,k2⟩:=hR.newRow k [k] (by simp) (madeCells zv.cells (c.toNat*i.size)) e n c.toNat (List.replicate l.toNat (vals zs)) (List.replicate l.toNat zs).flatten hn
   (fun e' he=>by rw[List.eq_of_mem_replicate he];simp[vals,hzl])
   (GG (Kd zs hok) _)
   (by rw[size_madeCells,hsz]) (by simp;omega) (by simp only[maxLen];omega)
   (fun j v hj=>by
    obtain⟨h1,h2⟩:=CD zs _ _ _ hj;have hjlt:j<c.toNat*i.size:=by
     rw[hzl]at h2;rw[hsz];exact Nat.lt_of_lt_of_le h2 (Nat.mul_le_mul_right _ (by omega))
    simp only[madeCells];rw[Array.getElem?_map,Array.getElem?_range,if_pos hjlt];simp only[Option.map_some];rw[hzz]at h1;simp only[Array.length_toList,Array.getElem?_toList]at h1;rw[getElem!_def,h1])
  refine⟨_,_,g',hrun,k1,?_⟩;simpa using k2
 ·cases ha
theorem R.ZM(h:R C A N g st a w)(hos:w'.os=w.os)(htape:HN w w')(hout:w'.output=w.output)(hsz:w'.heap.size=w.heap.size+1)(hold:∀ b,b<w.heap.size→w'.heap[b]?=w.heap[b]?) :
 ∃ g',R C A N g' st a w'∧BM g' w.heap.size∧(∀ b,b<w.heap.size→g'.own b=g.own b)∧Lasts [] [] g w g' w':=by
 let g':Gh:={ g with own:=fun x=>if x=w.heap.size then .ro else g.own x }
 have hl:Lasts [] [] g w g' w':=⟨fun b hb ho=>⟨by simp[g',Nat.ne_of_lt hb,ho],hold b hb⟩,fun b q hb _ ho=>⟨by simp[g',Nat.ne_of_lt hb,ho],hold b hb⟩,fun _ _=>rfl,fun _ _=>rfl,fun b q i hb _ ho=>⟨by simp[g',Nat.ne_of_lt hb,ho],hold b hb⟩,fun _ _ _=>rfl⟩;refine⟨g',?_,by simp[g',BM],fun b hb=>by simp[g',Nat.ne_of_lt hb],hl⟩;have:=h.lasts hl (h.fr.step hl hos htape hout (by omega) (fun b hb ho=>⟨by simp[g',Nat.ne_of_lt hb,ho],hold b hb⟩) (fun _ _ he=>by cases he)) (fun s cs hs _=>by
  have ho:=h.ob s cs hs;exact⟨by simp[g',Nat.ne_of_lt ho.lt,ho.1],hold _ ho.lt⟩)
 rwa [Mv]at this
theorem R.ff(h:R C A N g st a w)(hos:w'.os=w.os)(htape:HN w w')(hout:w'.output=w.output)(hsz:w'.heap.size=w.heap.size+1)(hold:∀ b,b<w.heap.size→w'.heap[b]?=w.heap[b]?) :
 ∃ g',R C A N g' st a w'∧BM g' w.heap.size∧(∀ b,b<w.heap.size→g'.own b=g.own b):=by
 obtain⟨g',h1,h2,h3,_⟩:=h.ZM hos htape hout hsz hold;exact⟨g',h1,h2,h3⟩
theorem Ya(hR:R C A N g st a w){t e n b k len:Nat}{zs:List Value}(ht:Bg P t=some (e,n,b))(hzs:zeroOf P e=some zs){parts:List (Nat × AV)}{pv:List (Nat × Value)}
 (hp1:parts.map (·.1)=pv.map (·.1)) (hp2:VRs g w (parts.map (·.2)) (pv.map (·.2))) {z:AV} {st':St} (ha:Zv k n len zs st parts=some (z,st')) :
 ∃ u w' g',(Instr.buildSlice t len pv.toArray).run P w=.ok u w'∧R C A N g' st' a w'∧VR g' w' z u:=by
 obtain⟨hu,i,zv,hi,hz,hzsz,hsz,hby,hn,hb⟩:=Dr ht;have hzz:=G6 hzs hi hz;have hzl:zs.length=n:=by rw[hzz];simpa using hzsz
 unfold Zv at ha;split at ha
 ·rename_i L hL;have hz0:VRs g w (List.replicate len (vals zs)).flatten (List.replicate len zs).flatten:=by
   have:∀ m:Nat,VRs g w (List.replicate m (vals zs)).flatten (List.replicate m zs).flatten:=by
    intro m
    induction m with
    | zero=>simp[VRs]
    | succ m ih=>rw[List.replicate_succ,List.replicate_succ,List.flatten_cons,List.flatten_cons];exact VRs.append (GM zs) ih
   exact this len
  have harr:((Array.range (len*n)).map (zv.cells[·%zv.cells.size]!)).toList=(List.replicate len zs).flatten:=by
   apply List.ext_getElem?;intro j;cases hj:(List.replicate len zs).flatten[j]? with
   |none =>
    have:len*n≤j:=by
     have:=List.getElem?_eq_none_iff.1 hj;simpa [List.length_flatten,hzl,Nat.mul_comm]using this
    simp;omega
   |some v =>
    obtain⟨h1,h2⟩:=CD zs _ _ _ hj;rw[hzl]at h2;simp only[Array.getElem?_toList,Array.getElem?_map,Array.getElem?_range,if_pos h2,Option.map_some];rw[hzz]at h1;simp only[Array.length_toList,Array.getElem?_toList]at h1;rw[getElem!_def,h1]
  obtain⟨cur,hf,hcur⟩:=JD (fun i=>some (i*n,n)) parts pv _ ((Array.range (len*n)).map (zv.cells[·%zv.cells.size]!)) L hp1 hp2 (by rw[harr];exact hz0) hL;split at ha
  ·rename_i ps hps;split at ha
   ·rename_i hc;obtain⟨hok,hpl,hbig⟩:=hc;simp only[Option.some.injEq,Prod.mk.injEq]at ha;obtain⟨rfl,rfl⟩:=ha;have hLl:L.length=len*n:=by
     rw[← hpl];have:∀ (cs ps:List AV),K0 cs=some ps→ps.length=cs.length:=by
      intro cs
      induction cs with
      | nil=>intro ps h;simp[K0]at h;simp[← h]
      | cons c cs ih =>
       intro ps h;simp only[K0]at h;split at h
       ·rename_i x xs hx hxs;simp at h;subst h;simp[ih xs hxs]
       ·cases h
     exact(this L ps hps).symm
    obtain⟨c1,c2,c3⟩:=NQ n len ps hpl;have hpr:=Nq (S:=rowsOf L) hcur hps (fun r hr=>hr) hok;obtain⟨g',k1,k2⟩:=(hR.freeze (rowsOf L)).newRow k [k] (by simp) cur e n len (chunk n len ps) cur.toList hn c2 (by rw[c3];exact hpr)
     (by have:=VRs.length hcur;simp at this;omega) (by omega) (by simp only[maxLen];have:=Nat.le_mul_of_pos_right len hn;omega)
     (fun j v hj=>by simpa using hj)
    refine⟨_,_,g',?_,k1,k2⟩;have hnb:¬ (len*n > 2 ^ 24):=by omega
    have hf':Instr.fill (fun i=>some (i*n,n)) (if len*n=0 then #[] else (Array.range (len*n)).map (zv.cells[·%zv.cells.size]!)) pv=some cur:=by
     by_cases h0:len*n=0
     ·rw[h0]at hf ⊢;simpa [Array.range_zero']using hf
     ·simpa [h0]using hf
    rw[c1]
    by_cases h0:len*n=0
    ·simp only[h0,if_true]at hf';simp[Instr.buildSlice,run_underlying hu,sizeOf,typeInfo,hi,hsz,h0,Array.range_zero',hf',newRow]
    ·simp only[h0,if_false]at hf';simp[Instr.buildSlice,run_underlying hu,sizeOf,typeInfo,hi,hsz,h0,zeroValue,hz,hf',newRow];exact hbig
   ·cases ha
  ·split at ha
   ·rename_i hc;obtain⟨rfl,hpos,hLl,hbig⟩:=hc;simp only[Option.some.injEq,Prod.mk.injEq]at ha;obtain⟨rfl,rfl⟩:=ha;have hcl:cur.size=len:=by have:=VRs.length hcur;simp at this;omega
    obtain⟨g',k1,k2,_,hl⟩:=hR.ZM (w':=w.alloc (.cells cur e)) rfl ⟨rfl,Nat.le_refl _⟩ rfl (by simp) (fun b hb=>alloc_old w _ b hb);refine⟨.slice (some ⟨w.heap.size,0,none⟩) len len,w.alloc (.cells cur e),g',?_,k1,?_⟩
    ·have hnb:¬ (len > 2 ^ 24):=by omega
     have h0:¬ (len=0):=by omega
     simp only[Nat.mul_one]at hf;simp[Instr.buildSlice,run_underlying hu,sizeOf,typeInfo,hi,hsz,h0,zeroValue,hz,hf,newRow];exact hbig
    ·have hv:=VRs.lasts hl _ _ hcur;rw[DJ]at hv;simp only[VR,Vx];refine⟨⟨w.heap.size,0,none⟩,cur.toList,k2,⟨fun he=>?_,fun i hi=>?_⟩,hv,len,by simp[hcl],by simp[hcl],by simp only[maxLen];omega⟩
     ·have h9:cur.toList.length=0:=by rw[he];rfl
      rw[Array.length_toList]at h9;omega
     ·rw[add_lit,cell_of_row _ _ _ _ _ _ (heap_alloc_new w _)];simp
   ·cases ha
 ·cases ha
end
end Go.Abs
