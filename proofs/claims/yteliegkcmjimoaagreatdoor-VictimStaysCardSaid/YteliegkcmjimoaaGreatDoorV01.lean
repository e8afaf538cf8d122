/- part 1 of the proof -/
import Derived.Test.YteliegkcmjimoaaGreatDoorV00
set_option linter.all false
namespace Go.Abs
def Bk(P:Program)(s:TypeId)(f:Nat):Option Nat :=
 match P.underlying s with
 |some (.struct fs)=>match fs[f]? with
  |some fd=>match BW P fd.type with
   |some (_+1)=>some fd.offset
   |_=>none
  |none=>none
 |_=>none
def Oz(off:Nat):AV->Option AV
 |.ptr s o=>some (.ptr s (o+off))
 |.ep t i cs o=>some (.ep t i cs (o+off))
 |_=>none
def As(P:Program)(t:TypeId):Option (TypeId × Nat) :=
 match P.underlying t with
 |some (.slice e)=>(BW P e).map λn=>(e,n)
 |_=>none
def Dj(P:Program)(t:TypeId):Option (Nat × Nat) :=
 match P.underlying t with
 |some (.array len e)=>(BW P e).map λn=>(len,n)
 |_=>none
def QY(n:Nat)(i:Int):AV->Option AV
 |.sl (.own r lo) m es=>if m=n/\0<=i then match es[i.toNat]? with
  |some c=>some (.ep (.own r 0) (lo+i.toNat) c 0)
  |none=>none
  else none
 |.sl t m es=>if m=n/\0<=i then match es[i.toNat]? with
  |some c=>some (.ep .no i.toNat c 0)
  |none=>none
  else none
 |.El .Xl r _ _ _ m bss=>if n=1/\0<=i then match bss[i.toNat]? with
  |some b=>some (.El .dp r i.toNat 0 0 m [b])
  |none=>none
  else none
 |.El .iW r q _ _ m [b]=>if m=n/\0<=i then match b[i.toNat]? with
  |some c=>some (.El .pR r q i.toNat 0 m [[c]])
  |none=>none
  else none
 |.mem true xs=>if n=1/\0<=i then match xs[i.toNat]? with
  |some c=>some (.mem false [c])
  |none=>none
  else none
 |_=>none
def QX(len n:Nat)(i:Int):AV->Option AV
 |.ptr s o=>if 0<=i/\i<len then some (.ptr s (o+i.toNat*n)) else none
 |.ep t j cs o=>if 0<=i/\i<len then some (.ep t j cs (o+i.toNat*n)) else none
 |_=>none
section
variable {C:Ctx} {A:A0} {N:Nat} {g g':Gh} {st:St} {a:Act} {w w':World} {P:Program}
def jI{t:Tag}{i:Nat}{cs:List AV}{o k:Nat}{u:Value}(h:Fz g w t i cs o u):∃ ad:Addr,u=.pointer (some ad)/\Fz g w t i cs (o+k) (.pointer (some (ad.add k))):=by
 cases t with
 | own r lo =>
  simp only[Fz]at h ⊢;obtain⟨cur,T,h1,h2⟩:=h;refine⟨_,h1,cur,T,?_,h2⟩;rw[add_lit,Nat.add_assoc]
 | no =>
  simp only[Fz]at h ⊢;obtain⟨ad,h1,h2⟩:=h;exact⟨_,h1,ad,by rw[add_add],h2⟩
 | full =>
  simp only[Fz]at h ⊢;obtain⟨ad,h1,h2⟩:=h;exact⟨_,h1,ad,by rw[add_add],h2⟩
def RK{s f off:Nat}(ho:Bk P s f=some off){p x:AV}{up:Value}(hp:VR g w p up)(hx:Oz off p=some x):∃ u,(Instr.fieldAt s up f).run P w=.ok u w/\VR g w x u:=by
 unfold Bk at ho;split at ho
 ·rename_i fs hs;split at ho
  ·rename_i fd hf;split at ho
   ·rename_i k hk;simp at ho;subst ho;have run:∀ ad:Addr,(Instr.fieldAt s (.pointer (some ad)) f).run P w=.ok (.pointer (some (ad.add fd.offset))) w:=λad=>by
     simp[Instr.fieldAt,run_underlying hs,hf,Instr.sureAddr,fieldPlace,run_sizeOf hk]
    unfold Oz at hx;split at hx
    ·simp at hx;subst hx;simp only[VR]at hp;obtain⟨Ys,rfl⟩:=hp;refine⟨_,run _,?_⟩;simp only[VR,add_lit,Ys,and_self]
    ·simp at hx;subst hx;simp only[VR]at hp;obtain⟨ad,rfl,h2⟩:=jI (k:=fd.offset) hp;exact⟨_,run _,h2⟩
    ·cases hx
   ·cases ho
  ·cases ho
 ·cases ho
def PQ{t:TypeId}{e:TypeId}{n:Nat}(ht:As P t=some (e,n)){k:IntKind}{i:Int}{p x:AV}{up:Value}(hp:VR g w p up)(hx:QY n i p=some x) :
 ∃ u,(Instr.indexAt t up (.int k i)).run P w=.ok u w/\VR g w x u:=by
 unfold As at ht;split at ht
 ·rename_i e' hs;obtain⟨n',hn,he⟩:=Option.map_eq_some_iff.1 ht;simp only[Prod.mk.injEq]at he;obtain⟨rfl,rfl⟩:=he;have run:∀ (ad:Addr) (len cap:Nat),0<=i->i<len->(Instr.indexAt t (.slice (some ad) len cap) (.int k i)).run P w=.ok (.pointer (some (ad.add (i.toNat*n')))) w:=λad len cap h0 h1=>by
   simp[Instr.indexAt,asIntOf,run_underlying hs,h0,h1,run_sizeOf hn]
  unfold QY at hx;split at hx
  ·rename_i r lo m es;split at hx
   ·rename_i hc;obtain⟨rfl,h0⟩:=hc;split at hx
    ·rename_i c hc;simp at hx;subst hx;have Au:i.toNat<es.length:=by
      rcases Nat.lt_or_ge i.toNat es.length with h|h
      ·exact h
      ·rw[List.getElem?_eq_none h]at hc;cases hc
     simp only[VR,CM]at hp;obtain⟨hm,⟨_,h2⟩|⟨_,h2,_⟩|⟨cap,cur,T,h1,h2,h3,h5,h6,h7,h8⟩⟩:=hp
     ·subst h2;simp at Au
     ·subst h2;simp at Au
     ·subst h1;refine⟨_,run _ _ _ h0 (by omega),?_⟩;obtain⟨NN,xJ⟩:=CH.at_ es _ m 0 h8 _ _ hc;simp only[VR,Fz];refine⟨cur,T,?_,h5,h6,?_,?_⟩
      ·rw[add_lit,NN,Nat.add_mul];simp
      ·rw[NN];exact Nat.le_trans (Nat.mul_le_mul_right _ (by omega)) h7
      ·have:=Cu.shift c ⟨g.row r,lo*m,none⟩ ((0+i.toNat)*m) 0 xJ;rw[add_lit]at this
       rwa [NN,Nat.add_mul,show lo*m+i.toNat*m=lo*m+(0+i.toNat)*m from by simp]
    ·cases hx
   ·cases hx
  ·rename_i t' m es Qr;split at hx
   ·rename_i hc;obtain⟨rfl,h0⟩:=hc;split at hx
    ·rename_i c hc;simp at hx;subst hx;have Au:i.toNat<es.length:=by
      rcases Nat.lt_or_ge i.toNat es.length with h|h
      ·exact h
      ·rw[List.getElem?_eq_none h]at hc;cases hc
     have V5:PR (BX g) w (.sl t' m es) up:=by
      cases t' with
      | own r lo=>exact absurd rfl (Qr r lo)
      | no=>simpa [VR]using hp
      | full=>simpa [VR]using hp
     simp only[PR]at V5;obtain⟨_,ad',cap,h1,h2,h3,h4,h5,h6|⟨ad,h6,h7,h8⟩⟩:=V5
     ·subst h6;simp at Au
     ·subst h6;subst h1;refine⟨_,run _ _ _ h0 (by omega),?_⟩;obtain⟨NN,xJ⟩:=CH.at_ es _ m 0 h8 _ _ hc;simp only[VR,Fz];refine⟨ad.add (i.toNat*m),by rw[Addr.add_zero'],by omega,by rw[E6];exact h7,?_⟩;exact Cu.shift c ad (i.toNat*m) 0 (by simpa using xJ)
    ·cases hx
   ·cases hx
  ·rename_i r _ _ _ m bss;split at hx
   ·rename_i hc;obtain⟨rfl,h0⟩:=hc;split at hx
    ·rename_i b hb;simp at hx;subst hx;have Au:i.toNat<bss.length:=by
      rcases Nat.lt_or_ge i.toNat bss.length with h|h
      ·exact h
      ·rw[List.getElem?_eq_none h]at hb;cases hb
     simp only[VR]at hp;obtain⟨hm,⟨_,h2⟩|⟨cap,cur,T,h1,h2,h3,h5,h6,h7,h8⟩⟩:=hp
     ·subst h2;simp at Au
     ·subst h1;refine⟨_,run _ _ _ h0 (by omega),?_⟩;obtain⟨v,hv,hi⟩:=h8 _ _ hb;simp only[VR];exact⟨hm,b,rfl,cur,T,v,by rw[add_lit];simp,h5,h6,hv,hi⟩
    ·cases hx
   ·cases hx
  ·rename_i r q _ _ m b;split at hx
   ·rename_i hc;obtain⟨rfl,h0⟩:=hc;split at hx
    ·rename_i c hc;simp at hx;subst hx;have Au:i.toNat<b.length:=by
      rcases Nat.lt_or_ge i.toNat b.length with h|h
      ·exact h
      ·rw[List.getElem?_eq_none h]at hc;cases hc
     simp only[VR]at hp;obtain⟨hm,b',ky,hi⟩:=hp;simp only[List.cons.injEq,and_true]at ky;subst ky;rcases hi with ⟨h2,_⟩|⟨cap,cur,T,h1,h2,h3,h5,h6,h7,h8⟩
     ·subst h2;simp at Au
     ·subst h1;refine⟨_,run _ _ _ h0 (by omega),?_⟩;obtain⟨NN,xJ⟩:=CH.at_ b _ m 0 h8 _ _ hc;simp only[VR];refine⟨hm,c,rfl,NN,cur,T,by rw[add_lit];simp,h5,h6,?_,?_⟩
      ·exact Nat.le_trans (Nat.mul_le_mul_right _ (by omega)) h7
      ·have:=Cu.shift c ⟨g.Cz r q,0,none⟩ ((0+i.toNat)*m) 0 xJ;rw[add_lit]at this;simpa using this
    ·cases hx
   ·cases hx
  ·rename_i xs;split at hx
   ·rename_i hc;obtain⟨rfl,h0⟩:=hc;split at hx
    ·rename_i c hc;simp at hx;subst hx;simp only[VR,Yz]at hp;obtain⟨ad,vs,q1,q2,q3,cap,rfl,q4,q5⟩:=hp;obtain⟨v,e1,e2⟩:=Az.get q3 _ _ hc;have Au:i.toNat<vs.length:=by
      rcases Nat.lt_or_ge i.toNat vs.length with h|h
      ·exact h
      ·rw[List.getElem?_eq_none h]at e1;cases e1
     refine⟨_,run _ _ _ h0 (by omega),?_⟩;simp only[VR,Yz,Nat.mul_one];refine⟨ad.add i.toNat,[v],by rw[E6];exact q1,⟨by simp,λk hk=>?_⟩,by simp only[Az];exact⟨e2,trivial⟩,rfl⟩;have kB:k=0:=by simp at hk;omega
     subst kB;rw[Addr.add_zero',q2.2 _ Au,e1];rfl
    ·cases hx
   ·cases hx
  ·cases hx
 ·cases ht
def PO{t:TypeId}{len n:Nat}(ht:Dj P t=some (len,n)){k:IntKind}{i:Int}{p x:AV}{up:Value}(hp:VR g w p up)(hx:QX len n i p=some x) :
 ∃ u,(Instr.indexAt t up (.int k i)).run P w=.ok u w/\VR g w x u:=by
 unfold Dj at ht;split at ht
 ·rename_i yw e' hs;obtain⟨n',hn,he⟩:=Option.map_eq_some_iff.1 ht;simp only[Prod.mk.injEq]at he;obtain⟨rfl,rfl⟩:=he;have run:∀ (ad:Addr),0<=i->i<yw->(Instr.indexAt t (.pointer (some ad)) (.int k i)).run P w=.ok (.pointer (some (ad.add (i.toNat*n')))) w:=λad h0 h1=>by
   simp[Instr.indexAt,asIntOf,run_underlying hs,Instr.sureAddr,h0,h1,run_sizeOf hn]
  unfold QX at hx;split at hx
  ·split at hx
   ·rename_i hc;simp at hx;subst hx;simp only[VR]at hp;obtain⟨Ys,rfl⟩:=hp;refine⟨_,run _ hc.1 hc.2,?_⟩;simp only[VR,add_lit,Ys,and_self]
   ·cases hx
  ·split at hx
   ·rename_i hc;simp at hx;subst hx;simp only[VR]at hp;obtain⟨ad,rfl,h2⟩:=jI (k:=i.toNat*n') hp;exact⟨_,run _ hc.1 hc.2,h2⟩
   ·cases hx
  ·cases hx
 ·cases ht
def Ur{c:AV}{u:Value}(h:Jm c=true)(hv:VR g w c u):u.oneCell'=true:=by
 cases c with
 | v x=>simp only[VR]at hv;subst hv;exact h
 | sl t n es =>
  cases t with
  | own r lo =>
   simp only[VR,CM]at hv;obtain⟨_,⟨rfl,_⟩|⟨_,_,_,_,rfl,_⟩|⟨_,_,_,rfl,_⟩⟩:=hv<;>rfl
  | no=>simp only[VR,PR]at hv;obtain⟨_,_,_,rfl,_⟩:=hv;rfl
  | full=>simp only[VR,PR]at hv;obtain⟨_,_,_,rfl,_⟩:=hv;rfl
 | ptr s o=>simp only[VR]at hv;obtain⟨_,rfl⟩:=hv;rfl
 | mp s=>simp only[VR]at hv;obtain⟨_,rfl⟩:=hv;rfl
 | ep t i cs o =>
  simp only[VR]at hv;obtain⟨ad,_,rfl,_⟩:=de hv;rfl
 | fn f Bi=>simp only[VR]at hv;obtain⟨_,rfl,_⟩:=hv;rfl
 | mv f Bi=>simp only[VR]at hv;obtain⟨_,rfl,_⟩:=hv;rfl
 | Gc t x=>simp only[VR]at hv;obtain⟨_,rfl,_⟩:=hv;rfl
 | El k r i j off m bss =>
  simp only[VR]at hv;obtain⟨_,hv⟩:=hv;cases k with
  | Xl=>rcases hv with ⟨rfl,_⟩|⟨_,_,_,rfl,_⟩<;>rfl
  | dp=>obtain⟨_,_,_,_,_,rfl,_⟩:=hv;rfl
  | iW=>obtain⟨_,_,hi⟩:=hv;rcases hi with ⟨_,_,_,rfl,_⟩|⟨_,_,_,rfl,_⟩<;>rfl
  | pR=>obtain⟨_,_,_,_,_,rfl,_⟩:=hv;rfl
 | undef=>simp[Jm]at h
 | agg cs=>simp[Jm]at h
 | Bl cs=>simp[Jm]at h
 | mem b xs=>simp[Jm]at h
def JP:∀ {cs:List AV} {us:List Value},Cx cs=true->Az g w cs us->∀ u∈us,u.oneCell'=true
 |[],[],_,_,u,hu=>by simp at hu
 |[],_::_,_,h,_,_=>by simp[Az]at h
 |_::_,[],_,h,_,_=>by simp[Az]at h
 | c::cs,v::us,ho,h,u,hu=>by
  simp only[Cx,Bool.and_eq_true]at ho;simp only[Az]at h;rcases List.mem_cons.1 hu with rfl|hu
  ·exact Ur ho.1 h.1
  ·exact JP ho.2 h.2 u hu
def Xb{u:Value}(h:u.oneCell'=true):u.cells = #[u]:=by cases u<;>simp_all[Value.cells,Value.oneCell']
def VR.cells{x:AV}{u:Value}(hv:VR g w x u)(ho:Cx x.cells=true):Az g w x.cells u.cells.toList:=by
 by_cases hx:∃ cs,x=.agg cs
 ·obtain⟨cs,rfl⟩:=hx;simp only[VR]at hv;obtain⟨us,rfl,h⟩:=hv;simpa [AV.cells,Value.cells]using h
 ·have hc:x.cells=[x]:=by
   cases x with
   | agg cs=>exact absurd ⟨cs,rfl⟩ hx
   |_=>rfl
  rw[hc]at ho ⊢;simp only[Cx,Bool.and_true]at ho;rw[Xb (Ur ho hv)];simp[Az,hv]
mutual
def Jh:∀ x:AV,x.kill [] []=x
 |.undef=>by simp[AV.kill]
 |.v x=>by simp[AV.kill]
 |.agg cs=>by simp[AV.kill,D5 cs]
 |.Bl cs=>by simp[AV.kill,D5 cs]
 |.sl (.own r lo) n es=>by simp[AV.kill]
 |.sl .no n es=>by simp[AV.kill]
 |.sl .full n es=>by simp[AV.kill]
 |.ptr s off=>by simp[AV.kill]
 |.ep (.own r lo) i cells off=>by simp[AV.kill]
 |.ep .no i cells off=>by simp[AV.kill]
 |.ep .full i cells off=>by simp[AV.kill]
 |.fn f Bi=>by simp[AV.kill,D5 Bi]
 |.mv f Bi=>by simp[AV.kill,D5 Bi]
 |.mp s=>by simp[AV.kill]
 |.Gc t x=>by simp[AV.kill,Jh x]
 |.El k r i j off m bss=>by simp[AV.kill]
 |.mem b xs=>by simp[AV.kill,D5 xs]
def D5:∀ cs:List AV,EK [] [] cs=cs
 |[]=>by simp[EK]
 | c::cs=>by simp[EK,Jh c,D5 cs]
end
def KE:∀ l,MH [] [] l=l
 |[]=>rfl
 |(k,x)::l=>by simp[MH,Jh,KE l]
def KD:∀ l,IB [] [] l=l
 |[]=>rfl
 |(k,x)::l=>by simp[IB,D5,KD l]
def OV(st:St):st.kill [] []=st:=by simp[St.kill,KE,KD]
end
def GY{α:Type}(k:Nat)(x:α):List (Nat × α)->List (Nat × α)
 |[]=>[]
 |(j,y)::l=>if j=k then (j,x)::l else (j,y)::GY k x l
def cp{α:Type}(k:Nat)(x:α)(j:Nat):∀ l:List (Nat × α),lk j (GY k x l)=if j=k then (lk j l).map (λ_=>x) else lk j l
 |[]=>by simp[GY,lk]
 |(i,y)::l=>by
  simp only[GY]
  by_cases bU:i=k
  ·subst bU
   by_cases Sg:i=j
   ·subst Sg;simp[lk]
   ·simp only[if_true,lk,Sg,if_false];have:j≠i:=λe=>Sg e.symm
    simp[this]
  ·simp only[bU,if_false,lk]
   by_cases Sg:i=j
   ·subst Sg;simp[bU]
   ·simp only[Sg,if_false];exact cp k x j l
def cut(L:List AV)(off:Nat)(cs:List AV):List AV:=L.take off++cs++L.drop (off+cs.length)
section
variable {C:Ctx} {A:A0} {N:Nat} {g g':Gh} {st:St} {a:Act} {w w':World} {P:Program}
theorem Q2{b s:Nat}(h:g.own b=.box s)(cs:Array Value):Lasts [] [] g w g (w.setRow b cs) where
 ro:=λk hk ho=>⟨ho,setRow_other w b k cs (λe=>by subst e;rw[h]at ho;cases ho)⟩
 row:=λk q hk _ ho=>⟨ho,setRow_other w b k cs (λe=>by subst e;rw[h]at ho;cases ho)⟩
 rows:=λ_ _=>rfl
 boxes:=λ_ _=>rfl
 Cz:=λk q i hk _ ho=>⟨ho,setRow_other w b k cs (λe=>by subst e;rw[h]at ho;cases ho)⟩
 cc:=λ_ _ _=>rfl
def LH{t:TypeId}{n:Nat}{b o:Nat}{T:TypeId}{cur:Array Value}{v:Value}(h2:BW P t=some n)(hn:v.cells.size=n)(hg:w.heap[b]?=some (.cells cur T (0,0)))
 (hle:o+n<=cur.size) (h1:∀ u∈v.cells.toList,u.oneCell'=true) :
 (storeVar t ⟨b,o,none⟩ v).run P w=.ok () (w.setRow b (cur.toList.take o++v.cells.toList++cur.toList.drop (o+n)).toArray):=by
 unfold storeVar;simp only[Sem.run_bind,run_sizeOf h2,Result.andThen_ok,ne_eq,hn,not_true,if_false];have:=run_storeCells_at P b o T v.cells.toList 0 cur w hg (by rw[Array.length_toList,hn];omega) h1;simpa [hn]using this
def R.mq(h:R C A N g st a w){t:TypeId}{n:Nat}(h2:BW P t=some n){s off:Nat}(Ys:isMap s=false){cs:List AV}(hs:lk s st.Ah=some cs){x:AV}{u:Value}(hx:VR g w x u)(ho:Cx x.cells=true)
 (hn:x.cells.length=n) (hle:off+n<=cs.length) :
 ∃ w',(Instr.storeAt t (.pointer (some ⟨g.box s,off,none⟩)) u).run P w=.ok () w'/\R C A N g ⟨st.tmps,GY s (cut cs off x.cells) st.Ah⟩ a w':=by
 have TY:=(h.ob s cs hs).1;obtain⟨cur,T,hh,hv⟩:=(h.ob s cs hs).cells Ys;have kR:=VR.cells hx ho;have V9:u.cells.size=n:=by rw[<- hn,Az.length kR];simp
 have NN:cs.length=cur.size:=by rw[Az.length hv];simp
 have CZ:=LH (P:=P) (w:=w) (o:=off) h2 V9 hh (by omega) (JP ho kR);generalize Jg:(cur.toList.take off++u.cells.toList++cur.toList.drop (off+n)).toArray=new at CZ;refine⟨w.setRow (g.box s) new,by simpa [Instr.storeAt,Instr.sureAddr]using CZ,?_⟩;have hl:=Q2 (w:=w) TY new;have Gq:Fr C A g (w.setRow (g.box s) new):=h.fr.step hl rfl ⟨rfl,by first|exact Nat.le_refl _|exact Nat.le_succ _⟩ rfl (by simp) (λb hb LU=>⟨LU,setRow_other w _ b _ (λe=>by subst e;rw[TY]at LU;cases LU)⟩) (λ_ _ he=>by cases he);refine⟨h.size,h.defs,λk y hy=>?_,λq Mp hq=>?_,Gq⟩
 ·obtain⟨v,h1,h2⟩:=h.tm k y hy;exact⟨v,h1,by have:=VR.lasts hl y v h2;rwa [Jh]at this⟩
 ·simp only[cp]at hq
  by_cases Yu:q=s
  ·subst Yu;simp only[if_true,hs,Option.map_some,Option.some.injEq]at hq;subst hq;refine⟨TY,.inl ⟨Ys,new,T,setRow_heap w _ cur new T _ hh,?_⟩⟩;have lift:∀ {ds:List AV} {vs:List Value},Az g w ds vs->Az g (w.setRow (g.box q) new) ds vs:=λhd=>by have:=Az.lasts hl _ _ hd;rwa [D5]at this
   unfold cut;have e:new.toList=cur.toList.take off++u.cells.toList++cur.toList.drop (off+n):=by rw[<- Jg]
   rw[hn,e];exact Az.append (Az.append (lift (Az.take off hv)) (lift kR)) (lift (Az.drop (off+n) hv))
  ·simp only[Yu,if_false]at hq;have h1:=(h.ob q Mp hq).1;refine(h.ob q Mp hq).lift rfl h1 (setRow_other w _ _ _ (λe=>by rw[e,TY]at h1;injection h1 with h1;exact Yu h1.symm)) (λus h4=>by have:=Az.lasts hl _ _ h4;rwa [D5]at this)
end
end Go.Abs
namespace Go.Abs
def Bz(P:Program)(t:TypeId):Option (TypeId × Nat × Nat) :=
 match P.underlying t with
 |some (.slice e)=>match P.info? e with
  |some i=>match i.zero with
   |some z=>if z.cells.size=i.size/\0<i.size/\i.bytes<=32768 then some (e,i.size,i.bytes) else none
   |none=>none
  |none=>none
 |_=>none
def DL{P:Program}{t e n b:Nat}(h:Bz P t=some (e,n,b)):P.underlying t=some (.slice e)/\∃ i z,P.info? e=some i/\i.zero=some z/\z.cells.size=n/\i.size=n/\i.bytes=b/\0<n/\b<=32768:=by
 unfold Bz at h;split at h
 ·rename_i e' he;split at h
  ·rename_i i hi;split at h
   ·rename_i z hz;split at h
    ·rename_i hc;simp only[Option.some.injEq,Prod.mk.injEq]at h;obtain⟨rfl,rfl,rfl⟩:=h;exact⟨he,i,z,hi,hz,hc.1,rfl,rfl,hc.2.1,hc.2.2⟩
    ·cases h
   ·cases h
  ·cases h
 ·cases h
def AJ(P:Program)(t:TypeId):Bool:=match P.underlying t with
 |some (.slice _)=>true
 |_=>false
section
variable {P:Program} {w:World}
def Gt{size n:Nat}{x:Value}{news:List Value}(hl:news.length=n*size)(hx:(∃ a c,x=.slice (some a) n c/\∀ (j:Nat) (v:Value),news[j]?=some v->w.cell? (a.add j)=some v)\/(n=0/\∃ c,x=.slice none 0 c)) :
 (Builtin.firstCells size n x).run P w=.ok news.toArray w:=by
 rcases hx with ⟨a,c,rfl,h⟩|⟨rfl,c,rfl⟩
 ·exact run_firstCells_some (P:=P) w size n a n c news hl h
 ·have:news=[]:=List.eq_nil_of_length_eq_zero (by simpa using hl);subst this;simp[Builtin.firstCells]
def S6(w:World)(size m:Nat)(x:Value)(news:List Value):Prop :=
 news.length=m*size/\((∃ a c,x=.slice (some a) m c/\∀ (j:Nat) (v:Value),news[j]?=some v->w.cell? (a.add j)=some v)\/(m=0/\∃ c,x=.slice none 0 c))
def FQ{t t2 ty e:TypeId}{i:TypeInfo}{z:Value}(ht:P.underlying t=some (.slice e))(GP:AJ P t2=true)(hi:P.info? e=some i)(hz:i.zero=some z)
 {base:Option Addr} {sLen sCap:Nat} {olds:List Value} (ho:S6 w i.size sLen (.slice base sLen sCap) olds) {x:Value} {m:Nat} {news:List Value} (hx:S6 w i.size m x news)
 (hg:sCap<sLen+m) (hle:sLen<=sCap) (hb:(sLen+m)*i.bytes<=140737488355328) (h63:sLen+m<=9223372036854775807) :
 (Builtin.append_ #[t,t2] ty #[.slice base sLen sCap,x]).run P w =
  .ok (.slice (some ⟨w.heap.size,0,none⟩) (sLen+m) (grownCap w (sLen+m) sCap e))
   (w.drew.alloc (.cells (olds.toArray++news.toArray++Builtin.zeroCells z.cells (grownCap w (sLen+m) sCap e-(sLen+m))) e)):=by
 have hn:¬ (sLen+m<=sCap):=by omega
 have tI:¬ (9223372036854775807<((sLen:Int)+(m:Int))):=by omega
 have Kb:=growslice_fits (need:=sLen+m) (old:=sCap) hg hb;have AaA:¬ (281474976710656<Builtin.nextslicecap (sLen+m) sCap*i.bytes):=by omega
 have hf:(Builtin.firstCells i.size m x).run P w.drew=.ok news.toArray w.drew:=Gt hx.1 (by
  rcases hx.2 with ⟨a,c,h1,h2⟩|h
  ·exact .inl ⟨a,c,h1,by simpa using h2⟩
  ·exact .inr h)
 have hfo:(Builtin.firstCells i.size sLen (.slice base sLen sCap)).run P w.drew=.ok olds.toArray w.drew:=Gt ho.1 (by
  rcases ho.2 with ⟨a,c,h1,h2⟩|h
  ·exact .inl ⟨a,c,h1,by simpa using h2⟩
  ·exact .inr h)
 have hlen:(Builtin.lenOf x).run P w=.ok m w:=by
  rcases hx.2 with ⟨a,c,rfl,_⟩|⟨rfl,c,rfl⟩<;>simp[Builtin.lenOf]
 unfold AJ at GP;split at GP
 ·rename_i e2 gy;simp[Builtin.append_,run_underlying ht,run_underlying gy,sizeOf,typeInfo,zeroValue,hi,hz,hlen,hn,tI,AaA,Question.forced,hf,hfo,newRow,grownCap];congr 2;apply Array.ext';simp[List.append_assoc]
 ·cases GP
def E4{t t2 ty e:TypeId}{i:TypeInfo}(ht:P.underlying t=some (.slice e))(GP:AJ P t2=true)(hi:P.info? e=some i)
 {base:Option Addr} {sLen sCap:Nat} {x:Value} (hx:S6 w i.size 0 x []) (hle:sLen<=sCap) :
 (Builtin.append_ #[t,t2] ty #[.slice base sLen sCap,x]).run P w=.ok (.slice base sLen sCap) w:=by
 have hf:(Builtin.firstCells i.size 0 x).run P w=.ok #[] w:=Gt (news:=[]) hx.1 hx.2;have hlen:(Builtin.lenOf x).run P w=.ok 0 w:=by
  rcases hx.2 with ⟨a,c,rfl,_⟩|⟨_,c,rfl⟩<;>simp[Builtin.lenOf]
 unfold AJ at GP;split at GP
 ·rename_i e2 gy;cases base<;>simp[Builtin.append_,run_underlying ht,run_underlying gy,sizeOf,typeInfo,hi,hlen,hle,hf,storeCells]
 ·cases GP
def KT{t t2 ty e:TypeId}{i:TypeInfo}(ht:P.underlying t=some (.slice e))(GP:AJ P t2=true)(hi:P.info? e=some i)
 {b sLen sCap:Nat} {T:TypeId} {cur:Array Value} (hb:w.heap[b]?=some (.cells cur T (0,0))) {x:Value} {m:Nat} {news:List Value} (hx:S6 w i.size m x news)
 (h1:∀ u∈news,u.oneCell'=true) (NY:sLen+m<=sCap) (Kb:sLen*i.size+news.length<=cur.size) :
 (Builtin.append_ #[t,t2] ty #[.slice (some ⟨b,0,none⟩) sLen sCap,x]).run P w =
  .ok (.slice (some ⟨b,0,none⟩) (sLen+m) sCap) (w.setRow b (cur.toList.take (sLen*i.size)++news++cur.toList.drop (sLen*i.size+news.length)).toArray):=by
 have hf:(Builtin.firstCells i.size m x).run P w=.ok news.toArray w:=Gt hx.1 hx.2;have hlen:(Builtin.lenOf x).run P w=.ok m w:=by
  rcases hx.2 with ⟨a,c,rfl,_⟩|⟨rfl,c,rfl⟩<;>simp[Builtin.lenOf]
 have HH:=run_storeCells_at P b (sLen*i.size) T news 0 cur w hb (by simpa using Kb) h1;simp only[Nat.add_zero]at HH;unfold AJ at GP;split at GP
 ·rename_i e2 gy;simp[Builtin.append_,run_underlying ht,run_underlying gy,sizeOf,typeInfo,hi,hlen,NY,hf,add_lit,HH]
 ·cases GP
end
section
variable {C:Ctx} {A:A0} {N:Nat} {g g':Gh} {st:St} {a:Act} {w w':World} {P:Program}
def elems(n:Nat):AV->Option (List (List AV))
 |.v (.slice _ 0 _)=>some []
 |.sl _ m es=>if m=n then some es else none
 |_=>none
def HC{n:Nat}{x:AV}{es:List (List AV)}{u:Value}(hn:0<n)(h:elems n x=some es)(hv:VR g w x u) :
 ∃ us:List Value,S6 w n es.length u us/\B3 (BX g) w es.flatten us/\(∀ e∈es,e.length=n):=by
 unfold elems at h;split at h
 ·rename_i a0 c0;simp at h;subst h;simp only[VR]at hv;subst hv;refine⟨[],⟨by simp,?_⟩,by simp[B3],by simp⟩;cases a0 with
  |none=>exact .inr ⟨rfl,c0,rfl⟩
  |some a'=>exact .inl ⟨a',c0,rfl,by simp⟩
 ·rename_i t m NK;split at h
  ·rename_i hm;simp at h;subst h;subst hm
   by_cases ho:∃ r lo,t=.own r lo
   ·obtain⟨r,lo,rfl⟩:=ho;simp only[VR,CM]at hv;obtain⟨_,⟨rfl,rfl⟩|⟨_,rfl,a',cap,rfl,_⟩|⟨cap,cur,T,rfl,h2,h3,h5,h6,h7,h8⟩⟩:=hv
    ·exact⟨[],⟨by simp,.inr ⟨rfl,0,rfl⟩⟩,by simp[B3],by simp⟩
    ·refine⟨[],⟨by simp,?_⟩,by simp[B3],by simp⟩;cases a' with
     |none=>exact .inr ⟨rfl,cap,rfl⟩
     |some a'=>exact .inl ⟨a',cap,rfl,by simp⟩
    ·obtain⟨us,k1,k2,k3⟩:=CH.list NK _ m 0 h8;exact⟨us,⟨k2,.inl ⟨_,cap,rfl,λj v hj=>by simpa using k3 j v hj⟩⟩,k1,CH.lens h8⟩
   ·have hp:PR (BX g) w (.sl t m NK) u:=by
     cases t with
     | own r lo=>exact absurd ⟨r,lo,rfl⟩ ho
     | no=>simpa [VR]using hv
     | full=>simpa [VR]using hv
    simp only[PR]at hp;obtain⟨_,a',cap,rfl,h2,h3,h4,h5,rfl|⟨ad,rfl,h7,h8⟩⟩:=hp
    ·refine⟨[],⟨by simp,?_⟩,by simp[B3],by simp⟩;cases a' with
     |none=>exact .inr ⟨rfl,cap,rfl⟩
     |some a'=>exact .inl ⟨a',cap,rfl,by simp⟩
    ·obtain⟨us,k1,k2,k3⟩:=CH.list NK _ m 0 h8;exact⟨us,⟨k2,.inl ⟨_,cap,rfl,λj v hj=>by simpa using k3 j v hj⟩⟩,k1,CH.lens h8⟩
  ·cases h
 ·cases h
end
def O4(k n:Nat)(st:St)(x y:AV):Option (AV × St) :=
 match elems n x,elems n y with
 |some es,some fs=>if es.length+fs.length<=4294967296 then match x with
  |.v (.slice none 0 0)=>some (.sl (.own k 0) n (es++fs),st.kill [k] [])
  |.sl (.own r 0) _ _=>some (.sl (.own k 0) n (es++fs),st.kill [r,k] [])
  |_=>none
  else none
 |_,_=>none
section
variable {C:Ctx} {A:A0} {N:Nat} {g g':Gh} {st:St} {a:Act} {w w':World} {P:Program}
def T7(g:Gh)(w:World)(S T:List Nat):Lasts S T g w g w:=⟨λ_ _ h=>⟨h,rfl⟩,λ_ _ _ _ h=>⟨h,rfl⟩,λ_ _=>rfl,λ_ _=>rfl,λ_ _ _ _ _ h=>⟨h,rfl⟩,λ_ _ _=>rfl⟩
def cj(g:Gh)(w:World)(S T:List Nat):Lasts S T g w g w.drew:=⟨λ_ _ h=>⟨h,rfl⟩,λ_ _ _ _ h=>⟨h,rfl⟩,λ_ _=>rfl,λ_ _=>rfl,λ_ _ _ _ _ h=>⟨h,rfl⟩,λ_ _ _=>rfl⟩
def R.drew(h:R C A N g st a w):R C A N g st a w.drew:=by
 have hl:=cj g w [] [];have:=h.lasts hl (h.fr.step hl rfl ⟨rfl,by first|exact Nat.le_refl _|exact Nat.le_succ _⟩ rfl (Nat.le_refl _) (λb _ ho=>⟨ho,rfl⟩) (λ_ _ he=>by cases he)) (λs cs hs _=>⟨(h.ob s cs hs).1,rfl⟩)
 rwa [OV]at this
def R.kill(h:R C A N g st a w)(S T:List Nat)(hT:∀ s∈A.ext,s∉T):R C A N g (st.kill S T) a w:=by
 have hl:=T7 g w S T;exact h.lasts hl (h.fr.step hl rfl ⟨rfl,by first|exact Nat.le_refl _|exact Nat.le_succ _⟩ rfl (Nat.le_refl _) (λb _ ho=>⟨ho,rfl⟩) hT) (λs cs hs _=>⟨(h.ob s cs hs).1,rfl⟩)
def YA{cs:List AV}{us:List Value}(h:B3 (BX g) w cs us):B3 (BX g) w.drew cs us:=B3.mono (w:=w) (w':=w.drew) (λ_ _ h=>⟨h,rfl⟩) h
def R.Qx(h:R C A N g st a w){k n:Nat}{S:List Nat}(hk:k∈S){e:TypeId}{z:Value}(SV:z.cells.size=n)(hn:0<n){es fs:List (List AV)}{us vs:List Value}
 (h1:B3 (BX g) w es.flatten us) (h2:B3 (BX g) w fs.flatten vs) (hl1:∀ e∈es,e.length=n) (mP:∀ e∈fs,e.length=n) (hu:us.length=es.length*n) (hv:vs.length=fs.length*n)
 {cap:Nat} (TT:es.length+fs.length<=cap) (hm:cap<=maxLen) :
 ∃ g',R C A N g' (st.kill S []) a (w.drew.alloc (.cells (us.toArray++vs.toArray++Builtin.zeroCells z.cells (cap-(es.length+fs.length))) e)) /\
  VR g' (w.drew.alloc (.cells (us.toArray++vs.toArray++Builtin.zeroCells z.cells (cap-(es.length+fs.length))) e)) (.sl (.own k 0) n (es++fs)) (.slice (some ⟨w.heap.size,0,none⟩) (es.length+fs.length) cap):=by
 have:=h.drew.newRow k S hk (us.toArray++vs.toArray++Builtin.zeroCells z.cells (cap-(es.length+fs.length))) e n cap (es++fs) (us++vs) hn
  (λe he=>(List.mem_append.1 he).elim (hl1 e) (mP e))
  (by rw[List.flatten_append];exact B3.append (YA h1) (YA h2))
  (by
   simp only[Array.size_append,List.size_toArray,size_zeroCells,SV,hu,hv];rw[<- Nat.add_mul,<- Nat.add_mul];congr 1;omega)
  (by simpa using TT) hm
  (λj v hj=>by
   have V3:j<(us++vs).length:=by
    rcases Nat.lt_or_ge j (us++vs).length with h|h
    ·exact h
    ·rw[List.getElem?_eq_none h]at hj;cases hj
   rw[Array.getElem?_append_left (by simpa using V3)];simpa using hj)
 obtain⟨g',k1,k2⟩:=this;refine⟨g',k1,?_⟩;rw[List.length_append]at k2;exact k2
def W6(hR:R C A N g st a w){t t2 ty e n b k:Nat}(ht:Bz P t=some (e,n,b))(GP:AJ P t2=true){x y z:AV}{ux uy:Value}(hx:VR g w x ux)(hy:VR g w y uy){st':St}
 (ha:O4 k n st x y=some (z,st')):∃ u w' g',(Builtin.append_ #[t,t2] ty #[ux,uy]).run P w=.ok u w'/\R C A N g' st' a w'/\VR g' w' z u:=by
 obtain⟨hu,i,zv,hi,hz,SV,Ec,pw,hn,hb⟩:=DL ht;subst Ec;unfold O4 at ha;split at ha
 ·rename_i es fs iP NX;split at ha
  ·rename_i hlen;obtain⟨vs,sy,py,ly⟩:=HC hn NX hy;obtain⟨us,sx,px,lx⟩:=HC hn iP hx;have Ka:(es.length+fs.length)*i.bytes<=140737488355328:=by
    have:(es.length+fs.length)*i.bytes<=4294967296*32768:=Nat.mul_le_mul hlen (by omega);omega
   have Zs:∀ old,grownCap w (es.length+fs.length) old e<=maxLen:=λold=>grownCap_le_maxLen w _ old e (by simp only[maxLen];omega)
   have TU:∀ old,es.length+fs.length<=grownCap w (es.length+fs.length) old e:=λold=>grownCap_ge w _ old e
   split at ha
   ·-- nil
    simp only[Option.some.injEq,Prod.mk.injEq]at ha;obtain⟨rfl,rfl⟩:=ha;have Abf:es=[]:=by
     simp only[elems,Option.some.injEq]at iP;exact iP.symm
    subst Abf;simp only[VR]at hx;subst hx
    by_cases hm:fs.length=0
    ·have hf:fs=[]:=List.eq_nil_of_length_eq_zero hm;subst hf;have pK:vs=[]:=List.eq_nil_of_length_eq_zero (by simpa using sy.1);subst pK;exact⟨_,_,g,E4 hu GP hi sy (Nat.le_refl 0),hR.kill [k] [] (λ_ _ h=>by cases h),by simp only[VR,CM,List.append_nil];exact⟨hn,.inl ⟨trivial,trivial⟩⟩⟩
    ·have CZ:=FQ (ty:=ty) hu GP hi hz (base:=none) (sLen:=0) (sCap:=0) (olds:=[]) ⟨by simp,.inr ⟨rfl,0,rfl⟩⟩ sy (by omega) (Nat.le_refl 0) (by simpa using Ka) (by simp at hlen;omega);obtain⟨g',k1,k2⟩:=hR.Qx (k:=k) (S:=[k]) (by simp) (e:=e) SV hn (es:=[]) (us:=[]) (by simp[B3]) py (by simp) ly (by simp) sy.1 (TU 0) (Zs 0);simp only[List.length_nil,Nat.zero_add]at CZ k1 k2;exact⟨_,_,g',CZ,k1,k2⟩
   ·rename_i r m NK;simp only[Option.some.injEq,Prod.mk.injEq]at ha;obtain⟨rfl,rfl⟩:=ha;have AaT:m=i.size/\NK=es:=by
     simp only[elems]at iP;split at iP
     ·rename_i hm;simp at iP;exact⟨hm,iP⟩
     ·cases iP
    obtain⟨rfl,rfl⟩:=AaT;simp only[VR,CM]at hx;obtain⟨_,⟨rfl,rfl⟩|⟨h0,_⟩|⟨cap,cur,T,rfl,h2,h3,h5,h6,h7,h8⟩⟩:=hx
    ·by_cases hm:fs.length=0
     ·have hf:fs=[]:=List.eq_nil_of_length_eq_zero hm;subst hf;have pK:vs=[]:=List.eq_nil_of_length_eq_zero (by simpa using sy.1);subst pK;exact⟨_,_,g,E4 hu GP hi sy (Nat.le_refl 0),hR.kill [r,k] [] (λ_ _ h=>by cases h),by simp only[VR,CM,List.append_nil];exact⟨hn,.inl ⟨trivial,trivial⟩⟩⟩
     ·have CZ:=FQ (ty:=ty) hu GP hi hz (base:=none) (sLen:=0) (sCap:=0) (olds:=[]) ⟨by simp,.inr ⟨rfl,0,rfl⟩⟩ sy (by omega) (Nat.le_refl 0) (by simpa using Ka) (by simp at hlen;omega);obtain⟨g',k1,k2⟩:=hR.Qx (k:=k) (S:=[r,k]) (by simp) (e:=e) SV hn (es:=[]) (us:=[]) (by simp[B3]) py (by simp) ly (by simp) sy.1 (TU 0) (Zs 0);simp only[List.length_nil,Nat.zero_add]at CZ k1 k2;exact⟨_,_,g',CZ,k1,k2⟩
    ·omega
    ·simp only[Nat.zero_mul,Nat.zero_add]at h7 h8 sx ⊢
     by_cases NY:NK.length+fs.length<=cap
     ·-- in place
      have Kb:NK.length*i.size+vs.length<=cur.size:=by
       rw[sy.1,<- Nat.add_mul];exact Nat.le_trans (Nat.mul_le_mul_right _ NY) h7
      have CZ:=KT (ty:=ty) hu GP hi h6 sy (B3.one py) NY Kb;generalize Jg:(cur.toList.take (NK.length*i.size)++vs++cur.toList.drop (NK.length*i.size+vs.length)).toArray=new at CZ;have iT:∀ b',b'≠g.row r->(w.setRow (g.row r) new).heap[b']?=w.heap[b']?:=λb' LU=>setRow_other w _ b' new LU
      have hl:Lasts [r,k] [] g w (g.newRow (g.row r) k) (w.setRow (g.row r) new):=by
       refine⟨λb' _ ho=>?_,λb' q _ hq ho=>?_,λq hq=>?_,λ_ _=>rfl,λb' q i _ hq ho=>?_,λ_ _ _=>rfl⟩
       ·have Ca:b'≠g.row r:=λe=>by rw[e,h5]at ho;cases ho
        exact⟨by simp[Gh.newRow,Ca,ho],iT b' Ca⟩
       ·have Ca:b'≠g.row r:=λe=>by rw[e,h5]at ho;injection ho with ho;exact hq (by simp[ho])
        exact⟨by simp[Gh.newRow,Ca,ho],iT b' Ca⟩
       ·have:q≠k:=λe=>hq (by simp[e])
        simp[Gh.newRow,this]
       ·have Ca:b'≠g.row r:=λe=>by rw[e,h5]at ho;cases ho
        exact⟨by simp[Gh.newRow,Ca,ho],iT b' Ca⟩
      refine⟨_,_,g.newRow (g.row r) k,CZ,?_,?_⟩
      ·refine hR.lasts hl (hR.fr.step hl rfl ⟨rfl,by first|exact Nat.le_refl _|exact Nat.le_succ _⟩ rfl (by simp) (λb' _ ho=>?_) (λ_ _ h=>by cases h)) (λs cs hs _=>?_)
       ·have Ca:b'≠g.row r:=λe=>by rw[e,h5]at ho;cases ho
        exact⟨by simp[Gh.newRow,Ca,ho],iT b' Ca⟩
       ·have ho:=(hR.ob s cs hs).1;have Ca:g.box s≠g.row r:=λe=>by rw[e,h5]at ho;cases ho
        exact⟨by simp[Gh.newRow,Ca,ho],iT _ Ca⟩
      ·simp only[VR,CM];have MF:(g.newRow (g.row r) k).row k=g.row r:=by simp[Gh.newRow]
       refine⟨hn,.inr (.inr ⟨cap,new,T,?_,?_,by omega,?_,?_,?_,?_⟩)⟩
       ·rw[MF];simp
       ·simpa using NY
       ·rw[MF];simp[Gh.newRow]
       ·rw[MF];exact setRow_heap w _ cur new T _ h6
       ·rw[<- Jg];simp only[List.size_toArray,List.length_append,List.length_take,List.length_drop,Array.length_toList];rw[Nat.zero_add,Nat.min_eq_left (by omega)];omega
       ·rw[MF];refine CH.Dt (NK++fs) (us++vs) _ _ 0 (λe he=>(List.mem_append.1 he).elim (lx e) (ly e)) ?_ ?_
        ·rw[List.flatten_append];exact B3.append (B3.mono hl.M1 px) (B3.mono hl.M1 py)
        ·intro j v hj;simp only[Nat.zero_mul,Nat.zero_add,add_lit];rw[cell_of_row _ _ _ _ _ _ (setRow_heap w _ cur new T _ h6),<- Jg];have yn:us.length=NK.length*i.size:=sx.1;have ym:cur.toList.take (NK.length*i.size)=us:=by
          apply List.ext_getElem?;intro q;rw[List.getElem?_take]
          by_cases hq:q<NK.length*i.size
          ·rw[if_pos hq];have L7:us[q]?=some (us[q]'(by omega)):=List.getElem?_eq_getElem (by omega);rcases sx.2 with ⟨a',c',he,Hu⟩|⟨h0,_⟩
           ·injection he with he1 gy he3
            simp only[Option.some.injEq]at he1;have:=Hu q _ L7;rw[<- he1,add_lit,cell_of_row _ _ _ _ _ _ h6]at this;rw[L7];simpa using this
           ·rw[h0]at hq;simp at hq
          ·rw[if_neg hq,List.getElem?_eq_none (by omega)]
         rw[ym];have V3:j<(us++vs).length:=by
          rcases Nat.lt_or_ge j (us++vs).length with h|h
          ·exact h
          ·rw[List.getElem?_eq_none h]at hj;cases hj
         simp only[List.getElem?_toArray];rw[List.getElem?_append_left V3];exact hj
     ·have CZ:=FQ (ty:=ty) hu GP hi hz (base:=some ⟨g.row r,0,none⟩) (sLen:=NK.length) (sCap:=cap) (olds:=us) sx sy (by omega) h2 Ka (by omega);obtain⟨g',k1,k2⟩:=hR.Qx (k:=k) (S:=[r,k]) (by simp) (e:=e) SV hn px py lx ly sx.1 sy.1 (TU cap) (Zs cap);exact⟨_,_,g',CZ,k1,k2⟩
   ·cases ha
  ·cases ha
 ·cases ha
end
end Go.Abs
namespace Go.Abs
def zeroOf(P:Program)(t:TypeId):Option (List Value):=((P.info? t).bind (·.zero)).map (·.cells.toList)
def vals(zs:List Value):List AV:=zs.map .v
def Mu(place:Nat->Option (Nat × Nat))(L:List AV):List (Nat × AV)->Option (List AV)
 |[]=>some L
 |(i,x)::rest=>match place i with
  |none=>none
  |some (off,size)=>if Cx x.cells=true/\x.cells.length=size/\off+size<=L.length then Mu place (cut L off x.cells) rest else none
def chunk(n:Nat):Nat->List AV->List (List AV)
 | 0,_=>[]
 | k+1,L=>L.take n::chunk n k (L.drop n)
def QC(n:Nat):∀ (k:Nat) (L:List AV),L.length=k*n->(chunk n k L).length=k/\(∀ e∈chunk n k L,e.length=n)/\(chunk n k L).flatten=L
 | 0,L,h=>by
  have:L=[]:=List.eq_nil_of_length_eq_zero (by simpa using h);subst this;simp[chunk]
 | k+1,L,h=>by
  have hn:n<=L.length:=by rw[h,Nat.add_mul];omega
  obtain⟨h1,h2,h3⟩:=QC n k (L.drop n) (by simp[h,Nat.add_mul]);refine⟨by simp[chunk,h1],λe he=>?_,by simp[chunk,h3]⟩;simp only[chunk]at he;rcases List.mem_cons.1 he with rfl|he
  ·simp;omega
  ·exact h2 e he
section
variable {C:Ctx} {A:A0} {N:Nat} {g g':Gh} {st:St} {a:Act} {w w':World} {P:Program}
def H0(zs:List Value):Az g w (vals zs) zs:=by
 induction zs with
 | nil=>simp[vals,Az]
 | cons z zs ih=>simp only[vals,List.map_cons,Az];exact⟨by simp[VR],ih⟩
theorem gg(v:List Value):∀ (k off:Nat) (arr:Array Value),off+k+v.length<=arr.size ->
 ((v.zipIdx k).foldl (λcs (p:Value × Nat)=>cs.setIfInBounds (off+p.2) p.1) arr).toList=arr.toList.take (off+k)++v++arr.toList.drop (off+k+v.length):=by
 induction v with
 | nil=>intro k off arr _;simp
 | cons x v ih =>
  intro k off arr h;simp only[List.length_cons]at h;simp only[List.zipIdx_cons,List.foldl_cons];rw[ih (k+1) off _ (by simp;omega)];simp only[Array.toList_setIfInBounds,List.length_cons];have Au:off+k<arr.toList.length:=by simp;omega
  rw[show off+(k+1)=(off+k)+1 from by omega];rw[List.take_succ_eq_append_getElem (by simpa using Au)];simp only[List.getElem_set_self,List.take_set_of_le (Nat.le_refl _),List.append_assoc,List.cons_append];rw[List.drop_set_of_lt (by omega),show off+k+1+v.length=off+k+(v.length+1) from by omega];rfl
def gh(v:Array Value)(off:Nat)(arr:Array Value)(h:off+v.size<=arr.size) :
 (v.zipIdx.foldl (λcs (p:Value × Nat)=>cs.setIfInBounds (off+p.2) p.1) arr).toList=arr.toList.take off++v.toList++arr.toList.drop (off+v.size):=by
 have:=gg v.toList 0 off arr (by simpa using h);simp only[Nat.add_zero,Array.length_toList]at this;rw[<- this,<- Array.foldl_toList];simp
def Lr(place:Nat->Option (Nat × Nat)):∀ (parts:List (Nat × AV)) (pv:List (Nat × Value)) (L:List AV) (cur:Array Value) (L':List AV),
 parts.map (·.1)=pv.map (·.1)->Az g w (parts.map (·.2)) (pv.map (·.2))->Az g w L cur.toList->Mu place L parts=some L'->∃ cur',Instr.fill place cur pv=some cur'/\Az g w L' cur'.toList
 |[],[],L,cur,L',_,_,hL,h=>by
  simp only[Mu,Option.some.injEq]at h;subst h;exact⟨cur,by simp[Instr.fill],hL⟩
 |[],_::_,_,_,_,h,_,_,_=>by simp at h
 |_::_,[],_,_,_,h,_,_,_=>by simp at h
 |(i,x)::parts,(j,v)::pv,L,cur,L',hi,hp,hL,h=>by
  simp only[List.map_cons,List.cons.injEq]at hi;obtain⟨rfl,hi⟩:=hi;simp only[List.map_cons,Az]at hp;simp only[Mu]at h;split at h
  ·cases h
  ·rename_i off size NP;split at h
   ·rename_i hc;obtain⟨ho,hs,hle⟩:=hc;have hx:=VR.cells hp.1 ho;have uG:v.cells.size=size:=by rw[<- hs,Az.length hx];simp
    have NN:L.length=cur.size:=by rw[Az.length hL];simp
    have Abg:¬ (v.cells.size≠size\/off+v.cells.size > cur.size):=by omega
    have key:=gh v.cells off cur (by omega);have:=Lr place parts pv (cut L off x.cells) (v.cells.zipIdx.foldl (λcs (p:Value × Nat)=>cs.setIfInBounds (off+p.2) p.1) cur) L' hi hp.2 (by
     rw[key];unfold cut;rw[hs,<- uG];exact Az.append (Az.append (Az.take off hL) hx) (Az.drop _ hL)) h
    obtain⟨cur',h1,h2⟩:=this;refine⟨cur',?_,h2⟩;have x8:(decide (v.cells.size≠size)||decide (off+v.cells.size > cur.size))=false:=by
     simp only[Bool.or_eq_false_iff,decide_eq_false_iff_not];exact not_or.1 Abg
    simp only[Instr.fill,NP,x8,Bool.false_eq_true,if_false];exact h1
   ·cases h
def qy{S:List Nat}:∀ {c p:AV} {u:Value},VR g w c u->Hx c=some p->(∀ r∈rowsOf [c],r∈S)->Jm c=true->PR (BX (g.freeze S)) w p u
 |.undef,_,_,_,_,_,ho=>by simp[Jm]at ho
 |.v x,p,u,hv,hp,_,ho=>by
  simp only[Hx,Option.some.injEq]at hp;subst hp;simp only[VR]at hv;simp only[PR];exact⟨hv,ho⟩
 |.sl (.own r 0) n es,p,u,hv,hp,hs,_=>by
  simp only[Hx,Option.some.injEq]at hp;subst hp;have:=VR.freeze (S:=S) _ u hv;have hr:r∈S:=hs r (by simp[rowsOf]);simp only[AV.freeze,hr,if_true]at this;simpa [VR]using this
 |.sl (.own r (lo+1)) n es,p,u,hv,hp,hs,_=>by simp[Hx]at hp
 |.sl .no n es,p,u,hv,hp,hs,_=>by
  simp only[Hx,Option.some.injEq]at hp;subst hp;have:=VR.freeze (S:=S) _ u hv;simpa [VR,AV.freeze]using this
 |.sl .full n es,p,u,hv,hp,hs,_=>by
  simp only[Hx,Option.some.injEq]at hp;subst hp;have:=VR.freeze (S:=S) _ u hv;simpa [VR,AV.freeze]using this
 |.agg _,_,_,_,hp,_,_=>by simp[Hx]at hp
 |.Bl _,_,_,_,hp,_,_=>by simp[Hx]at hp
 |.ptr _ _,_,_,_,hp,_,_=>by simp[Hx]at hp
 |.ep _ _ _ _,_,_,_,hp,_,_=>by simp[Hx]at hp
 |.fn f [],p,u,hv,hp,hs,_=>by
  simp only[Hx,Option.some.injEq]at hp;subst hp;simp only[VR]at hv;obtain⟨us,rfl,h⟩:=hv
  match h':us.toList,h with
  |[],_=>simp only[PR];exact⟨trivial,by rw[show us = #[] by simpa using h']⟩
  |_::_,h=>simp[Az]at h
 |.fn _ (_::_),_,_,_,hp,_,_=>by simp[Hx]at hp
 |.mv _ _,_,_,_,hp,_,_=>by simp[Hx]at hp
 |.mp _,_,_,_,hp,_,_=>by simp[Hx]at hp
 |.Gc _ _,_,_,_,hp,_,_=>by simp[Hx]at hp
 |.mem _ _,_,_,_,hp,_,_=>by simp[Hx]at hp
def R4(c:AV)(cs:List AV)(r:Nat):r∈rowsOf (c::cs)↔r∈rowsOf [c]\/r∈rowsOf cs:=by
 cases c with
 | sl t n es =>
  cases t with
  | own q lo=>cases lo<;>simp[rowsOf]
  |_=>simp[rowsOf]
 |_=>simp[rowsOf]
def P9{S:List Nat}:∀ {cs ps:List AV} {us:List Value},Az g w cs us->MY cs=some ps->(∀ r∈rowsOf cs,r∈S)->Cx cs=true->B3 (BX (g.freeze S)) w ps us
 |[],_,[],_,hp,_,_=>by simp[MY]at hp;subst hp;simp[B3]
 |[],_,_::_,h,_,_,_=>by simp[Az]at h
 |_::_,_,[],h,_,_,_=>by simp[Az]at h
 | c::cs,ps,u::us,h,hp,hs,ho=>by
  simp only[Az]at h;simp only[Cx,Bool.and_eq_true]at ho;simp only[MY]at hp;split at hp
  ·rename_i x xs hx mT;simp only[Option.some.injEq]at hp;subst hp;simp only[B3];exact⟨qy h.1 hx (λr hr=>hs r ((R4 c cs r).2 (.inl hr))) ho.1,P9 h.2 mT (λr hr=>hs r ((R4 c cs r).2 (.inr hr))) ho.2⟩
  ·cases hp
end
def Wj(k n:Nat)(zs:List Value)(st:St)(l c:Int):Option (AV × St) :=
 if 0<=l/\l<=c/\c<=4294967296/\Cx (vals zs)=true then some (.sl (.own k 0) n (List.replicate l.toNat (vals zs)),st.kill [k] []) else none
def lb(k n len:Nat)(zs:List Value)(st:St)(parts:List (Nat × AV)):Option (AV × St) :=
 match Mu (λi=>some (i*n,n)) (List.replicate len (vals zs)).flatten parts with
 |some L=>match MY L with
  |some ps=>if Cx L=true/\ps.length=len*n/\len*n<=16777216 then some (.sl (.own k 0) n (chunk n len ps),(st.freeze (rowsOf L)).kill [k] []) else none
  |none=>if n=1/\0<len/\L.length=len/\len<=16777216 then some (.mem true L,st) else none
 |none=>none
section
variable {C:Ctx} {A:A0} {N:Nat} {g g':Gh} {st:St} {a:Act} {w w':World} {P:Program}
def Io{t:TypeId}{zs:List Value}{i:TypeInfo}{z:Value}(h:zeroOf P t=some zs)(hi:P.info? t=some i)(hz:i.zero=some z):zs=z.cells.toList:=by
 simp[zeroOf,hi,hz]at h;exact h.symm
def CY(zs:List Value):∀ (l j:Nat) (v:Value),(List.replicate l zs).flatten[j]?=some v->zs[j%zs.length]?=some v/\j<l*zs.length
 | 0,j,v,h=>by simp at h
 | l+1,j,v,h=>by
  rw[List.replicate_succ,List.flatten_cons,List.getElem?_append]at h;split at h
  ·rename_i hj;rw[Nat.mod_eq_of_lt hj];exact⟨h,by rw[Nat.add_mul];omega⟩
  ·rename_i hj;obtain⟨h1,h2⟩:=CY zs l _ v h;refine⟨?_,by rw[Nat.add_mul];omega⟩
   rwa [Nat.mod_eq_sub_mod (by omega)]
def Mb{ro:Nat->Prop}:∀ (zs:List Value),Cx (vals zs)=true->B3 ro w (vals zs) zs
 |[],_=>by simp[vals,B3]
 | z::zs,h=>by
  simp only[vals,List.map_cons,Cx,Bool.and_eq_true,Jm]at h;simp only[vals,List.map_cons,B3,PR];exact⟨⟨trivial,h.1⟩,Mb zs h.2⟩
def HP{ro:Nat->Prop}{cs:List AV}{us:List Value}(h:B3 ro w cs us):∀ l:Nat,B3 ro w (List.replicate l cs).flatten (List.replicate l us).flatten
 | 0=>by simp[B3]
 | l+1=>by
  rw[List.replicate_succ,List.replicate_succ,List.flatten_cons,List.flatten_cons];exact B3.append h (HP h l)
def ct(hR:R C A N g st a w){t e n b k:Nat}{zs:List Value}(ht:Bz P t=some (e,n,b))(SV:zeroOf P e=some zs){kl kc:IntKind}{l c:Int}{z:AV}{st':St}(ha:Wj k n zs st l c=some (z,st')) :
 ∃ u w' g',(Instr.makeSlice t (.int kl l) (.int kc c)).run P w=.ok u w'/\R C A N g' st' a w'/\VR g' w' z u:=by
 obtain⟨hu,i,zv,hi,hz,gP,Ec,pw,hn,hb⟩:=DL ht;have Wa:=Io SV hi hz;unfold Wj at ha;split at ha
 ·rename_i hc;obtain⟨h0,x4,ud,Ce⟩:=hc;simp only[Option.some.injEq,Prod.mk.injEq]at ha;obtain⟨rfl,rfl⟩:=ha;have Ka:(i.bytes:Int)*c<=281474976710656:=by
   have:(i.bytes:Int)*c<=32768*4294967296:=Int.mul_le_mul (by omega) ud (by omega) (by omega);omega
  have CZ:=run_make (P:=P) w t e i zv hu hi hz kl kc l c h0 x4 Ka (by omega);have b9:zs.length=n:=by rw[Wa];simpa using gP
  obtain⟨g',k1,k2⟩:=hR.newRow k [k] (by simp) (madeCells zv.cells (c.toNat*i.size)) e n c.toNat (List.replicate l.toNat (vals zs)) (List.replicate l.toNat zs).flatten hn
   (λe' he=>by rw[List.eq_of_mem_replicate he];simp[vals,b9])
   (HP (Mb zs Ce) _)
   (by rw[size_madeCells,Ec]) (by simp;omega) (by simp only[maxLen];omega)
   (λj v hj=>by
    obtain⟨h1,h2⟩:=CY zs _ _ _ hj;have Aa4:j<c.toNat*i.size:=by
     rw[b9]at h2;rw[Ec];exact Nat.lt_of_lt_of_le h2 (Nat.mul_le_mul_right _ (by omega))
    simp only[madeCells];rw[Array.getElem?_map,Array.getElem?_range,if_pos Aa4];simp only[Option.map_some];rw[Wa]at h1;simp only[Array.length_toList,Array.getElem?_toList]at h1;rw[getElem!_def,h1])
  refine⟨_,_,g',CZ,k1,?_⟩;simpa using k2
 ·cases ha
def R.lH(h:R C A N g st a w)(gK:w'.os=w.os)(RT:I5 w w')(Ve:w'.output=w.output)(Ec:w'.heap.size=w.heap.size+1)(hold:∀ b,b<w.heap.size->w'.heap[b]?=w.heap[b]?) :
 ∃ g',R C A N g' st a w'/\BX g' w.heap.size/\(∀ b,b<w.heap.size->g'.own b=g.own b)/\Lasts [] [] g w g' w':=by
 let g':Gh:={ g with own:=λx=>if x=w.heap.size then .ro else g.own x }
 have hl:Lasts [] [] g w g' w':=⟨λb hb ho=>⟨by simp[g',Nat.ne_of_lt hb,ho],hold b hb⟩,λb q hb _ ho=>⟨by simp[g',Nat.ne_of_lt hb,ho],hold b hb⟩,λ_ _=>rfl,λ_ _=>rfl,λb q i hb _ ho=>⟨by simp[g',Nat.ne_of_lt hb,ho],hold b hb⟩,λ_ _ _=>rfl⟩;refine⟨g',?_,by simp[g',BX],λb hb=>by simp[g',Nat.ne_of_lt hb],hl⟩;have:=h.lasts hl (h.fr.step hl gK RT Ve (by omega) (λb hb ho=>⟨by simp[g',Nat.ne_of_lt hb,ho],hold b hb⟩) (λ_ _ he=>by cases he)) (λs cs hs _=>by
  have ho:=h.ob s cs hs;exact⟨by simp[g',Nat.ne_of_lt ho.lt,ho.1],hold _ ho.lt⟩)
 rwa [OV]at this
def R.yH(h:R C A N g st a w)(gK:w'.os=w.os)(RT:I5 w w')(Ve:w'.output=w.output)(Ec:w'.heap.size=w.heap.size+1)(hold:∀ b,b<w.heap.size->w'.heap[b]?=w.heap[b]?) :
 ∃ g',R C A N g' st a w'/\BX g' w.heap.size/\(∀ b,b<w.heap.size->g'.own b=g.own b):=by
 obtain⟨g',h1,h2,h3,_⟩:=h.lH gK RT Ve Ec hold;exact⟨g',h1,h2,h3⟩
def gV(hR:R C A N g st a w){t e n b k len:Nat}{zs:List Value}(ht:Bz P t=some (e,n,b))(SV:zeroOf P e=some zs){parts:List (Nat × AV)}{pv:List (Nat × Value)}
 (TZ:parts.map (·.1)=pv.map (·.1)) (V6:Az g w (parts.map (·.2)) (pv.map (·.2))) {z:AV} {st':St} (ha:lb k n len zs st parts=some (z,st')) :
 ∃ u w' g',(Instr.buildSlice t len pv.toArray).run P w=.ok u w'/\R C A N g' st' a w'/\VR g' w' z u:=by
 obtain⟨hu,i,zv,hi,hz,gP,Ec,pw,hn,hb⟩:=DL ht;have Wa:=Io SV hi hz;have b9:zs.length=n:=by rw[Wa];simpa using gP
 unfold lb at ha;split at ha
 ·rename_i L hL;have yt:Az g w (List.replicate len (vals zs)).flatten (List.replicate len zs).flatten:=by
   have:∀ m:Nat,Az g w (List.replicate m (vals zs)).flatten (List.replicate m zs).flatten:=by
    intro m
    induction m with
    | zero=>simp[Az]
    | succ m ih=>rw[List.replicate_succ,List.replicate_succ,List.flatten_cons,List.flatten_cons];exact Az.append (H0 zs) ih
   exact this len
  have tL:((Array.range (len*n)).map (zv.cells[·%zv.cells.size]!)).toList=(List.replicate len zs).flatten:=by
   apply List.ext_getElem?;intro j;cases hj:(List.replicate len zs).flatten[j]? with
   |none =>
    have:len*n<=j:=by
     have:=List.getElem?_eq_none_iff.1 hj;simpa [List.length_flatten,b9,Nat.mul_comm]using this
    simp;omega
   |some v =>
    obtain⟨h1,h2⟩:=CY zs _ _ _ hj;rw[b9]at h2;simp only[Array.getElem?_toList,Array.getElem?_map,Array.getElem?_range,if_pos h2,Option.map_some];rw[Wa]at h1;simp only[Array.length_toList,Array.getElem?_toList]at h1;rw[getElem!_def,h1]
  obtain⟨cur,hf,gx⟩:=Lr (λi=>some (i*n,n)) parts pv _ ((Array.range (len*n)).map (zv.cells[·%zv.cells.size]!)) L TZ V6 (by rw[tL];exact yt) hL;split at ha
  ·rename_i ps Vf;split at ha
   ·rename_i hc;obtain⟨Ce,NP,NM⟩:=hc;simp only[Option.some.injEq,Prod.mk.injEq]at ha;obtain⟨rfl,rfl⟩:=ha;have hLl:L.length=len*n:=by
     rw[<- NP];have:∀ (cs ps:List AV),MY cs=some ps->ps.length=cs.length:=by
      intro cs
      induction cs with
      | nil=>intro ps h;simp[MY]at h;simp[<- h]
      | cons c cs ih =>
       intro ps h;simp only[MY]at h;split at h
       ·rename_i x xs hx mT;simp at h;subst h;simp[ih xs mT]
       ·cases h
     exact(this L ps Vf).symm
    obtain⟨c1,c2,c3⟩:=QC n len ps NP;have XT:=P9 (S:=rowsOf L) gx Vf (λr hr=>hr) Ce;obtain⟨g',k1,k2⟩:=(hR.freeze (rowsOf L)).newRow k [k] (by simp) cur e n len (chunk n len ps) cur.toList hn c2 (by rw[c3];exact XT)
     (by have:=Az.length gx;simp at this;omega) (by omega) (by simp only[maxLen];have:=Nat.le_mul_of_pos_right len hn;omega)
     (λj v hj=>by simpa using hj)
    refine⟨_,_,g',?_,k1,k2⟩;have iT:¬ (len*n > 2 ^ 24):=by omega
    have eI:Instr.fill (λi=>some (i*n,n)) (if len*n=0 then #[] else (Array.range (len*n)).map (zv.cells[·%zv.cells.size]!)) pv=some cur:=by
     by_cases h0:len*n=0
     ·rw[h0]at hf ⊢;simpa [Array.range_zero']using hf
     ·simpa [h0]using hf
    rw[c1]
    by_cases h0:len*n=0
    ·simp only[h0,if_true]at eI;simp[Instr.buildSlice,run_underlying hu,sizeOf,typeInfo,hi,Ec,h0,Array.range_zero',eI,newRow]
    ·simp only[h0,if_false]at eI;simp[Instr.buildSlice,run_underlying hu,sizeOf,typeInfo,hi,Ec,h0,zeroValue,hz,eI,newRow];exact NM
   ·cases ha
  ·split at ha
   ·rename_i hc;obtain⟨rfl,XS,hLl,NM⟩:=hc;simp only[Option.some.injEq,Prod.mk.injEq]at ha;obtain⟨rfl,rfl⟩:=ha;have NN:cur.size=len:=by have:=Az.length gx;simp at this;omega
    obtain⟨g',k1,k2,_,hl⟩:=hR.lH (w':=w.alloc (.cells cur e)) rfl ⟨rfl,Nat.le_refl _⟩ rfl (by simp) (λb hb=>alloc_old w _ b hb);refine⟨.slice (some ⟨w.heap.size,0,none⟩) len len,w.alloc (.cells cur e),g',?_,k1,?_⟩
    ·have iT:¬ (len > 2 ^ 24):=by omega
     have h0:¬ (len=0):=by omega
     simp only[Nat.mul_one]at hf;simp[Instr.buildSlice,run_underlying hu,sizeOf,typeInfo,hi,Ec,h0,zeroValue,hz,hf,newRow];exact NM
    ·have hv:=Az.lasts hl _ _ gx;rw[D5]at hv;simp only[VR,Yz];refine⟨⟨w.heap.size,0,none⟩,cur.toList,k2,⟨λhe=>?_,λi hi=>?_⟩,hv,len,by simp[NN],by simp[NN],by simp only[maxLen];omega⟩
     ·have h9:cur.toList.length=0:=by rw[he];rfl
      rw[Array.length_toList]at h9;omega
     ·rw[add_lit,cell_of_row _ _ _ _ _ _ (heap_alloc_new w _)];simp
   ·cases ha
 ·cases ha
end
end Go.Abs
