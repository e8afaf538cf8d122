/- part 1 of the proof -/
import Derived.Test.YteliegkcmjimoaaGreatDoorW00
set_option linter.all false
namespace Go.Abs
def Bq(P:Program)(s:TypeId)(f:Nat):Option Nat :=
 match P.underlying s with
 |some (.struct fs)=>match fs[f]? with
  |some fd=>match Cn P fd.type with
   |some (_+1)=>some fd.offset
   |_=>none
  |none=>none
 |_=>none
def QA(off:Nat):AV->Option AV
 |.ptr s o=>some (.ptr s (o+off))
 |.ep t i cs o=>some (.ep t i cs (o+off))
 |_=>none
def AE(P:Program)(t:TypeId):Option (TypeId × Nat) :=
 match P.underlying t with
 |some (.slice e)=>(Cn P e).map λn=>(e,n)
 |_=>none
def El(P:Program)(t:TypeId):Option (Nat × Nat) :=
 match P.underlying t with
 |some (.array len e)=>(Cn P e).map λn=>(len,n)
 |_=>none
def Ta(n:Nat)(i:Int):AV->Option AV
 |.sl (.own r lo) m es=>if m=n/\0<=i then match es[i.toNat]? with
  |some c=>some (.ep (.own r 0) (lo+i.toNat) c 0)
  |none=>none
  else none
 |.sl t m es=>if m=n/\0<=i then match es[i.toNat]? with
  |some c=>some (.ep .no i.toNat c 0)
  |none=>none
  else none
 |.mem true xs=>if n=1/\0<=i then match xs[i.toNat]? with
  |some c=>some (.mem false [c])
  |none=>none
  else none
 |_=>none
def S9(len n:Nat)(i:Int):AV->Option AV
 |.ptr s o=>if 0<=i/\i<len then some (.ptr s (o+i.toNat*n)) else none
 |.ep t j cs o=>if 0<=i/\i<len then some (.ep t j cs (o+i.toNat*n)) else none
 |_=>none
section
variable {C:Ctx} {A:A0} {N:Nat} {g g':Gh} {st:St} {a:Act} {w w':World} {P:Program}
def qF{t:Tag}{i:Nat}{cs:List AV}{o k:Nat}{u:Value}(h:Ix g w t i cs o u):∃ ad:Addr,u=.pointer (some ad)/\Ix g w t i cs (o+k) (.pointer (some (ad.add k))):=by cases t<;>grind[Ix,add_lit,add_add]
def T5{s f off:Nat}(ho:Bq P s f=some off){p x:AV}{up:Value}(hp:VR g w p up)(hx:QA off p=some x):∃ u,(Instr.fieldAt s up f).run P w=.ok u w/\VR g w x u:=by
 unfold Bq at ho;split at ho
 ·rename_i fs hs;split at ho
  ·rename_i fd hf;split at ho
   ·rename_i k hk;simp at ho;subst ho;have run:∀ ad:Addr,(Instr.fieldAt s (.pointer (some ad)) f).run P w=.ok (.pointer (some (ad.add fd.offset))) w:=λad=>by simp_all[Instr.fieldAt,run_underlying,Instr.sureAddr,fieldPlace,run_sizeOf]
    unfold QA at hx;split at hx
    ·simp at hx;subst hx;simp_all[VR,add_lit]
    ·simp at hx;subst hx;simp[VR]at hp;obtain⟨ad,rfl,h2⟩:=qF (k:=fd.offset) hp;exact⟨_,run _,h2⟩
    grind
   grind
  grind
 grind
def RS{t:TypeId}{e:TypeId}{n:Nat}(ht:AE P t=some (e,n)){k:IntKind}{i:Int}{p x:AV}{up:Value}(hp:VR g w p up)(hx:Ta n i p=some x) :
 ∃ u,(Instr.indexAt t up (.int k i)).run P w=.ok u w/\VR g w x u:=by
 unfold AE at ht;split at ht
 ·rename_i e' hs;obtain⟨n',hn,he⟩:=Option.map_eq_some_iff.1 ht;simp at he;obtain⟨rfl,rfl⟩:=he;have run:∀ (ad:Addr) (len cap:Nat),0<=i->i<len->(Instr.indexAt t (.slice (some ad) len cap) (.int k i)).run P w=.ok (.pointer (some (ad.add (i.toNat*n')))) w:=λad len cap h0 h1=>by simp[Instr.indexAt,asIntOf,run_underlying hs,h0,h1,run_sizeOf hn]
  unfold Ta at hx;split at hx
  ·rename_i r lo m es;split at hx
   ·rename_i hc;obtain⟨rfl,h0⟩:=hc;split at hx
    ·rename_i c hc;simp at hx;subst hx;have AP:i.toNat<es.length:=by grind
     simp only[VR,Dr]at hp;obtain⟨hm,⟨_,h2⟩|⟨_,h2,_⟩|⟨cap,cur,T,h1,h2,h3,h5,h6,h7,h8⟩⟩:=hp
     ·grind
     ·grind
     ·subst h1;refine⟨_,run _ _ _ h0 (by omega),?_⟩;obtain⟨RN,hcp⟩:=Ea.at_ es _ m 0 h8 _ _ hc;simp only[VR,Ix];refine⟨cur,T,?_,h5,h6,?_,?_⟩
      ·grind[add_lit]
      ·rw[RN];exact Nat.le_trans (Nat.mul_le_mul_right _ (by omega)) h7
      ·have:=EG.shift c ⟨g.row r,lo*m,none⟩ ((0+i.toNat)*m) 0 hcp;grind[add_lit]
    grind
   grind
  ·rename_i t' m es Y5;split at hx
   ·rename_i hc;obtain⟨rfl,h0⟩:=hc;split at hx
    ·rename_i c hc;simp at hx;subst hx;have AP:i.toNat<es.length:=by grind
     have gq:PR (CK g) w (.sl t' m es) up:=by simp_all[VR]
     simp only[PR]at gq;obtain⟨_,ad',cap,h1,h2,h3,h4,h5,h6|⟨ad,h6,h7,h8⟩⟩:=gq
     ·grind
     ·subst h6;subst h1;refine⟨_,run _ _ _ h0 (by omega),?_⟩;obtain⟨RN,hcp⟩:=Ea.at_ es _ m 0 h8 _ _ hc;grind[VR,Ix,Addr.add_zero',GV,EG.shift]
    grind
   grind
  ·rename_i xs;split at hx
   ·rename_i hc;obtain⟨rfl,h0⟩:=hc;split at hx
    ·rename_i c hc;simp at hx;subst hx;simp only[VR,gw]at hp;obtain⟨ad,vs,q1,q2,q3,cap,rfl,q4,q5⟩:=hp;obtain⟨v,e1,e2⟩:=Bf.get q3 _ _ hc;have AP:i.toNat<vs.length:=by grind
     refine⟨_,run _ _ _ h0 (by omega),?_⟩;simp only[VR,gw,Nat.mul_one];refine⟨ad.add i.toNat,[v],by grind[GV],⟨by simp,λk hk=>?_⟩,by simp_all[Bf],rfl⟩;have Tn:k=0:=by grind
     subst Tn;rw[Addr.add_zero',q2.2 _ AP,e1];rfl
    grind
   grind
  grind
 grind
def RR{t:TypeId}{len n:Nat}(ht:El P t=some (len,n)){k:IntKind}{i:Int}{p x:AV}{up:Value}(hp:VR g w p up)(hx:S9 len n i p=some x) :
 ∃ u,(Instr.indexAt t up (.int k i)).run P w=.ok u w/\VR g w x u:=by
 unfold El at ht;split at ht
 ·rename_i Afe e' hs;obtain⟨n',hn,he⟩:=Option.map_eq_some_iff.1 ht;simp at he;obtain⟨rfl,rfl⟩:=he;have run:∀ (ad:Addr),0<=i->i<Afe->(Instr.indexAt t (.pointer (some ad)) (.int k i)).run P w=.ok (.pointer (some (ad.add (i.toNat*n')))) w:=λad h0 h1=>by simp[Instr.indexAt,asIntOf,run_underlying hs,Instr.sureAddr,h0,h1,run_sizeOf hn]
  unfold S9 at hx;split at hx
  ·split at hx
   ·rename_i hc;simp at hx;subst hx;simp_all[VR,add_lit]
   grind
  ·split at hx
   ·rename_i hc;simp at hx;subst hx;simp[VR]at hp;obtain⟨ad,rfl,h2⟩:=qF (k:=i.toNat*n') hp;exact⟨_,run _ hc.1 hc.2,h2⟩
   grind
  grind
 grind
theorem Xg{c:AV}{u:Value}(h:KR c=true)(hv:VR g w c u):u.oneCell'=true:=by
 cases c with
 | v x=>simp[VR]at hv;subst hv;exact h
 | sl t n es =>
  cases t with
  | own r lo =>
   simp only[VR,Dr]at hv;obtain⟨_,⟨rfl,_⟩|⟨_,_,_,_,rfl,_⟩|⟨_,_,_,rfl,_⟩⟩:=hv<;>rfl
  | no=>simp only[VR,PR]at hv;obtain⟨_,_,_,rfl,_⟩:=hv;rfl
  | full=>simp only[VR,PR]at hv;obtain⟨_,_,_,rfl,_⟩:=hv;rfl
 | ptr s o=>simp[VR]at hv;obtain⟨_,rfl⟩:=hv;rfl
 | mp s=>simp[VR]at hv;obtain⟨_,rfl⟩:=hv;rfl
 | ep t i cs o =>
  simp[VR]at hv;obtain⟨ad,_,rfl,_⟩:=aC hv;rfl
 | fn f CW=>simp[VR]at hv;obtain⟨_,rfl,_⟩:=hv;rfl
 | mv f CW=>simp[VR]at hv;obtain⟨_,rfl,_⟩:=hv;rfl
 | Kb t x=>simp[VR]at hv;obtain⟨_,rfl,_⟩:=hv;rfl
 | undef=>grind[KR]
 | agg cs=>grind[KR]
 | BC cs=>grind[KR]
 | mem b xs=>grind[KR]
def OY:∀ {cs:List AV} {us:List Value},DD cs=true->Bf g w cs us->∀ u∈us,u.oneCell'=true
 |[],[],_,_,u,hu=>by grind
 |[],_::_,_,h,_,_=>by grind[Bf]
 |_::_,[],_,h,_,_=>by grind
 | c::cs,v::us,ho,h,u,hu=>by
  simp[DD]at ho;simp[Bf]at h;rcases List.mem_cons.1 hu with rfl|hu
  ·grind[Xg]
  ·exact OY ho.2 h.2 u hu
theorem al{u:Value}(h:u.oneCell'=true):u.cells = #[u]:=by cases u<;>simp_all[Value.cells,Value.oneCell']
theorem VR.cells{x:AV}{u:Value}(hv:VR g w x u)(ho:DD x.cells=true):Bf g w x.cells u.cells.toList:=by
 by_cases hx:∃ cs,x=.agg cs
 ·obtain⟨cs,rfl⟩:=hx;simp[VR]at hv;obtain⟨us,rfl,h⟩:=hv;grind[AV.cells,Value.cells]
 ·have hc:x.cells=[x]:=by
   cases x with
   | agg cs=>grind
   |_=>rfl
  rw[hc]at ho ⊢;simp[DD]at ho;grind[al,Xg,Bf]
theorem OO(x:AV):x.kill [] []=x:=Vy (by simp[AV.Ii]) (by simp[AV.Ii]) (by simp[AV.Ii]) (by simp[AV.Ii]) x
theorem Kn(xs:List AV):NQ [] [] xs=xs:=Jw (by simp[AV.Ii]) (by simp[AV.Ii]) (by simp[AV.Ii]) (by simp[AV.Ii]) xs
def Mh:∀ l,ON [] [] l=l
 |[]=>rfl
 |(k,x)::l=>by simp[ON,OO,Mh l]
def Mg:∀ l,JZ [] [] l=l
 |[]=>rfl
 |(k,x)::l=>by simp[JZ,Kn,Mg l]
theorem Q2(st:St):st.kill [] []=st:=by simp[St.kill,Mh,Mg]
end
def H3{α:Type}(k:Nat)(x:α):List (Nat × α)->List (Nat × α)
 |[]=>[]
 |(j,y)::l=>if j=k then (j,x)::l else (j,y)::H3 k x l
def iZ{α:Type}(k:Nat)(x:α)(j:Nat):∀ l:List (Nat × α),lk j (H3 k x l)=if j=k then (lk j l).map (λ_=>x) else lk j l
 |[]=>by simp[H3,lk]
 |(i,y)::l=>by
  simp[H3]
  by_cases iG:i=k
  ·subst iG
   by_cases UN:i=j
   ·grind[lk]
   ·simp only[if_true,lk,UN,if_false];grind
  ·simp[iG,if_false,lk]
   by_cases UN:i=j<;>simp_all[iZ]
def cut(L:List AV)(off:Nat)(cs:List AV):List AV:=L.take off++cs++L.drop (off+cs.length)
section
variable {C:Ctx} {A:A0} {N:Nat} {g g':Gh} {st:St} {a:Act} {w w':World} {P:Program}
theorem Tf{b s:Nat}(h:g.own b=.box s)(cs:Array Value):Lasts [] [] g w g (w.setRow b cs) where
 ro:=λk hk ho=>⟨ho,setRow_other w b k cs (λe=>by grind)⟩
 row:=λk q hk _ ho=>⟨ho,setRow_other w b k cs (λe=>by grind)⟩
 rows:=λ_ _=>rfl
 boxes:=λ_ _=>rfl
def Sg{t:TypeId}{n:Nat}{b o:Nat}{T:TypeId}{cur:Array Value}{v:Value}(h2:Cn P t=some n)(hn:v.cells.size=n)(hg:w.heap[b]?=some (.cells cur T (0,0)))
 (hle:o+n<=cur.size) (h1:∀ u∈v.cells.toList,u.oneCell'=true) :
 (storeVar t ⟨b,o,none⟩ v).run P w=.ok () (w.setRow b (cur.toList.take o++v.cells.toList++cur.toList.drop (o+n)).toArray):=by
 unfold storeVar;simp only[Sem.run_bind,run_sizeOf h2,Result.andThen_ok,ne_eq,hn,not_true,if_false];grind[run_storeCells_at]
def R.tN(h:R C A N g st a w){t:TypeId}{n:Nat}(h2:Cn P t=some n){s off:Nat}(lL:Dm s=false){cs:List AV}(hs:lk s st.Aj=some cs){x:AV}{u:Value}(hx:VR g w x u)(ho:DD x.cells=true)
 (hn:x.cells.length=n) (hle:off+n<=cs.length) :
 ∃ w',(Instr.storeAt t (.pointer (some ⟨g.box s,off,none⟩)) u).run P w=.ok () w'/\R C A N g ⟨st.tmps,H3 s (cut cs off x.cells) st.Aj⟩ a w':=by
 have rT:=(h.ob s cs hs).1;obtain⟨cur,T,hh,hv⟩:=(h.ob s cs hs).cells lL;have nk:=VR.cells hx ho;have pJ:u.cells.size=n:=by rw[<- hn,Bf.length nk];simp
 have RN:cs.length=cur.size:=by rw[Bf.length hv];simp
 have GI:=Sg (P:=P) (w:=w) (o:=off) h2 pJ hh (by omega) (OY ho nk);generalize UP:(cur.toList.take off++u.cells.toList++cur.toList.drop (off+n)).toArray=new at GI;refine⟨w.setRow (g.box s) new,by grind[Instr.storeAt,Instr.sureAddr],?_⟩;have hl:=Tf (w:=w) rT new;have Ig:Fr C A g (w.setRow (g.box s) new):=h.fr.step hl rfl ⟨rfl,by simp⟩ rfl (by simp) (λb hb N8=>⟨N8,setRow_other w _ b _ (λe=>by grind)⟩) (λ_ _ he=>by grind);refine⟨h.size,h.defs,λk y hy=>?_,λq N7 hq=>?_,Ig⟩
 ·obtain⟨v,h1,h2⟩:=h.tm k y hy;exact⟨v,h1,by have:=VR.lasts hl y v h2;grind[OO]⟩
 ·simp[iZ]at hq
  by_cases lM:q=s
  ·subst lM;simp[hs]at hq;subst hq;refine⟨rT,.inl ⟨lL,new,T,setRow_heap w _ cur new T _ hh,?_⟩⟩;have lift:∀ {ds:List AV} {vs:List Value},Bf g w ds vs->Bf g (w.setRow (g.box q) new) ds vs:=λhd=>by have:=Bf.lasts hl _ _ hd;grind[Kn]
   unfold cut;have e:new.toList=cur.toList.take off++u.cells.toList++cur.toList.drop (off+n):=by grind
   rw[hn,e];grind[Bf.append,Bf.take,Bf.drop]
  ·simp[lM]at hq;have h1:=(h.ob q N7 hq).1;refine(h.ob q N7 hq).lift rfl h1 (setRow_other w _ _ _ (λe=>by grind)) (λus h4=>by have:=Bf.lasts hl _ _ h4;grind[Kn])
end
end Go.Abs
namespace Go.Abs
def Cs(P:Program)(t:TypeId):Option (TypeId × Nat × Nat) :=
 match P.underlying t with
 |some (.slice e)=>match P.info? e with
  |some i=>match i.zero with
   |some z=>if z.cells.size=i.size/\0<i.size/\i.bytes<=32768 then some (e,i.size,i.bytes) else none
   |none=>none
  |none=>none
 |_=>none
def FJ{P:Program}{t e n b:Nat}(h:Cs P t=some (e,n,b)):P.underlying t=some (.slice e)/\∃ i z,P.info? e=some i/\i.zero=some z/\z.cells.size=n/\i.size=n/\i.bytes=b/\0<n/\b<=32768:=by
 unfold Cs at h;grind
def AZ(P:Program)(t:TypeId):Bool:=match P.underlying t with
 |some (.slice _)=>true
 |_=>false
section
variable {P:Program} {w:World}
def Hu{size n:Nat}{x:Value}{news:List Value}(hl:news.length=n*size)(hx:(∃ a c,x=.slice (some a) n c/\∀ (j:Nat) (v:Value),news[j]?=some v->w.cell? (a.add j)=some v)\/(n=0/\∃ c,x=.slice none 0 c)) :
 (Builtin.firstCells size n x).run P w=.ok news.toArray w:=by
 rcases hx with ⟨a,c,rfl,h⟩|⟨rfl,c,rfl⟩
 ·grind[run_firstCells_some]
 simp_all[Builtin.firstCells]
def cz(w:World)(size m:Nat)(x:Value)(news:List Value):Prop :=
 news.length=m*size/\((∃ a c,x=.slice (some a) m c/\∀ (j:Nat) (v:Value),news[j]?=some v->w.cell? (a.add j)=some v)\/(m=0/\∃ c,x=.slice none 0 c))
def Iu{t t2 ty e:TypeId}{i:TypeInfo}{z:Value}(ht:P.underlying t=some (.slice e))(IE:AZ P t2=true)(hi:P.info? e=some i)(hz:i.zero=some z)
 {base:Option Addr} {sLen sCap:Nat} {olds:List Value} (ho:cz w i.size sLen (.slice base sLen sCap) olds) {x:Value} {m:Nat} {news:List Value} (hx:cz w i.size m x news)
 (hg:sCap<sLen+m) (hle:sLen<=sCap) (hb:(sLen+m)*i.bytes<=140737488355328) (h63:sLen+m<=9223372036854775807) :
 (Builtin.append_ #[t,t2] ty #[.slice base sLen sCap,x]).run P w =
  .ok (.slice (some ⟨w.heap.size,0,none⟩) (sLen+m) (grownCap w (sLen+m) sCap e))
   (w.drew.alloc (.cells (olds.toArray++news.toArray++Builtin.zeroCells z.cells (grownCap w (sLen+m) sCap e-(sLen+m))) e)):=by
 have hn:¬ (sLen+m<=sCap):=by omega
 have AaZ:¬ (9223372036854775807<((sLen:Int)+(m:Int))):=by omega
 have Md:=growslice_fits (need:=sLen+m) (old:=sCap) hg hb;have Ahb:¬ (281474976710656<Builtin.nextslicecap (sLen+m) sCap*i.bytes):=by omega
 have hf:(Builtin.firstCells i.size m x).run P w.drew=.ok news.toArray w.drew:=Hu hx.1 (by rcases hx.2 with ⟨a,c,h1,h2⟩|h<;>simp_all);have hfo:(Builtin.firstCells i.size sLen (.slice base sLen sCap)).run P w.drew=.ok olds.toArray w.drew:=Hu ho.1 (by rcases ho.2 with ⟨a,c,h1,h2⟩|h<;>simp_all);have hlen:(Builtin.lenOf x).run P w=.ok m w:=by rcases hx.2 with ⟨a,c,rfl,_⟩|⟨rfl,c,rfl⟩<;>simp[Builtin.lenOf]
 unfold AZ at IE;split at IE
 ·rename_i e2 pC;simp[Builtin.append_,run_underlying ht,run_underlying pC,sizeOf,typeInfo,zeroValue,hi,hz,hlen,hn,AaZ,Ahb,Question.forced,hf,hfo,newRow,grownCap];grind
 grind
def JV{t t2 ty e:TypeId}{i:TypeInfo}(ht:P.underlying t=some (.slice e))(IE:AZ P t2=true)(hi:P.info? e=some i)
 {base:Option Addr} {sLen sCap:Nat} {x:Value} (hx:cz w i.size 0 x []) (hle:sLen<=sCap) :
 (Builtin.append_ #[t,t2] ty #[.slice base sLen sCap,x]).run P w=.ok (.slice base sLen sCap) w:=by
 have hf:(Builtin.firstCells i.size 0 x).run P w=.ok #[] w:=Hu (news:=[]) hx.1 hx.2;have hlen:(Builtin.lenOf x).run P w=.ok 0 w:=by rcases hx.2 with ⟨a,c,rfl,_⟩|⟨_,c,rfl⟩<;>simp[Builtin.lenOf]
 unfold AZ at IE;split at IE
 ·rename_i e2 pC;cases base<;>simp[Builtin.append_,run_underlying ht,run_underlying pC,sizeOf,typeInfo,hi,hlen,hle,hf,storeCells]
 grind
def Tx{t t2 ty e:TypeId}{i:TypeInfo}(ht:P.underlying t=some (.slice e))(IE:AZ P t2=true)(hi:P.info? e=some i)
 {b sLen sCap:Nat} {T:TypeId} {cur:Array Value} (hb:w.heap[b]?=some (.cells cur T (0,0))) {x:Value} {m:Nat} {news:List Value} (hx:cz w i.size m x news)
 (h1:∀ u∈news,u.oneCell'=true) (lN:sLen+m<=sCap) (Md:sLen*i.size+news.length<=cur.size) :
 (Builtin.append_ #[t,t2] ty #[.slice (some ⟨b,0,none⟩) sLen sCap,x]).run P w =
  .ok (.slice (some ⟨b,0,none⟩) (sLen+m) sCap) (w.setRow b (cur.toList.take (sLen*i.size)++news++cur.toList.drop (sLen*i.size+news.length)).toArray):=by
 have hf:(Builtin.firstCells i.size m x).run P w=.ok news.toArray w:=Hu hx.1 hx.2;have hlen:(Builtin.lenOf x).run P w=.ok m w:=by rcases hx.2 with ⟨a,c,rfl,_⟩|⟨rfl,c,rfl⟩<;>simp[Builtin.lenOf]
 have GR:=run_storeCells_at P b (sLen*i.size) T news 0 cur w hb (by omega) h1;simp only[Nat.add_zero]at GR;unfold AZ at IE;split at IE
 ·rename_i e2 pC;simp[Builtin.append_,run_underlying ht,run_underlying pC,sizeOf,typeInfo,hi,hlen,lN,hf,add_lit,GR]
 grind
end
section
variable {C:Ctx} {A:A0} {N:Nat} {g g':Gh} {st:St} {a:Act} {w w':World} {P:Program}
def elems(n:Nat):AV->Option (List (List AV))
 |.v (.slice _ 0 _)=>some []
 |.sl _ m es=>if m=n then some es else none
 |_=>none
def L1{n:Nat}{x:AV}{es:List (List AV)}{u:Value}(hn:0<n)(h:elems n x=some es)(hv:VR g w x u) :
 ∃ us:List Value,cz w n es.length u us/\CR (CK g) w es.flatten us/\(∀ e∈es,e.length=n):=by
 unfold elems at h;split at h
 ·rename_i a0 c0;simp at h;subst h;simp[VR]at hv;subst hv;refine⟨[],⟨by simp,?_⟩,by simp[CR],by simp⟩;cases a0<;>simp_all
 ·rename_i t m P3;split at h
  ·rename_i hm;simp at h;subst h;subst hm
   by_cases ho:∃ r lo,t=.own r lo
   ·obtain⟨r,lo,rfl⟩:=ho;simp only[VR,Dr]at hv;obtain⟨_,⟨rfl,rfl⟩|⟨_,rfl,a',cap,rfl,_⟩|⟨cap,cur,T,rfl,h2,h3,h5,h6,h7,h8⟩⟩:=hv
    ·exact⟨[],⟨by simp,.inr ⟨rfl,0,rfl⟩⟩,by simp[CR],by simp⟩
    ·refine⟨[],⟨by simp,?_⟩,by simp[CR],by simp⟩;cases a'<;>simp_all
    ·obtain⟨us,k1,k2,k3⟩:=Ea.list P3 _ m 0 h8;exact⟨us,⟨k2,.inl ⟨_,cap,rfl,λj v hj=>by grind⟩⟩,k1,Ea.lens h8⟩
   ·have hp:PR (CK g) w (.sl t m P3) u:=by
     simp_all[VR]
    simp only[PR]at hp;obtain⟨_,a',cap,rfl,h2,h3,h4,h5,rfl|⟨ad,rfl,h7,h8⟩⟩:=hp
    ·refine⟨[],⟨by simp,?_⟩,by simp[CR],by simp⟩;cases a'<;>grind
    ·obtain⟨us,k1,k2,k3⟩:=Ea.list P3 _ m 0 h8;exact⟨us,⟨k2,.inl ⟨_,cap,rfl,λj v hj=>by grind⟩⟩,k1,Ea.lens h8⟩
  grind
 grind
end
def Q9(k n:Nat)(st:St)(x y:AV):Option (AV × St) :=
 match elems n x,elems n y with
 |some es,some fs=>if es.length+fs.length<=4294967296 then match x with
  |.v (.slice none 0 0)=>some (.sl (.own k 0) n (es++fs),st.kill [k] [])
  |.sl (.own r 0) _ _=>some (.sl (.own k 0) n (es++fs),st.kill [r,k] [])
  |_=>none
  else none
 |_,_=>none
section
variable {C:Ctx} {A:A0} {N:Nat} {g g':Gh} {st:St} {a:Act} {w w':World} {P:Program}
def WR(g:Gh)(w:World)(S T:List Nat):Lasts S T g w g w:=⟨λ_ _ h=>⟨h,rfl⟩,λ_ _ _ _ h=>⟨h,rfl⟩,λ_ _=>rfl,λ_ _=>rfl⟩
def iT(g:Gh)(w:World)(S T:List Nat):Lasts S T g w g w.drew:=⟨λ_ _ h=>⟨h,rfl⟩,λ_ _ _ _ h=>⟨h,rfl⟩,λ_ _=>rfl,λ_ _=>rfl⟩
def R.drew(h:R C A N g st a w):R C A N g st a w.drew:=by
 have hl:=iT g w [] [];have:=h.lasts hl (h.fr.step hl rfl ⟨rfl,by simp⟩ rfl (Nat.le_refl _) (λb _ ho=>⟨ho,rfl⟩) (λ_ _ he=>by grind)) (λs cs hs _=>⟨(h.ob s cs hs).1,rfl⟩);grind[Q2]
theorem R.kill(h:R C A N g st a w)(S T:List Nat)(hT:∀ s∈A.ext,s∉T):R C A N g (st.kill S T) a w:=by
 have hl:=WR g w S T;exact h.lasts hl (h.fr.step hl rfl ⟨rfl,by omega⟩ rfl (Nat.le_refl _) (λb _ ho=>⟨ho,rfl⟩) hT) (λs cs hs _=>⟨(h.ob s cs hs).1,rfl⟩)
theorem pR{cs:List AV}{us:List Value}(h:CR (CK g) w cs us):CR (CK g) w.drew cs us:=CR.mono (w:=w) (w':=w.drew) (λ_ _ h=>⟨h,rfl⟩) h
def R.SA(h:R C A N g st a w){k n:Nat}{S:List Nat}(hk:k∈S){e:TypeId}{z:Value}(cm:z.cells.size=n)(hn:0<n){es fs:List (List AV)}{us vs:List Value}
 (h1:CR (CK g) w es.flatten us) (h2:CR (CK g) w fs.flatten vs) (hl1:∀ e∈es,e.length=n) (lK:∀ e∈fs,e.length=n) (hu:us.length=es.length*n) (hv:vs.length=fs.length*n)
 {cap:Nat} (dy:es.length+fs.length<=cap) (hm:cap<=maxLen) :
 ∃ g',R C A N g' (st.kill S []) a (w.drew.alloc (.cells (us.toArray++vs.toArray++Builtin.zeroCells z.cells (cap-(es.length+fs.length))) e)) /\
  VR g' (w.drew.alloc (.cells (us.toArray++vs.toArray++Builtin.zeroCells z.cells (cap-(es.length+fs.length))) e)) (.sl (.own k 0) n (es++fs)) (.slice (some ⟨w.heap.size,0,none⟩) (es.length+fs.length) cap):=by
 have:=h.drew.newRow k S hk (us.toArray++vs.toArray++Builtin.zeroCells z.cells (cap-(es.length+fs.length))) e n cap (es++fs) (us++vs) hn
  (λe he=>(List.mem_append.1 he).elim (hl1 e) (lK e))
  (by grind[CR.append,pR])
  (by
   simp[Array.size_append,List.size_toArray,size_zeroCells,cm,hu,hv];rw[<- Nat.add_mul,<- Nat.add_mul];grind)
  (by grind) hm
  (λj v hj=>by grind)
 simp_all
def af(hR:R C A N g st a w){t t2 ty e n b k:Nat}(ht:Cs P t=some (e,n,b))(IE:AZ P t2=true){x y z:AV}{ux uy:Value}(hx:VR g w x ux)(hy:VR g w y uy){st':St}
 (ha:Q9 k n st x y=some (z,st')):∃ u w' g',(Builtin.append_ #[t,t2] ty #[ux,uy]).run P w=.ok u w'/\R C A N g' st' a w'/\VR g' w' z u:=by
 obtain⟨hu,i,zv,hi,hz,cm,Hb,Qu,hn,hb⟩:=FJ ht;subst Hb;unfold Q9 at ha;split at ha
 ·rename_i es fs hes Su;split at ha
  ·rename_i hlen;obtain⟨vs,sy,py,ly⟩:=L1 hn Su hy;obtain⟨us,sx,px,lx⟩:=L1 hn hes hx;have S2:(es.length+fs.length)*i.bytes<=140737488355328:=by
    have:(es.length+fs.length)*i.bytes<=4294967296*32768:=Nat.mul_le_mul hlen (by omega);omega
   have dz:∀ old,grownCap w (es.length+fs.length) old e<=maxLen:=λold=>grownCap_le_maxLen w _ old e (by grind[maxLen])
   have bb:∀ old,es.length+fs.length<=grownCap w (es.length+fs.length) old e:=λold=>grownCap_ge w _ old e
   split at ha
   ·-- nil
    simp at ha;obtain⟨rfl,rfl⟩:=ha;have Abt:es=[]:=by grind[elems]
    subst Abt;simp[VR]at hx;subst hx
    by_cases hm:fs.length=0
    ·have hf:fs=[]:=List.eq_nil_of_length_eq_zero hm;subst hf;have hv0:vs=[]:=List.eq_nil_of_length_eq_zero (by simpa using sy.1);subst hv0;exact⟨_,_,g,JV hu IE hi sy (Nat.le_refl 0),hR.kill [k] [] (λ_ _ h=>by cases h),by simp_all[VR,Dr]⟩
    ·have GI:=Iu (ty:=ty) hu IE hi hz (base:=none) (sLen:=0) (sCap:=0) (olds:=[]) ⟨by simp,.inr ⟨rfl,0,rfl⟩⟩ sy (by omega) (Nat.le_refl 0) (by omega) (by omega);obtain⟨g',k1,k2⟩:=hR.SA (k:=k) (S:=[k]) (by simp) (e:=e) cm hn (es:=[]) (us:=[]) (by simp[CR]) py (by simp) ly (by simp) sy.1 (bb 0) (dz 0);grind
   ·rename_i r m P3;simp at ha;obtain⟨rfl,rfl⟩:=ha;have Ahw:m=i.size/\P3=es:=by grind[elems]
    obtain⟨rfl,rfl⟩:=Ahw;simp only[VR,Dr]at hx;obtain⟨_,⟨rfl,rfl⟩|⟨h0,_⟩|⟨cap,cur,T,rfl,h2,h3,h5,h6,h7,h8⟩⟩:=hx
    ·by_cases hm:fs.length=0
     ·have hf:fs=[]:=List.eq_nil_of_length_eq_zero hm;subst hf;have hv0:vs=[]:=List.eq_nil_of_length_eq_zero (by simpa using sy.1);subst hv0;exact⟨_,_,g,JV hu IE hi sy (Nat.le_refl 0),hR.kill [r,k] [] (λ_ _ h=>by cases h),by simp_all[VR,Dr]⟩
     ·have GI:=Iu (ty:=ty) hu IE hi hz (base:=none) (sLen:=0) (sCap:=0) (olds:=[]) ⟨by simp,.inr ⟨rfl,0,rfl⟩⟩ sy (by omega) (Nat.le_refl 0) (by omega) (by omega);obtain⟨g',k1,k2⟩:=hR.SA (k:=k) (S:=[r,k]) (by simp) (e:=e) cm hn (es:=[]) (us:=[]) (by simp[CR]) py (by simp) ly (by simp) sy.1 (bb 0) (dz 0);grind
    ·omega
    ·simp only[Nat.zero_mul,Nat.zero_add]at h7 h8 sx ⊢
     by_cases lN:P3.length+fs.length<=cap
     ·-- in place
      have Md:P3.length*i.size+vs.length<=cur.size:=by rw[sy.1,<- Nat.add_mul];exact Nat.le_trans (Nat.mul_le_mul_right _ lN) h7
      have GI:=Tx (ty:=ty) hu IE hi h6 sy (CR.one py) lN Md;generalize UP:(cur.toList.take (P3.length*i.size)++vs++cur.toList.drop (P3.length*i.size+vs.length)).toArray=new at GI;have hnb:∀ b',b'≠g.row r->(w.setRow (g.row r) new).heap[b']?=w.heap[b']?:=λb' N8=>setRow_other w _ b' new N8
      have hl:Lasts [r,k] [] g w (g.newRow (g.row r) k) (w.setRow (g.row r) new):=by
       refine⟨λb' _ ho=>?_,λb' q _ hq ho=>?_,λq hq=>?_,λ_ _=>rfl⟩
       ·grind[Gh.newRow]
       ·grind[Gh.newRow]
       grind[Gh.newRow]
      refine⟨_,_,g.newRow (g.row r) k,GI,?_,?_⟩
      ·refine hR.lasts hl (hR.fr.step hl rfl ⟨rfl,by simp⟩ rfl (by simp) (λb' _ ho=>?_) (λ_ _ h=>by cases h)) (λs cs hs _=>?_)
       ·grind[Gh.newRow]
       ·have ho:=(hR.ob s cs hs).1;grind[Gh.newRow]
      ·simp only[VR,Dr];have xm:(g.newRow (g.row r) k).row k=g.row r:=by simp[Gh.newRow]
       refine⟨hn,.inr (.inr ⟨cap,new,T,?_,?_,by omega,?_,?_,?_,?_⟩)⟩
       ·grind
       ·grind
       ·grind[Gh.newRow]
       ·grind[setRow_heap]
       ·grind
       ·rw[xm];refine Ea.FO (P3++fs) (us++vs) _ _ 0 (λe he=>(List.mem_append.1 he).elim (lx e) (ly e)) ?_ ?_
        ·rw[List.flatten_append];exact CR.append (CR.mono hl.QX px) (CR.mono hl.QX py)
        ·intro j v hj;simp[add_lit];rw[cell_of_row _ _ _ _ _ _ (setRow_heap w _ cur new T _ h6),<- UP];have hux:us.length=P3.length*i.size:=sx.1;have AjT:cur.toList.take (P3.length*i.size)=us:=by
          apply List.ext_getElem?;intro q;rw[List.getElem?_take]
          by_cases hq:q<P3.length*i.size
          ·rw[if_pos hq];have FI:us[q]?=some (us[q]'(by omega)):=List.getElem?_eq_getElem (by omega);rcases sx.2 with ⟨a',c',he,Ue⟩|⟨h0,_⟩<;>grind[add_lit,cell_of_row]
          grind
         grind
     ·have GI:=Iu (ty:=ty) hu IE hi hz (base:=some ⟨g.row r,0,none⟩) (sLen:=P3.length) (sCap:=cap) (olds:=us) sx sy (by omega) h2 S2 (by omega);obtain⟨g',k1,k2⟩:=hR.SA (k:=k) (S:=[r,k]) (by simp) (e:=e) cm hn px py lx ly sx.1 sy.1 (bb cap) (dz cap);grind
   grind
  grind
 grind
end
end Go.Abs
namespace Go.Abs
def zeroOf(P:Program)(t:TypeId):Option (List Value):=((P.info? t).bind (·.zero)).map (·.cells.toList)
def vals(zs:List Value):List AV:=zs.map .v
def Oy(place:Nat->Option (Nat × Nat))(L:List AV):List (Nat × AV)->Option (List AV)
 |[]=>some L
 |(i,x)::rest=>match place i with
  |none=>none
  |some (off,size)=>if DD x.cells=true/\x.cells.length=size/\off+size<=L.length then Oy place (cut L off x.cells) rest else none
def chunk(n:Nat):Nat->List AV->List (List AV)
 | 0,_=>[]
 | k+1,L=>L.take n::chunk n k (L.drop n)
def SG(n:Nat):∀ (k:Nat) (L:List AV),L.length=k*n->(chunk n k L).length=k/\(∀ e∈chunk n k L,e.length=n)/\(chunk n k L).flatten=L
 | 0,L,h=>by grind[chunk]
 | k+1,L,h=>by
  have hn:n<=L.length:=by grind
  obtain⟨h1,h2,h3⟩:=SG n k (L.drop n) (by grind);simp_all[chunk]
section
variable {C:Ctx} {A:A0} {N:Nat} {g g':Gh} {st:St} {a:Act} {w w':World} {P:Program}
theorem Kv(zs:List Value):Bf g w (vals zs) zs:=by induction zs<;>grind[vals,Bf,VR]
def nD(v:List Value):∀ (k off:Nat) (arr:Array Value),off+k+v.length<=arr.size ->
 ((v.zipIdx k).foldl (λcs (p:Value × Nat)=>cs.setIfInBounds (off+p.2) p.1) arr).toList=arr.toList.take (off+k)++v++arr.toList.drop (off+k+v.length):=by
 induction v with
 | nil=>simp
 | cons x v ih =>
  intro k off arr h;simp at h;simp only[List.zipIdx_cons,List.foldl_cons];rw[ih (k+1) off _ (by grind)];simp only[Array.toList_setIfInBounds,List.length_cons];have AP:off+k<arr.toList.length:=by grind
  rw[show off+(k+1)=(off+k)+1 from by omega];rw[List.take_succ_eq_append_getElem (by grind)];simp only[List.getElem_set_self,List.take_set_of_le (Nat.le_refl _),List.append_assoc,List.cons_append];grind[List.drop_set_of_lt]
def nE(v:Array Value)(off:Nat)(arr:Array Value)(h:off+v.size<=arr.size) :
 (v.zipIdx.foldl (λcs (p:Value × Nat)=>cs.setIfInBounds (off+p.2) p.1) arr).toList=arr.toList.take off++v.toList++arr.toList.drop (off+v.size):=by
 have:=nD v.toList 0 off arr (by omega);simp only[Nat.add_zero,Array.length_toList]at this;rw[<- this,<- Array.foldl_toList];simp
def Nd(place:Nat->Option (Nat × Nat)):∀ (parts:List (Nat × AV)) (pv:List (Nat × Value)) (L:List AV) (cur:Array Value) (L':List AV),
 parts.map (·.1)=pv.map (·.1)->Bf g w (parts.map (·.2)) (pv.map (·.2))->Bf g w L cur.toList->Oy place L parts=some L'->∃ nh,Instr.fill place cur pv=some nh/\Bf g w L' nh.toList
 |[],[],L,cur,L',_,_,hL,h=>by grind[Oy,Instr.fill]
 |[],_::_,_,_,_,h,_,_,_=>by grind
 |_::_,[],_,_,_,h,_,_,_=>by grind
 |(i,x)::parts,(j,v)::pv,L,cur,L',hi,hp,hL,h=>by
  simp at hi;obtain⟨rfl,hi⟩:=hi;simp[Bf]at hp;simp[Oy]at h;split at h
  ·cases h
  ·rename_i off size Sv;split at h
   ·rename_i hc;obtain⟨ho,hs,hle⟩:=hc;have hx:=VR.cells hp.1 ho;have lR:v.cells.size=size:=by rw[<- hs,Bf.length hx];simp
    have RN:L.length=cur.size:=by rw[Bf.length hL];simp
    have AlP:¬ (v.cells.size≠size\/off+v.cells.size > cur.size):=by omega
    have key:=nE v.cells off cur (by omega);have:=Nd place parts pv (cut L off x.cells) (v.cells.zipIdx.foldl (λcs (p:Value × Nat)=>cs.setIfInBounds (off+p.2) p.1) cur) L' hi hp.2 (by grind[cut,Bf.append,Bf.take,Bf.drop]) h;obtain⟨nh,h1,h2⟩:=this;refine⟨nh,?_,h2⟩;have AjG:(decide (v.cells.size≠size)||decide (off+v.cells.size > cur.size))=false:=by grind
    simp_all[Instr.fill]
   grind
def x4{S:List Nat}:∀ {c p:AV} {u:Value},VR g w c u->IG c=some p->(∀ r∈rowsOf [c],r∈S)->KR c=true->PR (CK (g.freeze S)) w p u
 |.undef,_,_,_,_,_,ho=>by grind[KR]
 |.v x,p,u,hv,hp,_,ho=>by
  simp[IG]at hp;subst hp;simp[VR]at hv;simp[PR];exact⟨hv,ho⟩
 |.sl (.own r 0) n es,p,u,hv,hp,hs,_=>by
  simp[IG]at hp;subst hp;have:=VR.freeze (S:=S) _ u hv;simp_all[rowsOf,AV.freeze,AV.Cz,AV.C7,VR]
 |.sl (.own r (lo+1)) n es,p,u,hv,hp,hs,_=>by simp[IG]at hp
 |.sl .no n es,p,u,hv,hp,hs,_=>by
  simp[IG]at hp;subst hp;have:=VR.freeze (S:=S) _ u hv;grind[VR,AV.freeze,AV.Cz]
 |.sl .full n es,p,u,hv,hp,hs,_=>by
  simp[IG]at hp;subst hp;have:=VR.freeze (S:=S) _ u hv;grind[VR,AV.freeze,AV.Cz]
 |.agg _,_,_,_,hp,_,_=>by grind[IG]
 |.BC _,_,_,_,hp,_,_=>by grind[IG]
 |.ptr _ _,_,_,_,hp,_,_=>by grind[IG]
 |.ep _ _ _ _,_,_,_,hp,_,_=>by grind[IG]
 |.fn f [],p,u,hv,hp,hs,_=>by
  simp[IG]at hp;subst hp;simp[VR]at hv;obtain⟨us,rfl,h⟩:=hv
  match h':us.toList,h with
  |[],_=>simp_all[PR]
  |_::_,h=>grind[Bf]
 |.fn _ (_::_),_,_,_,hp,_,_=>by grind[IG]
 |.mv _ _,_,_,_,hp,_,_=>by grind[IG]
 |.mp _,_,_,_,hp,_,_=>by grind[IG]
 |.Kb _ _,_,_,_,hp,_,_=>by grind[IG]
 |.mem _ _,_,_,_,hp,_,_=>by grind[IG]
def Uu(c:AV)(cs:List AV)(r:Nat):r∈rowsOf (c::cs)↔r∈rowsOf [c]\/r∈rowsOf cs:=by
 cases c with
 | sl t n es =>
  cases t with
  | own q lo=>cases lo<;>simp[rowsOf]
  |_=>simp[rowsOf]
 |_=>simp[rowsOf]
def Sa{S:List Nat}:∀ {cs ps:List AV} {us:List Value},Bf g w cs us->P9 cs=some ps->(∀ r∈rowsOf cs,r∈S)->DD cs=true->CR (CK (g.freeze S)) w ps us
 |[],_,[],_,hp,_,_=>by grind[P9,CR]
 |[],_,_::_,h,_,_,_=>by grind[Bf]
 |_::_,_,[],h,_,_,_=>by grind[Bf]
 | c::cs,ps,u::us,h,hp,hs,ho=>by
  simp[Bf]at h;simp[DD]at ho;simp only[P9]at hp;split at hp
  ·rename_i x xs hx zg;simp only[Option.some.injEq]at hp;subst hp;simp only[CR];exact⟨x4 h.1 hx (λr hr=>hs r ((Uu c cs r).2 (.inl hr))) ho.1,Sa h.2 zg (λr hr=>hs r ((Uu c cs r).2 (.inr hr))) ho.2⟩
  ·cases hp
end
def Zl(k n:Nat)(zs:List Value)(st:St)(l c:Int):Option (AV × St) :=
 if 0<=l/\l<=c/\c<=4294967296/\DD (vals zs)=true then some (.sl (.own k 0) n (List.replicate l.toNat (vals zs)),st.kill [k] []) else none
def sk(k n len:Nat)(zs:List Value)(st:St)(parts:List (Nat × AV)):Option (AV × St) :=
 match Oy (λi=>some (i*n,n)) (List.replicate len (vals zs)).flatten parts with
 |some L=>match P9 L with
  |some ps=>if DD L=true/\ps.length=len*n/\len*n<=16777216 then some (.sl (.own k 0) n (chunk n len ps),(st.freeze (rowsOf L)).kill [k] []) else none
  |none=>if n=1/\0<len/\L.length=len/\len<=16777216 then some (.mem true L,st) else none
 |none=>none
section
variable {C:Ctx} {A:A0} {N:Nat} {g g':Gh} {st:St} {a:Act} {w w':World} {P:Program}
def JM{t:TypeId}{zs:List Value}{i:TypeInfo}{z:Value}(h:zeroOf P t=some zs)(hi:P.info? t=some i)(hz:i.zero=some z):zs=z.cells.toList:=by grind[zeroOf]
def DN(zs:List Value):∀ (l j:Nat) (v:Value),(List.replicate l zs).flatten[j]?=some v->zs[j%zs.length]?=some v/\j<l*zs.length
 | 0,j,v,h=>by grind
 | l+1,j,v,h=>by
  rw[List.replicate_succ,List.flatten_cons,List.getElem?_append]at h;split at h
  ·grind[Nat.mod_eq_of_lt]
  ·rename_i hj;obtain⟨h1,h2⟩:=DN zs l _ v h;grind[Nat.mod_eq_sub_mod]
def Oc{ro:Nat->Prop}:∀ (zs:List Value),DD (vals zs)=true->CR ro w (vals zs) zs
 |[],_=>by simp[vals,CR]
 | z::zs,h=>by
  simp[vals,List.map_cons,DD,Bool.and_eq_true,KR]at h;simp only[vals,List.map_cons,CR,PR];exact⟨⟨trivial,h.1⟩,Oc zs h.2⟩
def I7{ro:Nat->Prop}{cs:List AV}{us:List Value}(h:CR ro w cs us):∀ l:Nat,CR ro w (List.replicate l cs).flatten (List.replicate l us).flatten
 | 0=>by simp[CR]
 | l+1=>by
  rw[List.replicate_succ,List.replicate_succ,List.flatten_cons,List.flatten_cons];exact CR.append h (I7 h l)
def jc(hR:R C A N g st a w){t e n b k:Nat}{zs:List Value}(ht:Cs P t=some (e,n,b))(cm:zeroOf P e=some zs){kl kc:IntKind}{l c:Int}{z:AV}{st':St}(ha:Zl k n zs st l c=some (z,st')) :
 ∃ u w' g',(Instr.makeSlice t (.int kl l) (.int kc c)).run P w=.ok u w'/\R C A N g' st' a w'/\VR g' w' z u:=by
 obtain⟨hu,i,zv,hi,hz,Afb,Hb,Qu,hn,hb⟩:=FJ ht;have pK:=JM cm hi hz;unfold Zl at ha;split at ha
 ·rename_i hc;obtain⟨h0,hlc,Abn,CC⟩:=hc;simp at ha;obtain⟨rfl,rfl⟩:=ha;have S2:(i.bytes:Int)*c<=281474976710656:=by
   have:(i.bytes:Int)*c<=32768*4294967296:=Int.mul_le_mul (by omega) Abn (by omega) (by omega);omega
  have GI:=run_make (P:=P) w t e i zv hu hi hz kl kc l c h0 hlc S2 (by omega);have Yx:zs.length=n:=by grind
  obtain⟨g',k1,k2⟩:=hR.newRow k [k] (by simp) (madeCells zv.cells (c.toNat*i.size)) e n c.toNat (List.replicate l.toNat (vals zs)) (List.replicate l.toNat zs).flatten hn
   (λe' he=>by grind[vals])
   (I7 (Oc zs CC) _)
   (by rw[size_madeCells,Hb]) (by grind) (by grind[maxLen])
   (λj v hj=>by
    obtain⟨h1,h2⟩:=DN zs _ _ _ hj;have Alz:j<c.toNat*i.size:=by
     rw[Yx]at h2;rw[Hb];exact Nat.lt_of_lt_of_le h2 (Nat.mul_le_mul_right _ (by omega))
    simp_all[madeCells,getElem!_def])
  grind
 grind
def R.AbW(h:R C A N g st a w)(xj:w'.os=w.os)(lQ:Od w w')(xk:w'.output=w.output)(Hb:w'.heap.size=w.heap.size+1)(hold:∀ b,b<w.heap.size->w'.heap[b]?=w.heap[b]?) :
 ∃ g',R C A N g' st a w'/\CK g' w.heap.size/\(∀ b,b<w.heap.size->g'.own b=g.own b)/\Lasts [] [] g w g' w':=by
 let g':Gh:={ g with own:=λx=>if x=w.heap.size then .ro else g.own x }
 have hl:Lasts [] [] g w g' w':=⟨λb hb ho=>⟨by grind,hold b hb⟩,λb q hb _ ho=>⟨by grind,hold b hb⟩,λ_ _=>rfl,λ_ _=>rfl⟩;refine⟨g',?_,by simp[g',CK],λb hb=>by grind,hl⟩;have:=h.lasts hl (h.fr.step hl xj lQ xk (by omega) (λb hb ho=>⟨by grind,hold b hb⟩) (λ_ _ he=>by grind)) (λs cs hs _=>by
  have ho:=h.ob s cs hs;exact⟨by simp[g',Nat.ne_of_lt ho.lt,ho.1],hold _ ho.lt⟩)
 grind[Q2]
def ou(hR:R C A N g st a w){t e n b k len:Nat}{zs:List Value}(ht:Cs P t=some (e,n,b))(cm:zeroOf P e=some zs){parts:List (Nat × AV)}{pv:List (Nat × Value)}
 (iJ:parts.map (·.1)=pv.map (·.1)) (og:Bf g w (parts.map (·.2)) (pv.map (·.2))) {z:AV} {st':St} (ha:sk k n len zs st parts=some (z,st')) :
 ∃ u w' g',(Instr.buildSlice t len pv.toArray).run P w=.ok u w'/\R C A N g' st' a w'/\VR g' w' z u:=by
 obtain⟨hu,i,zv,hi,hz,Afb,Hb,Qu,hn,hb⟩:=FJ ht;have pK:=JM cm hi hz;have Yx:zs.length=n:=by grind
 unfold sk at ha;split at ha
 ·rename_i L hL;have hz0:Bf g w (List.replicate len (vals zs)).flatten (List.replicate len zs).flatten:=by
   have:∀ m:Nat,Bf g w (List.replicate m (vals zs)).flatten (List.replicate m zs).flatten:=by
    intro m
    induction m<;>grind[Bf,Bf.append,Kv]
   grind
  have Ahi:((Array.range (len*n)).map (zv.cells[·%zv.cells.size]!)).toList=(List.replicate len zs).flatten:=by
   apply List.ext_getElem?;intro j;cases hj:(List.replicate len zs).flatten[j]? with
   |none =>
    simp_all
   |some v =>
    obtain⟨h1,h2⟩:=DN zs _ _ _ hj;grind
  obtain⟨cur,hf,nS⟩:=Nd (λi=>some (i*n,n)) parts pv _ ((Array.range (len*n)).map (zv.cells[·%zv.cells.size]!)) L iJ og (by grind) hL;split at ha
  ·rename_i ps iL;split at ha
   ·rename_i hc;obtain⟨CC,Sv,nP⟩:=hc;simp at ha;obtain⟨rfl,rfl⟩:=ha;have hLl:L.length=len*n:=by
     rw[<- Sv];have:∀ (cs ps:List AV),P9 cs=some ps->ps.length=cs.length:=by
      intro cs
      induction cs<;>grind[P9]
     grind
    obtain⟨c1,c2,c3⟩:=SG n len ps Sv;have Vq:=Sa (S:=rowsOf L) nS iL (λr hr=>hr) CC;obtain⟨g',k1,k2⟩:=(hR.freeze (rowsOf L)).newRow k [k] (by simp) cur e n len (chunk n len ps) cur.toList hn c2 (by grind)
     (by have:=Bf.length nS;grind) (by omega) (by simp only[maxLen];have:=Nat.le_mul_of_pos_right len hn;omega)
     (λj v hj=>by grind)
    refine⟨_,_,g',?_,k1,k2⟩;have hnb:¬ (len*n > 2 ^ 24):=by omega
    have pD:Instr.fill (λi=>some (i*n,n)) (if len*n=0 then #[] else (Array.range (len*n)).map (zv.cells[·%zv.cells.size]!)) pv=some cur:=by grind
    rw[c1]
    by_cases h0:len*n=0
    ·simp[h0]at pD;simp[Instr.buildSlice,run_underlying hu,sizeOf,typeInfo,hi,Hb,h0,Array.range_zero',pD,newRow]
    ·simp[h0]at pD;simp[Instr.buildSlice,run_underlying hu,sizeOf,typeInfo,hi,Hb,h0,zeroValue,hz,pD,newRow];omega
   grind
  ·split at ha
   ·rename_i hc;obtain⟨rfl,S7,hLl,nP⟩:=hc;simp at ha;obtain⟨rfl,rfl⟩:=ha;have RN:cur.size=len:=by have:=Bf.length nS;grind
    obtain⟨g',k1,k2,_,hl⟩:=hR.AbW (w':=w.alloc (.cells cur e)) rfl ⟨rfl,Nat.le_refl _⟩ rfl (by simp) (λb hb=>At w _ b hb);refine⟨.slice (some ⟨w.heap.size,0,none⟩) len len,w.alloc (.cells cur e),g',?_,k1,?_⟩
    ·have hnb:¬ (len > 2 ^ 24):=by omega
     have h0:¬ (len=0):=by omega
     simp at hf;simp[Instr.buildSlice,run_underlying hu,sizeOf,typeInfo,hi,Hb,h0,zeroValue,hz,hf,newRow];omega
    ·have hv:=Bf.lasts hl _ _ nS;rw[Kn]at hv;simp only[VR,gw];refine⟨⟨w.heap.size,0,none⟩,cur.toList,k2,⟨λhe=>?_,λi hi=>?_⟩,hv,len,by simp[RN],by simp[RN],by simp only[maxLen];omega⟩<;>grind[Array.length_toList,add_lit,cell_of_row,heap_alloc_new]
   grind
 grind
end
end Go.Abs
namespace Go.Abs
def P6:AV->Option Nat
 |.v (.int _ i)=>if 0<=i then some i.toNat else none
 |_=>none
def K3(n:Nat)(full:Bool)(l h:Nat)(st:St):AV->Option (AV × St)
 |.sl (.own r lo) m es=>if m=n/\l<=h/\h<=es.length then
  if full then (if lo=0 then some (.sl .full n ((es.drop l).take (h-l)),st.freeze [r]) else none)
  else some (.sl (.own r (lo+l)) n ((es.drop l).take (h-l)),st)
  else none
 |.sl t m es=>if m=n/\l<=h/\h<=es.length then some (.sl (if full then .full else .no) n ((es.drop l).take (h-l)),st) else none
 |.v (.slice none 0 0)=>if l=0/\h=0 then some (.v (.slice none 0 0),st) else none
 |_=>none
section
variable {C:Ctx} {A:A0} {N:Nat} {g g':Gh} {st:St} {a:Act} {w w':World} {P:Program}
def Ea.sub{ro:Nat->Prop}:∀ (es:List (List AV)) (ad:Addr) (n i:Nat),Ea ro w es ad n i->∀ l k:Nat,Ea ro w ((es.drop l).take k) ad n (i+l)
 |[],_,_,_,_,l,k=>by simp[Ea]
 | e::es,ad,n,i,h,0,0=>by simp[Ea]
 | e::es,ad,n,i,h,0,k+1=>by
  simp[Ea]at h;simp only[List.drop_zero,List.take_succ_cons,Ea];exact⟨h.1,h.2.1,by simpa using Ea.sub es ad n (i+1) h.2.2 0 k⟩
 | e::es,ad,n,i,h,l+1,k=>by
  simp[Ea]at h;have:=Ea.sub es ad n (i+1) h.2.2 l k;grind
theorem Ea.shift{ro:Nat->Prop}:∀ (es:List (List AV)) (ad:Addr) (n l i:Nat),Ea ro w es ad n (l+i)->Ea ro w es (ad.add (l*n)) n i
 |[],_,_,_,_,_=>by simp[Ea]
 | e::es,ad,n,l,i,h=>by
  simp only[Ea]at h ⊢;exact⟨h.1,EG.shift e ad (l*n) (i*n) (by rw[<- Nat.add_mul];exact h.2.1),Ea.shift es ad n l (i+1) (by rw[<- Nat.add_assoc];exact h.2.2)⟩
def F8{t e:TypeId}{size:Nat}(ht:P.underlying t=some (.slice e))(hs:Cn P e=some size){a:Option Addr}{len cap l h:Nat}{lo hi mx:Option Value}{kl kh km:IntKind}
 (Ug:lo=none/\l=0\/lo=some (.int kl l)) (xc:hi=none/\h=len\/hi=some (.int kh h)) (full:Bool) (dC:mx=if full then some (.int km h) else none) (xa:full=true->hi=some (.int kh h))
 (h1:l<=h) (h2:h<=len) (h3:len<=cap) :
 (Instr.slice t (.slice a len cap) lo hi mx).run P w=.ok (.slice (if (if full then h else cap)=l then a else a.map (·.add (l*size))) (h-l) ((if full then h else cap)-l)) w:=by
 have b1:∀ (k:IntKind) (c:BoundsCode),(Instr.sliceBound (.int k h) cap c).run P w=.ok h w:=λk c=>by grind[run_sliceBound]
 have b2:∀ (k:IntKind) (c:BoundsCode),(Instr.sliceBound (.int k h) h c).run P w=.ok h w:=λk c=>by grind[run_sliceBound]
 have b3:∀ (k:IntKind) (c:BoundsCode),(Instr.sliceBound (.int k l) h c).run P w=.ok l w:=λk c=>by grind[run_sliceBound]
 have b4:∀ (k:IntKind) (c:BoundsCode),l<=len->(Instr.sliceBound (.int k l) len c).run P w=.ok l w:=λk c hh=>by grind[run_sliceBound]
 cases full with
 | true =>
  have hh:=xa rfl;subst hh;simp at dC;subst dC;rcases Ug with ⟨rfl,rfl⟩|rfl
  ·simp_all[Instr.slice,run_underlying,Instr.sliceBounds,run_sizeOf]
  ·simp[Instr.slice,run_underlying ht,Instr.sliceBounds,b1,b2,b3,run_sizeOf hs]
 | false =>
  simp at dC;subst dC;rcases Ug with ⟨rfl,rfl⟩|rfl<;>rcases xc with ⟨rfl,rfl⟩|rfl
  ·simp[Instr.slice,run_underlying ht,Instr.sliceBounds,run_sizeOf hs]
  ·simp_all[Instr.slice,run_underlying,Instr.sliceBounds,run_sizeOf]
  ·simp_all[Instr.slice,run_underlying,Instr.sliceBounds,run_sizeOf]
  ·simp[Instr.slice,run_underlying ht,Instr.sliceBounds,b1,b3,run_sizeOf hs]
def Pa(hR:R C A N g st a w){t e:TypeId}{n:Nat}(ht:AE P t=some (e,n)){x z:AV}{ux:Value}(hx:VR g w x ux){l h len:Nat}{lo hi mx:Option Value}{kl kh km:IntKind}{full:Bool}
 (hlen:∀ es,elems n x=some es->es.length=len)
 (Ug:lo=none/\l=0\/lo=some (.int kl l)) (xc:hi=none/\h=len\/hi=some (.int kh h)) (dC:mx=if full then some (.int km h) else none) (xa:full=true->hi=some (.int kh h)) {st':St}
 (ha:K3 n full l h st x=some (z,st')):∃ u g',(Instr.slice t ux lo hi mx).run P w=.ok u w/\R C A N g' st' a w/\VR g' w z u/\(((∀ r lo m es,x≠.sl (.own r lo) m es)\/full=false)->g'=g):=by
 have zc:P.underlying t=some (.slice e)/\Cn P e=some n:=by
  unfold AE at ht;split at ht
  ·rename_i e' he;obtain⟨n',iH,hh⟩:=Option.map_eq_some_iff.1 ht;grind
  grind
 obtain⟨lP,IE⟩:=zc;unfold K3 at ha;split at ha
 ·rename_i r lo' m es;split at ha
  ·rename_i hc;obtain⟨rfl,h1,h2⟩:=hc;have hl:es.length=len:=hlen es (by simp[elems]);subst hl;simp only[VR,Dr]at hx;obtain⟨hn,hx⟩:=hx;have rK:((es.drop l).take (h-l)).length=h-l:=by grind
   split at ha
   ·rename_i hf;subst hf;split at ha
    ·rename_i h0;subst h0;simp at ha;obtain⟨rfl,rfl⟩:=ha;rcases hx with ⟨rfl,rfl⟩|⟨h0,_⟩|⟨cap,cur,T,rfl,k2,k3,k5,k6,k7,k8⟩
     ·simp only[List.length_nil]at h2;have h0:h=0:=by omega
      subst h0;have uC:l=0:=by omega
      subst uC;have GI:=F8 (w:=w) lP IE (a:=none) (len:=0) (cap:=0) Ug xc true dC xa (Nat.le_refl 0) (Nat.le_refl 0) (Nat.le_refl 0);refine⟨_,_,GI,hR.freeze [r],?_,λh=>by grind⟩;grind[VR,PR]
     ·omega
     ·have GI:=F8 (w:=w) lP IE Ug xc true dC xa h1 h2 k2 (a:=some ⟨g.row r,0*m,none⟩);refine⟨_,_,GI,hR.freeze [r],?_,λh=>by grind⟩;simp only[VR,PR,if_true];refine⟨(λ_ _ h=>by cases h),_,_,by rw[rK],by omega,by omega,(λ_=>by omega),hn,?_⟩
      by_cases hlh:h=l
      ·simp_all
      ·refine .inr ⟨_,by rw[if_neg hlh];rfl,(by show (Gh.freeze [r] g).own ((⟨g.row r,0*m,none⟩:Addr).add (l*m)).block=.ro;grind[GV,WB]),?_⟩;have:=Ea.sub es _ m 0 (Ea.Ls (K0 (S:=[r])) es _ m 0 rfl k8) l (h-l);simp_all[Ea.shift]
    grind
   ·rename_i hf;have pD:full=false:=by grind
    subst pD;simp at ha;obtain⟨rfl,rfl⟩:=ha;rcases hx with ⟨rfl,rfl⟩|⟨h0,rfl,a',cap,rfl,dy⟩|⟨cap,cur,T,rfl,k2,k3,k5,k6,k7,k8⟩
    ·simp only[List.length_nil]at h2;have h0:h=0:=by omega
     subst h0;have uC:l=0:=by omega
     subst uC;have GI:=F8 (w:=w) lP IE (a:=none) (len:=0) (cap:=0) Ug xc false dC xa (Nat.le_refl 0) (Nat.le_refl 0) (Nat.le_refl 0);simp_all[VR,Dr]
    ·simp only[List.length_nil]at h2;have h0':h=0:=by omega
     subst h0';have uC:l=0:=by omega
     subst uC;have GI:=F8 (w:=w) lP IE (a:=a') (len:=0) (cap:=cap) Ug xc false dC xa (Nat.le_refl 0) (Nat.le_refl 0) (Nat.zero_le _);refine⟨_,_,GI,hR,?_,λ_=>rfl⟩;simp only[VR,Dr];grind
    ·have GI:=F8 (w:=w) lP IE Ug xc false dC xa h1 h2 k2 (a:=some ⟨g.row r,lo'*m,none⟩);refine⟨_,_,GI,hR,?_,λ_=>rfl⟩;simp only[VR,Dr];refine⟨hn,?_⟩;have GJ:=Ea.sub es _ m 0 k8 l (h-l);rw[Nat.zero_add]at GJ;have hsh:=Ea.shift _ _ m l 0 (by simpa using GJ);rw[add_lit,<- Nat.add_mul]at hsh
     by_cases RN:cap=l
     ·have uC:h=l:=by omega
      by_cases hz:lo'+l=0
      ·simp_all
      grind
     ·refine .inr (.inr ⟨cap-l,cur,T,?_,by omega,by omega,k5,k6,by grind,hsh⟩);grind[add_lit]
  grind
 ·rename_i t' m es Y5;split at ha
  ·rename_i hc;obtain⟨rfl,h1,h2⟩:=hc;simp at ha;obtain⟨rfl,rfl⟩:=ha;have hl:es.length=len:=hlen es (by simp[elems]);subst hl;have rK:((es.drop l).take (h-l)).length=h-l:=by grind
   have hp:PR (CK g) w (.sl t' m es) ux:=by simp_all[VR]
   simp only[PR]at hp;obtain⟨_,a',cap,rfl,k2,k3,k4,k5,k6⟩:=hp;have GI:=F8 (w:=w) lP IE Ug xc full dC xa h1 h2 k2 (a:=a');refine⟨_,_,GI,hR,?_,λ_=>rfl⟩;have N2:PR (CK g) w (.sl (if full=true then .full else .no) m ((es.drop l).take (h-l))) (.slice (if (if full=true then h else cap)=l then a' else a'.map (·.add (l*m))) (h-l) ((if full=true then h else cap)-l)):=by
    simp only[PR];refine⟨?_,_,_,by rw[rK],by grind,by grind,?_,k5,?_⟩
    ·grind
    ·grind
    by_cases hlh:h=l
    ·simp_all
    ·rcases k6 with rfl|⟨ad,rfl,k7,k8⟩
     ·grind
     ·refine .inr ⟨ad.add (l*m),?_,by grind[GV],?_⟩
      ·grind
      ·have:=Ea.sub es _ m 0 k8 l (h-l);simp_all[Ea.shift]
   grind[VR]
  grind
 ·split at ha
  ·rename_i hc;obtain⟨rfl,rfl⟩:=hc;simp at ha;obtain⟨rfl,rfl⟩:=ha;have hl:([]:List (List AV)).length=len:=hlen [] (by simp[elems]);simp at hl;subst hl;simp[VR]at hx;subst hx;have GI:=F8 (w:=w) lP IE (a:=none) (len:=0) (cap:=0) Ug xc full dC xa (Nat.le_refl 0) (Nat.le_refl 0) (Nat.le_refl 0);simp_all[VR]
  grind
 grind
end
end Go.Abs
