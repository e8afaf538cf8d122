/- part 2 of the proof -/
import Derived.Test.YteliegkcmjimoaaGreatDoorW01
set_option linter.all false
namespace Go.Abs
section
variable {ro QX:Nat->Prop} {w w':World}
def EG.move(h:∀ b,b<w.heap.size->ro b->QX b/\w'.heap[b]?=w.heap[b]?):∀ (cs:List AV) (ad:Addr) (j:Nat),(∀ k,k<cs.length->w'.cell? (ad.add (j+k))=w.cell? (ad.add (j+k)))->EG ro w cs ad j->EG QX w' cs ad j
 |[],_,_,_,_=>by simp[EG]
 | c::cs,ad,j,hs,hu=>by
  simp only[EG]at hu ⊢;obtain⟨⟨u,h1,h2⟩,h3⟩:=hu;refine⟨⟨u,by rw[<- h1];simpa using hs 0 (by simp),PR.mono h c u h2⟩,EG.move h cs ad (j+1) (λk hk=>?_) h3⟩;have:=hs (k+1) (by simpa using hk)
  rwa [show j+(k+1)=j+1+k from by omega]at this
def Ea.sP:∀ (es:List (List AV)) (ad:Addr) (n i:Nat),(∀ (k:Nat) (e:List AV),es[k]?=some e->e.length=n/\EG ro w e ad ((i+k)*n))->Ea ro w es ad n i
 |[],_,_,_,_=>by simp[Ea]
 | e::es,ad,n,i,h=>by
  simp only[Ea];have h0:=h 0 e (by simp);refine⟨h0.1,by simpa using h0.2,Ea.sP es ad n (i+1) λk e' he=>?_⟩;have:=h (k+1) e' (by simpa using he)
  rwa [show i+(k+1)=i+1+k from by omega]at this
end
def over(lo idx:Nat)(cs es:List (List AV)):List (List AV):=es.mapIdx λi e=>if idx<=lo+i then (cs[lo+i-idx]?).getD e else e
def Jy(lo idx:Nat)(cs es:List (List AV)):(over lo idx cs es).length=es.length:=by simp[over]
def AV.Eh(r n idx:Nat)(cs:List (List AV)):AV->AV
 |.sl (.own q lo) m es=>if q=r then (if m=n then .sl (.own q lo) m (over lo idx cs es) else .undef) else .sl (.own q lo) m es
 |.ptr s off=>.ptr s off
 |.ep (.own q l) i d off=>if q=r then (if d.length=n then .ep (.own q l) i (if idx<=i then (cs[i-idx]?).getD d else d) off else .undef) else .ep (.own q l) i d off
 |.mp s=>.mp s
 | x=>x
def St.I1(r n idx:Nat)(cs:List (List AV))(st:St):St:=st.Cz (AV.Eh r n idx cs)
def AV.Si(r idx:Nat)(c:List AV):AV->AV
 |.sl (.own q lo) m es=>if q=r then (if m=c.length then .sl (.own q lo) m (if lo<=idx then es.set (idx-lo) c else es) else .undef) else .sl (.own q lo) m es
 |.ptr s off=>.ptr s off
 |.ep (.own q l) i d off=>if q=r then (if d.length=c.length then .ep (.own q l) i (if i=idx then c else d) off else .undef) else .ep (.own q l) i d off
 |.mp s=>.mp s
 | x=>x
def St.setRow(r idx:Nat)(c:List AV)(st:St):St:=st.Cz (AV.Si r idx c)
def s8(lo idx:Nat)(c:List AV)(es:List (List AV)):over lo idx [c] es=if lo<=idx then es.set (idx-lo) c else es:=by
 refine List.ext_getElem? λi=>?_
 grind[over]
theorem jD(r idx:Nat)(c:List AV):AV.Si r idx c=AV.Eh r c.length idx [c]:=by
 funext x;cases x with
 | sl t n es=>cases t<;>simp[AV.Si,AV.Eh,s8]
 | ep t i d off =>
  cases t<;>grind[AV.Si,AV.Eh]
 |_=>rfl
structure U0(g:Gh)(w:World)(r n idx:Nat)(cs:List (List AV))(cur new:Array Value)(T:TypeId):Prop where
 own:g.own (g.row r)=.row r
 heap:w.heap[g.row r]?=some (.cells cur T (0,0))
 size:new.size=cur.size
 same:∀ p,p<idx*n\/(idx+cs.length)*n<=p->new[p]?=cur[p]?
 cell:Ea (CK g) (w.setRow (g.row r) new) cs ⟨g.row r,idx*n,none⟩ n 0
section
variable {C:Ctx} {A:A0} {N:Nat} {g g':Gh} {st:St} {a:Act} {w w':World} {P:Program}
variable {r n idx:Nat} {c:List (List AV)} {cur new:Array Value} {T:TypeId}
def U0.ro(h:U0 g w r n idx c cur new T):∀ b,b<w.heap.size->CK g b->CK g b/\(w.setRow (g.row r) new).heap[b]?=w.heap[b]?:=λb _ ho =>
 ⟨ho,setRow_other w _ b new (λe=>by subst e;have:=h.own;rw[ho]at this;grind)⟩
theorem U0.other(h:U0 g w r n idx c cur new T){b q:Nat}(hq:q≠r)(ho:g.own b=.row q):(w.setRow (g.row r) new).heap[b]?=w.heap[b]? :=
 setRow_other w _ b new (λe=>by subst e;have:=h.own;grind)
def U0.heap'(h:U0 g w r n idx c cur new T):(w.setRow (g.row r) new).heap[g.row r]?=some (.cells new T (0,0)):=setRow_heap w _ cur new T _ h.heap
def U0.elem(h:U0 g w r n idx c cur new T){i:Nat}{e:List AV}(he:e.length=n)(hi:i<idx\/idx+c.length<=i)(hp:EG (CK g) w e ⟨g.row r,i*n,none⟩ 0) :
 EG (CK g) (w.setRow (g.row r) new) e ⟨g.row r,i*n,none⟩ 0:=by
 refine EG.move h.ro e _ 0 (λk hk=>?_) hp;rw[add_lit,cell_of_row _ _ _ _ _ _ h.heap',cell_of_row _ _ _ _ _ _ h.heap];refine h.same _ ?_;rw[he]at hk;rcases hi with AP|bg
 ·left;have:(i+1)*n<=idx*n:=Nat.mul_le_mul_right _ AP;grind
 ·right;have:(idx+c.length)*n<=i*n:=Nat.mul_le_mul_right _ bg;omega
def sY{lo idx:Nat}{cs es:List (List AV)}{k:Nat}{e:List AV}(h:(over lo idx cs es)[k]?=some e) :
 (idx<=lo+k/\lo+k<idx+cs.length/\cs[lo+k-idx]?=some e)\/(es[k]?=some e/\(lo+k<idx\/idx+cs.length<=lo+k)):=by
 simp only[over,List.getElem?_mapIdx]at h;grind
def U0.sl(h:U0 g w r n idx c cur new T)(q lo m:Nat)(es:List (List AV))(u:Value)(hu:Dr g w q lo m es u):VR g (w.setRow (g.row r) new) (AV.Eh r n idx c (.sl (.own q lo) m es)) u:=by
 simp[AV.Eh]
 by_cases hq:q=r
 ·subst hq;simp;split
  ·rename_i hm;subst hm;simp only[VR,Dr]at hu ⊢;refine⟨hu.1,?_⟩;rcases hu.2 with ⟨rfl,rfl⟩|⟨h0,rfl,iM⟩|⟨cap,nh,T',h1,h2,h3,h5,h6,h7,h8⟩
   ·simp_all[over]
   ·simp_all[over]
   ·have hh:=h.heap;rw[h6]at hh;injection hh with hh
    injection hh with Sx hh2
    subst Sx;have hlen:=Jy lo idx c es;refine .inr (.inr ⟨cap,new,T,by grind,by omega,h3,h5,h.heap',by rw[h.size];omega,?_⟩);refine Ea.sP _ _ _ 0 λk e he=>?_
    rcases sY he with ⟨hle,AP,he⟩|⟨he,CZ⟩
    ·obtain⟨e1,e2⟩:=Ea.at_ c _ _ 0 h.cell _ e he;refine⟨e1,?_⟩;obtain⟨us,k1,k2⟩:=EG.list _ _ _ e2;refine EG.FO _ us _ _ k1 λj v hv=>?_
     have:=k2 j v hv;rw[add_lit]at this ⊢;rw[show lo*m+((0+k)*m+j)=idx*m+((0+(lo+k-idx))*m+j) from by
      have e1:lo*m+(0+k)*m=(lo+(0+k))*m:=(Nat.add_mul _ _ _).symm;have e2:idx*m+(0+(lo+k-idx))*m=(idx+(0+(lo+k-idx)))*m:=(Nat.add_mul _ _ _).symm;grind]
     omega
    ·obtain⟨e1,e2⟩:=Ea.at_ es _ _ 0 h8 k e he;refine⟨e1,?_⟩;have e3:=EG.shift e ⟨g.row q,lo*m,none⟩ ((0+k)*m) 0 (by simpa using e2);rw[add_lit,<- Nat.add_mul,show lo+(0+k)=lo+k from by omega]at e3;have e4:=h.elem (i:=lo+k) e1 CZ e3;grind[EG.list,EG.FO,add_lit]
  ·simp[VR]
 ·simp[hq];exact hu.map h.ro rfl λ_ ho=>⟨ho,h.other hq ho⟩
def U0.ep(h:U0 g w r n idx c cur new T)(q l i:Nat)(d:List AV)(off:Nat)(u:Value)(hu:Ix g w (.own q l) i d off u):VR g (w.setRow (g.row r) new) (AV.Eh r n idx c (.ep (.own q l) i d off)) u:=by
 simp[AV.Eh]
 by_cases hq:q=r
 ·subst hq;simp;split
  ·rename_i hd;subst hd;simp only[VR,Ix]at hu ⊢;obtain⟨nh,T',h1,h2,h3,h4,h5⟩:=hu;have hh:=h.heap;rw[h3]at hh;injection hh with hh
   injection hh with Sx hh2
   subst Sx;obtain⟨e,he⟩:∃ e,e=(if idx<=i then (c[i-idx]?).getD d else d):=⟨_,rfl⟩;have Lp:(idx<=i/\c[i-idx]?=some e)\/(e=d/\(i<idx\/idx+c.length<=i)):=by grind
   rw[<- he];rcases Lp with ⟨hle,hc⟩|⟨rfl,hi⟩
   ·obtain⟨e1,e2⟩:=Ea.at_ c _ _ 0 h.cell _ e hc;refine⟨new,T,by grind,h2,h.heap',by rw[e1,h.size];omega,?_⟩;rw[e1];obtain⟨us,k1,k2⟩:=EG.list _ _ _ e2;refine EG.FO _ us _ _ k1 λj v hv=>?_
    have:=k2 j v hv;rw[add_lit]at this ⊢;have e3:idx*d.length+(0+(i-idx))*d.length=i*d.length:=by rw[<- Nat.add_mul];grind
    grind
   ·exact⟨new,T,h1,h2,h.heap',by rw[h.size];omega,h.elem rfl hi h5⟩
  ·simp[VR]
 ·simp[hq];exact hu.map h.ro rfl λ_ ho=>⟨ho,h.other hq ho⟩
theorem U0.VR(h:U0 g w r n idx c cur new T):∀ (x:AV) (u:Value),VR g w x u->Abs.VR g (w.setRow (g.row r) new) (x.Cz (AV.Eh r n idx c)) u :=
 VR.Cz h.ro h.sl (λ_ _ _ hu=>by grind[AV.Eh,Abs.VR]) h.ep (λ_ _ hu=>by grind[AV.Eh,Abs.VR])
theorem U0.Bf(h:U0 g w r n idx c cur new T):∀ (xs:List AV) (us:List Value),Bf g w xs us->Abs.Bf g (w.setRow (g.row r) new) (F0 (AV.Eh r n idx c) xs) us :=
 Abs.Bf.Cz h.ro h.sl (λ_ _ _ hu=>by grind[AV.Eh,Abs.VR]) h.ep (λ_ _ hu=>by grind[AV.Eh,Abs.VR])
def R.I1(hR:R C A N g st a w)(h:U0 g w r n idx c cur new T):R C A N g (st.I1 r n idx c) a (w.setRow (g.row r) new):=by
 have hl:Lasts [r] [] g w g (w.setRow (g.row r) new):=⟨λb hb ho=>⟨ho,(h.ro b hb ho).2⟩,λb q hb hq ho=>⟨ho,h.other (by grind) ho⟩,λ_ _=>rfl,λ_ _=>rfl⟩;refine hR.Cz h.VR h.Bf (λs hs=>⟨rfl,hs,setRow_other w _ _ new (λe=>by have:=h.own;grind)⟩) ?_;exact hR.fr.step hl rfl ⟨rfl,by simp⟩ rfl (by simp) (λb _ ho=>⟨ho,setRow_other w _ b new (λe=>by subst e;have:=h.own;grind)⟩) (λ_ _ he=>by grind)
def R.setRow{c:List AV}(hR:R C A N g st a w)(h:U0 g w r c.length idx [c] cur new T):R C A N g (st.setRow r idx c) a (w.setRow (g.row r) new):=by
 unfold St.setRow;rw[jD];exact hR.I1 h
def U0.eP(ho:g.own (g.row r)=.row r)(hh:w.heap[g.row r]?=some (.cells cur T (0,0))){us:List Value}(hl:∀ e∈c,e.length=n)(hu:us.length=c.length*n)(Md:idx*n+us.length<=cur.size)
 (hp:CR (CK g) w c.flatten us):U0 g w r n idx c cur (cur.toList.take (idx*n)++us++cur.toList.drop (idx*n+us.length)).toArray T:=by
 generalize UP:(cur.toList.take (idx*n)++us++cur.toList.drop (idx*n+us.length)).toArray=new;have RN:cur.toList.length=cur.size:=by simp
 have Hb:new.size=cur.size:=by grind
 refine⟨ho,hh,Hb,λp gq=>?_,?_⟩
 ·rw[<- UP,List.getElem?_toArray,<- Array.getElem?_toList];rcases gq with h|h
  ·grind
  ·rw[Nat.add_mul,<- hu]at h;grind
 ·refine Ea.FO c us _ _ 0 hl (CR.mono (w:=w) (λb hb y7=>⟨y7,setRow_other w _ b new (λe=>by grind[RV])⟩) hp) λj v hj=>?_
  simp[add_lit];rw[cell_of_row _ _ _ _ _ _ (setRow_heap w _ cur new T _ hh)];grind
end
section
variable {C:Ctx} {A:A0} {N:Nat} {g g':Gh} {st:St} {a:Act} {w w':World} {P:Program}
variable {r idx:Nat} {c:List AV} {cur new:Array Value} {T:TypeId}
def TB(n:Nat)(st:St)(p x:AV):Option St :=
 match p with
 |.ptr s off=>match lk s st.Aj with
  |some cs=>if DD x.cells=true/\x.cells.length=n/\off+n<=cs.length then some ⟨st.tmps,H3 s (cut cs off x.cells) st.Aj⟩ else none
  |none=>none
 |.ep (.own r _) i cells off=>match P9 x.cells with
  |some ps=>if DD x.cells=true/\ps.length=n/\x.cells.length=n/\off+n<=cells.length/\r∉rowsOf x.cells then some ((st.freeze (rowsOf x.cells)).setRow r i (cut cells off ps)) else none
  |none=>none
 |_=>none
def fL(hR:R C A N g st a w){t n:Nat}(h2:Cn P t=some n){p x:AV}{up ux:Value}(hp:VR g w p up)(hx:VR g w x ux){st':St}(hs:TB n st p x=some st') :
 ∃ w' g',(Instr.storeAt t up ux).run P w=.ok () w'/\R C A N g' st' a w':=by
 unfold TB at hs;split at hs
 ·rename_i s off;split at hs
  ·rename_i cs bc;split at hs
   ·rename_i hc;simp at hs;subst hs;simp[VR]at hp;obtain⟨lL,rfl⟩:=hp;obtain⟨w',h1,h2⟩:=hR.tN h2 lL bc hx hc.1 hc.2.1 hc.2.2;grind
   grind
  grind
 ·rename_i r l i cells off;split at hs
  ·rename_i ps iL;split at hs
   ·rename_i hc;obtain⟨CC,Sv,hxl,hle,hrn⟩:=hc;simp at hs;subst hs;have nk:=VR.cells hx CC;have WC:=hR.freeze (rowsOf x.cells);have Vq:=Sa (S:=rowsOf x.cells) nk iL (λr hr=>hr) CC;have gq:=VR.freeze (S:=rowsOf x.cells) _ _ hp;simp only[AV.freeze,AV.Cz,AV.C7,hrn,if_false,VR,Ix]at gq;obtain⟨cur,T,rfl,k2,k3,k4,k5⟩:=gq;have pJ:ux.cells.size=n:=by rw[<- hxl,Bf.length nk];simp
    have AjF:cells.length*i+cells.length<=cur.size:=by grind
    have xm:(Gh.freeze (rowsOf x.cells) g).row r=g.row r:=rfl;rw[xm]at k2 k3 k5;have GI:=Sg (P:=P) (w:=w) (o:=i*cells.length+off) h2 pJ k3 (by grind) (OY CC nk);generalize UP:(cur.toList.take (i*cells.length+off)++ux.cells.toList++cur.toList.drop (i*cells.length+off+n)).toArray=new at GI;have yR:(cut cells off ps).length=cells.length:=by grind[cut]
    have S5:∀ p,new[p]?=if p<i*cells.length+off then cur[p]? else if p<i*cells.length+off+n then ux.cells[p-(i*cells.length+off)]? else cur[p]?:=by
     intro p;have hmul:i*cells.length+cells.length<=cur.size:=by grind
     rw[<- UP];simp only[List.getElem?_toArray];rw[List.append_assoc,List.getElem?_append];simp;rw[Nat.min_eq_left (by omega)];split
     ·grind
     ·rename_i JX;rw[List.getElem?_append];simp only[Array.length_toList,pJ]
      by_cases AP:p<i*cells.length+off+n
      ·grind
      ·rw[if_neg (by omega),if_neg AP,List.getElem?_drop];simp;grind
    have GR:U0 (Gh.freeze (rowsOf x.cells) g) w r (cut cells off ps).length i [cut cells off ps] cur new T:=by
     refine⟨k2,k3,?_,?_,?_⟩
     ·grind
     ·intro q hq;simp only[List.length_cons,List.length_nil,yR,Nat.add_mul]at hq;grind
     ·have Vr:∀ b,b<w.heap.size->CK (Gh.freeze (rowsOf x.cells) g) b->CK (Gh.freeze (rowsOf x.cells) g) b/\(w.setRow (g.row r) new).heap[b]?=w.heap[b]?:=λb _ ho =>
       ⟨ho,setRow_other w _ b new (λe=>by rw[e]at ho;rw[ho]at k2;grind)⟩
      simp[Ea];rw[yR,xm];obtain⟨us,m1,m2⟩:=EG.list _ _ _ k5;have Y6:us.length=cells.length:=(CR.length m1).symm;refine EG.FO _ (us.take off++ux.cells.toList++us.drop (off+n)) _ 0 ?_ ?_
      ·unfold cut;rw[Sv];grind[CR.append,CR.mono,CR.take,CR.drop]
      ·intro j v hv;rw[add_lit,cell_of_row _ _ _ _ _ _ (setRow_heap w _ cur new T _ k3),S5];rw[List.append_assoc,List.getElem?_append]at hv;simp[Y6]at hv;rw[Nat.min_eq_left (by omega)]at hv;have Ue:∀ j v,us[j]?=some v->cur[i*cells.length+j]?=some v:=λj v hv=>by grind[add_lit,cell_of_row]
       split at hv
       ·grind
       ·rename_i JX;rw[List.getElem?_append]at hv;simp only[Array.length_toList,pJ]at hv;split at hv
        ·rename_i AP;rw[if_neg (by omega),if_pos (by omega)];rw[show i*cells.length+(0+j)-(i*cells.length+off)=j-off from by omega];grind
        ·rename_i AeF;rw[List.getElem?_drop]at hv;rw[if_neg (by omega),if_neg (by omega)];have:=Ue _ v hv;rw[show i*cells.length+(0+j)=i*cells.length+(off+n+(j-off-n)) from by omega];omega
    exact⟨_,_,by grind[Instr.storeAt,Instr.sureAddr],WC.setRow GR⟩
   grind
  grind
 grind
end
end Go.Abs
namespace Go.Abs
def bz(op:BinOp)(k:IntKind)(a b:Int):Option Value :=
 match op with
 |.add=>some (.int k (k.wrap (a+b)))
 |.sub=>some (.int k (k.wrap (a-b)))
 |.mul=>some (.int k (k.wrap (a*b)))
 |.quo=>if b=0 then none else some (.int k (k.wrap (a.tdiv b)))
 |.rem=>if b=0 then none else some (.int k (a.tmod b))
 |.and=>some (.int k (bits .and k a b))
 |.or=>some (.int k (bits .or k a b))
 |.xor=>some (.int k (bits .xor k a b))
 |.andNot=>some (.int k (bits .andNot k a b))
 |.eql=>some (.bool (a==b))
 |.neq=>some (.bool (a !=b))
 |.lss=>some (.bool (decide (a<b)))
 |.leq=>some (.bool (decide (a<=b)))
 |.gtr=>some (.bool (decide (b<a)))
 |.geq=>some (.bool (decide (b<=a)))
 |_=>none
def O9(op:BinOp)(k:IntKind)(a b:Int):Option Value :=
 match op with
 |.shl=>if b<0 then none else some (.int k (k.wrap (a*2 ^ (min b.toNat k.bits))))
 |.shr=>if b<0 then none else some (.int k (a.fdiv (2 ^ (min b.toNat k.bits))))
 |_=>none
def bX(op:BinOp)(a b:ByteArray):Option Value :=
 match op with
 |.add=>if a.size+b.size<=9223372036854775807 then some (.string (a++b)) else none
 |.eql=>some (.bool (a.toList==b.toList))
 |.neq=>some (.bool !(a.toList==b.toList))
 |.lss=>some (.bool (Op.bytesLess a.toList b.toList))
 |.leq=>some (.bool (Op.bytesLess a.toList b.toList||a.toList==b.toList))
 |.gtr=>some (.bool !(Op.bytesLess a.toList b.toList||a.toList==b.toList))
 |.geq=>some (.bool !(Op.bytesLess a.toList b.toList))
 |_=>none
def BT:List Nat->List Value->List Value->Option Bool
 |[],[],[]=>some true
 | 1::ks,.int k a::xs,.int k' b::ys=>if k=k' then (BT ks xs ys).map λr=>(a==b)&&r else none
 | 2::ks,.string a::xs,.string b::ys=>(BT ks xs ys).map λr=>(a.toList==b.toList)&&r
 | 0::ks,.bool a::xs,.bool b::ys=>(BT ks xs ys).map λr=>(a==b)&&r
 |_,_,_=>none
def FT:List AV->Option (List Value)
 |[]=>some []
 |.v x::cs=>(FT cs).map (x::·)
 |_=>none
def G0(P:Program)(f:TypeId->Option (List Nat)):List Field->Nat->Option (List Nat)
 |[],_=>some []
 | x::fs,off=>if x.name = "_"\/x.offset≠off then none else match f x.type with
  |some ks=>if Cn P x.type=some ks.length then (G0 P f fs (off+ks.length)).map (ks++·) else none
  |none=>none
def EV(P:Program):Nat->TypeId->Option (List Nat)
 | 0,_=>none
 | d+1,t=>match P.underlying t with
  |some .bool=>some [0]
  |some (.int _)=>some [1]
  |some .string=>some [2]
  |some (.struct fs)=>if P.stoodInHeld t then none else G0 P (EV P d) fs.toList 0
  |_=>none
def Jz(P:Program)(d:Nat):List Field->Nat->Option (List Nat):=G0 P (EV P d)
def structEq(P:Program)(t:TypeId):Option (List Nat):=if Bp P t==some true&&!(P.eqGuardType P.depth t) then EV P 20 t else none
def yy(P:Program)(t:TypeId):Bool:=match P.underlying t with
 |some .bool=>true
 |_=>false
def gD(P:Program)(op:BinOp)(t:TypeId):AV->AV->Option AV
 |.v (.int k a),.v (.int k' b)=>match op with
  |.shl=>(O9 .shl k a b).map .v
  |.shr=>(O9 .shr k a b).map .v
  | op=>if k=k' then (bz op k a b).map .v else none
 |.v (.string a),.v (.string b)=>(bX op a b).map .v
 |.v (.bool a),.v (.bool b)=>if yy P t then match op with
  |.eql=>some (.v (.bool (a==b)))
  |.neq=>some (.v (.bool (!(a==b))))
  |_=>none
  else none
 |.agg xs,.agg ys=>match structEq P t,FT xs,FT ys with
  |some ks,some us,some vs=>match op with
   |.eql=>(BT ks us vs).map λb=>.v (.bool b)
   |.neq=>(BT ks us vs).map λb=>.v (.bool (!b))
   |_=>none
  |_,_,_=>none
 |.v (.slice a _ _),.v (.slice none 0 0)=>if AZ P t then match op with
  |.eql=>some (.v (.bool a.isNone))
  |.neq=>some (.v (.bool (!a.isNone)))
  |_=>none
  else none
 |.sl _ _ (_::_),.v (.slice none 0 0)=>if AZ P t then match op with
  |.eql=>some (.v (.bool false))
  |.neq=>some (.v (.bool true))
  |_=>none
  else none
 |_,_=>none
def cL(op:UnOp):AV->Option AV
 |.v (.bool b)=>match op with
  |.not=>some (.v (.bool (!b)))
  |_=>none
 |.v (.int k n)=>match op with
  |.neg=>some (.v (.int k (k.wrap (0-n))))
  |.xor=>some (.v (.int k (bits .xor k (if k.signed then -1 else k.max) n)))
  |_=>none
 |_=>none
section
variable {g:Gh} {w:World} {P:Program}
def bA{op:BinOp}{t:TypeId}{k:IntKind}{a b:Int}{v:Value}(h:bz op k a b=some v):(binOp op t (.int k a) (.int k b)).run P w=.ok v w:=by cases op<;>simp only[bz,reduceCtorEq]at h<;>simp_all[binOp,Op.intDiv,Op.intArith,Op.intCmp,Op.intBits,bits]
def Uy{op:BinOp}{t:TypeId}{k k':IntKind}{a b:Int}{v:Value}(h:O9 op k a b=some v):(binOp op t (.int k a) (.int k' b)).run P w=.ok v w:=by
 unfold O9 at h;split at h
 ·split at h
  ·cases h
  ·rename_i hb;simp at h;subst h;simp[binOp,Op.shift,hb]
 ·split at h
  ·cases h
  ·rename_i hb;simp at h;subst h;simp[binOp,Op.shift,hb]
 grind
def ph{op:BinOp}{t:TypeId}{a b:ByteArray}{v:Value}(h:bX op a b=some v):(binOp op t (.string a) (.string b)).run P w=.ok v w:=by
 unfold bX at h;split at h
 ·split at h
  ·rename_i hb;simp at h;subst h;have N8:¬ (9223372036854775807<(a.size:Int)+(b.size:Int)):=by omega
   simp[binOp,Op.stringOp,N8]
  grind
 all_goals first
  |(simp only[Option.some.injEq]at h;subst h;simp[binOp,Op.stringOp];done)
  | cases h
def IS:∀ {ks:List Nat} {xs ys:List Value} {r:Bool},BT ks xs ys=some r->xs.length=ks.length/\ys.length=ks.length:=by
 intro ks xs ys
 induction ks,xs,ys using BT.induct with
 | case1=>simp
 | case2 ks k a xs b ys ih =>
  intro r h;simp only[BT,if_true]at h;grind[Option.map_eq_some_iff]
 | case3 ks k a xs k' b ys hk=>grind[BT]
 | case4 ks a xs b ys ih =>
  grind[BT,Option.map_eq_some_iff]
 | case5 ks a xs b ys ih =>
  grind[BT,Option.map_eq_some_iff]
 | case6 ks xs ys h1 h2 h3 h4 =>
  grind[BT.eq_5]
def Hg:∀ {ks ks':List Nat} {xs ys Sr ys':List Value} {r:Bool},xs.length=ks.length->ys.length=ks.length->BT (ks++ks') (xs++Sr) (ys++ys')=some r ->
 ∃ r1 r2,BT ks xs ys=some r1/\BT ks' Sr ys'=some r2/\r=(r1&&r2)
 |[],ks',[],[],Sr,ys',r,_,_,h=>⟨true,r,rfl,h,rfl⟩
 |[],_,_::_,_,_,_,_,h,_,_=>by grind
 |[],_,[],_::_,_,_,_,_,h,_=>by grind
 |_::_,_,[],_,_,_,_,h,_,_=>by grind
 |_::_,_,_::_,[],_,_,_,_,h,_=>by grind
 | k0::ks,ks',x::xs,y::ys,Sr,ys',r,hl,bj,h=>by
  simp at hl bj;simp at h;unfold BT at h;split at h
  ·grind
  ·rename_i ks0 k a xs0 k' b ys0 h1 h2 h3;simp at h1 h2 h3;obtain⟨rfl,rfl⟩:=h1;obtain⟨rfl,rfl⟩:=h2;obtain⟨rfl,rfl⟩:=h3;split at h
   ·rename_i hk;obtain⟨r0,h0,rfl⟩:=Option.map_eq_some_iff.1 h;obtain⟨r1,r2,e1,e2,rfl⟩:=Hg hl bj h0;grind[BT]
   grind
  ·rename_i ks0 a xs0 b ys0 h1 h2 h3;simp at h1 h2 h3;obtain⟨rfl,rfl⟩:=h1;obtain⟨rfl,rfl⟩:=h2;obtain⟨rfl,rfl⟩:=h3;obtain⟨r0,h0,rfl⟩:=Option.map_eq_some_iff.1 h;obtain⟨r1,r2,e1,e2,rfl⟩:=Hg hl bj h0;grind[BT]
  ·rename_i ks0 a xs0 b ys0 h1 h2 h3;simp at h1 h2 h3;obtain⟨rfl,rfl⟩:=h1;obtain⟨rfl,rfl⟩:=h2;obtain⟨rfl,rfl⟩:=h3;obtain⟨r0,h0,rfl⟩:=Option.map_eq_some_iff.1 h;obtain⟨r1,r2,e1,e2,rfl⟩:=Hg hl bj h0;grind[BT]
  grind
def valOf(agg:Bool)(us:List Value):Value:=if agg then .agg us.toArray else us.headD undef
def XB{t:TypeId}{agg:Bool}{n off:Nat}{us:List Value}(h1:Bp P t=some agg)(h2:Cn P t=some n)(hn:agg=false->n=1)(hl:off+n<=us.length) :
 (part t us.toArray off).run P w=.ok (valOf agg ((us.drop off).take n)) w:=by
 unfold part;rw[Sem.run_bind,Kp h1];cases agg with
 | true =>
  simp_all[run_sizeOf,valOf]
 | false =>
  have:=hn rfl;subst this;have AP:off<us.length:=by omega
  simp only[Result.andThen_ok,Bool.false_eq_true,if_false,List.getElem?_toArray,List.getElem?_eq_getElem AP,Sem.run_pure,valOf];grind[List.drop_eq_getElem_cons]
def ZA{d t:Nat}{ks:List Nat}(h:EV P d t=some ks):∃ agg,Bp P t=some agg/\(agg=false->ks.length=1):=by
 cases d with
 | zero=>grind[EV]
 | succ d =>
  simp[EV]at h;split at h<;>rename_i hu<;>simp only[Bp,hu,Option.map_some]<;>grind
def Ov{d D:Nat}(ih:∀ (t:Nat) (ks:List Nat) (agg:Bool) (us vs:List Value) (r:Bool),EV P d t=some ks->Bp P t=some agg->BT ks us vs=some r->(Op.equalIn D t (valOf agg us) (valOf agg vs)).run P w=.ok r w) :
 ∀ (fs:List Field) (off:Nat) (ks:List Nat),Jz P d fs off=some ks->∀ (us vs:List Value) (r:Bool),off<=us.length->off<=vs.length->BT ks (us.drop off) (vs.drop off)=some r->(Op.eqFields D us.toArray vs.toArray fs).run P w=.ok r w
 |[],off,ks,h,us,vs,r,hu,hv,hr=>by
  simp only[Jz,G0,Option.some.injEq]at h;subst h;have hl:=IS hr;have e1:us.drop off=[]:=List.eq_nil_of_length_eq_zero (by grind);have e2:vs.drop off=[]:=List.eq_nil_of_length_eq_zero (by grind);simp_all[BT,Op.eqFields]
 | f::fs,off,ks,h,us,vs,r,hu,hv,hr=>by
  simp only[Jz,G0]at h;split at h
  ·cases h
  ·rename_i hc;have cg:f.name≠"_":=λe=>hc (.inl e)
   have ba:f.offset=off:=Classical.byContradiction λe=>hc (.inr e)
   split at h
   ·rename_i k1 hn;split at h
    ·rename_i hs;obtain⟨k2,gn,rfl⟩:=Option.map_eq_some_iff.1 h;obtain⟨agg,nM,rR⟩:=ZA hn;have hl:=IS hr;simp at hl;have e1:us.drop off=(us.drop off).take k1.length++us.drop (off+k1.length):=by rw[<- List.drop_drop,List.take_append_drop]
     have e2:vs.drop off=(vs.drop off).take k1.length++vs.drop (off+k1.length):=by rw[<- List.drop_drop,List.take_append_drop]
     rw[e1,e2]at hr;obtain⟨r1,r2,m1,m2,rfl⟩:=Hg (by grind) (by grind) hr;have p1:=XB (w:=w) (us:=us) (off:=off) nM hs rR (by omega);have p2:=XB (w:=w) (us:=vs) (off:=off) nM hs rR (by omega);have q:=ih f.type k1 agg _ _ r1 hn nM m1;have rest:=Ov ih fs (off+k1.length) k2 gn us vs r2 (by omega) (by omega) m2;simp only[Op.eqFields,ne_eq,cg,not_false_eq_true,if_true,ba,Sem.run_bind,p1,p2,q,Result.andThen_ok];cases r1
     ·simp
     grind
    grind
   grind
def j0{us vs:List Value}{r:Bool}(h:BT [0] us vs=some r):∃ a b,us=[.bool a]/\vs=[.bool b]/\r=(a==b):=by
 have hl:=IS h
 match us,vs,hl,h with
 |[u],[v],_,h =>
  unfold BT at h;grind[BT]
def eq_int{us vs:List Value}{r:Bool}(h:BT [1] us vs=some r):∃ k a b,us=[.int k a]/\vs=[.int k b]/\r=(a==b):=by
 have hl:=IS h
 match us,vs,hl,h with
 |[u],[v],_,h =>
  unfold BT at h;split at h<;>simp_all[BT]
  grind
def YE{us vs:List Value}{r:Bool}(h:BT [2] us vs=some r):∃ a b,us=[.string a]/\vs=[.string b]/\r=(a.toList==b.toList):=by
 have hl:=IS h
 match us,vs,hl,h with
 |[u],[v],_,h =>
  unfold BT at h;grind[BT]
def LA:∀ (d D t:Nat) (ks:List Nat) (agg:Bool) (us vs:List Value) (r:Bool),d<=D->EV P d t=some ks->Bp P t=some agg->BT ks us vs=some r->(Op.equalIn D t (valOf agg us) (valOf agg vs)).run P w=.ok r w
 | 0,_,_,_,_,_,_,_,_,h,_,_=>by grind[EV]
 | d+1,0,_,_,_,_,_,_,hd,_,_,_=>by omega
 | d+1,D+1,t,ks,agg,us,vs,r,hd,h,ha,hr=>by
  simp[EV]at h;split at h<;>rename_i Vp<;>simp only[Bp,Vp,Option.map_some,Option.some.injEq]at ha
  ·subst ha;simp at h;subst h;obtain⟨a,b,rfl,rfl,rfl⟩:=j0 hr;simp[valOf,Op.equalIn,run_underlying Vp]
  ·subst ha;simp at h;subst h;obtain⟨k,a,b,rfl,rfl,rfl⟩:=eq_int hr;simp[valOf,Op.equalIn,run_underlying Vp]
  ·subst ha;simp at h;subst h;obtain⟨a,b,rfl,rfl,rfl⟩:=YE hr;simp[valOf,Op.equalIn,run_underlying Vp,beq_toListBytes]
  ·rename_i fs;subst ha;split at h
   ·cases h
   ·rename_i hs;have Su:P.fieldsOf t=fs:=by grind[Program.fieldsOf]
    have hfo:P.underlying t=some (.struct (P.fieldsOf t)):=by grind
    simp[valOf];rw[run_equalIn_struct w D t _ _ hfo (by grind),Su];exact Ov (λt ks agg us vs r k1 k2 k3=>LA d D t ks agg us vs r (by omega) k1 k2 k3) _ 0 ks h us vs r (Nat.zero_le _) (Nat.zero_le _) (by grind)
  grind
def NI:∀ {cs:List AV} {xs us:List Value},FT cs=some xs->Bf g w cs us->us=xs
 |[],xs,[],h,_=>by grind[FT]
 |[],_,_::_,_,h=>by grind[Bf]
 |.v x::cs,xs,[],_,h=>by grind[Bf]
 |.v x::cs,xs,u::us,h,hv=>by
  simp only[FT]at h;obtain⟨ys,h1,rfl⟩:=Option.map_eq_some_iff.1 h;simp only[Bf,VR]at hv;rw[hv.1,NI h1 hv.2]
 |.undef::_,_,_,h,_=>by grind[FT]
 |.agg _::_,_,_,h,_=>by grind[FT]
 |.BC _::_,_,_,h,_=>by grind[FT]
 |.sl _ _ _::_,_,_,h,_=>by grind[FT]
 |.ptr _ _::_,_,_,h,_=>by grind[FT]
 |.ep _ _ _ _::_,_,_,h,_=>by grind[FT]
 |.fn _ _::_,_,_,h,_=>by grind[FT]
 |.mv _ _::_,_,_,h,_=>by grind[FT]
 |.mp _::_,_,_,h,_=>by grind[FT]
 |.Kb _ _::_,_,_,h,_=>by grind[FT]
 |.mem _ _::_,_,_,h,_=>by grind[FT]
theorem NT(w:World)(D t:Nat){e:Nat}(he:P.underlying t=some (.slice e))(a:Option Addr)(n c:Nat):(Op.equalIn (D+1) t (.slice a n c) (.slice none 0 0)).run P w=.ok a.isNone w:=by cases a<;>simp[Op.equalIn,run_underlying he]
def Yq{op:BinOp}{t:TypeId}{p q:Operand}{x y z:AV}{ux uy:Value}(hx:VR g w x ux)(hy:VR g w y uy)(h:gD P op t x y=some z) :
 ∃ u,(do eqGuard op t p q ux uy;binOp op t ux uy:Sem Value).run P w=.ok u w/\VR g w z u:=by
 unfold gD at h;split at h
 ·rename_i k a k' b;simp[VR]at hx hy;subst hx;subst hy;have hg:eqGuard op t p q (.int k a) (.int k' b)=pure ():=by cases op<;>rfl
  rw[hg];simp;split at h
  ·obtain⟨v,h1,rfl⟩:=Option.map_eq_some_iff.1 h;simp_all[Uy,VR]
  ·obtain⟨v,h1,rfl⟩:=Option.map_eq_some_iff.1 h;simp_all[Uy,VR]
  ·split at h
   ·rename_i hk;subst hk;obtain⟨v,h1,rfl⟩:=Option.map_eq_some_iff.1 h;simp_all[bA,VR]
   grind
 ·rename_i a b;simp[VR]at hx hy;subst hx;subst hy;have hg:eqGuard op t p q (.string a) (.string b)=pure ():=by cases op<;>rfl
  rw[hg];simp;obtain⟨v,h1,rfl⟩:=Option.map_eq_some_iff.1 h;simp_all[ph,VR]
 ·rename_i a b;simp[VR]at hx hy;subst hx;subst hy;have hg:eqGuard op t p q (.bool a) (.bool b)=pure ():=by cases op<;>rfl
  rw[hg];simp;split at h
  ·rename_i ht;have hu:P.underlying t=some .bool:=by grind[yy]
   split at h
   ·simp at h;subst h;simp_all[VR,binOp,Op.equal,Op.maxDepth,run_equalIn_bool']
   ·simp at h;subst h;simp_all[VR,binOp,Op.equal,Op.maxDepth,run_equalIn_bool']
   grind
  grind
 ·rename_i xs ys;simp[VR]at hx hy;obtain⟨us,rfl,hx⟩:=hx;obtain⟨vs,rfl,hy⟩:=hy;split at h
  ·rename_i ks pN vs' nZ Y6 lR;have e1:=NI Y6 hx;have e2:=NI lR hy;unfold structEq at nZ;split at nZ
   ·rename_i hc;simp at hc;have hg:=run_eqGuard_agg (P:=P) w op t p q us vs hc.2;rw[Sem.run_bind,hg];simp;have key:∀ r,BT ks pN vs'=some r->(Op.equalIn 10000 t (.agg us) (.agg vs)).run P w=.ok r w:=λr hr=>by
     have:=LA (w:=w) 20 10000 t ks true pN vs' r (by omega) nZ hc.1 hr;simp[valOf]at this;rw[<- e1,<- e2]at this;omega
    split at h
    ·obtain⟨r,hr,rfl⟩:=Option.map_eq_some_iff.1 h;simp_all[VR,run_eql_struct]
    ·obtain⟨r,hr,rfl⟩:=Option.map_eq_some_iff.1 h;simp_all[VR,run_neq_struct]
    grind
   grind
  grind
 ·rename_i a n c;simp[VR]at hx hy;subst hx;subst hy;have hg:eqGuard op t p q (.slice a n c) (.slice none 0 0)=pure ():=by cases op<;>rfl
  rw[hg];simp;split at h
  ·rename_i hs;unfold AZ at hs;split at hs
   ·rename_i e he;have key:(Op.equal t (.slice a n c) (.slice none 0 0)).run P w=.ok a.isNone w:=by grind[Op.equal,Op.maxDepth,NT]
    split at h
    ·simp at h;subst h;simp_all[VR,binOp]
    ·simp only[Option.some.injEq]at h;subst h;simp_all[VR,binOp]
    grind
   grind
  grind
 ·rename_i tg m e0 es;have hux:∃ ad k c,ux=.slice (some ad) k c:=by
   by_cases ho:∃ r lo,tg=.own r lo
   ·obtain⟨r,lo,rfl⟩:=ho;simp only[VR,Dr]at hx;grind
   ·have hp:PR (CK g) w (.sl tg m (e0::es)) ux:=by
     simp_all[VR]
    simp only[PR]at hp;grind
  obtain⟨ad,n,c,rfl⟩:=hux;simp[VR]at hy;subst hy;have hg:eqGuard op t p q (.slice (some ad) n c) (.slice none 0 0)=pure ():=by cases op<;>rfl
  rw[hg];simp;split at h
  ·rename_i hs;unfold AZ at hs;split at hs
   ·rename_i e he;have key:(Op.equal t (.slice (some ad) n c) (.slice none 0 0)).run P w=.ok false w:=by grind[Op.equal,Op.maxDepth,NT]
    split at h
    ·simp at h;subst h;simp_all[VR,binOp]
    ·simp at h;subst h;simp_all[VR,binOp]
    grind
   grind
  grind
 grind
def fO{op:UnOp}{x z:AV}{ux:Value}(hx:VR g w x ux)(h:cL op x=some z):∃ u,(Op.unary op ux).run P w=.ok u w/\VR g w z u:=by
 unfold cL at h;split at h
 ·simp[VR]at hx;subst hx;split at h
  ·simp at h;subst h;simp_all[Op.unary,VR]
  grind
 ·simp[VR]at hx;subst hx;split at h
  ·simp only[Option.some.injEq]at h;subst h;simp_all[Op.unary,Op.intArith,VR]
  ·simp at h;subst h;simp_all[Op.unary,Op.intBits,bits,VR]
  grind
 grind
end
end Go.Abs
namespace Go.Abs
def cZ(P:Program)(t:TypeId)(st:St)(x y:AV):Option (AV × St):=match Cs P t with
 |some (_,n,_)=>match elems n y with
  |some fs=>match x with
   |.sl (.own r lo) m es=>if m=n then some (.v (.int .i64 (min fs.length es.length:Nat)),st.I1 r n lo (fs.take es.length)) else none
   |.v (.slice none 0 0)=>some (.v (.int .i64 0),st)
   |_=>none
  |none=>none
 |none=>none
def V1(P:Program)(t:TypeId)(st:St)(x:AV):Option (AV × St):=match Cs P t with
 |some (e,n,_)=>match zeroOf P e with
  |some zs=>if DD (vals zs)=true then match x with
   |.sl (.own r lo) m es=>if m=n then some (.BC [],st.I1 r n lo (List.replicate es.length (vals zs))) else none
   |.v (.slice none 0 0)=>some (.BC [],st)
   |_=>none
   else none
  |none=>none
 |none=>none
def qj(P:Program)(t:TypeId):AV->Option AV
 |.v (.slice _ _ c)=>if AZ P t=true then some (.v (.int .i64 c)) else none
 |_=>none
def lS(P:Program)(t:TypeId):Bool:=match P.underlying t with
 |some (.int .i64)=>true
 |_=>false
def iR{P:Program}{t:TypeId}(h:lS P t=true):P.underlying t=some (.int .i64):=by grind[lS]
def Og(P:Program)(k n:Nat)(t2:TypeId)(zs:List Value)(st:St)(x y:AV):Option (AV × St):=match x,y with
 |.v (.slice none 0 0),.v (.int .i64 m)=>if 0<=m/\m<=4294967296/\DD (vals zs)=true/\lS P t2=true then some (.sl (.own k 0) n (List.replicate m.toNat (vals zs)),st.kill [k] []) else none
 |_,_=>none
section
variable {C:Ctx} {A:A0} {N:Nat} {g g':Gh} {st:St} {a:Act} {w w':World} {P:Program}
theorem sZ(lo idx:Nat)(es:List (List AV)):over lo idx [] es=es:=by
 refine List.ext_getElem? λi=>?_
 grind[over]
def R.PW(hR:R C A N g st a w)(r n idx:Nat):R C A N g (st.I1 r n idx []) a w:=by
 have h1:∀ q lo m es u,Dr g w q lo m es u->VR g w (AV.Eh r n idx [] (.sl (.own q lo) m es)) u:=λq lo m es u hu=>by grind[AV.Eh,sZ,VR]
 have h3:∀ q l i d off u,Ix g w (.own q l) i d off u->VR g w (AV.Eh r n idx [] (.ep (.own q l) i d off)) u:=λq l i d off u hu=>by
  simp[AV.Eh];grind[VR]
 have Vr:∀ b,b<w.heap.size->CK g b->CK g b/\w.heap[b]?=w.heap[b]?:=λ_ _ h=>⟨h,rfl⟩
 exact hR.Cz (VR.Cz Vr h1 (λ_ _ _ hu=>hu) h3 (λ_ _ hu=>hu)) (Bf.Cz Vr h1 (λ_ _ _ hu=>hu) h3 (λ_ _ hu=>hu)) (λ_ h=>⟨rfl,h,rfl⟩) hR.fr
def RK{n:Nat}:∀ (fs:List (List AV)) (k:Nat),(∀ e∈fs,e.length=n)->(fs.take k).flatten=fs.flatten.take ((fs.take k).length*n)
 |[],k,_=>by simp
 | e::fs,0,_=>by simp
 | e::fs,k+1,h=>by
  have he:=h e (by simp);have ih:=RK fs k (λe' h'=>h e' (by grind));rw[List.take_succ_cons,List.flatten_cons,List.flatten_cons,List.length_cons,ih];rw[Nat.add_mul,Nat.one_mul,<- he,Nat.add_comm,List.take_length_add_append]
def gQ(hR:R C A N g st a w){t ty:Nat}{ts:Array TypeId}{x y z:AV}{ux uy:Value}(zc:ts[0]?=some t)(hx:VR g w x ux)(hy:VR g w y uy){st':St}(ha:cZ P t st x y=some (z,st')) :
 ∃ u w' g',(Builtin.copy_ ts ty #[ux,uy]).run P w=.ok u w'/\R C A N g' st' a w'/\VR g' w' z u:=by
 unfold cZ at ha;split at ha
 ·rename_i e n b ht;obtain⟨hu,i,zv,hi,hz,cm,Hb,Qu,hn,hb⟩:=FJ ht;subst Hb;split at ha
  ·rename_i fs Su;obtain⟨us,su,pu,lu⟩:=L1 hn Su hy;have Abm:(Builtin.lenOf uy).run P w=.ok fs.length w:=by rcases su.2 with ⟨a',c,rfl,_⟩|⟨h0,c,rfl⟩<;>simp_all[Builtin.lenOf]
   have hfc:∀ k,k<=fs.length->(Builtin.firstCells i.size k uy).run P w=.ok (us.take (k*i.size)).toArray w:=λk hk=>by
    rcases su.2 with ⟨a',c,rfl,hc⟩|⟨h0,c,rfl⟩
    ·refine run_firstCells_some (P:=P) w i.size k a' _ c _ ?_ λj v hj=>hc j v ?_
     ·rw[List.length_take,su.1,Nat.min_eq_left (Nat.mul_le_mul_right _ hk)]
     grind
    simp_all[Builtin.firstCells]
   have AlK:Nat.min fs.length=λk=>min fs.length k:=rfl
   split at ha
   ·rename_i r lo m es;split at ha
    ·rename_i hm;subst hm;simp at ha;obtain⟨rfl,rfl⟩:=ha;have Abd:=hfc (min fs.length es.length) (Nat.min_le_left _ _);simp only[VR,Dr]at hx;obtain⟨_,⟨rfl,rfl⟩|⟨_,rfl,a',cap,rfl,_⟩|⟨cap,cur,T,rfl,h2,h3,h5,h6,h7,h8⟩⟩:=hx
     ·refine⟨.int .i64 ((min fs.length ([]:List (List AV)).length:Nat):Int),w,g,?_,hR.PW _ _ _,by grind[VR]⟩;simp_all[Builtin.copy_,run_underlying,sizeOf,typeInfo,goInt]
     ·refine⟨.int .i64 ((min fs.length ([]:List (List AV)).length:Nat):Int),w,g,?_,hR.PW _ _ _,by grind[VR]⟩;simp at Abd;cases a'<;>simp[Builtin.copy_,zc,run_underlying hu,Abm,sizeOf,typeInfo,hi,Abd,goInt,storeCells]
     ·have hl:(us.take (min fs.length es.length*i.size)).length=min fs.length es.length*i.size:=by
       rw[List.length_take,su.1,Nat.min_eq_left (Nat.mul_le_mul_right _ (Nat.min_le_left _ _))]
      have htl:(fs.take es.length).length=min fs.length es.length:=by grind
      have Md:lo*i.size+min fs.length es.length*i.size<=cur.size:=by
       rw[<- Nat.add_mul];exact Nat.le_trans (Nat.mul_le_mul_right _ (by omega)) h7
      have Sv:CR (CK g) w (fs.take es.length).flatten (us.take (min fs.length es.length*i.size)):=by simp_all[RK,CR.take]
      have GR:=run_storeCells_at P (g.row r) (lo*i.size) T (us.take (min fs.length es.length*i.size)) 0 cur w h6 (by omega) (CR.one Sv);have rW:=U0.eP (n:=i.size) (idx:=lo) (c:=fs.take es.length) h5 h6 (us:=us.take (min fs.length es.length*i.size)) (λe he=>lu e (List.mem_of_mem_take he)) (by grind) (by omega) Sv;simp only[Nat.add_zero]at GR;refine⟨.int .i64 ((min fs.length es.length:Nat):Int),_,g,?_,hR.I1 rW,by grind[VR]⟩;simp_all[Builtin.copy_,run_underlying,sizeOf,typeInfo,goInt]
    grind
   ·simp at ha;obtain⟨rfl,rfl⟩:=ha;simp[VR]at hx;subst hx;have Abd:=hfc 0 (Nat.zero_le _);refine⟨.int .i64 0,w,g,?_,hR,by grind[VR]⟩;simp_all[Builtin.copy_,run_underlying,sizeOf,typeInfo,goInt]
   grind
  grind
 grind
def MR(z:Value)(n:Nat)(h:0<z.cells.size):(Builtin.zeroCells z.cells n).toList=(List.replicate n z.cells.toList).flatten:=by
 apply List.ext_getElem?;intro j;cases hj:(List.replicate n z.cells.toList).flatten[j]? with
 |none =>
  simp_all[Builtin.zeroCells]
 |some v =>
  obtain⟨h1,h2⟩:=DN _ _ _ _ hj;simp_all[Builtin.zeroCells,getElem!_def]
def oW{t ty e:Nat}{i:TypeInfo}{zv:Value}(hu:P.underlying t=some (.slice e))(hi:P.info? e=some i)(hz:i.zero=some zv){ts:Array TypeId}(zc:ts[0]?=some t){ad:Addr}{n cap:Nat}(hn:0<n)
 (GR:(storeCells ad (Builtin.zeroCells zv.cells n).toList).run P w=.ok () w'):(Builtin.clear_ ts ty #[.slice (some ad) n cap]).run P w=.ok (.tuple #[]) w':=by
 obtain⟨q,rfl⟩:∃ q,n=q+1:=⟨n-1,by omega⟩;simp_all[Builtin.clear_,run_underlying,zeroValue,typeInfo]
def cW(hR:R C A N g st a w){t ty:Nat}{ts:Array TypeId}{x z:AV}{ux:Value}(zc:ts[0]?=some t)(hx:VR g w x ux){st':St}(ha:V1 P t st x=some (z,st')) :
 ∃ u w' g',(Builtin.clear_ ts ty #[ux]).run P w=.ok u w'/\R C A N g' st' a w'/\VR g' w' z u:=by
 unfold V1 at ha;split at ha
 ·rename_i e n b ht;obtain⟨hu,i,zv,hi,hz,cm,Hb,Qu,hn,hb⟩:=FJ ht;subst Hb;have Uh:∀ g w,VR g w (.BC []) (.tuple #[]):=λg w=>by simp_all[VR,Bf]
  split at ha
  ·rename_i zs hzo;have pK:=JM hzo hi hz;split at ha
   ·rename_i CC;split at ha
    ·rename_i r lo m es;split at ha
     ·rename_i hm;subst hm;simp at ha;obtain⟨rfl,rfl⟩:=ha;simp only[VR,Dr]at hx;obtain⟨_,⟨rfl,rfl⟩|⟨_,rfl,a',cap,rfl,_⟩|⟨cap,cur,T,rfl,h2,h3,h5,h6,h7,h8⟩⟩:=hx
      ·refine⟨_,w,g,?_,hR.PW _ _ _,Uh _ _⟩;simp_all[Builtin.clear_,run_underlying]
      ·refine⟨_,w,g,?_,hR.PW _ _ _,Uh _ _⟩;cases a'<;>simp[Builtin.clear_,zc,run_underlying hu]
      ·by_cases h0:es.length=0
       ·have:es=[]:=List.eq_nil_of_length_eq_zero h0;subst this;refine⟨_,w,g,?_,hR.PW _ _ _,Uh _ _⟩;simp_all[Builtin.clear_,run_underlying]
       have Yx:zs.length=i.size:=by grind
       have hl:((List.replicate es.length zs).flatten).length=es.length*i.size:=by simp_all
       have Sv:CR (CK g) w (List.replicate es.length (vals zs)).flatten (List.replicate es.length zs).flatten:=I7 (Oc zs CC) _;have Md:lo*i.size+es.length*i.size<=cur.size:=by
        rw[<- Nat.add_mul];exact Nat.le_trans (Nat.mul_le_mul_right _ (by omega)) h7
       have GR:=run_storeCells_at P (g.row r) (lo*i.size) T (List.replicate es.length zs).flatten 0 cur w h6 (by omega) (CR.one Sv);have rW:=U0.eP (n:=i.size) (idx:=lo) (c:=List.replicate es.length (vals zs)) h5 h6 (us:=(List.replicate es.length zs).flatten) (λe he=>by grind[vals]) (by grind) (by omega) Sv;simp only[Nat.add_zero]at GR;have hzc:=MR zv es.length (by omega);rw[<- pK]at hzc;rw[<- hzc]at GR;refine⟨_,_,g,oW hu hi hz zc (by omega) GR,?_,Uh _ _⟩;rw[hzc];exact hR.I1 rW
     grind
    ·simp at ha;obtain⟨rfl,rfl⟩:=ha;simp[VR]at hx;subst hx;exact⟨_,w,g,by simp_all[Builtin.clear_,run_underlying],hR,Uh _ _⟩
    grind
   grind
  grind
 grind
def mW{t ty:Nat}{ts:Array TypeId}{x z:AV}{ux:Value}(zc:ts[0]?=some t)(hx:VR g w x ux)(ha:qj P t x=some z) :
 ∃ u,(Builtin.cap_ ts ty #[ux]).run P w=.ok u w/\VR g w z u:=by
 unfold qj at ha;split at ha
 ·split at ha
  ·rename_i hs;simp at ha;subst ha;simp[VR]at hx;subst hx;unfold AZ at hs;split at hs<;>simp_all[Builtin.cap_,run_underlying,goInt,VR]
  grind
 grind
def XX(hR:R C A N g st a w){t t2 ty e n b k:Nat}{zs:List Value}(ht:Cs P t=some (e,n,b))(hzo:zeroOf P e=some zs){x y z:AV}{ux uy:Value}(hx:VR g w x ux)(hy:VR g w y uy){st':St}
 (ha:Og P k n t2 zs st x y=some (z,st')):∃ u w' g',(Builtin.append_ #[t,t2] ty #[ux,uy]).run P w=.ok u w'/\R C A N g' st' a w'/\VR g' w' z u:=by
 obtain⟨hu,i,zv,hi,hz,cm,Hb,Qu,hn,hb⟩:=FJ ht;subst Hb;have pK:=JM hzo hi hz;unfold Og at ha;split at ha
 ·rename_i m;split at ha
  ·rename_i hc;obtain⟨h0,Abn,CC,IE⟩:=hc
   replace IE:=iR IE
   simp at ha;obtain⟨rfl,rfl⟩:=ha;simp[VR]at hx hy;subst hx;subst hy;have hw:IntKind.i64.wrap m=m:=by grind[IntKind.wrap,IntKind.bits]
   have S2:m*(i.bytes:Int)<=4294967296*32768:=Int.mul_le_mul Abn (by omega) (by omega) (by omega)
   by_cases uD:m=0
   ·subst uD;refine⟨.slice none 0 0,w,g,?_,hR.kill [k] [] (λ_ _ h=>by cases h),?_⟩
    ·simp[Builtin.append_,run_underlying hu,run_underlying IE,sizeOf,typeInfo,hi,asInt,asIntOf,hw]
    simp_all[VR,Dr]
   ·have Yx:zs.length=i.size:=by grind
    have bb:m.toNat<=grownCap w m.toNat 0 e:=grownCap_ge w _ 0 e;have dz:grownCap w m.toNat 0 e<=maxLen:=grownCap_le_maxLen w _ 0 e (by grind[maxLen]);have hzc:=MR zv m.toNat (by omega);rw[<- pK]at hzc;obtain⟨g',k1,k2⟩:=hR.drew.newRow k [k] (by simp) (Builtin.zeroCells zv.cells m.toNat++Builtin.zeroCells zv.cells (grownCap w m.toNat 0 e-m.toNat)) e i.size (grownCap w m.toNat 0 e) (List.replicate m.toNat (vals zs)) (List.replicate m.toNat zs).flatten hn
     (λe' he=>by grind[vals])
     (I7 (Oc zs CC) _)
     (by simp[Array.size_append,size_zeroCells,cm];rw[<- Nat.add_mul];grind) (by grind) dz
     (λj v hj=>by grind)
    rw[List.length_replicate]at k2;refine⟨_,_,g',?_,k1,k2⟩;have n9:¬ m<0:=by omega
    have nP:¬ (281474976710656<m*(i.bytes:Int)):=by omega
    have rN:¬ (m.toNat*i.size=0):=by grind[Nat.mul_eq_zero]
    have hle:¬ (m.toNat<=0):=by omega
    have h63:¬ (9223372036854775807<(m.toNat:Int)):=by omega
    have gF:Builtin.nextslicecap m.toNat 0=m.toNat:=by grind[Builtin.nextslicecap]
    have Aet:¬ (281474976710656<m.toNat*i.bytes):=by grind
    have hm1:¬ (m.toNat=0):=by omega
    have mb:¬ (i.size=0):=by omega
    have AhR:¬ (m<=0):=by omega
    have dC:max m 0=m:=by omega
    have AaZ:¬ (9223372036854775807<m):=by omega
    simp[Builtin.append_,run_underlying hu,run_underlying IE,sizeOf,typeInfo,zeroValue,hi,hz,asInt,asIntOf,hw,n9,nP,AhR,dC,AaZ,rN,gF,Aet,Question.forced,newRow,grownCap,Builtin.firstCells]
  grind
 grind
end
end Go.Abs
