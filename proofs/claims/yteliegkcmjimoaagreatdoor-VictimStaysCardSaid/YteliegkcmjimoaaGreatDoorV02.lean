/- part 2 of the proof -/
import Derived.Test.YteliegkcmjimoaaGreatDoorV01
set_option linter.all false
namespace Go.Abs
def N1:AV->Option Nat
 |.v (.int _ i)=>if 0<=i then some i.toNat else none
 |_=>none
def Js(n:Nat)(full:Bool)(l h:Nat)(st:St):AV->Option (AV × St)
 |.sl (.own r lo) m es=>if m=n/\l<=h/\h<=es.length then
  if full then (if lo=0 then some (.sl .full n ((es.drop l).take (h-l)),st.freeze [r]) else none)
  else some (.sl (.own r (lo+l)) n ((es.drop l).take (h-l)),st)
  else none
 |.sl t m es=>if m=n/\l<=h/\h<=es.length then some (.sl (if full then .full else .no) n ((es.drop l).take (h-l)),st) else none
 |.v (.slice none 0 0)=>if l=0/\h=0 then some (.v (.slice none 0 0),st) else none
 |_=>none
section
variable {C:Ctx} {A:A0} {N:Nat} {g g':Gh} {st:St} {a:Act} {w w':World} {P:Program}
def CH.sub{ro:Nat->Prop}:∀ (es:List (List AV)) (ad:Addr) (n i:Nat),CH ro w es ad n i->∀ l k:Nat,CH ro w ((es.drop l).take k) ad n (i+l)
 |[],_,_,_,_,l,k=>by simp[CH]
 | e::es,ad,n,i,h,0,0=>by simp[CH]
 | e::es,ad,n,i,h,0,k+1=>by
  simp only[CH]at h;simp only[List.drop_zero,List.take_succ_cons,CH];exact⟨h.1,h.2.1,by simpa using CH.sub es ad n (i+1) h.2.2 0 k⟩
 | e::es,ad,n,i,h,l+1,k=>by
  simp only[CH]at h;have:=CH.sub es ad n (i+1) h.2.2 l k;rw[show i+1+l=i+(l+1) from by omega]at this;simpa using this
def CH.shift{ro:Nat->Prop}:∀ (es:List (List AV)) (ad:Addr) (n l i:Nat),CH ro w es ad n (l+i)->CH ro w es (ad.add (l*n)) n i
 |[],_,_,_,_,_=>by simp[CH]
 | e::es,ad,n,l,i,h=>by
  simp only[CH]at h ⊢;exact⟨h.1,Cu.shift e ad (l*n) (i*n) (by rw[<- Nat.add_mul];exact h.2.1),CH.shift es ad n l (i+1) (by rw[<- Nat.add_assoc];exact h.2.2)⟩
def Fb{t e:TypeId}{size:Nat}(ht:P.underlying t=some (.slice e))(hs:BW P e=some size){a:Option Addr}{len cap l h:Nat}{lo hi mx:Option Value}{kl kh km:IntKind}
 (RS:lo=none/\l=0\/lo=some (.int kl l)) (pC:hi=none/\h=len\/hi=some (.int kh h)) (full:Bool) (Zy:mx=if full then some (.int km h) else none) (pz:full=true->hi=some (.int kh h))
 (h1:l<=h) (h2:h<=len) (h3:len<=cap) :
 (Instr.slice t (.slice a len cap) lo hi mx).run P w=.ok (.slice (if (if full then h else cap)=l then a else a.map (·.add (l*size))) (h-l) ((if full then h else cap)-l)) w:=by
 have b1:∀ (k:IntKind) (c:BoundsCode),(Instr.sliceBound (.int k h) cap c).run P w=.ok h w:=λk c=>by
  have:=run_sliceBound (P:=P) (w:=w) k h cap c (by omega) (by omega);simpa using this
 have b2:∀ (k:IntKind) (c:BoundsCode),(Instr.sliceBound (.int k h) h c).run P w=.ok h w:=λk c=>by
  have:=run_sliceBound (P:=P) (w:=w) k h h c (by omega) (by omega);simpa using this
 have b3:∀ (k:IntKind) (c:BoundsCode),(Instr.sliceBound (.int k l) h c).run P w=.ok l w:=λk c=>by
  have:=run_sliceBound (P:=P) (w:=w) k l h c (by omega) (by omega);simpa using this
 have b4:∀ (k:IntKind) (c:BoundsCode),l<=len->(Instr.sliceBound (.int k l) len c).run P w=.ok l w:=λk c hh=>by
  have:=run_sliceBound (P:=P) (w:=w) k l len c (by omega) (by omega);simpa using this
 cases full with
 | true =>
  have hh:=pz rfl;subst hh;simp only[if_true]at Zy;subst Zy;rcases RS with ⟨rfl,rfl⟩|rfl
  ·simp[Instr.slice,run_underlying ht,Instr.sliceBounds,b1,b2,run_sizeOf hs]
  ·simp[Instr.slice,run_underlying ht,Instr.sliceBounds,b1,b2,b3,run_sizeOf hs]
 | false =>
  simp only[Bool.false_eq_true,if_false]at Zy;subst Zy;rcases RS with ⟨rfl,rfl⟩|rfl<;>rcases pC with ⟨rfl,rfl⟩|rfl
  ·simp[Instr.slice,run_underlying ht,Instr.sliceBounds,run_sizeOf hs]
  ·simp[Instr.slice,run_underlying ht,Instr.sliceBounds,b1,run_sizeOf hs]
  ·simp[Instr.slice,run_underlying ht,Instr.sliceBounds,b4 _ _ h1,run_sizeOf hs]
  ·simp[Instr.slice,run_underlying ht,Instr.sliceBounds,b1,b3,run_sizeOf hs]
def M6(hR:R C A N g st a w){t e:TypeId}{n:Nat}(ht:As P t=some (e,n)){x z:AV}{ux:Value}(hx:VR g w x ux){l h len:Nat}{lo hi mx:Option Value}{kl kh km:IntKind}{full:Bool}
 (hlen:∀ es,elems n x=some es->es.length=len)
 (RS:lo=none/\l=0\/lo=some (.int kl l)) (pC:hi=none/\h=len\/hi=some (.int kh h)) (Zy:mx=if full then some (.int km h) else none) (pz:full=true->hi=some (.int kh h)) {st':St}
 (ha:Js n full l h st x=some (z,st')):∃ u g',(Instr.slice t ux lo hi mx).run P w=.ok u w/\R C A N g' st' a w/\VR g' w z u/\(((∀ r lo m es,x≠.sl (.own r lo) m es)\/full=false)->g'=g):=by
 have a8:P.underlying t=some (.slice e)/\BW P e=some n:=by
  unfold As at ht;split at ht
  ·rename_i e' he;obtain⟨n',gG,hh⟩:=Option.map_eq_some_iff.1 ht;simp only[Prod.mk.injEq]at hh;obtain⟨rfl,rfl⟩:=hh;exact⟨he,gG⟩
  ·cases ht
 obtain⟨eS,GP⟩:=a8;unfold Js at ha;split at ha
 ·rename_i r yE m es;split at ha
  ·rename_i hc;obtain⟨rfl,h1,h2⟩:=hc;have hl:es.length=len:=hlen es (by simp[elems]);subst hl;simp only[VR,CM]at hx;obtain⟨hn,hx⟩:=hx;have TX:((es.drop l).take (h-l)).length=h-l:=by simp;omega
   split at ha
   ·rename_i hf;subst hf;split at ha
    ·rename_i h0;subst h0;simp only[Option.some.injEq,Prod.mk.injEq]at ha;obtain⟨rfl,rfl⟩:=ha;rcases hx with ⟨rfl,rfl⟩|⟨h0,_⟩|⟨cap,cur,T,rfl,k2,k3,k5,k6,k7,k8⟩
     ·simp only[List.length_nil]at h2;have h0:h=0:=by omega
      subst h0;have pE:l=0:=by omega
      subst pE;have CZ:=Fb (w:=w) eS GP (a:=none) (len:=0) (cap:=0) RS pC true Zy pz (Nat.le_refl 0) (Nat.le_refl 0) (Nat.le_refl 0);refine⟨_,_,CZ,hR.freeze [r],?_,λh=>by rcases h with h|h;exact absurd rfl (h _ _ _ _);cases h⟩;simp only[VR,PR];exact⟨(λ_ _ h=>by cases h),none,0,by simp,by simp,by simp[maxLen],(λ_=>by simp),hn,.inl (by simp)⟩
     ·omega
     ·have CZ:=Fb (w:=w) eS GP RS pC true Zy pz h1 h2 k2 (a:=some ⟨g.row r,0*m,none⟩);refine⟨_,_,CZ,hR.freeze [r],?_,λh=>by rcases h with h|h;exact absurd rfl (h _ _ _ _);cases h⟩;simp only[VR,PR,if_true];refine⟨(λ_ _ h=>by cases h),_,_,by rw[TX],by omega,by omega,(λ_=>by omega),hn,?_⟩
      by_cases zG:h=l
      ·exact .inl (by rw[zG];simp)
      ·refine .inr ⟨_,by rw[if_neg zG];rfl,(by show (Gh.freeze [r] g).own ((⟨g.row r,0*m,none⟩:Addr).add (l*m)).block=.ro;rw[E6];exact OD _ r k5 (by simp)),?_⟩;have:=CH.sub es _ m 0 (CH.Cv (FP (S:=[r])) es _ m 0 rfl k8) l (h-l);rw[Nat.zero_add]at this;exact CH.shift _ _ m l 0 (by simpa using this)
    ·cases ha
   ·rename_i hf;have eI:full=false:=by simpa using hf
    subst eI;simp only[Option.some.injEq,Prod.mk.injEq]at ha;obtain⟨rfl,rfl⟩:=ha;rcases hx with ⟨rfl,rfl⟩|⟨h0,rfl,a',cap,rfl,TT⟩|⟨cap,cur,T,rfl,k2,k3,k5,k6,k7,k8⟩
    ·simp only[List.length_nil]at h2;have h0:h=0:=by omega
     subst h0;have pE:l=0:=by omega
     subst pE;have CZ:=Fb (w:=w) eS GP (a:=none) (len:=0) (cap:=0) RS pC false Zy pz (Nat.le_refl 0) (Nat.le_refl 0) (Nat.le_refl 0);refine⟨_,_,CZ,hR,?_,λ_=>rfl⟩;simp only[VR,CM];exact⟨hn,.inl ⟨by simp,by simp⟩⟩
    ·simp only[List.length_nil]at h2;have xy:h=0:=by omega
     subst xy;have pE:l=0:=by omega
     subst pE;have CZ:=Fb (w:=w) eS GP (a:=a') (len:=0) (cap:=cap) RS pC false Zy pz (Nat.le_refl 0) (Nat.le_refl 0) (Nat.zero_le _);refine⟨_,_,CZ,hR,?_,λ_=>rfl⟩;simp only[VR,CM];exact⟨hn,.inr (.inl ⟨by omega,by simp,_,_,rfl,by simp;omega⟩)⟩
    ·have CZ:=Fb (w:=w) eS GP RS pC false Zy pz h1 h2 k2 (a:=some ⟨g.row r,yE*m,none⟩);refine⟨_,_,CZ,hR,?_,λ_=>rfl⟩;simp only[VR,CM];refine⟨hn,?_⟩;have ED:=CH.sub es _ m 0 k8 l (h-l);rw[Nat.zero_add]at ED;have uD:=CH.shift _ _ m l 0 (by simpa using ED);rw[add_lit,<- Nat.add_mul]at uD
     by_cases NN:cap=l
     ·have pE:h=l:=by omega
      by_cases hz:yE+l=0
      ·have e1:yE=0:=by omega
       have e2:l=0:=by omega
       subst e1;subst e2;refine .inr (.inr ⟨cap-0,cur,T,?_,by rw[TX];omega,by omega,k5,k6,by simpa using k7,uD⟩);simp only[Bool.false_eq_true,if_false,NN,if_true];rw[TX]
      ·refine .inr (.inl ⟨by omega,by rw[pE];simp,_,_,by rw[pE,Nat.sub_self],by simp;omega⟩)
     ·refine .inr (.inr ⟨cap-l,cur,T,?_,by rw[TX];omega,by omega,k5,k6,by rw[show yE+l+(cap-l)=yE+cap from by omega];exact k7,uD⟩);rw[TX];simp[NN,add_lit,Nat.add_mul]
  ·cases ha
 ·rename_i t' m es Qr;split at ha
  ·rename_i hc;obtain⟨rfl,h1,h2⟩:=hc;simp only[Option.some.injEq,Prod.mk.injEq]at ha;obtain⟨rfl,rfl⟩:=ha;have hl:es.length=len:=hlen es (by simp[elems]);subst hl;have TX:((es.drop l).take (h-l)).length=h-l:=by simp;omega
   have hp:PR (BX g) w (.sl t' m es) ux:=by
    cases t' with
    | own r lo=>exact absurd rfl (Qr r lo)
    | no=>simpa [VR]using hx
    | full=>simpa [VR]using hx
   simp only[PR]at hp;obtain⟨_,a',cap,rfl,k2,k3,k4,k5,k6⟩:=hp;have CZ:=Fb (w:=w) eS GP RS pC full Zy pz h1 h2 k2 (a:=a');refine⟨_,_,CZ,hR,?_,λ_=>rfl⟩;have PL:PR (BX g) w (.sl (if full=true then .full else .no) m ((es.drop l).take (h-l))) (.slice (if (if full=true then h else cap)=l then a' else a'.map (·.add (l*m))) (h-l) ((if full=true then h else cap)-l)):=by
    simp only[PR];refine⟨?_,_,_,by rw[TX],by split<;>omega,by split<;>omega,?_,k5,?_⟩
    ·intro r lo;cases full<;>simp
    ·intro hf;cases full
     ·simp at hf
     ·simp;omega
    by_cases zG:h=l
    ·exact .inl (by rw[zG];simp)
    ·rcases k6 with rfl|⟨ad,rfl,k7,k8⟩
     ·exact .inl (by simp)
     ·refine .inr ⟨ad.add (l*m),?_,by rw[E6];exact k7,?_⟩
      ·rw[if_neg (by split<;>omega)];rfl
      ·have:=CH.sub es _ m 0 k8 l (h-l);rw[Nat.zero_add]at this;exact CH.shift _ _ m l 0 (by simpa using this)
   cases full with
   | true=>simpa [VR]using PL
   | false=>simpa [VR]using PL
  ·cases ha
 ·split at ha
  ·rename_i hc;obtain⟨rfl,rfl⟩:=hc;simp only[Option.some.injEq,Prod.mk.injEq]at ha;obtain⟨rfl,rfl⟩:=ha;have hl:([]:List (List AV)).length=len:=hlen [] (by simp[elems]);simp at hl;subst hl;simp only[VR]at hx;subst hx;have CZ:=Fb (w:=w) eS GP (a:=none) (len:=0) (cap:=0) RS pC full Zy pz (Nat.le_refl 0) (Nat.le_refl 0) (Nat.le_refl 0);refine⟨_,_,CZ,hR,?_,λ_=>rfl⟩;simp[VR]
  ·cases ha
 ·cases ha
end
end Go.Abs
namespace Go.Abs
mutual
def AV.setRow(r idx:Nat)(c:List AV):AV->AV
 |.undef=>.undef
 |.v x=>.v x
 |.agg cs=>.agg (Hk r idx c cs)
 |.Bl cs=>.Bl (Hk r idx c cs)
 |.sl (.own q lo) m es=>if q=r then (if m=c.length then .sl (.own q lo) m (if lo<=idx then es.set (idx-lo) c else es) else .undef) else .sl (.own q lo) m es
 |.sl .no n es=>.sl .no n es
 |.sl .full n es=>.sl .full n es
 |.ptr s off=>.ptr s off
 |.ep (.own q l) i d off=>if q=r then (if d.length=c.length then .ep (.own q l) i (if i=idx then c else d) off else .undef) else .ep (.own q l) i d off
 |.ep .no i cells off=>.ep .no i cells off
 |.ep .full i cells off=>.ep .full i cells off
 |.fn f Bi=>.fn f (Hk r idx c Bi)
 |.mv f Bi=>.mv f (Hk r idx c Bi)
 |.mp o=>.mp o
 |.Gc t x=>.Gc t (x.setRow r idx c)
 |.El k q i j off m bss=>if q=r then .undef else .El k q i j off m bss
 |.mem b xs=>.mem b (Hk r idx c xs)
def Hk(r idx:Nat)(c:List AV):List AV->List AV
 |[]=>[]
 | x::xs=>x.setRow r idx c::Hk r idx c xs
end
def St.setRow(r idx:Nat)(c:List AV)(st:St):St:=⟨st.tmps.map (λp=>(p.1,p.2.setRow r idx c)),st.Ah.map (λp=>(p.1,Hk r idx c p.2))⟩
section
variable {ro M1:Nat->Prop} {w w':World}
def Cu.move(h:∀ b,b<w.heap.size->ro b->M1 b/\w'.heap[b]?=w.heap[b]?):∀ (cs:List AV) (ad:Addr) (j:Nat),(∀ k,k<cs.length->w'.cell? (ad.add (j+k))=w.cell? (ad.add (j+k)))->Cu ro w cs ad j->Cu M1 w' cs ad j
 |[],_,_,_,_=>by simp[Cu]
 | c::cs,ad,j,hs,hu=>by
  simp only[Cu]at hu ⊢;obtain⟨⟨u,h1,h2⟩,h3⟩:=hu;refine⟨⟨u,by rw[<- h1];simpa using hs 0 (by simp),PR.mono h c u h2⟩,Cu.move h cs ad (j+1) (λk hk=>?_) h3⟩;have:=hs (k+1) (by simpa using hk)
  rwa [show j+(k+1)=j+1+k from by omega]at this
def CH.Z5:∀ (es:List (List AV)) (ad:Addr) (n i:Nat),(∀ (k:Nat) (e:List AV),es[k]?=some e->e.length=n/\Cu ro w e ad ((i+k)*n))->CH ro w es ad n i
 |[],_,_,_,_=>by simp[CH]
 | e::es,ad,n,i,h=>by
  simp only[CH];have h0:=h 0 e (by simp);refine⟨h0.1,by simpa using h0.2,CH.Z5 es ad n (i+1) λk e' he=>?_⟩;have:=h (k+1) e' (by simpa using he)
  rwa [show i+(k+1)=i+1+k from by omega]at this
end
structure Stored(g:Gh)(w:World)(r idx:Nat)(c:List AV)(cur new:Array Value)(T:TypeId):Prop where
 own:g.own (g.row r)=.row r
 heap:w.heap[g.row r]?=some (.cells cur T (0,0))
 size:new.size=cur.size
 same:∀ p,p<idx*c.length\/(idx+1)*c.length<=p->new[p]?=cur[p]?
 cell:Cu (BX g) (w.setRow (g.row r) new) c ⟨g.row r,idx*c.length,none⟩ 0
section
variable {C:Ctx} {A:A0} {N:Nat} {g g':Gh} {st:St} {a:Act} {w w':World} {P:Program}
variable {r idx:Nat} {c:List AV} {cur new:Array Value} {T:TypeId}
def Stored.ro(h:Stored g w r idx c cur new T):∀ b,b<w.heap.size->BX g b->BX g b/\(w.setRow (g.row r) new).heap[b]?=w.heap[b]?:=λb _ ho =>
 ⟨ho,setRow_other w _ b new (λe=>by subst e;have:=h.own;rw[ho]at this;cases this)⟩
def Stored.other(h:Stored g w r idx c cur new T){b q:Nat}(hq:q≠r)(ho:g.own b=.row q):(w.setRow (g.row r) new).heap[b]?=w.heap[b]? :=
 setRow_other w _ b new (λe=>by subst e;have:=h.own;rw[ho]at this;injection this with this;exact hq this)
def Stored.heap'(h:Stored g w r idx c cur new T):(w.setRow (g.row r) new).heap[g.row r]?=some (.cells new T (0,0)):=setRow_heap w _ cur new T _ h.heap
def Stored.elem(h:Stored g w r idx c cur new T){i n:Nat}{e:List AV}(hn:n=c.length)(he:e.length=n)(hi:i≠idx)(hp:Cu (BX g) w e ⟨g.row r,i*n,none⟩ 0) :
 Cu (BX g) (w.setRow (g.row r) new) e ⟨g.row r,i*n,none⟩ 0:=by
 refine Cu.move h.ro e _ 0 (λk hk=>?_) hp;rw[add_lit,cell_of_row _ _ _ _ _ _ h.heap',cell_of_row _ _ _ _ _ _ h.heap];refine h.same _ ?_;subst hn;rw[he]at hk;rcases Nat.lt_or_gt_of_ne hi with Au|OE
 ·left;have:(i+1)*c.length<=idx*c.length:=Nat.mul_le_mul_right _ Au;rw[Nat.add_mul]at this;omega
 ·right;have:(idx+1)*c.length<=i*c.length:=Nat.mul_le_mul_right _ OE;omega
mutual
def VR.setRow(h:Stored g w r idx c cur new T):∀ (x:AV) (u:Value),VR g w x u->VR g (w.setRow (g.row r) new) (x.setRow r idx c) u
 |.undef,_,_=>by simp[AV.setRow,VR]
 |.v x,u,hu=>by simpa [AV.setRow,VR]using hu
 |.agg cs,u,hu=>by
  simp only[AV.setRow,VR]at hu ⊢;obtain⟨us,h1,h2⟩:=hu;exact⟨us,h1,Az.setRow h cs us.toList h2⟩
 |.Bl cs,u,hu=>by
  simp only[AV.setRow,VR]at hu ⊢;obtain⟨us,h1,h2⟩:=hu;exact⟨us,h1,Az.setRow h cs us.toList h2⟩
 |.sl (.own q lo) m es,u,hu=>by
  simp only[AV.setRow]
  by_cases hq:q=r
  ·subst hq;simp only[if_true];split
   ·rename_i hm;subst hm;simp only[VR,CM]at hu ⊢;refine⟨hu.1,?_⟩;rcases hu.2 with ⟨rfl,rfl⟩|⟨h0,rfl,V8⟩|⟨cap,cur',T',h1,h2,h3,h5,h6,h7,h8⟩
    ·exact .inl ⟨rfl,by split<;>simp⟩
    ·exact .inr (.inl ⟨h0,by split<;>simp,V8⟩)
    ·have hh:=h.heap;rw[h6]at hh;injection hh with hh
     injection hh with gF zF
     subst gF;have hlen:(if lo<=idx then es.set (idx-lo) c else es).length=es.length:=by split<;>simp
     refine .inr (.inr ⟨cap,new,T,by rw[hlen];exact h1,by rw[hlen];exact h2,h3,h5,h.heap',by rw[h.size];exact h7,?_⟩);refine CH.Z5 _ _ _ 0 λk e he=>?_
     have Jf:(lo<=idx/\k=idx-lo/\e=c)\/(es[k]?=some e/\lo+k≠idx):=by
      split at he
      ·rename_i hle;rw[List.getElem?_set]at he;split at he
       ·rename_i hk;split at he
        ·simp at he;exact .inl ⟨hle,hk.symm,he.symm⟩
        ·cases he
       ·rename_i hk;exact .inr ⟨he,by omega⟩
      ·rename_i hle;exact .inr ⟨he,by omega⟩
     rcases Jf with ⟨hle,rfl,rfl⟩|⟨he,Ca⟩
     ·refine⟨rfl,?_⟩;have:=h.cell;obtain⟨us,k1,k2⟩:=Cu.list _ _ _ this;refine Cu.Dt _ us _ _ k1 λj v hv=>?_
      have:=k2 j v hv;rw[add_lit]at this ⊢;rw[show lo*e.length+((0+(idx-lo))*e.length+j)=idx*e.length+(0+j) from by
       rw[<- Nat.add_assoc,<- Nat.add_mul];rw[show lo+(0+(idx-lo))=idx from by omega];omega]
      exact this
     ·obtain⟨e1,e2⟩:=CH.at_ es _ _ 0 h8 k e he;refine⟨e1,?_⟩;have e3:=Cu.shift e ⟨g.row q,lo*c.length,none⟩ ((0+k)*c.length) 0 (by simpa using e2);rw[add_lit,<- Nat.add_mul,show lo+(0+k)=lo+k from by omega]at e3;have e4:=h.elem (i:=lo+k) rfl e1 Ca e3;obtain⟨us,k1,k2⟩:=Cu.list _ _ _ e4;refine Cu.Dt _ us _ _ k1 λj v hv=>?_
      have:=k2 j v hv;rw[add_lit]at this ⊢;rw[show lo*c.length+((0+k)*c.length+j)=(lo+k)*c.length+(0+j) from by
       rw[<- Nat.add_assoc,<- Nat.add_mul];simp]
      exact this
   ·simp[VR]
  ·simp only[hq,if_false];simp only[VR,CM]at hu ⊢;refine⟨hu.1,?_⟩;rcases hu.2 with hu|hu|⟨cap,cur',T',h1,h2,h3,h5,h6,h7,h8⟩
   ·exact .inl hu
   ·exact .inr (.inl hu)
   ·have ho:=h.other hq h5;exact .inr (.inr ⟨cap,cur',T',h1,h2,h3,h5,by rw[ho];exact h6,h7,CH.Cv h.ro es _ m 0 ho h8⟩)
 |.sl .no n es,u,hu=>by
  simp only[AV.setRow,VR]at hu ⊢;exact PR.mono h.ro _ u hu
 |.sl .full n es,u,hu=>by
  simp only[AV.setRow,VR]at hu ⊢;exact PR.mono h.ro _ u hu
 |.ptr s off,u,hu=>by simpa [AV.setRow,VR]using hu
 |.mp s,u,hu=>by simpa [AV.setRow,VR]using hu
 |.ep (.own q l) i d off,u,hu=>by
  simp only[AV.setRow]
  by_cases hq:q=r
  ·subst hq;simp only[if_true];split
   ·rename_i hd;simp only[VR,Fz]at hu ⊢;obtain⟨cur',T',h1,h2,h3,h4,h5⟩:=hu;have hh:=h.heap;rw[h3]at hh;injection hh with hh
    injection hh with gF zF
    subst gF;have hlen:(if i=idx then c else d).length=d.length:=by split<;>simp_all
    refine⟨new,T,by rw[hlen];exact h1,h2,h.heap',by rw[hlen,h.size];exact h4,?_⟩;rw[hlen]
    by_cases hi:i=idx
    ·subst hi;simp only[if_true];rw[hd];exact h.cell
    ·simp only[hi,if_false];exact h.elem hd rfl hi h5
   ·simp[VR]
  ·simp only[hq,if_false];simp only[VR,Fz]at hu ⊢;obtain⟨cur',T',h1,h2,h3,h4,h5⟩:=hu;have ho:=h.other hq h2;exact⟨cur',T',h1,h2,by rw[ho];exact h3,h4,Cu.Cv h.ro d _ 0 ho h5⟩
 |.ep .no i cells off,u,hu=>by
  simp only[AV.setRow,VR,Fz]at hu ⊢;obtain⟨ad,h1,h0,h2,h3⟩:=hu;exact⟨ad,h1,h0,h2,Cu.mono h.ro _ ad 0 h2 h3⟩
 |.ep .full i cells off,u,hu=>by
  simp only[AV.setRow,VR,Fz]at hu ⊢;obtain⟨ad,h1,h0,h2,h3⟩:=hu;exact⟨ad,h1,h0,h2,Cu.mono h.ro _ ad 0 h2 h3⟩
 |.fn f Bi,u,hu=>by
  simp only[AV.setRow,VR]at hu ⊢;obtain⟨us,h1,h2⟩:=hu;exact⟨us,h1,Az.setRow h Bi us.toList h2⟩
 |.mv f Bi,u,hu=>by
  simp only[AV.setRow,VR]at hu ⊢;obtain⟨us,h1,h2⟩:=hu;exact⟨us,h1,Az.setRow h Bi us.toList h2⟩
 |.Gc t x,u,hu=>by
  simp only[AV.setRow,VR]at hu ⊢;obtain⟨y,h1,h2⟩:=hu;exact⟨y,h1,VR.setRow h x y h2⟩
 |.El k q i j off m bss,u,hu=>by
  simp only[AV.setRow]
  by_cases hq:q=r
  ·simp[hq,VR]
  ·simp only[hq,if_false];simp only[VR]at hu ⊢;exact hu.map ⟨h.ro,rfl,λ_=>rfl,λ_ ho=>⟨ho,h.other hq ho⟩,λi _ ho=>⟨ho,setRow_other w _ _ new (λe=>by have:=h.own;rw[<- e,ho]at this;cases this)⟩⟩
 |.mem b xs,u,hu=>by
  simp only[AV.setRow,VR]at hu ⊢;obtain⟨ad,vs,h1,h2,h3,h4⟩:=hu;obtain⟨k1,k2⟩:=h2.move h.ro h1;exact⟨ad,vs,k1,k2,Az.setRow h xs vs h3,h4⟩
def Az.setRow(h:Stored g w r idx c cur new T):∀ (cs:List AV) (us:List Value),Az g w cs us->Az g (w.setRow (g.row r) new) (Hk r idx c cs) us
 |[],[],_=>by simp[Hk,Az]
 |[],_::_,hu=>by simp[Az]at hu
 |_::_,[],hu=>by simp[Az]at hu
 | x::cs,u::us,hu=>by
  simp only[Hk,Az]at hu ⊢;exact⟨VR.setRow h x u hu.1,Az.setRow h cs us hu.2⟩
end
def R.setRow(hR:R C A N g st a w)(h:Stored g w r idx c cur new T):R C A N g (st.setRow r idx c) a (w.setRow (g.row r) new) where
 size:=hR.size
 defs:=hR.defs
 tm:=λk x hx=>by
  simp only[St.setRow,OJ]at hx;obtain⟨y,hy,rfl⟩:=Option.map_eq_some_iff.1 hx;obtain⟨u,hu,hv⟩:=hR.tm k y hy;exact⟨u,hu,VR.setRow h y u hv⟩
 ob:=λs cs hs=>by
  simp only[St.setRow,OJ]at hs;obtain⟨y,hy,rfl⟩:=Option.map_eq_some_iff.1 hs;have h1:=(hR.ob s y hy).1;exact(hR.ob s y hy).lift rfl h1 (setRow_other w _ _ new (λe=>by have:=h.own;rw[<- e,h1]at this;cases this)) (λus hu=>Az.setRow h _ _ hu)
 fr:=by
  have hl:Lasts [r] [] g w g (w.setRow (g.row r) new):=⟨λb hb ho=>⟨ho,(h.ro b hb ho).2⟩,λb q hb hq ho=>⟨ho,h.other (by simpa using hq) ho⟩,λ_ _=>rfl,λ_ _=>rfl,λb q i _ _ ho=>⟨ho,setRow_other w _ b new (λe=>by subst e;have:=h.own;rw[ho]at this;cases this)⟩,λ_ _ _=>rfl⟩;exact hR.fr.step hl rfl ⟨rfl,by first|exact Nat.le_refl _|exact Nat.le_succ _⟩ rfl (by simp) (λb _ ho=>⟨ho,setRow_other w _ b new (λe=>by subst e;have:=h.own;rw[ho]at this;cases this)⟩) (λ_ _ he=>by cases he)
end
def Cu.unshift{ro:Nat->Prop}{w:World}{cs:List AV}{b o:Nat}(h:Cu ro w cs ⟨b,o,none⟩ 0):Cu ro w cs ⟨b,0,none⟩ o:=by
 obtain⟨us,k1,k2⟩:=Cu.list cs _ 0 h;refine Cu.Dt cs us _ _ k1 λj v hv=>?_
 have:=k2 j v hv;rw[add_lit]at this ⊢;rw[show 0+(o+j)=o+(0+j) from by omega];exact this
def Hset(k:HK)(i' j':Nat)(bss:List (List (List AV)))(i j:Nat)(c:List AV):List (List (List AV)):=match k with
 |.Xl=>bss.set i ((bss.getD i []).set j c)
 |.dp=>if i'=i then bss.map (·.set j c) else bss
 |.iW=>if i'=i then bss.map (·.set j c) else bss
 |.pR=>if i'=i/\j'=j then [[c]] else bss
mutual
def AV.BR(r i j:Nat)(c:List AV):AV->AV
 |.undef=>.undef
 |.v x=>.v x
 |.agg cs=>.agg (Hj r i j c cs)
 |.Bl cs=>.Bl (Hj r i j c cs)
 |.sl t m es=>.sl t m es
 |.ptr s off=>.ptr s off
 |.ep t k d off=>.ep t k d off
 |.fn f Bi=>.fn f (Hj r i j c Bi)
 |.mv f Bi=>.mv f (Hj r i j c Bi)
 |.mp o=>.mp o
 |.Gc t x=>.Gc t (x.BR r i j c)
 |.El k q i' j' off m bss=>if q=r then (if m=c.length then .El k q i' j' off m (Hset k i' j' bss i j c) else .undef) else .El k q i' j' off m bss
 |.mem b xs=>.mem b (Hj r i j c xs)
def Hj(r i j:Nat)(c:List AV):List AV->List AV
 |[]=>[]
 | x::xs=>x.BR r i j c::Hj r i j c xs
end
def St.BR(r i j:Nat)(c:List AV)(st:St):St:=⟨st.tmps.map (λp=>(p.1,p.2.BR r i j c)),st.Ah.map (λp=>(p.1,Hj r i j c p.2))⟩
structure Dr(g:Gh)(w:World)(r i j:Nat)(c:List AV)(cur new:Array Value)(T:TypeId):Prop where
 own:g.own (g.Cz r i)=.Cz r i
 heap:w.heap[g.Cz r i]?=some (.cells cur T (0,0))
 size:new.size=cur.size
 same:∀ p,p<j*c.length\/(j+1)*c.length<=p->new[p]?=cur[p]?
 cell:Cu (BX g) (w.setRow (g.Cz r i) new) c ⟨g.Cz r i,j*c.length,none⟩ 0
section
variable {C:Ctx} {A:A0} {N:Nat} {g g':Gh} {st:St} {a:Act} {w w':World} {P:Program}
variable {r i j:Nat} {c:List AV} {cur new:Array Value} {T:TypeId}
def Dr.ne(h:Dr g w r i j c cur new T){b:Nat}(ho:g.own b≠.Cz r i):(w.setRow (g.Cz r i) new).heap[b]?=w.heap[b]? :=
 setRow_other w _ b new (λe=>ho (by rw[e];exact h.own))
def Dr.ro(h:Dr g w r i j c cur new T):∀ b,b<w.heap.size->BX g b->BX g b/\(w.setRow (g.Cz r i) new).heap[b]?=w.heap[b]?:=λb _ ho =>
 ⟨ho,h.ne (by rw[show g.own b=.ro from ho];intro e;cases e)⟩
def Dr.heap'(h:Dr g w r i j c cur new T):(w.setRow (g.Cz r i) new).heap[g.Cz r i]?=some (.cells new T (0,0)):=setRow_heap w _ cur new T _ h.heap
def Dr.elem(h:Dr g w r i j c cur new T){k n:Nat}{e:List AV}(hn:n=c.length)(he:e.length=n)(hk:k≠j)(hp:Cu (BX g) w e ⟨g.Cz r i,k*n,none⟩ 0) :
 Cu (BX g) (w.setRow (g.Cz r i) new) e ⟨g.Cz r i,k*n,none⟩ 0:=by
 refine Cu.move h.ro e _ 0 (λq hq=>?_) hp;rw[add_lit,cell_of_row _ _ _ _ _ _ h.heap',cell_of_row _ _ _ _ _ _ h.heap];refine h.same _ ?_;subst hn;rw[he]at hq;rcases Nat.lt_or_gt_of_ne hk with Au|OE
 ·left;have:(k+1)*c.length<=j*c.length:=Nat.mul_le_mul_right _ Au;rw[Nat.add_mul]at this;omega
 ·right;have:(j+1)*c.length<=k*c.length:=Nat.mul_le_mul_right _ OE;omega
def Dr.Cz(h:Dr g w r i j c cur new T){q m:Nat}{b:List (List AV)}{u:Value}(hm:m=c.length)(hu:Ge g w r q m b u):Ge g (w.setRow (g.Cz r i) new) r q m (if q=i then b.set j c else b) u:=by
 rcases hu with ⟨rfl,hu⟩|⟨cap,cur',T',h1,h2,h3,h4,h5,h6,h7⟩
 ·exact .inl ⟨by split<;>simp,hu⟩
 ·by_cases hq:q=i
  ·subst hq;simp only[if_true];subst hm;have hh:=h.heap;rw[h5]at hh;injection hh with hh
   injection hh with gF zF
   subst gF;refine .inr ⟨cap,new,T,by rw[List.length_set];exact h1,by rw[List.length_set];exact h2,h3,h4,h.heap',by rw[h.size];exact h6,?_⟩;refine CH.Z5 _ _ _ 0 λk e he=>?_
   rw[List.getElem?_set]at he;split at he
   ·rename_i hk;split at he
    ·simp at he;subst he;subst hk;refine⟨rfl,?_⟩;have:=Cu.unshift h.cell;simpa using this
    ·cases he
   ·rename_i hk;obtain⟨e1,e2⟩:=CH.at_ b _ _ 0 h7 k e he;refine⟨e1,?_⟩;have e3:=Cu.shift e ⟨g.Cz r q,0,none⟩ ((0+k)*c.length) 0 (by simpa using e2);rw[add_lit,Nat.zero_add,Nat.zero_add]at e3;have e4:=h.elem rfl e1 (Ne.symm hk) e3;have:=Cu.unshift e4;simpa using this
  ·simp only[hq,if_false];have ho:=h.ne (b:=g.Cz r q) (by rw[h4];intro e;injection e with _ e;exact hq e);exact .inr ⟨cap,cur',T',h1,h2,h3,h4,by rw[ho];exact h5,h6,CH.Cv h.ro b _ m 0 ho h7⟩
def Dr.El(h:Dr g w r i j c cur new T){k:HK}{i' j' off m:Nat}{bss:List (List (List AV))}{u:Value}(hm:m=c.length)(hu:NU g w k r i' j' off m bss u):NU g (w.setRow (g.Cz r i) new) k r i' j' off m (Hset k i' j' bss i j c) u:=by
 obtain⟨h0,hu⟩:=hu;refine⟨h0,?_⟩;cases k with
 | Xl =>
  rcases hu with ⟨h1,rfl⟩|⟨cap,cur',T',h1,h2,h3,h4,h5,h6,h7⟩
  ·exact .inl ⟨h1,by simp[Hset]⟩
  ·have ho:=h.ne (b:=g.row r) (by rw[h4];intro e;cases e);have hl:(Hset .Xl i' j' bss i j c).length=bss.length:=by simp[Hset]
   refine .inr ⟨cap,cur',T',by rw[hl];exact h1,by rw[hl];exact h2,h3,h4,by rw[ho];exact h5,h6,λq b hq=>?_⟩;simp only[Hset]at hq;rw[List.getElem?_set]at hq;split at hq
   ·rename_i hiq;subst hiq;split at hq
    ·rename_i Au;simp at hq;subst hq;obtain⟨v,hv,hi⟩:=h7 i bss[i] (List.getElem?_eq_getElem Au);have:=h.Cz hm hi;simp only[if_true]at this;exact⟨v,hv,by simpa [List.getElem?_eq_getElem Au]using this⟩
    ·cases hq
   ·rename_i hiq;obtain⟨v,hv,hi⟩:=h7 q b hq;have:=h.Cz hm hi;rw[if_neg (Ne.symm hiq)]at this;exact⟨v,hv,this⟩
 | dp =>
  obtain⟨b,rfl,cur',T',v,h1,h4,h5,h6,h7⟩:=hu;have ho:=h.ne (b:=g.row r) (by rw[h4];intro e;cases e);refine⟨if i'=i then b.set j c else b,by simp only[Hset];split<;>simp,cur',T',v,h1,h4,by rw[ho];exact h5,h6,h.Cz hm h7⟩
 | iW =>
  obtain⟨b,rfl,hi⟩:=hu;exact⟨if i'=i then b.set j c else b,by simp only[Hset];split<;>simp,h.Cz hm hi⟩
 | pR =>
  obtain⟨d,rfl,hl,cur',T',h1,h4,h5,h6,h7⟩:=hu
  by_cases hi:i'=i
  ·subst hi;have hh:=h.heap;rw[h5]at hh;injection hh with hh
   injection hh with gF zF
   subst gF
   by_cases hj:j'=j
   ·subst hj;refine⟨c,by simp[Hset],hm.symm,new,T,h1,h4,h.heap',by rw[h.size];exact h6,?_⟩;rw[hm];exact h.cell
   ·refine⟨d,by simp[Hset,hj],hl,new,T,h1,h4,h.heap',by rw[h.size];exact h6,?_⟩;exact h.elem hm hl hj h7
  ·have ho:=h.ne (b:=g.Cz r i') (by rw[h4];intro e;injection e with _ e;exact hi e);exact⟨d,by simp[Hset,hi],hl,cur',T',h1,h4,by rw[ho];exact h5,h6,Cu.Cv h.ro d _ 0 ho h7⟩
def Dr.map(h:Dr g w r i j c cur new T){q:Nat}(hq:q≠r):WZ g w q g (w.setRow (g.Cz r i) new) q :=
 ⟨h.ro,rfl,λ_=>rfl,λ_ ho=>⟨ho,h.ne (by rw[ho];intro e;cases e)⟩,λk _ ho=>⟨ho,h.ne (by rw[ho];intro e;injection e with e _;exact hq e)⟩⟩
def Dr.lasts(h:Dr g w r i j c cur new T):Lasts [r] [] g w g (w.setRow (g.Cz r i) new) :=
 ⟨h.ro,λb q _ _ ho=>⟨ho,h.ne (by rw[ho];intro e;cases e)⟩,λ_ _=>rfl,λ_ _=>rfl,λb q k _ hq ho=>⟨ho,h.ne (by rw[ho];intro e;injection e with e _;exact hq (by simp[e]))⟩,λ_ _ _=>rfl⟩
mutual
def VR.BR(h:Dr g w r i j c cur new T):∀ (x:AV) (u:Value),VR g w x u->VR g (w.setRow (g.Cz r i) new) (x.BR r i j c) u
 |.undef,_,_=>by simp[AV.BR,VR]
 |.v x,u,hu=>by simpa [AV.BR,VR]using hu
 |.agg cs,u,hu=>by
  simp only[AV.BR,VR]at hu ⊢;obtain⟨us,h1,h2⟩:=hu;exact⟨us,h1,Az.BR h cs us.toList h2⟩
 |.Bl cs,u,hu=>by
  simp only[AV.BR,VR]at hu ⊢;obtain⟨us,h1,h2⟩:=hu;exact⟨us,h1,Az.BR h cs us.toList h2⟩
 |.sl (.own q lo) m es,u,hu=>by
  simp only[AV.BR,VR,CM]at hu ⊢;refine⟨hu.1,?_⟩;rcases hu.2 with hu|hu|⟨cap,cur',T',h1,h2,h3,h5,h6,h7,h8⟩
  ·exact .inl hu
  ·exact .inr (.inl hu)
  ·have ho:=h.ne (b:=g.row q) (by rw[h5];intro e;cases e);exact .inr (.inr ⟨cap,cur',T',h1,h2,h3,h5,by rw[ho];exact h6,h7,CH.Cv h.ro es _ m 0 ho h8⟩)
 |.sl .no m es,u,hu=>by
  simp only[AV.BR,VR]at hu ⊢;exact PR.mono h.ro _ u hu
 |.sl .full m es,u,hu=>by
  simp only[AV.BR,VR]at hu ⊢;exact PR.mono h.ro _ u hu
 |.ptr s off,u,hu=>by simpa [AV.BR,VR]using hu
 |.mp s,u,hu=>by simpa [AV.BR,VR]using hu
 |.ep (.own q l) k d off,u,hu=>by
  simp only[AV.BR,VR,Fz]at hu ⊢;obtain⟨cur',T',h1,h2,h3,h4,h5⟩:=hu;have ho:=h.ne (b:=g.row q) (by rw[h2];intro e;cases e);exact⟨cur',T',h1,h2,by rw[ho];exact h3,h4,Cu.Cv h.ro d _ 0 ho h5⟩
 |.ep .no k d off,u,hu=>by
  simp only[AV.BR,VR,Fz]at hu ⊢;obtain⟨ad,h1,h0,h2,h3⟩:=hu;exact⟨ad,h1,h0,h2,Cu.mono h.ro _ ad 0 h2 h3⟩
 |.ep .full k d off,u,hu=>by
  simp only[AV.BR,VR,Fz]at hu ⊢;obtain⟨ad,h1,h0,h2,h3⟩:=hu;exact⟨ad,h1,h0,h2,Cu.mono h.ro _ ad 0 h2 h3⟩
 |.fn f Bi,u,hu=>by
  simp only[AV.BR,VR]at hu ⊢;obtain⟨us,h1,h2⟩:=hu;exact⟨us,h1,Az.BR h Bi us.toList h2⟩
 |.mv f Bi,u,hu=>by
  simp only[AV.BR,VR]at hu ⊢;obtain⟨us,h1,h2⟩:=hu;exact⟨us,h1,Az.BR h Bi us.toList h2⟩
 |.Gc t x,u,hu=>by
  simp only[AV.BR,VR]at hu ⊢;obtain⟨y,h1,h2⟩:=hu;exact⟨y,h1,VR.BR h x y h2⟩
 |.El k q i' j' off m bss,u,hu=>by
  simp only[AV.BR];split
  ·rename_i hq;subst hq;split
   ·rename_i hm;simp only[VR]at hu ⊢;exact h.El hm hu
   ·simp[VR]
  ·rename_i hq;simp only[VR]at hu ⊢;exact hu.map (h.map hq)
 |.mem b xs,u,hu=>by
  simp only[AV.BR,VR]at hu ⊢;obtain⟨ad,vs,h1,h2,h3,h4⟩:=hu;obtain⟨k1,k2⟩:=h2.move h.ro h1;exact⟨ad,vs,k1,k2,Az.BR h xs vs h3,h4⟩
def Az.BR(h:Dr g w r i j c cur new T):∀ (cs:List AV) (us:List Value),Az g w cs us->Az g (w.setRow (g.Cz r i) new) (Hj r i j c cs) us
 |[],[],_=>by simp[Hj,Az]
 |[],_::_,hu=>by simp[Az]at hu
 |_::_,[],hu=>by simp[Az]at hu
 | x::cs,u::us,hu=>by
  simp only[Hj,Az]at hu ⊢;exact⟨VR.BR h x u hu.1,Az.BR h cs us hu.2⟩
end
def R.BR(hR:R C A N g st a w)(h:Dr g w r i j c cur new T):R C A N g (st.BR r i j c) a (w.setRow (g.Cz r i) new) where
 size:=hR.size
 defs:=hR.defs
 tm:=λk x hx=>by
  simp only[St.BR,OJ]at hx;obtain⟨y,hy,rfl⟩:=Option.map_eq_some_iff.1 hx;obtain⟨u,hu,hv⟩:=hR.tm k y hy;exact⟨u,hu,VR.BR h y u hv⟩
 ob:=λs cs hs=>by
  simp only[St.BR,OJ]at hs;obtain⟨y,hy,rfl⟩:=Option.map_eq_some_iff.1 hs;have h1:=(hR.ob s y hy).1;exact(hR.ob s y hy).lift rfl h1 (h.ne (by rw[h1];intro e;cases e)) (λus hu=>Az.BR h _ _ hu)
 fr:=hR.fr.step h.lasts rfl ⟨rfl,by first|exact Nat.le_refl _|exact Nat.le_succ _⟩ rfl (by simp) (λb _ ho=>⟨ho,h.ne (by rw[ho];intro e;cases e)⟩) (λ_ _ he=>by cases he)
end
section
variable {C:Ctx} {A:A0} {N:Nat} {g g':Gh} {st:St} {a:Act} {w w':World} {P:Program}
variable {r idx:Nat} {c:List AV} {cur new:Array Value} {T:TypeId}
def Rb:List AV->Bool
 |[]=>true
 |.v _::cs=>Rb cs
 |_=>false
def Rk(n:Nat)(st:St)(p x:AV):Option St :=
 match p with
 |.ptr s off=>match lk s st.Ah with
  |some cs=>if Cx x.cells=true/\x.cells.length=n/\off+n<=cs.length then some ⟨st.tmps,GY s (cut cs off x.cells) st.Ah⟩ else none
  |none=>none
 |.ep (.own r _) i cells off=>match MY x.cells with
  |some ps=>if Cx x.cells=true/\ps.length=n/\x.cells.length=n/\off+n<=cells.length/\r∉rowsOf x.cells then some ((st.freeze (rowsOf x.cells)).setRow r i (cut cells off ps)) else none
  |none=>none
 |.El .pR r i j off _ [[c]]=>if Rb x.cells=true/\Cx x.cells=true/\x.cells.length=n/\off+n<=c.length then some (st.BR r i j (cut c off x.cells)) else none
 |_=>none
def Vp{ro:Nat->Prop}:∀ {cs:List AV} {us:List Value},Rb cs=true->Cx cs=true->Az g w cs us->B3 ro w cs us
 |[],[],_,_,_=>by simp[B3]
 |[],_::_,_,_,h=>by simp[Az]at h
 |_::_,[],_,_,h=>by simp[Az]at h
 | x::cs,u::us,hp,ho,h=>by
  simp only[Cx,Bool.and_eq_true]at ho;simp only[Az]at h;cases x with
  | v y =>
   simp only[Rb]at hp;simp only[B3,PR];have h1:=h.1;simp only[VR]at h1;exact⟨⟨h1,ho.1⟩,Vp hp ho.2 h.2⟩
  |_=>simp[Rb]at hp
def aN(hR:R C A N g st a w){t n:Nat}(h2:BW P t=some n){p x:AV}{up ux:Value}(hp:VR g w p up)(hx:VR g w x ux){st':St}(hs:Rk n st p x=some st') :
 ∃ w' g',(Instr.storeAt t up ux).run P w=.ok () w'/\R C A N g' st' a w':=by
 unfold Rk at hs;split at hs
 ·rename_i s off;split at hs
  ·rename_i cs RR;split at hs
   ·rename_i hc;simp only[Option.some.injEq]at hs;subst hs;simp only[VR]at hp;obtain⟨Ys,rfl⟩:=hp;obtain⟨w',h1,h2⟩:=hR.mq h2 Ys RR hx hc.1 hc.2.1 hc.2.2;exact⟨w',g,h1,h2⟩
   ·cases hs
  ·cases hs
 ·rename_i r l i cells off;split at hs
  ·rename_i ps Vf;split at hs
   ·rename_i hc;obtain⟨Ce,NP,iU,hle,hrn⟩:=hc;simp only[Option.some.injEq]at hs;subst hs;have kR:=VR.cells hx Ce;have SP:=hR.freeze (rowsOf x.cells);have XT:=P9 (S:=rowsOf x.cells) kR Vf (λr hr=>hr) Ce;have V5:=VR.freeze (S:=rowsOf x.cells) _ _ hp;simp only[AV.freeze,hrn,if_false,VR,Fz]at V5;obtain⟨cur,T,rfl,k2,k3,k4,k5⟩:=V5;have V9:ux.cells.size=n:=by rw[<- iU,Az.length kR];simp
    have eO:cells.length*i+cells.length<=cur.size:=by rw[Nat.mul_comm];simpa [Nat.add_mul]using k4
    have MF:(Gh.freeze (rowsOf x.cells) g).row r=g.row r:=rfl;rw[MF]at k2 k3 k5;have CZ:=LH (P:=P) (w:=w) (o:=i*cells.length+off) h2 V9 k3 (by rw[Nat.mul_comm];omega) (JP Ce kR);generalize Jg:(cur.toList.take (i*cells.length+off)++ux.cells.toList++cur.toList.drop (i*cells.length+off+n)).toArray=new at CZ;have Zt:(cut cells off ps).length=cells.length:=by simp[cut,NP];omega
    have Jw:∀ p,new[p]?=if p<i*cells.length+off then cur[p]? else if p<i*cells.length+off+n then ux.cells[p-(i*cells.length+off)]? else cur[p]?:=by
     intro p;have hmul:i*cells.length+cells.length<=cur.size:=by rw[Nat.mul_comm];exact eO
     rw[<- Jg];simp only[List.getElem?_toArray];rw[List.append_assoc,List.getElem?_append];simp only[List.length_take,Array.length_toList];rw[Nat.min_eq_left (by omega)];split
     ·rename_i Au;rw[List.getElem?_take,if_pos Au];simp
     ·rename_i G9;rw[List.getElem?_append];simp only[Array.length_toList,V9]
      by_cases Au:p<i*cells.length+off+n
      ·rw[if_pos (by omega),if_pos Au];simp
      ·rw[if_neg (by omega),if_neg Au,List.getElem?_drop];simp only[Array.getElem?_toList];congr 1;omega
    have HH:Stored (Gh.freeze (rowsOf x.cells) g) w r i (cut cells off ps) cur new T:=by
     refine⟨k2,k3,?_,?_,?_⟩
     ·rw[<- Jg];have hmul:i*cells.length+cells.length<=cur.size:=by rw[Nat.mul_comm];exact eO
      simp only[List.size_toArray,List.length_append,List.length_take,List.length_drop,Array.length_toList,V9];omega
     ·intro q hq;rw[Zt,Nat.add_mul]at hq;rw[Jw];rcases hq with hq|hq
      ·rw[if_pos (by omega)]
      ·rw[if_neg (by omega),if_neg (by omega)]
     ·have V7:∀ b,b<w.heap.size->BX (Gh.freeze (rowsOf x.cells) g) b->BX (Gh.freeze (rowsOf x.cells) g) b/\(w.setRow (g.row r) new).heap[b]?=w.heap[b]?:=λb _ ho =>
       ⟨ho,setRow_other w _ b new (λe=>by rw[e]at ho;rw[ho]at k2;cases k2)⟩
      rw[Zt,MF];obtain⟨us,m1,m2⟩:=Cu.list _ _ _ k5;have Si:us.length=cells.length:=(B3.length m1).symm;refine Cu.Dt _ (us.take off++ux.cells.toList++us.drop (off+n)) _ 0 ?_ ?_
      ·unfold cut;rw[NP];exact B3.append (B3.append (B3.mono V7 (B3.take off m1)) (B3.mono V7 XT)) (B3.mono V7 (B3.drop _ m1))
      ·intro j v hv;rw[add_lit,cell_of_row _ _ _ _ _ _ (setRow_heap w _ cur new T _ k3),Jw];rw[List.append_assoc,List.getElem?_append]at hv;simp only[List.length_take,Si]at hv;rw[Nat.min_eq_left (by omega)]at hv;have Hu:∀ j v,us[j]?=some v->cur[i*cells.length+j]?=some v:=λj v hv=>by
        have:=m2 j v hv;rw[add_lit,cell_of_row _ _ _ _ _ _ k3]at this;simpa using this
       split at hv
       ·rename_i Au;rw[List.getElem?_take,if_pos Au]at hv;rw[if_pos (by omega)];have:=Hu j v hv;simpa using this
       ·rename_i G9;rw[List.getElem?_append]at hv;simp only[Array.length_toList,V9]at hv;split at hv
        ·rename_i Au;rw[if_neg (by omega),if_pos (by omega)];rw[show i*cells.length+(0+j)-(i*cells.length+off)=j-off from by omega];simpa using hv
        ·rename_i pA;rw[List.getElem?_drop]at hv;rw[if_neg (by omega),if_neg (by omega)];have:=Hu _ v hv;rw[show i*cells.length+(0+j)=i*cells.length+(off+n+(j-off-n)) from by omega];exact this
    exact⟨_,_,by simpa [Instr.storeAt,Instr.sureAddr,Gh.freeze]using CZ,SP.setRow HH⟩
   ·cases hs
  ·cases hs
 ·rename_i r i j off m cells;split at hs
  ·rename_i hc;obtain⟨NP,Ce,iU,hle⟩:=hc;simp only[Option.some.injEq]at hs;subst hs;have kR:=VR.cells hx Ce;have XT:=Vp (ro:=BX g) NP Ce kR;simp only[VR]at hp;obtain⟨hm,d,hd,xM,cur,T,rfl,k2,k3,k4,k5⟩:=hp;simp only[List.cons.injEq,and_true]at hd;subst hd;subst xM;have V9:ux.cells.size=n:=by rw[<- iU,Az.length kR];simp
   have eO:cells.length*j+cells.length<=cur.size:=by rw[Nat.mul_comm];simpa [Nat.add_mul]using k4
   have CZ:=LH (P:=P) (w:=w) (o:=j*cells.length+off) h2 V9 k3 (by rw[Nat.mul_comm];omega) (JP Ce kR);generalize Jg:(cur.toList.take (j*cells.length+off)++ux.cells.toList++cur.toList.drop (j*cells.length+off+n)).toArray=new at CZ;have Zt:(cut cells off x.cells).length=cells.length:=by simp[cut,iU];omega
   have hmul:j*cells.length+cells.length<=cur.size:=by rw[Nat.mul_comm];exact eO
   have Jw:∀ p,new[p]?=if p<j*cells.length+off then cur[p]? else if p<j*cells.length+off+n then ux.cells[p-(j*cells.length+off)]? else cur[p]?:=by
    intro p;rw[<- Jg];simp only[List.getElem?_toArray];rw[List.append_assoc,List.getElem?_append];simp only[List.length_take,Array.length_toList];rw[Nat.min_eq_left (by omega)];split
    ·rename_i Au;rw[List.getElem?_take,if_pos Au];simp
    ·rename_i G9;rw[List.getElem?_append];simp only[Array.length_toList,V9]
     by_cases Au:p<j*cells.length+off+n
     ·rw[if_pos (by omega),if_pos Au];simp
     ·rw[if_neg (by omega),if_neg Au,List.getElem?_drop];simp only[Array.getElem?_toList];congr 1;omega
   have HH:Dr g w r i j (cut cells off x.cells) cur new T:=by
    refine⟨k2,k3,?_,?_,?_⟩
    ·rw[<- Jg];simp only[List.size_toArray,List.length_append,List.length_take,List.length_drop,Array.length_toList,V9];omega
    ·intro q hq;rw[Zt,Nat.add_mul]at hq;rw[Jw];rcases hq with hq|hq
     ·rw[if_pos (by omega)]
     ·rw[if_neg (by omega),if_neg (by omega)]
    ·have V7:∀ b,b<w.heap.size->BX g b->BX g b/\(w.setRow (g.Cz r i) new).heap[b]?=w.heap[b]?:=λb _ ho =>
      ⟨ho,setRow_other w _ b new (λe=>by rw[e]at ho;rw[ho]at k2;cases k2)⟩
     rw[Zt];obtain⟨us,m1,m2⟩:=Cu.list _ _ _ k5;have Si:us.length=cells.length:=(B3.length m1).symm;refine Cu.Dt _ (us.take off++ux.cells.toList++us.drop (off+n)) _ 0 ?_ ?_
     ·unfold cut;rw[iU];exact B3.append (B3.append (B3.mono V7 (B3.take off m1)) (B3.mono V7 XT)) (B3.mono V7 (B3.drop _ m1))
     ·intro p v hv;rw[add_lit,cell_of_row _ _ _ _ _ _ (setRow_heap w _ cur new T _ k3),Jw];rw[List.append_assoc,List.getElem?_append]at hv;simp only[List.length_take,Si]at hv;rw[Nat.min_eq_left (by omega)]at hv;have Hu:∀ p v,us[p]?=some v->cur[j*cells.length+p]?=some v:=λp v hv=>by
       have:=m2 p v hv;rw[add_lit,cell_of_row _ _ _ _ _ _ k3]at this;simpa using this
      split at hv
      ·rename_i Au;rw[List.getElem?_take,if_pos Au]at hv;rw[if_pos (by omega)];have:=Hu p v hv;simpa using this
      ·rename_i G9;rw[List.getElem?_append]at hv;simp only[Array.length_toList,V9]at hv;split at hv
       ·rename_i Au;rw[if_neg (by omega),if_pos (by omega)];rw[show j*cells.length+(0+p)-(j*cells.length+off)=p-off from by omega];simpa using hv
       ·rename_i pA;rw[List.getElem?_drop]at hv;rw[if_neg (by omega),if_neg (by omega)];have:=Hu _ v hv;rw[show j*cells.length+(0+p)=j*cells.length+(off+n+(p-off-n)) from by omega];exact this
   exact⟨_,_,by simpa [Instr.storeAt,Instr.sureAddr]using CZ,hR.BR HH⟩
  ·cases hs
 ·cases hs
end
end Go.Abs
namespace Go.Abs
def over(lo idx:Nat)(cs es:List (List AV)):List (List AV):=es.mapIdx λi e=>if idx<=lo+i then (cs[lo+i-idx]?).getD e else e
def Ig(lo idx:Nat)(cs es:List (List AV)):(over lo idx cs es).length=es.length:=by simp[over]
mutual
def AV.AP(r n idx:Nat)(cs:List (List AV)):AV->AV
 |.undef=>.undef
 |.v x=>.v x
 |.agg xs=>.agg (EV r n idx cs xs)
 |.Bl xs=>.Bl (EV r n idx cs xs)
 |.sl (.own q lo) m es=>if q=r then (if m=n then .sl (.own q lo) m (over lo idx cs es) else .undef) else .sl (.own q lo) m es
 |.sl .no n es=>.sl .no n es
 |.sl .full n es=>.sl .full n es
 |.ptr s off=>.ptr s off
 |.ep (.own q l) i d off=>if q=r then .undef else .ep (.own q l) i d off
 |.ep .no i cells off=>.ep .no i cells off
 |.ep .full i cells off=>.ep .full i cells off
 |.fn f Bi=>.fn f (EV r n idx cs Bi)
 |.mv f Bi=>.mv f (EV r n idx cs Bi)
 |.mp o=>.mp o
 |.Gc t x=>.Gc t (x.AP r n idx cs)
 |.El k q i j off m bss=>if q=r then .undef else .El k q i j off m bss
 |.mem b xs=>.mem b (EV r n idx cs xs)
def EV(r n idx:Nat)(cs:List (List AV)):List AV->List AV
 |[]=>[]
 | x::xs=>x.AP r n idx cs::EV r n idx cs xs
end
def Qg(r n idx:Nat)(cs:List (List AV)):List (Nat × AV)->List (Nat × AV)
 |[]=>[]
 |(k,x)::l=>(k,x.AP r n idx cs)::Qg r n idx cs l
def Qf(r n idx:Nat)(cs:List (List AV)):List (Nat × List AV)->List (Nat × List AV)
 |[]=>[]
 |(k,x)::l=>(k,EV r n idx cs x)::Qf r n idx cs l
def St.AP(r n idx:Nat)(cs:List (List AV))(st:St):St:=⟨Qg r n idx cs st.tmps,Qf r n idx cs st.Ah⟩
def OM(r n idx:Nat)(cs:List (List AV))(k:Nat):∀ l:List (Nat × AV),lk k (Qg r n idx cs l)=(lk k l).map (·.AP r n idx cs)
 |[]=>rfl
 |(j,x)::l=>by
  simp only[Qg,lk];split
  ·rfl
  ·exact OM r n idx cs k l
def OL(r n idx:Nat)(cs:List (List AV))(k:Nat):∀ l:List (Nat × List AV),lk k (Qf r n idx cs l)=(lk k l).map (EV r n idx cs)
 |[]=>rfl
 |(j,x)::l=>by
  simp only[Qf,lk];split
  ·rfl
  ·exact OL r n idx cs k l
structure aX(g:Gh)(w:World)(r n idx:Nat)(cs:List (List AV))(cur new:Array Value)(T:TypeId):Prop where
 own:g.own (g.row r)=.row r
 heap:w.heap[g.row r]?=some (.cells cur T (0,0))
 size:new.size=cur.size
 same:∀ p,p<idx*n\/(idx+cs.length)*n<=p->new[p]?=cur[p]?
 cell:CH (BX g) (w.setRow (g.row r) new) cs ⟨g.row r,idx*n,none⟩ n 0
section
variable {C:Ctx} {A:A0} {N:Nat} {g g':Gh} {st:St} {a:Act} {w w':World} {P:Program}
variable {r n idx:Nat} {c:List (List AV)} {cur new:Array Value} {T:TypeId}
def aX.ro(h:aX g w r n idx c cur new T):∀ b,b<w.heap.size->BX g b->BX g b/\(w.setRow (g.row r) new).heap[b]?=w.heap[b]?:=λb _ ho =>
 ⟨ho,setRow_other w _ b new (λe=>by subst e;have:=h.own;rw[ho]at this;cases this)⟩
def aX.other(h:aX g w r n idx c cur new T){b q:Nat}(hq:q≠r)(ho:g.own b=.row q):(w.setRow (g.row r) new).heap[b]?=w.heap[b]? :=
 setRow_other w _ b new (λe=>by subst e;have:=h.own;rw[ho]at this;injection this with this;exact hq this)
def aX.heap'(h:aX g w r n idx c cur new T):(w.setRow (g.row r) new).heap[g.row r]?=some (.cells new T (0,0)):=setRow_heap w _ cur new T _ h.heap
def aX.elem(h:aX g w r n idx c cur new T){i:Nat}{e:List AV}(he:e.length=n)(hi:i<idx\/idx+c.length<=i)(hp:Cu (BX g) w e ⟨g.row r,i*n,none⟩ 0) :
 Cu (BX g) (w.setRow (g.row r) new) e ⟨g.row r,i*n,none⟩ 0:=by
 refine Cu.move h.ro e _ 0 (λk hk=>?_) hp;rw[add_lit,cell_of_row _ _ _ _ _ _ h.heap',cell_of_row _ _ _ _ _ _ h.heap];refine h.same _ ?_;rw[he]at hk;rcases hi with Au|OE
 ·left;have:(i+1)*n<=idx*n:=Nat.mul_le_mul_right _ Au;rw[Nat.add_mul]at this;omega
 ·right;have:(idx+c.length)*n<=i*n:=Nat.mul_le_mul_right _ OE;omega
def lR{lo idx:Nat}{cs es:List (List AV)}{k:Nat}{e:List AV}(h:(over lo idx cs es)[k]?=some e) :
 (idx<=lo+k/\lo+k<idx+cs.length/\cs[lo+k-idx]?=some e)\/(es[k]?=some e/\(lo+k<idx\/idx+cs.length<=lo+k)):=by
 simp only[over,List.getElem?_mapIdx]at h;obtain⟨e0,h0,h1⟩:=Option.map_eq_some_iff.1 h;split at h1
 ·rename_i hle;cases hc:cs[lo+k-idx]? with
  |none =>
   rw[hc]at h1;simp only[Option.getD_none]at h1;subst h1;rw[List.getElem?_eq_none_iff]at hc;exact .inr ⟨h0,.inr (by omega)⟩
  |some e1 =>
   rw[hc]at h1;simp only[Option.getD_some]at h1;subst h1;have:lo+k-idx<cs.length:=by
    rcases Nat.lt_or_ge (lo+k-idx) cs.length with h|h
    ·exact h
    ·rw[List.getElem?_eq_none h]at hc;cases hc
   exact .inl ⟨hle,by omega,rfl⟩
 ·rename_i hle;subst h1;exact .inr ⟨h0,.inl (by omega)⟩
mutual
def VR.AP(h:aX g w r n idx c cur new T):∀ (x:AV) (u:Value),VR g w x u->VR g (w.setRow (g.row r) new) (x.AP r n idx c) u
 |.undef,_,_=>by simp[AV.AP,VR]
 |.v x,u,hu=>by simpa [AV.AP,VR]using hu
 |.agg cs,u,hu=>by
  simp only[AV.AP,VR]at hu ⊢;obtain⟨us,h1,h2⟩:=hu;exact⟨us,h1,Az.AP h cs us.toList h2⟩
 |.Bl cs,u,hu=>by
  simp only[AV.AP,VR]at hu ⊢;obtain⟨us,h1,h2⟩:=hu;exact⟨us,h1,Az.AP h cs us.toList h2⟩
 |.sl (.own q lo) m es,u,hu=>by
  simp only[AV.AP]
  by_cases hq:q=r
  ·subst hq;simp only[if_true];split
   ·rename_i hm;subst hm;simp only[VR,CM]at hu ⊢;refine⟨hu.1,?_⟩;rcases hu.2 with ⟨rfl,rfl⟩|⟨h0,rfl,V8⟩|⟨cap,cur',T',h1,h2,h3,h5,h6,h7,h8⟩
    ·exact .inl ⟨rfl,by simp[over]⟩
    ·exact .inr (.inl ⟨h0,by simp[over],V8⟩)
    ·have hh:=h.heap;rw[h6]at hh;injection hh with hh
     injection hh with gF zF
     subst gF;have hlen:=Ig lo idx c es;refine .inr (.inr ⟨cap,new,T,by rw[hlen];exact h1,by rw[hlen];exact h2,h3,h5,h.heap',by rw[h.size];exact h7,?_⟩);refine CH.Z5 _ _ _ 0 λk e he=>?_
     rcases lR he with ⟨hle,Au,he⟩|⟨he,Ca⟩
     ·obtain⟨e1,e2⟩:=CH.at_ c _ _ 0 h.cell _ e he;refine⟨e1,?_⟩;obtain⟨us,k1,k2⟩:=Cu.list _ _ _ e2;refine Cu.Dt _ us _ _ k1 λj v hv=>?_
      have:=k2 j v hv;rw[add_lit]at this ⊢;rw[show lo*m+((0+k)*m+j)=idx*m+((0+(lo+k-idx))*m+j) from by
       have e1:lo*m+(0+k)*m=(lo+(0+k))*m:=(Nat.add_mul _ _ _).symm;have e2:idx*m+(0+(lo+k-idx))*m=(idx+(0+(lo+k-idx)))*m:=(Nat.add_mul _ _ _).symm;have e3:lo+(0+k)=idx+(0+(lo+k-idx)):=by omega
       rw[e3]at e1;omega]
      exact this
     ·obtain⟨e1,e2⟩:=CH.at_ es _ _ 0 h8 k e he;refine⟨e1,?_⟩;have e3:=Cu.shift e ⟨g.row q,lo*m,none⟩ ((0+k)*m) 0 (by simpa using e2);rw[add_lit,<- Nat.add_mul,show lo+(0+k)=lo+k from by omega]at e3;have e4:=h.elem (i:=lo+k) e1 Ca e3;obtain⟨us,k1,k2⟩:=Cu.list _ _ _ e4;refine Cu.Dt _ us _ _ k1 λj v hv=>?_
      have:=k2 j v hv;rw[add_lit]at this ⊢;rw[show lo*m+((0+k)*m+j)=(lo+k)*m+(0+j) from by
       rw[<- Nat.add_assoc,<- Nat.add_mul];simp]
      exact this
   ·simp[VR]
  ·simp only[hq,if_false];simp only[VR,CM]at hu ⊢;refine⟨hu.1,?_⟩;rcases hu.2 with hu|hu|⟨cap,cur',T',h1,h2,h3,h5,h6,h7,h8⟩
   ·exact .inl hu
   ·exact .inr (.inl hu)
   ·have ho:=h.other hq h5;exact .inr (.inr ⟨cap,cur',T',h1,h2,h3,h5,by rw[ho];exact h6,h7,CH.Cv h.ro es _ m 0 ho h8⟩)
 |.sl .no n es,u,hu=>by
  simp only[AV.AP,VR]at hu ⊢;exact PR.mono h.ro _ u hu
 |.sl .full n es,u,hu=>by
  simp only[AV.AP,VR]at hu ⊢;exact PR.mono h.ro _ u hu
 |.ptr s off,u,hu=>by simpa [AV.AP,VR]using hu
 |.mp s,u,hu=>by simpa [AV.AP,VR]using hu
 |.ep (.own q l) i d off,u,hu=>by
  simp only[AV.AP]
  by_cases hq:q=r
  ·simp[hq,VR]
  ·simp only[hq,if_false];simp only[VR,Fz]at hu ⊢;obtain⟨cur',T',h1,h2,h3,h4,h5⟩:=hu;have ho:=h.other hq h2;exact⟨cur',T',h1,h2,by rw[ho];exact h3,h4,Cu.Cv h.ro d _ 0 ho h5⟩
 |.ep .no i cells off,u,hu=>by
  simp only[AV.AP,VR,Fz]at hu ⊢;obtain⟨ad,h1,h0,h2,h3⟩:=hu;exact⟨ad,h1,h0,h2,Cu.mono h.ro _ ad 0 h2 h3⟩
 |.ep .full i cells off,u,hu=>by
  simp only[AV.AP,VR,Fz]at hu ⊢;obtain⟨ad,h1,h0,h2,h3⟩:=hu;exact⟨ad,h1,h0,h2,Cu.mono h.ro _ ad 0 h2 h3⟩
 |.fn f Bi,u,hu=>by
  simp only[AV.AP,VR]at hu ⊢;obtain⟨us,h1,h2⟩:=hu;exact⟨us,h1,Az.AP h Bi us.toList h2⟩
 |.mv f Bi,u,hu=>by
  simp only[AV.AP,VR]at hu ⊢;obtain⟨us,h1,h2⟩:=hu;exact⟨us,h1,Az.AP h Bi us.toList h2⟩
 |.Gc t x,u,hu=>by
  simp only[AV.AP,VR]at hu ⊢;obtain⟨y,h1,h2⟩:=hu;exact⟨y,h1,VR.AP h x y h2⟩
 |.El k q i j off m bss,u,hu=>by
  simp only[AV.AP]
  by_cases hq:q=r
  ·simp[hq,VR]
  ·simp only[hq,if_false];simp only[VR]at hu ⊢;exact hu.map ⟨h.ro,rfl,λ_=>rfl,λ_ ho=>⟨ho,h.other hq ho⟩,λi _ ho=>⟨ho,setRow_other w _ _ new (λe=>by have:=h.own;rw[<- e,ho]at this;cases this)⟩⟩
 |.mem b xs,u,hu=>by
  simp only[AV.AP,VR]at hu ⊢;obtain⟨ad,vs,h1,h2,h3,h4⟩:=hu;obtain⟨k1,k2⟩:=h2.move h.ro h1;exact⟨ad,vs,k1,k2,Az.AP h xs vs h3,h4⟩
def Az.AP(h:aX g w r n idx c cur new T):∀ (cs:List AV) (us:List Value),Az g w cs us->Az g (w.setRow (g.row r) new) (EV r n idx c cs) us
 |[],[],_=>by simp[EV,Az]
 |[],_::_,hu=>by simp[Az]at hu
 |_::_,[],hu=>by simp[Az]at hu
 | x::cs,u::us,hu=>by
  simp only[EV,Az]at hu ⊢;exact⟨VR.AP h x u hu.1,Az.AP h cs us hu.2⟩
end
def R.AP(hR:R C A N g st a w)(h:aX g w r n idx c cur new T):R C A N g (st.AP r n idx c) a (w.setRow (g.row r) new) where
 size:=hR.size
 defs:=hR.defs
 tm:=λk x hx=>by
  simp only[St.AP,OM]at hx;obtain⟨y,hy,rfl⟩:=Option.map_eq_some_iff.1 hx;obtain⟨u,hu,hv⟩:=hR.tm k y hy;exact⟨u,hu,VR.AP h y u hv⟩
 ob:=λs cs hs=>by
  simp only[St.AP,OL]at hs;obtain⟨y,hy,rfl⟩:=Option.map_eq_some_iff.1 hs;have h1:=(hR.ob s y hy).1;exact(hR.ob s y hy).lift rfl h1 (setRow_other w _ _ new (λe=>by have:=h.own;rw[<- e,h1]at this;cases this)) (λus hu=>Az.AP h _ _ hu)
 fr:=by
  have hl:Lasts [r] [] g w g (w.setRow (g.row r) new):=⟨λb hb ho=>⟨ho,(h.ro b hb ho).2⟩,λb q hb hq ho=>⟨ho,h.other (by simpa using hq) ho⟩,λ_ _=>rfl,λ_ _=>rfl,λb q i _ _ ho=>⟨ho,setRow_other w _ b new (λe=>by subst e;have:=h.own;rw[ho]at this;cases this)⟩,λ_ _ _=>rfl⟩;exact hR.fr.step hl rfl ⟨rfl,by first|exact Nat.le_refl _|exact Nat.le_succ _⟩ rfl (by simp) (λb _ ho=>⟨ho,setRow_other w _ b new (λe=>by subst e;have:=h.own;rw[ho]at this;cases this)⟩) (λ_ _ he=>by cases he)
def aX.Z6(ho:g.own (g.row r)=.row r)(hh:w.heap[g.row r]?=some (.cells cur T (0,0))){us:List Value}(hl:∀ e∈c,e.length=n)(hu:us.length=c.length*n)(Kb:idx*n+us.length<=cur.size)
 (hp:B3 (BX g) w c.flatten us):aX g w r n idx c cur (cur.toList.take (idx*n)++us++cur.toList.drop (idx*n+us.length)).toArray T:=by
 generalize Jg:(cur.toList.take (idx*n)++us++cur.toList.drop (idx*n+us.length)).toArray=new;have NN:cur.toList.length=cur.size:=by simp
 have Ec:new.size=cur.size:=by
  rw[<- Jg];simp only[List.size_toArray,List.length_append,List.length_take,List.length_drop,Array.length_toList];omega
 have Jw:∀ j v,us[j]?=some v->new[idx*n+j]?=some v:=λj v hj=>by
  have V3:j<us.length:=by
   rcases Nat.lt_or_ge j us.length with h|h
   ·exact h
   ·rw[List.getElem?_eq_none h]at hj;cases hj
  rw[<- Jg];rw[List.getElem?_toArray,List.append_assoc,List.getElem?_append_right (by simp;omega),List.length_take,Array.length_toList,Nat.min_eq_left (by omega),List.getElem?_append_left (by omega)];rw[show idx*n+j-idx*n=j from by omega];exact hj
 refine⟨ho,hh,Ec,λp V5=>?_,?_⟩
 ·rw[<- Jg,List.getElem?_toArray,<- Array.getElem?_toList];rcases V5 with h|h
  ·rw[List.append_assoc,List.getElem?_append_left (by simp only[List.length_take,Array.length_toList];omega),List.getElem?_take,if_pos h]
  ·rw[Nat.add_mul,<- hu]at h;rw[List.append_assoc,List.getElem?_append_right (by simp only[List.length_take,Array.length_toList];omega),List.length_take,Array.length_toList,Nat.min_eq_left (by omega),List.getElem?_append_right (by omega),List.getElem?_drop];congr 1;simp only[List.size_toArray];omega
 ·refine CH.Dt c us _ _ 0 hl (B3.mono (w:=w) (λb hb Yt=>⟨Yt,setRow_other w _ b new (λe=>by subst e;rw[PT,ho]at Yt;cases Yt)⟩) hp) λj v hj=>?_
  simp only[Nat.zero_mul,Nat.zero_add,add_lit];rw[cell_of_row _ _ _ _ _ _ (setRow_heap w _ cur new T _ hh)];exact Jw j v hj
end
end Go.Abs
