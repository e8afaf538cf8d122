/- part 0 of the proof -/
import Derived.WalkKit
import Derived.Laws.CopyOwn
import Derived.WalkLawsBesides
set_option linter.all false
namespace Go.Abs
inductive Tag where
 | no
 | full
 | own(r lo:Nat)
inductive HK where
 | dsl
 | dp
 | isl
 | iep
inductive AV where
 | undef
 | v(x:Value)
 | agg(cs:List AV)
 | tup(cs:List AV)
 | sl(t:Tag)(n:Nat)(es:List (List AV))
 | ptr(s off:Nat)
 | ep(t:Tag)(i:Nat)(cells:List AV)(off:Nat)
 | fn(f:Nat)(AU:List AV)
 | mv(f:Nat)(first:List AV)
 | ifc(t:TypeId)(x:AV)
 | hnd(k:HK)(r i j off m:Nat)(bss:List (List (List AV)))
 | mem(b:Bool)(xs:List AV)
  | mp(s:Nat)
inductive Own where
 | other
 | ro
 | box(s:Nat)
 | row(r:Nat)
 | inn(r i:Nat)
def isMap(s:Nat):Bool:=s%64==62
structure Gh where
 own:Nat→Own
 box:Nat→Nat
 row:Nat→Nat
 inn:Nat→Nat→Nat
mutual
def PR(ro:Nat→Prop)(w:World):AV→Value→Prop
 |.undef,u=>u.oneCell'=true
 |.v x,u=>u=x∧x.oneCell'=true
 |.sl t n es,u=>(∀ r lo,t≠.own r lo)∧∃ a cap,u=.slice a es.length cap∧es.length≤cap∧cap≤maxLen∧(t=.full→cap=es.length)∧0<n ∧
  (es=[]∨∃ ad,a=some ad∧ro ad.block∧PRe ro w es ad n 0)
 |.fn f AU,u=>AU=[]∧u=.func (.func f) #[] #[]
 |_,_=>False
def PRe(ro:Nat→Prop)(w:World):List (List AV)→Addr→Nat→Nat→Prop
 |[],_,_,_=>True
 | e::es,ad,n,i=>e.length=n∧PRc ro w e ad (i*n)∧PRe ro w es ad n (i+1)
def PRc(ro:Nat→Prop)(w:World):List AV→Addr→Nat→Prop
 |[],_,_=>True
 | c::cs,ad,j=>(∃ u,w.cell? (ad.add j)=some u∧PR ro w c u)∧PRc ro w cs ad (j+1)
end
def BM(g:Gh)(b:Nat):Prop:=g.own b=.ro
def Cq(g:Gh)(w:World)(r lo n:Nat)(es:List (List AV))(u:Value):Prop :=
 0<n∧((u=.slice none 0 0∧es=[])∨(0<lo∧es=[]∧∃ a cap,u=.slice a 0 cap∧cap≤maxLen) ∨
 ∃ cap cur T,u=.slice (some ⟨g.row r,lo*n,none⟩) es.length cap∧es.length≤cap∧lo+cap≤maxLen∧g.own (g.row r)=.row r ∧
  w.heap[g.row r]?=some (.cells cur T (0,0))∧(lo+cap)*n≤cur.size∧PRe (BM g) w es ⟨g.row r,lo*n,none⟩ n 0)
def Fg(g:Gh)(w:World)(t:Tag)(i:Nat)(cells:List AV)(off:Nat)(u:Value):Prop :=
 match t with
 |.own r _=>∃ cur T,u=.pointer (some ⟨g.row r,i*cells.length+off,none⟩)∧g.own (g.row r)=.row r ∧
  w.heap[g.row r]?=some (.cells cur T (0,0))∧(i+1)*cells.length≤cur.size∧PRc (BM g) w cells ⟨g.row r,i*cells.length,none⟩ 0
 |_=>∃ ad:Addr,u=.pointer (some (ad.add off))∧0<cells.length∧BM g ad.block∧PRc (BM g) w cells ad 0
def Fu(g:Gh)(w:World)(r i m:Nat)(b:List (List AV))(u:Value):Prop :=
 (b=[]∧∃ a cap,u=.slice a 0 cap∧cap≤maxLen) ∨
 ∃ cap cur T,u=.slice (some ⟨g.inn r i,0,none⟩) b.length cap∧b.length≤cap∧cap≤maxLen∧g.own (g.inn r i)=.inn r i∧w.heap[g.inn r i]?=some (.cells cur T (0,0))∧cap*m≤cur.size ∧
  PRe (BM g) w b ⟨g.inn r i,0,none⟩ m 0
def LJ(g:Gh)(w:World)(k:HK)(r i j off m:Nat)(bss:List (List (List AV)))(u:Value):Prop :=
 0<m∧match k with
 |.dsl=>(u=.slice none 0 0∧bss=[])∨∃ cap cur T,u=.slice (some ⟨g.row r,0,none⟩) bss.length cap∧bss.length≤cap∧cap≤maxLen∧g.own (g.row r)=.row r∧w.heap[g.row r]?=some (.cells cur T (0,0))∧cur.size=cap ∧
  ∀ q b,bss[q]?=some b→∃ v,cur[q]?=some v∧Fu g w r q m b v
 |.dp=>∃ b,bss=[b]∧∃ cur T v,u=.pointer (some ⟨g.row r,i,none⟩)∧g.own (g.row r)=.row r∧w.heap[g.row r]?=some (.cells cur T (0,0))∧cur[i]?=some v∧Fu g w r i m b v
 |.isl=>∃ b,bss=[b]∧Fu g w r i m b u
 |.iep=>∃ c,bss=[[c]]∧c.length=m∧∃ cur T,u=.pointer (some ⟨g.inn r i,j*m+off,none⟩)∧g.own (g.inn r i)=.inn r i∧w.heap[g.inn r i]?=some (.cells cur T (0,0))∧(j+1)*m≤cur.size ∧
  PRc (BM g) w c ⟨g.inn r i,j*m,none⟩ 0
def Pp(w:World)(ad:Addr)(vs:List Value):Prop:=vs≠[]∧∀ i,i<vs.length→w.cell? (ad.add i)=vs[i]?
def Vx(b:Bool)(ad:Addr)(n:Nat)(u:Value):Prop:=match b with
 | true=>∃ cap,u=.slice (some ad) n cap∧n≤cap∧cap≤maxLen
 | false=>u=.pointer (some ad)
mutual
def VR(g:Gh)(w:World):AV→Value→Prop
 |.undef,_=>True
 |.v x,u=>u=x
 |.agg cs,u=>∃ us,u=.agg us∧VRs g w cs us.toList
 |.tup cs,u=>∃ us,u=.tuple us∧VRs g w cs us.toList
 |.sl (.own r lo) n es,u=>Cq g w r lo n es u
 |.sl t n es,u=>PR (BM g) w (.sl t n es) u
 |.ptr s off,u=>isMap s=false∧u=.pointer (some ⟨g.box s,off,none⟩)
 |.ep t i cells off,u=>Fg g w t i cells off u
 |.fn f AU,u=>∃ us,u=.func (.func f) #[] us∧VRs g w AU us.toList
 |.mv f AU,u=>∃ us,u=.func (.func f) us #[]∧VRs g w AU us.toList
 |.mp s,u=>isMap s=true∧u=.map (some (g.box s))
 |.ifc t x,u=>∃ y,u=.iface t y∧VR g w x y
 |.hnd k r i j off m bss,u=>LJ g w k r i j off m bss u
 |.mem b xs,u=>∃ ad vs,BM g ad.block∧Pp w ad vs∧VRs g w xs vs∧Vx b ad vs.length u
def VRs(g:Gh)(w:World):List AV→List Value→Prop
 |[],[]=>True
 | c::cs,u::us=>VR g w c u∧VRs g w cs us
 |_,_=>False
end
mutual
def AV.kill(S T:List Nat):AV→AV
 |.undef=>.undef
 |.v x=>.v x
 |.agg cs=>.agg (Ej S T cs)
 |.tup cs=>.tup (Ej S T cs)
 |.sl (.own r lo) n es=>if r∈S then .undef else .sl (.own r lo) n es
 |.sl .no n es=>.sl .no n es
 |.sl .full n es=>.sl .full n es
 |.ptr s off=>if s∈T then .undef else .ptr s off
 |.ep (.own r lo) i cells off=>if r∈S then .undef else .ep (.own r lo) i cells off
 |.ep .no i cells off=>.ep .no i cells off
 |.ep .full i cells off=>.ep .full i cells off
 |.fn f AU=>.fn f (Ej S T AU)
 |.mv f AU=>.mv f (Ej S T AU)
 |.mp s=>if s∈T then .undef else .mp s
 |.ifc t x=>.ifc t (x.kill S T)
 |.hnd k r i j off m bss=>if r∈S then .undef else .hnd k r i j off m bss
 |.mem b xs=>.mem b (Ej S T xs)
def Ej(S T:List Nat):List AV→List AV
 |[]=>[]
 | c::cs=>c.kill S T::Ej S T cs
end
theorem M8(g:Gh)(b:Nat):BM g b=(g.own b=.ro):=rfl
section mono
variable {ro ro':Nat→Prop} {w w':World}
theorem DS{w:World}{b:Nat}{o:Obj}(h:w.heap[b]?=some o):b<w.heap.size:=by
 rcases Nat.lt_or_ge b w.heap.size with hlt|hge
 ·exact hlt
 ·rw[Array.getElem?_eq_none hge]at h;cases h
theorem EA(a:Addr)(n:Nat):(a.add n).block=a.block:=by unfold Addr.add;split<;>rfl
theorem E6{w:World}{a:Addr}{u:Value}(h:w.cell? a=some u):a.block<w.heap.size:=World.block_lt_of_cell? w a h
theorem Pp.move{P Q:Nat→Prop}{w w':World}{ad:Addr}{vs:List Value}(hc:Pp w ad vs)(h:∀ b,b<w.heap.size→P b→Q b∧w'.heap[b]?=w.heap[b]?)(h1:P ad.block):Q ad.block∧Pp w' ad vs:=by
 have h0:w.cell? (ad.add 0)=vs[0]?:=hc.2 0 (List.length_pos_iff.2 hc.1);obtain⟨v,hv⟩:∃ v,vs[0]?=some v:=⟨_,List.getElem?_eq_getElem (List.length_pos_iff.2 hc.1)⟩;rw[hv]at h0;have hlt:ad.block<w.heap.size:=by
  have:=E6 h0;simpa [Addr.add]using this
 obtain⟨q,hh⟩:=h _ hlt h1;refine⟨q,hc.1,fun i hi=>?_⟩;rw[← hc.2 i hi];have hb:(ad.add i).block=ad.block:=by simp only[Addr.add];split<;>rfl
 simp only[World.cell?,hb,hh]
mutual
theorem PR.mono(h:∀ b,b<w.heap.size→ro b→ro' b∧w'.heap[b]?=w.heap[b]?):∀ (x:AV) (u:Value),PR ro w x u→PR ro' w' x u
 |.undef,_,hu=>by simpa [PR]using hu
 |.v x,u,hu=>by simpa [PR]using hu
 |.sl t n es,u,hu=>by
  simp only[PR]at hu ⊢;obtain⟨h0,a,cap,h1,h2,h3,h4,h5,h6⟩:=hu;refine⟨h0,a,cap,h1,h2,h3,h4,h5,?_⟩;rcases h6 with h6|⟨ad,h6,h7,h8⟩
  ·exact .inl h6
  ·match es,h8 with
   |[],_=>exact .inl rfl
   | e::es,h8 =>
    have:=PRe.mono h (e::es) ad n 0 h7 h8;refine .inr ⟨ad,h6,?_,this⟩
    match e,n,h5,h8 with
    |[],n,h5,h8 =>
     simp only[PRe,List.length_nil]at h8;omega
    | c::cs,n,_,h8 =>
     simp only[PRe,PRc]at h8;obtain⟨_,⟨⟨u,hu,_⟩,_⟩,_⟩:=h8;have hlt:=E6 hu;rw[EA]at hlt;exact(h _ hlt h7).1
 |.agg _,_,hu=>by simp[PR]at hu
 |.tup _,_,hu=>by simp[PR]at hu
 |.ptr _ _,_,hu=>by simp[PR]at hu
 |.ep _ _ _ _,_,hu=>by simp[PR]at hu
 |.fn _ _,_,hu=>by simpa only[PR]using hu
 |.mv _ _,_,hu=>by simp[PR]at hu
 |.mp _,_,hu=>by simp[PR]at hu
 |.ifc _ _,_,hu=>by simp[PR]at hu
 |.mem _ _,_,hu=>by simp[PR]at hu
theorem PRe.mono(h:∀ b,b<w.heap.size→ro b→ro' b∧w'.heap[b]?=w.heap[b]?):∀ (es:List (List AV)) (ad:Addr) (n i:Nat),ro ad.block→PRe ro w es ad n i→PRe ro' w' es ad n i
 |[],_,_,_,_,_=>by simp[PRe]
 | e::es,ad,n,i,hr,hu=>by
  simp only[PRe]at hu ⊢;exact⟨hu.1,PRc.mono h e ad _ hr hu.2.1,PRe.mono h es ad n _ hr hu.2.2⟩
theorem PRc.mono(h:∀ b,b<w.heap.size→ro b→ro' b∧w'.heap[b]?=w.heap[b]?):∀ (cs:List AV) (ad:Addr) (j:Nat),ro ad.block→PRc ro w cs ad j→PRc ro' w' cs ad j
 |[],_,_,_,_=>by simp[PRc]
 | c::cs,ad,j,hr,hu=>by
  simp only[PRc]at hu ⊢;obtain⟨⟨u,h1,h2⟩,h3⟩:=hu;refine⟨⟨u,?_,PR.mono h c u h2⟩,PRc.mono h cs ad _ hr h3⟩;have hlt:=E6 h1;rw[World.cell?_of_block (w:=w) (by rw[EA]at hlt ⊢;exact(h _ hlt hr).2)];exact h1
end
theorem PRc.Ca(h:∀ b,b<w.heap.size→ro b→ro' b∧w'.heap[b]?=w.heap[b]?):∀ (cs:List AV) (ad:Addr) (j:Nat),w'.heap[ad.block]?=w.heap[ad.block]?→PRc ro w cs ad j→PRc ro' w' cs ad j
 |[],_,_,_,_=>by simp[PRc]
 | c::cs,ad,j,hr,hu=>by
  simp only[PRc]at hu ⊢;obtain⟨⟨u,h1,h2⟩,h3⟩:=hu;refine⟨⟨u,?_,PR.mono h c u h2⟩,PRc.Ca h cs ad _ hr h3⟩;rw[World.cell?_of_block (w:=w) (by rw[EA];exact hr)];exact h1
theorem PRe.Ca(h:∀ b,b<w.heap.size→ro b→ro' b∧w'.heap[b]?=w.heap[b]?):∀ (es:List (List AV)) (ad:Addr) (n i:Nat),w'.heap[ad.block]?=w.heap[ad.block]?→PRe ro w es ad n i→PRe ro' w' es ad n i
 |[],_,_,_,_,_=>by simp[PRe]
 | e::es,ad,n,i,hr,hu=>by
  simp only[PRe]at hu ⊢;exact⟨hu.1,PRc.Ca h e ad _ hr hu.2.1,PRe.Ca h es ad n _ hr hu.2.2⟩
end mono
structure Lasts(S T:List Nat)(g:Gh)(w:World)(g':Gh)(w':World):Prop where
 ro:∀ b,b<w.heap.size→g.own b=.ro→g'.own b=.ro∧w'.heap[b]?=w.heap[b]?
 row:∀ b q,b<w.heap.size→q∉S→g.own b=.row q→g'.own b=.row q∧w'.heap[b]?=w.heap[b]?
 rows:∀ q,q∉S→g'.row q=g.row q
 boxes:∀ s,s∉T→g'.box s=g.box s
 inn:∀ b q i,b<w.heap.size→q∉S→g.own b=.inn q i→g'.own b=.inn q i∧w'.heap[b]?=w.heap[b]?
 inns:∀ q i,q∉S→g'.inn q i=g.inn q i
theorem Lasts.ro'{S T:List Nat}{g g':Gh}{w w':World}(h:Lasts S T g w g' w'):∀ b,b<w.heap.size→BM g b→BM g' b∧w'.heap[b]?=w.heap[b]?:=h.ro
structure SE(g:Gh)(w:World)(r:Nat)(g':Gh)(w':World)(r':Nat):Prop where
 ro:∀ b,b<w.heap.size→BM g b→BM g' b∧w'.heap[b]?=w.heap[b]?
 row:g'.row r'=g.row r
 inn:∀ i,g'.inn r' i=g.inn r i
 own:g.row r<w.heap.size→g.own (g.row r)=.row r→g'.own (g.row r)=.row r'∧w'.heap[g.row r]?=w.heap[g.row r]?
 owns:∀ i,g.inn r i<w.heap.size→g.own (g.inn r i)=.inn r i→g'.own (g.inn r i)=.inn r' i∧w'.heap[g.inn r i]?=w.heap[g.inn r i]?
theorem Fu.map{g g':Gh}{w w':World}{r r':Nat}(h:SE g w r g' w' r'){i m:Nat}{b:List (List AV)}{u:Value}(hu:Fu g w r i m b u):Fu g' w' r' i m b u:=by
 rcases hu with hu|⟨cap,cur,T,h1,h2,h3,h4,h5,h6,h7⟩
 ·exact .inl hu
 ·obtain⟨k1,k2⟩:=h.owns i (DS h5) h4;refine .inr ⟨cap,cur,T,?_,h2,h3,?_,?_,h6,?_⟩
  ·rw[h.inn];exact h1
  ·rw[h.inn];exact k1
  ·rw[h.inn,k2];exact h5
  ·rw[h.inn];exact PRe.Ca h.ro b _ m 0 k2 h7
theorem LJ.map{g g':Gh}{w w':World}{r r':Nat}(h:SE g w r g' w' r'){k:HK}{i j off m:Nat}{bss:List (List (List AV))}{u:Value}(hu:LJ g w k r i j off m bss u):LJ g' w' k r' i j off m bss u:=by
 obtain⟨hm,hu⟩:=hu;refine⟨hm,?_⟩;cases k with
 | dsl =>
  rcases hu with hu|⟨cap,cur,T,h1,h2,h3,h4,h5,h6,h7⟩
  ·exact .inl hu
  ·obtain⟨k1,k2⟩:=h.own (DS h5) h4;refine .inr ⟨cap,cur,T,?_,h2,h3,?_,?_,h6,fun q b hq=>?_⟩
   ·rw[h.row];exact h1
   ·rw[h.row];exact k1
   ·rw[h.row,k2];exact h5
   ·obtain⟨v,hv,hi⟩:=h7 q b hq;exact⟨v,hv,hi.map h⟩
 | dp =>
  obtain⟨b,hb,cur,T,v,h1,h4,h5,h6,h7⟩:=hu;obtain⟨k1,k2⟩:=h.own (DS h5) h4;refine⟨b,hb,cur,T,v,?_,?_,?_,h6,h7.map h⟩
  ·rw[h.row];exact h1
  ·rw[h.row];exact k1
  ·rw[h.row,k2];exact h5
 | isl =>
  obtain⟨b,hb,hi⟩:=hu;exact⟨b,hb,hi.map h⟩
 | iep =>
  obtain⟨c,hc,hl,cur,T,h1,h4,h5,h6,h7⟩:=hu;obtain⟨k1,k2⟩:=h.owns i (DS h5) h4;refine⟨c,hc,hl,cur,T,?_,?_,?_,h6,?_⟩
  ·rw[h.inn];exact h1
  ·rw[h.inn];exact k1
  ·rw[h.inn,k2];exact h5
  ·rw[h.inn];exact PRc.Ca h.ro c _ 0 k2 h7
theorem Lasts.hnd{S T:List Nat}{g g':Gh}{w w':World}(h:Lasts S T g w g' w'){r:Nat}(hr:r∉S):SE g w r g' w' r where
 ro:=h.ro
 row:=h.rows r hr
 inn:=fun i=>h.inns r i hr
 own:=fun hlt ho=>h.row _ r hlt hr ho
 owns:=fun i hlt ho=>h.inn _ r i hlt hr ho
mutual
theorem VR.lasts{S T:List Nat}{g g':Gh}{w w':World}(h:Lasts S T g w g' w'):∀ (x:AV) (u:Value),VR g w x u→VR g' w' (x.kill S T) u
 |.undef,_,_=>by simp[AV.kill,VR]
 |.v x,u,hu=>by simpa [AV.kill,VR]using hu
 |.agg cs,u,hu=>by
  simp only[AV.kill,VR]at hu ⊢;obtain⟨us,h1,h2⟩:=hu;exact⟨us,h1,VRs.lasts h cs us.toList h2⟩
 |.tup cs,u,hu=>by
  simp only[AV.kill,VR]at hu ⊢;obtain⟨us,h1,h2⟩:=hu;exact⟨us,h1,VRs.lasts h cs us.toList h2⟩
 |.sl (.own r lo) n es,u,hu=>by
  simp only[AV.kill];split
  ·simp[VR]
  ·rename_i hr;simp only[VR,Cq]at hu ⊢;refine⟨hu.1,?_⟩;rcases hu.2 with hu|hu|⟨cap,cur,T',h1,h2,h3,h5,h6,h7,h8⟩
   ·exact .inl hu
   ·exact .inr (.inl hu)
   ·have hlt:=DS h6;obtain⟨k1,k2⟩:=h.row _ r hlt hr h5;have hrow:=h.rows r hr;refine .inr (.inr ⟨cap,cur,T',?_,h2,h3,?_,?_,h7,?_⟩)
    ·rw[hrow];exact h1
    ·rw[hrow];exact k1
    ·rw[hrow,k2];exact h6
    ·rw[hrow];exact PRe.Ca h.ro' es _ n 0 k2 h8
 |.sl .no n es,u,hu=>by
  simp only[AV.kill,VR]at hu ⊢;exact PR.mono h.ro' _ u hu
 |.sl .full n es,u,hu=>by
  simp only[AV.kill,VR]at hu ⊢;exact PR.mono h.ro' _ u hu
 |.ptr s off,u,hu=>by
  simp only[AV.kill];split
  ·simp[VR]
  ·rename_i hs;simp only[VR]at hu ⊢;rw[h.boxes s hs];exact hu
 |.mp s,u,hu=>by
  simp only[AV.kill];split
  ·simp[VR]
  ·rename_i hs;simp only[VR]at hu ⊢;rw[h.boxes s hs];exact hu
 |.ep (.own r lo) i cells off,u,hu=>by
  simp only[AV.kill];split
  ·simp[VR]
  ·rename_i hr;simp only[VR,Fg]at hu ⊢;obtain⟨cur,T',h1,h2,h3,h4,h5⟩:=hu;have hlt:=DS h3;obtain⟨k1,k2⟩:=h.row _ r hlt hr h2;have hrow:=h.rows r hr;refine⟨cur,T',?_,?_,?_,h4,?_⟩
   ·rw[hrow];exact h1
   ·rw[hrow];exact k1
   ·rw[hrow,k2];exact h3
   ·rw[hrow];exact PRc.Ca h.ro' cells _ 0 k2 h5
 |.ep .no i cells off,u,hu=>by
  simp only[AV.kill,VR,Fg]at hu ⊢;obtain⟨ad,h1,h0,h2,h3⟩:=hu
  match cells,h0,h3 with
  | c::cs,h0,h3 =>
   have h3':=h3;simp only[PRc]at h3';obtain⟨⟨u',hu',_⟩,_⟩:=h3';have hlt:=E6 hu';rw[EA]at hlt;exact⟨ad,h1,h0,(h.ro _ hlt h2).1,PRc.mono h.ro' _ ad 0 h2 h3⟩
 |.ep .full i cells off,u,hu=>by
  simp only[AV.kill,VR,Fg]at hu ⊢;obtain⟨ad,h1,h0,h2,h3⟩:=hu
  match cells,h0,h3 with
  | c::cs,h0,h3 =>
   have h3':=h3;simp only[PRc]at h3';obtain⟨⟨u',hu',_⟩,_⟩:=h3';have hlt:=E6 hu';rw[EA]at hlt;exact⟨ad,h1,h0,(h.ro _ hlt h2).1,PRc.mono h.ro' _ ad 0 h2 h3⟩
 |.fn f AU,u,hu=>by
  simp only[AV.kill,VR]at hu ⊢;obtain⟨us,h1,h2⟩:=hu;exact⟨us,h1,VRs.lasts h AU us.toList h2⟩
 |.mv f AU,u,hu=>by
  simp only[AV.kill,VR]at hu ⊢;obtain⟨us,h1,h2⟩:=hu;exact⟨us,h1,VRs.lasts h AU us.toList h2⟩
 |.ifc t x,u,hu=>by
  simp only[AV.kill,VR]at hu ⊢;obtain⟨y,h1,h2⟩:=hu;exact⟨y,h1,VR.lasts h x y h2⟩
 |.hnd k r i j off m bss,u,hu=>by
  simp only[AV.kill];split
  ·simp[VR]
  ·rename_i hr;simp only[VR]at hu ⊢;exact hu.map (h.hnd hr)
 |.mem b xs,u,hu=>by
  simp only[AV.kill,VR]at hu ⊢;obtain⟨ad,vs,h1,h2,h3,h4⟩:=hu;obtain⟨k1,k2⟩:=h2.move h.ro' h1;exact⟨ad,vs,k1,k2,VRs.lasts h xs vs h3,h4⟩
theorem VRs.lasts{S T:List Nat}{g g':Gh}{w w':World}(h:Lasts S T g w g' w'):∀ (cs:List AV) (us:List Value),VRs g w cs us→VRs g' w' (Ej S T cs) us
 |[],[],_=>by simp[Ej,VRs]
 |[],_::_,hu=>by simp[VRs]at hu
 |_::_,[],hu=>by simp[VRs]at hu
 | c::cs,u::us,hu=>by
  simp only[Ej,VRs]at hu ⊢;exact⟨VR.lasts h c u hu.1,VRs.lasts h cs us hu.2⟩
end
end Go.Abs
namespace Go.Abs
structure Ctx where
 P:Program
 G:Nat→Option (List AV)
structure St where
 tmps:List (Nat × AV)
 Al:List (Nat × List AV)
def lk{α:Type}(k:Nat):List (Nat × α)→Option α
 |[]=>none
 |(j,x)::l=>if j=k then some x else lk k l
def LN(S T:List Nat):List (Nat × AV)→List (Nat × AV)
 |[]=>[]
 |(k,x)::l=>(k,x.kill S T)::LN S T l
def Hk(S T:List Nat):List (Nat × List AV)→List (Nat × List AV)
 |[]=>[]
 |(k,x)::l=>if k∈T then Hk S T l else (k,Ej S T x)::Hk S T l
def St.kill(S T:List Nat)(st:St):St:=⟨LN S T st.tmps,Hk S T st.Al⟩
def St.put(d:Option Nat)(x:AV)(st:St):St :=
 match d with
 |some k=>⟨(k,x)::st.tmps,st.Al⟩
 |none=>st
def ev(C:Ctx)(st:St):Operand→AV
 |.tmp t=>(lk t st.tmps).getD .undef
 |.const v=>.v v
 |.func f=>.fn f []
 |.global i=>match C.G i with
  |some cs=>.ep .no 0 cs 0
  |none=>.undef
structure A0 where
 w:World
 g:Gh
 ext:List Nat
def A0.fixed(A:A0)(b:Nat):Prop:=A.g.own b=.ro∨A.g.own b=.other
def HN(w w':World):Prop:=w'.tape=w.tape∧w.drawn≤w'.drawn
structure Fr(C:Ctx)(A:A0)(g:Gh)(w:World):Prop where
 os:w.os=A.w.os
 tape:HN A.w w
 output:w.output=A.w.output
 size:A.w.heap.size≤w.heap.size
 keep:∀ b,b<A.w.heap.size→A.fixed b→w.heap[b]?=A.w.heap[b]?∧g.own b=A.g.own b
 box:∀ s,s∈A.ext→g.box s=A.g.box s
 glob:∀ i cs,C.G i=some cs→0<cs.length∧BM g i∧PRc (BM g) w cs ⟨i,0,none⟩ 0
def Fs:List MapEntry→List Value
 |[]=>[]
 | e::es=>e.key::e.val::Fs es
def DE(g:Gh)(w:World)(s:Nat)(cs:List AV):Prop :=
 g.own (g.box s)=.box s∧((isMap s=false∧∃ cur T,w.heap[g.box s]?=some (.cells cur T (0,0))∧VRs g w cs cur.toList) ∨
  (isMap s=true∧∃ es clk,w.heap[g.box s]?=some (.map es clk)∧VRs g w cs (Fs es.toList)))
theorem DE.lift{g g':Gh}{w w':World}{s s':Nat}{cs cs':List AV}(h:DE g w s cs)(hk:isMap s'=isMap s)(ho:g'.own (g'.box s')=.box s')(hh:w'.heap[g'.box s']?=w.heap[g.box s]?)
 (hv:∀ us,VRs g w cs us→VRs g' w' cs' us):DE g' w' s' cs':=by
 obtain⟨_,⟨h1,cur,T,h2,h3⟩|⟨h1,es,clk,h2,h3⟩⟩:=h
 ·exact⟨ho,.inl ⟨hk.trans h1,cur,T,hh.trans h2,hv _ h3⟩⟩
 ·exact⟨ho,.inr ⟨hk.trans h1,es,clk,hh.trans h2,hv _ h3⟩⟩
theorem DE.cells{g:Gh}{w:World}{s:Nat}{cs:List AV}(h:DE g w s cs)(hk:isMap s=false):∃ cur T,w.heap[g.box s]?=some (.cells cur T (0,0))∧VRs g w cs cur.toList:=by
 obtain⟨_,⟨_,h⟩|⟨h1,_⟩⟩:=h
 ·exact h
 ·rw[hk]at h1;cases h1
structure R(C:Ctx)(A:A0)(N:Nat)(g:Gh)(st:St)(a:Act)(w:World):Prop where
 size:a.tmps.size=N
 defs:a.defers=[]
 tm:∀ k x,lk k st.tmps=some x→∃ u,a.tmps[k]?=some u∧VR g w x u
 ob:∀ s cs,lk s st.Al=some cs→DE g w s cs
 fr:Fr C A g w
theorem UF(S T:List Nat)(k:Nat):∀ l:List (Nat × AV),lk k (LN S T l)=(lk k l).map (·.kill S T)
 |[]=>rfl
 |(j,x)::l=>by
  simp only[LN,lk];split
  ·rfl
  ·exact UF S T k l
theorem Qw(S T:List Nat)(k:Nat):∀ l:List (Nat × List AV),lk k (Hk S T l)=if k∈T then none else (lk k l).map (Ej S T)
 |[]=>by simp[Hk,lk]
 |(j,x)::l=>by
  simp only[Hk]
  by_cases hj:j∈T
  ·simp only[hj,if_true];rw[Qw S T k l]
   by_cases hk:k∈T
   ·simp[hk]
   ·have:j≠k:=fun e=>hk (e▸hj)
    simp[hk,lk,this]
  ·simp only[hj,if_false,lk]
   by_cases hjk:j=k
   ·subst hjk;simp[hj]
   ·simp only[hjk,if_false];exact Qw S T k l
section
variable {C:Ctx} {A:A0} {N:Nat} {g g':Gh} {st:St} {a:Act} {w w':World}
theorem VRs.length:∀ {cs:List AV} {us:List Value},VRs g w cs us→cs.length=us.length
 |[],[],_=>rfl
 |[],_::_,h=>by simp[VRs]at h
 |_::_,[],h=>by simp[VRs]at h
 | c::cs,u::us,h=>by
  simp only[VRs]at h;simp[VRs.length h.2]
theorem Fr.step(h:Fr C A g w){S T:List Nat}(hl:Lasts S T g w g' w')(hos:w'.os=w.os)(htape:HN w w')(hout:w'.output=w.output)(hsz:w.heap.size≤w'.heap.size)
 (hother:∀ b,b<w.heap.size→g.own b=.other→g'.own b=.other∧w'.heap[b]?=w.heap[b]?) (hext:∀ s,s∈A.ext→s∉T):Fr C A g' w' where
 os:=hos.trans h.os
 tape:=⟨htape.1.trans h.tape.1,Nat.le_trans h.tape.2 htape.2⟩
 output:=hout.trans h.output
 size:=Nat.le_trans h.size hsz
 keep:=fun b hb hf=>by
  have hk:=h.keep b hb hf;have hlt:b<w.heap.size:=Nat.lt_of_lt_of_le hb h.size;rcases hf with hf|hf
  ·have:=hl.ro b hlt (hk.2.trans hf);exact⟨this.2.trans hk.1,this.1.trans hf.symm⟩
  ·have:=hother b hlt (hk.2.trans hf);exact⟨this.2.trans hk.1,this.1.trans hf.symm⟩
 box:=fun s hs=>(hl.boxes s (hext s hs)).trans (h.box s hs)
 glob:=fun i cs hi=>by
  obtain⟨h1,h2,h3⟩:=h.glob i cs hi
  match cs,h1,h3 with
  | c::cs,h1,h3 =>
   have h3':=h3;simp only[PRc]at h3';obtain⟨⟨u,hu,_⟩,_⟩:=h3';have hlt:=E6 hu;rw[EA]at hlt;exact⟨h1,(hl.ro i hlt h2).1,PRc.mono hl.ro' _ ⟨i,0,none⟩ 0 h2 h3⟩
theorem R.lasts(h:R C A N g st a w){S T:List Nat}(hl:Lasts S T g w g' w')(hfr:Fr C A g' w')
 (hbox:∀ s cs,lk s st.Al=some cs→s∉T→g'.own (g.box s)=.box s∧w'.heap[g.box s]?=w.heap[g.box s]?):R C A N g' (st.kill S T) a w' where
 size:=h.size
 defs:=h.defs
 tm:=fun k x hx=>by
  simp only[St.kill,UF]at hx;obtain⟨y,hy,rfl⟩:=Option.map_eq_some_iff.1 hx;obtain⟨u,hu,hv⟩:=h.tm k y hy;exact⟨u,hu,VR.lasts hl y u hv⟩
 ob:=fun s cs hs=>by
  simp only[St.kill,Qw]at hs
  by_cases hT:s∈T
  ·simp[hT]at hs
  ·simp only[hT,if_false]at hs;obtain⟨y,hy,rfl⟩:=Option.map_eq_some_iff.1 hs;obtain⟨k1,k2⟩:=hbox s y hy hT;exact(h.ob s y hy).lift rfl (by rw[hl.boxes s hT];exact k1) (by rw[hl.boxes s hT];exact k2) (fun us hu=>VRs.lasts hl _ _ hu)
 fr:=hfr
theorem R.put(h:R C A N g st a w){d:Option Nat}(hd:∀ k,d=some k→k<N){x:AV}{u:Value}(hx:VR g w x u):R C A N g (st.put d x) (a.put d u) w:=by
 cases d with
 |none=>exact h
 |some k =>
  have hk:=hd k rfl;refine⟨by simp[Act.put,h.size],by simp[Act.put,h.defs],fun j y hy=>?_,h.ob,h.fr⟩;simp only[St.put,lk]at hy
  by_cases hjk:k=j
  ·subst hjk;simp only[if_true,Option.some.injEq]at hy;subst hy;refine⟨u,?_,hx⟩;simp[Act.put,h.size,hk]
  ·simp only[hjk,if_false]at hy;obtain⟨v,hv,hr⟩:=h.tm j y hy;exact⟨v,by simp[Act.put,Array.getElem?_setIfInBounds_ne hjk,hv],hr⟩
theorem R.ev(h:R C A N g st a w)(x:Operand):VR g w (ev C st x) (a.eval x):=by
 cases x with
 | tmp t =>
  simp only[Abs.ev];cases ht:lk t st.tmps with
  |none=>simp[VR]
  |some y =>
   obtain⟨u,hu,hv⟩:=h.tm t y ht;have:a.eval (.tmp t)=u:=by simp[Act.eval,hu]
   rw[this];exact hv
 | const v=>simp[Abs.ev,VR,Act.eval]
 | func f=>exact⟨#[],rfl,by simp[VRs]⟩
 | global i =>
  simp only[Abs.ev];cases hi:C.G i with
  |none=>simp[VR]
  |some cs =>
   obtain⟨h1,h2,h3⟩:=h.fr.glob i cs hi;exact⟨⟨i,0,none⟩,rfl,h1,h2,h3⟩
end
def Gj:AV→Option AV
 |.undef=>some .undef
 |.v x=>some (.v x)
 |.sl (.own r 0) n es=>some (.sl .no n es)
 |.sl .no n es=>some (.sl .no n es)
 |.sl .full n es=>some (.sl .full n es)
 |.fn f []=>some (.fn f [])
 |_=>none
def K0:List AV→Option (List AV)
 |[]=>some []
 | c::cs=>match Gj c,K0 cs with
  |some x,some xs=>some (x::xs)
  |_,_=>none
def rowsOf:List AV→List Nat
 |[]=>[]
 |.sl (.own r 0) _ _::cs=>r::rowsOf cs
 |_::cs=>rowsOf cs
def frozen(k:HK)(m:Nat)(bss:List (List (List AV))):AV:=match k,bss with
 |.dsl,bss=>.sl .no 1 (bss.map fun b=>[.sl .no m b])
 |.isl,[b]=>.sl .no m b
 |_,_=>.undef
mutual
def AV.freeze(S:List Nat):AV→AV
 |.undef=>.undef
 |.v x=>.v x
 |.agg cs=>.agg (B9 S cs)
 |.tup cs=>.tup (B9 S cs)
 |.sl (.own r lo) n es=>if r∈S then .sl .no n es else .sl (.own r lo) n es
 |.sl .no n es=>.sl .no n es
 |.sl .full n es=>.sl .full n es
 |.ptr s off=>.ptr s off
 |.ep (.own r lo) i cells off=>if r∈S then .undef else .ep (.own r lo) i cells off
 |.ep .no i cells off=>.ep .no i cells off
 |.ep .full i cells off=>.ep .full i cells off
 |.fn f AU=>.fn f (B9 S AU)
 |.mv f AU=>.mv f (B9 S AU)
 |.mp o=>.mp o
 |.ifc t x=>.ifc t (x.freeze S)
 |.hnd k r i j off m bss=>if r∈S then frozen k m bss else .hnd k r i j off m bss
 |.mem b xs=>.mem b (B9 S xs)
def B9(S:List Nat):List AV→List AV
 |[]=>[]
 | c::cs=>c.freeze S::B9 S cs
end
def Gh.freeze(S:List Nat)(g:Gh):Gh :=
 { g with own:=fun b=>match g.own b with
   |.row r=>if r∈S then .ro else .row r
   |.inn r i=>if r∈S then .ro else .inn r i
   | o=>o }
section
variable {C:Ctx} {A:A0} {N:Nat} {g g':Gh} {st:St} {a:Act} {w w':World} {S:List Nat}
theorem HD(b:Nat)(h:g.own b=.ro):(g.freeze S).own b=.ro:=by simp[Gh.freeze,h]
theorem Mg(b r:Nat)(h:g.own b=.row r)(hr:r∈S):(g.freeze S).own b=.ro:=by simp[Gh.freeze,h,hr]
theorem KH(b r:Nat)(h:g.own b=.row r)(hr:r∉S):(g.freeze S).own b=.row r:=by simp[Gh.freeze,h,hr]
theorem VY(b s:Nat)(h:g.own b=.box s):(g.freeze S).own b=.box s:=by simp[Gh.freeze,h]
theorem S5(b:Nat)(h:g.own b=.other):(g.freeze S).own b=.other:=by simp[Gh.freeze,h]
theorem Fb:∀ b,b<w.heap.size→BM g b→BM (g.freeze S) b∧w.heap[b]?=w.heap[b]?:=fun b _ h=>⟨HD b h,rfl⟩
theorem VZ(b r i:Nat)(h:g.own b=.inn r i)(hr:r∈S):(g.freeze S).own b=.ro:=by simp[Gh.freeze,h,hr]
theorem Ul(b r i:Nat)(h:g.own b=.inn r i)(hr:r∉S):(g.freeze S).own b=.inn r i:=by simp[Gh.freeze,h,hr]
theorem LK{w:World}{b:Nat}{cur:Array Value}{T:TypeId}{fz:Nat × Nat}(h:w.heap[b]?=some (.cells cur T fz))(q:Nat):w.cell? ((⟨b,0,none⟩:Addr).add q)=cur[q]?:=by
 rw[Addr.add_lit];simp[World.cell?,h]
theorem Rs{ro:Nat→Prop}{m:Nat}{ad:Addr}:∀ (bss:List (List (List AV))) (k:Nat),(∀ q b,bss[q]?=some b→∃ v,w.cell? (ad.add (k+q))=some v∧PR ro w (.sl .no m b) v)→PRe ro w (bss.map fun b=>[.sl .no m b]) ad 1 k
 |[],_,_=>by simp[PRe]
 | b::bss,k,h=>by
  simp only[List.map_cons,PRe,PRc,List.length_cons,List.length_nil,Nat.mul_one,Nat.zero_add,and_true,true_and];refine⟨?_,Rs bss (k+1) fun q b' hq=>?_⟩
  ·obtain⟨v,h1,h2⟩:=h 0 b rfl;exact⟨v,by simpa using h1,h2⟩
  ·have:=h (q+1) b' (by simpa using hq)
   rwa [show k+(q+1)=k+1+q by omega]at this
theorem Fu.pr(hro:∀ b,b<w.heap.size→BM g b→BM g' b∧w.heap[b]?=w.heap[b]?){r i m:Nat}(hm:0<m)(ho:g.own (g.inn r i)=.inn r i→g'.own (g.inn r i)=.ro){b:List (List AV)}{u:Value}(h:Fu g w r i m b u):PR (BM g') w (.sl .no m b) u:=by
 simp only[PR];refine⟨(fun _ _ h=>by cases h),?_⟩;rcases h with ⟨rfl,a,cap,h1,h2⟩|⟨cap,cur,T,h1,h2,h3,h4,h5,h6,h7⟩
 ·exact⟨a,cap,h1,Nat.zero_le _,h2,(by intro h;cases h),hm,.inl rfl⟩
 ·exact⟨some ⟨g.inn r i,0,none⟩,cap,h1,h2,h3,(by intro h;cases h),hm,.inr ⟨⟨g.inn r i,0,none⟩,rfl,ho h4,PRe.Ca hro b _ m 0 rfl h7⟩⟩
theorem LJ.frozen(hro:∀ b,b<w.heap.size→BM g b→BM g' b∧w.heap[b]?=w.heap[b]?){k:HK}{r i j off m:Nat}{bss:List (List (List AV))}{u:Value}(hr:g.own (g.row r)=.row r→g'.own (g.row r)=.ro)
 (ho:∀ i,g.own (g.inn r i)=.inn r i→g'.own (g.inn r i)=.ro) (h:LJ g w k r i j off m bss u):VR g' w (Abs.frozen k m bss) u:=by
 obtain⟨hm,h⟩:=h;cases k with
 | dsl =>
  simp only[Abs.frozen,VR,PR];refine⟨(fun _ _ h=>by cases h),?_⟩;rcases h with ⟨h1,rfl⟩|⟨cap,cur,T,h1,h2,h3,h4,h5,h6,h7⟩
  ·exact⟨none,0,by simpa using h1,by simp,by simp[maxLen],(by intro h;cases h),by omega,.inl rfl⟩
  ·refine⟨some ⟨g.row r,0,none⟩,cap,by rw[List.length_map];exact h1,by rw[List.length_map];exact h2,h3,(by intro h;cases h),by omega,.inr ⟨⟨g.row r,0,none⟩,rfl,hr h4,Rs bss 0 fun q b hq=>?_⟩⟩;obtain⟨v,hv,hi⟩:=h7 q b hq;exact⟨v,by rw[Nat.zero_add,LK h5];exact hv,hi.pr hro hm (ho q)⟩
 | dp=>simp only[Abs.frozen,VR]
 | isl =>
  obtain⟨b,rfl,hi⟩:=h;simp only[Abs.frozen,VR];exact hi.pr hro hm (ho i)
 | iep=>simp only[Abs.frozen,VR]
mutual
theorem VR.freeze:∀ (x:AV) (u:Value),VR g w x u→VR (g.freeze S) w (x.freeze S) u
 |.undef,_,_=>by simp[AV.freeze,VR]
 |.v x,u,hu=>by simpa [AV.freeze,VR]using hu
 |.agg cs,u,hu=>by
  simp only[AV.freeze,VR]at hu ⊢;obtain⟨us,h1,h2⟩:=hu;exact⟨us,h1,VRs.freeze cs us.toList h2⟩
 |.tup cs,u,hu=>by
  simp only[AV.freeze,VR]at hu ⊢;obtain⟨us,h1,h2⟩:=hu;exact⟨us,h1,VRs.freeze cs us.toList h2⟩
 |.sl (.own r lo) n es,u,hu=>by
  simp only[AV.freeze];split
  ·rename_i hr;simp only[VR,Cq,PR]at hu ⊢;refine⟨(fun _ _ h=>by cases h),?_⟩;rcases hu.2 with ⟨h1,h2⟩|⟨_,h2,a',cap,h3,h4⟩|⟨cap,cur,T',h1,h2,h3,h5,h6,h7,h8⟩
   ·subst h2;exact⟨_,0,h1,by simp,by simp[maxLen],(by intro h;cases h),hu.1,.inl rfl⟩
   ·subst h2;exact⟨_,cap,h3,by simp,h4,(by intro h;cases h),hu.1,.inl rfl⟩
   ·refine⟨_,cap,h1,h2,by omega,(by intro h;cases h),hu.1,.inr ⟨_,rfl,Mg _ r h5 hr,?_⟩⟩;exact PRe.Ca Fb es _ n 0 rfl h8
  ·rename_i hr;simp only[VR,Cq]at hu ⊢;refine⟨hu.1,?_⟩;rcases hu.2 with hu|hu|⟨cap,cur,T',h1,h2,h3,h5,h6,h7,h8⟩
   ·exact .inl hu
   ·exact .inr (.inl hu)
   ·exact .inr (.inr ⟨cap,cur,T',h1,h2,h3,KH _ r h5 hr,h6,h7,PRe.Ca Fb es _ n 0 rfl h8⟩)
 |.sl .no n es,u,hu=>by
  simp only[AV.freeze,VR]at hu ⊢;exact PR.mono Fb _ u hu
 |.sl .full n es,u,hu=>by
  simp only[AV.freeze,VR]at hu ⊢;exact PR.mono Fb _ u hu
 |.ptr s off,u,hu=>by simpa [AV.freeze,VR,Gh.freeze]using hu
 |.mp s,u,hu=>by simpa [AV.freeze,VR,Gh.freeze]using hu
 |.ep (.own r lo) i cells off,u,hu=>by
  simp only[AV.freeze];split
  ·simp[VR]
  ·rename_i hr;simp only[VR,Fg]at hu ⊢;obtain⟨cur,T',h1,h2,h3,h4,h5⟩:=hu;exact⟨cur,T',h1,KH _ r h2 hr,h3,h4,PRc.Ca Fb cells _ 0 rfl h5⟩
 |.ep .no i cells off,u,hu=>by
  simp only[AV.freeze,VR,Fg]at hu ⊢;obtain⟨ad,h1,h0,h2,h3⟩:=hu;exact⟨ad,h1,h0,HD _ h2,PRc.mono Fb _ ad 0 h2 h3⟩
 |.ep .full i cells off,u,hu=>by
  simp only[AV.freeze,VR,Fg]at hu ⊢;obtain⟨ad,h1,h0,h2,h3⟩:=hu;exact⟨ad,h1,h0,HD _ h2,PRc.mono Fb _ ad 0 h2 h3⟩
 |.fn f AU,u,hu=>by
  simp only[AV.freeze,VR]at hu ⊢;obtain⟨us,h1,h2⟩:=hu;exact⟨us,h1,VRs.freeze AU us.toList h2⟩
 |.mv f AU,u,hu=>by
  simp only[AV.freeze,VR]at hu ⊢;obtain⟨us,h1,h2⟩:=hu;exact⟨us,h1,VRs.freeze AU us.toList h2⟩
 |.ifc t x,u,hu=>by
  simp only[AV.freeze,VR]at hu ⊢;obtain⟨y,h1,h2⟩:=hu;exact⟨y,h1,VR.freeze x y h2⟩
 |.hnd k r i j off m bss,u,hu=>by
  simp only[AV.freeze];split
  ·rename_i hr;simp only[VR]at hu;exact hu.frozen Fb (fun h=>Mg _ r h hr) (fun i h=>VZ _ r i h hr)
  ·rename_i hr;simp only[VR]at hu ⊢;exact hu.map ⟨Fb,rfl,fun _=>rfl,fun _ h=>⟨KH _ r h hr,rfl⟩,fun i _ h=>⟨Ul _ r i h hr,rfl⟩⟩
 |.mem b xs,u,hu=>by
  simp only[AV.freeze,VR]at hu ⊢;obtain⟨ad,vs,h1,h2,h3,h4⟩:=hu;exact⟨ad,vs,HD _ h1,h2,VRs.freeze xs vs h3,h4⟩
theorem VRs.freeze:∀ (cs:List AV) (us:List Value),VRs g w cs us→VRs (g.freeze S) w (B9 S cs) us
 |[],[],_=>by simp[B9,VRs]
 |[],_::_,hu=>by simp[VRs]at hu
 |_::_,[],hu=>by simp[VRs]at hu
 | c::cs,u::us,hu=>by
  simp only[B9,VRs]at hu ⊢;exact⟨VR.freeze c u hu.1,VRs.freeze cs us hu.2⟩
end
end
end Go.Abs
namespace Go.Abs
def PRl(ro:Nat→Prop)(w:World):List AV→List Value→Prop
 |[],[]=>True
 | c::cs,u::us=>PR ro w c u∧PRl ro w cs us
 |_,_=>False
section
variable {ro ro':Nat→Prop} {w w':World}
theorem PRl.length:∀ {cs:List AV} {us:List Value},PRl ro w cs us→cs.length=us.length
 |[],[],_=>rfl
 |[],_::_,h=>by simp[PRl]at h
 |_::_,[],h=>by simp[PRl]at h
 | c::cs,u::us,h=>by
  simp only[PRl]at h;simp[PRl.length h.2]
theorem PRl.mono(h:∀ b,b<w.heap.size→ro b→ro' b∧w'.heap[b]?=w.heap[b]?):∀ {cs:List AV} {us:List Value},PRl ro w cs us→PRl ro' w' cs us
 |[],[],_=>by simp[PRl]
 |[],_::_,hu=>by simp[PRl]at hu
 |_::_,[],hu=>by simp[PRl]at hu
 | c::cs,u::us,hu=>by
  simp only[PRl]at hu ⊢;exact⟨PR.mono h _ _ hu.1,PRl.mono h hu.2⟩
theorem PRl.append:∀ {cs ds:List AV} {us vs:List Value},PRl ro w cs us→PRl ro w ds vs→PRl ro w (cs++ds) (us++vs)
 |[],_,[],_,_,h=>by simpa using h
 |[],_,_::_,_,hu,_=>by simp[PRl]at hu
 |_::_,_,[],_,hu,_=>by simp[PRl]at hu
 | c::cs,ds,u::us,vs,hu,h=>by
  simp only[List.cons_append,PRl]at hu ⊢;exact⟨hu.1,PRl.append hu.2 h⟩
theorem PRl.get:∀ {cs:List AV} {us:List Value},PRl ro w cs us→∀ (i:Nat) (c:AV),cs[i]?=some c→∃ u,us[i]?=some u∧PR ro w c u
 |[],_,_,i,c,h=>by simp at h
 |_::_,[],hu,_,_,_=>by simp[PRl]at hu
 | c::cs,u::us,hu,0,d,h=>by
  simp only[PRl]at hu;simp at h;subst h;exact⟨u,by simp,hu.1⟩
 | c::cs,u::us,hu,i+1,d,h=>by
  simp only[PRl]at hu;simp at h;obtain⟨v,h1,h2⟩:=PRl.get hu.2 i d h;exact⟨v,by simpa using h1,h2⟩
theorem PRl.take:∀ {cs:List AV} {us:List Value} (n:Nat),PRl ro w cs us→PRl ro w (cs.take n) (us.take n)
 |_,_,0,_=>by simp[PRl]
 |[],[],n+1,_=>by simp[PRl]
 |[],_::_,_+1,hu=>by simp[PRl]at hu
 |_::_,[],_+1,hu=>by simp[PRl]at hu
 | c::cs,u::us,n+1,hu=>by
  simp only[List.take_succ_cons,PRl]at hu ⊢;exact⟨hu.1,PRl.take n hu.2⟩
theorem PRl.drop:∀ {cs:List AV} {us:List Value} (n:Nat),PRl ro w cs us→PRl ro w (cs.drop n) (us.drop n)
 |_,_,0,h=>by simpa using h
 |[],[],n+1,_=>by simp[PRl]
 |[],_::_,_+1,hu=>by simp[PRl]at hu
 |_::_,[],_+1,hu=>by simp[PRl]at hu
 | c::cs,u::us,n+1,hu=>by
  simp only[List.drop_succ_cons,PRl]at hu ⊢;exact PRl.drop n hu.2
theorem VRs.take{g:Gh}:∀ {cs:List AV} {us:List Value} (n:Nat),VRs g w cs us→VRs g w (cs.take n) (us.take n)
 |_,_,0,_=>by simp[VRs]
 |[],[],n+1,_=>by simp[VRs]
 |[],_::_,_+1,hu=>by simp[VRs]at hu
 |_::_,[],_+1,hu=>by simp[VRs]at hu
 | c::cs,u::us,n+1,hu=>by
  simp only[List.take_succ_cons,VRs]at hu ⊢;exact⟨hu.1,VRs.take n hu.2⟩
theorem VRs.drop{g:Gh}:∀ {cs:List AV} {us:List Value} (n:Nat),VRs g w cs us→VRs g w (cs.drop n) (us.drop n)
 |_,_,0,h=>by simpa using h
 |[],[],n+1,_=>by simp[VRs]
 |[],_::_,_+1,hu=>by simp[VRs]at hu
 |_::_,[],_+1,hu=>by simp[VRs]at hu
 | c::cs,u::us,n+1,hu=>by
  simp only[List.drop_succ_cons,VRs]at hu ⊢;exact VRs.drop n hu.2
theorem VRs.append{g:Gh}:∀ {cs ds:List AV} {us vs:List Value},VRs g w cs us→VRs g w ds vs→VRs g w (cs++ds) (us++vs)
 |[],_,[],_,_,h=>by simpa using h
 |[],_,_::_,_,hu,_=>by simp[VRs]at hu
 |_::_,_,[],_,hu,_=>by simp[VRs]at hu
 | c::cs,ds,u::us,vs,hu,h=>by
  simp only[List.cons_append,VRs]at hu ⊢;exact⟨hu.1,VRs.append hu.2 h⟩
theorem VRs.get{g:Gh}:∀ {cs:List AV} {us:List Value},VRs g w cs us→∀ (i:Nat) (c:AV),cs[i]?=some c→∃ u,us[i]?=some u∧VR g w c u
 |[],_,_,i,c,h=>by simp at h
 |_::_,[],hu,_,_,_=>by simp[VRs]at hu
 | c::cs,u::us,hu,0,d,h=>by
  simp only[VRs]at hu;simp at h;subst h;exact⟨u,by simp,hu.1⟩
 | c::cs,u::us,hu,i+1,d,h=>by
  simp only[VRs]at hu;simp at h;obtain⟨v,h1,h2⟩:=VRs.get hu.2 i d h;exact⟨v,by simpa using h1,h2⟩
theorem PR.VR{g:Gh}:∀ (x:AV) (u:Value),PR (BM g) w x u→VR g w x u
 |.undef,_,_=>by simp[Abs.VR]
 |.v x,u,h=>by simp only[PR]at h;simp only[Abs.VR];exact h.1
 |.sl (.own r lo) n es,u,h=>by simp[PR]at h
 |.sl .no n es,u,h=>by simpa [Abs.VR]using h
 |.sl .full n es,u,h=>by simpa [Abs.VR]using h
 |.agg _,_,hu=>by simp[PR]at hu
 |.tup _,_,hu=>by simp[PR]at hu
 |.ptr _ _,_,hu=>by simp[PR]at hu
 |.ep _ _ _ _,_,hu=>by simp[PR]at hu
 |.fn _ _,_,hu=>by simp only[PR]at hu;obtain⟨rfl,rfl⟩:=hu;simp only[Abs.VR];exact⟨#[],rfl,by simp[Abs.VRs]⟩
 |.mv _ _,_,hu=>by simp[PR]at hu
 |.mp _,_,hu=>by simp[PR]at hu
 |.ifc _ _,_,hu=>by simp[PR]at hu
 |.mem _ _,_,hu=>by simp[PR]at hu
theorem PR.one{x:AV}{u:Value}(h:PR ro w x u):u.oneCell'=true:=by
 cases x with
 | undef=>simpa [PR]using h
 | v x=>simp only[PR]at h;rw[h.1];exact h.2
 | sl t n es=>simp only[PR]at h;obtain⟨_,_,_,rfl,_⟩:=h;rfl
 | fn f AU=>simp only[PR]at h;obtain⟨rfl,rfl⟩:=h;rfl
 |_=>simp[PR]at h
theorem PRl.one:∀ {cs:List AV} {us:List Value},PRl ro w cs us→∀ u∈us,u.oneCell'=true
 |[],[],_,u,hu=>by simp at hu
 |[],_::_,hu,_,_=>by simp[PRl]at hu
 |_::_,[],hu,_,_=>by simp[PRl]at hu
 | c::cs,v::us,h,u,hu=>by
  simp only[PRl]at h;rcases List.mem_cons.1 hu with rfl|hu
  ·exact PR.one h.1
  ·exact PRl.one h.2 u hu
theorem PRl.VRs{g:Gh}:∀ {cs:List AV} {us:List Value},PRl (BM g) w cs us→VRs g w cs us
 |[],[],_=>by simp[Abs.VRs]
 |[],_::_,hu=>by simp[PRl]at hu
 |_::_,[],hu=>by simp[PRl]at hu
 | c::cs,u::us,hu=>by
  simp only[PRl,Abs.VRs]at hu ⊢;exact⟨PR.VR _ _ hu.1,PRl.VRs hu.2⟩
theorem add_add(a:Addr)(i j:Nat):(a.add i).add j=a.add (i+j):=by
 unfold Addr.add
 by_cases hi:i=0<;>by_cases hj:j=0<;>simp[hi,hj,Nat.add_assoc]
theorem add_lit(b o n:Nat):Addr.add ⟨b,o,none⟩ n=⟨b,o+n,none⟩:=Addr.add_lit b o n
theorem PRc.list:∀ (cs:List AV) (ad:Addr) (j:Nat),PRc ro w cs ad j→∃ us:List Value,PRl ro w cs us∧∀ i v,us[i]?=some v→w.cell? (ad.add (j+i))=some v
 |[],ad,j,_=>⟨[],by simp[PRl],by simp⟩
 | c::cs,ad,j,h=>by
  simp only[PRc]at h;obtain⟨⟨u,h1,h2⟩,h3⟩:=h;obtain⟨us,h4,h5⟩:=PRc.list cs ad (j+1) h3;refine⟨u::us,by simp only[PRl];exact⟨h2,h4⟩,fun i v hv=>?_⟩;cases i with
  | zero=>simp at hv;subst hv;simpa using h1
  | succ i =>
   simp at hv;have:=h5 i v hv
   rwa [Nat.add_assoc,Nat.add_comm 1 i]at this
theorem PRc.C4:∀ (cs:List AV) (us:List Value) (ad:Addr) (j:Nat),PRl ro w cs us→(∀ i v,us[i]?=some v→w.cell? (ad.add (j+i))=some v)→PRc ro w cs ad j
 |[],_,_,_,_,_=>by simp[PRc]
 |_::_,[],_,_,h,_=>by simp[PRl]at h
 | c::cs,u::us,ad,j,h,hc=>by
  simp only[PRl]at h;simp only[PRc];refine⟨⟨u,by simpa using hc 0 u (by simp),h.1⟩,PRc.C4 cs us ad (j+1) h.2 fun i v hv=>?_⟩;have:=hc (i+1) v (by simpa using hv)
  rwa [Nat.add_assoc,Nat.add_comm 1 i]
theorem PRe.list:∀ (es:List (List AV)) (ad:Addr) (n i:Nat),PRe ro w es ad n i→∃ us:List Value,PRl ro w es.flatten us∧us.length=es.length*n∧∀ j v,us[j]?=some v→w.cell? (ad.add (i*n+j))=some v
 |[],ad,n,i,_=>⟨[],by simp[PRl],by simp,by simp⟩
 | e::es,ad,n,i,h=>by
  simp only[PRe]at h;obtain⟨hl,h1,h2⟩:=h;obtain⟨us,h3,h4⟩:=PRc.list e ad (i*n) h1;obtain⟨vs,h5,h6,h7⟩:=PRe.list es ad n (i+1) h2;have hul:us.length=n:=by rw[← PRl.length h3,hl]
  refine⟨us++vs,by simpa using PRl.append h3 h5,by simp[hul,h6,Nat.add_mul,Nat.add_comm],fun j v hv=>?_⟩;rw[List.getElem?_append]at hv;split at hv
  ·exact h4 j v hv
  ·have:=h7 _ v hv;rw[show (i+1)*n+(j-us.length)=i*n+j from by rw[Nat.add_mul,Nat.one_mul];omega]at this;exact this
theorem PRe.C4:∀ (es:List (List AV)) (us:List Value) (ad:Addr) (n i:Nat),(∀ e∈es,e.length=n)→PRl ro w es.flatten us→(∀ j v,us[j]?=some v→w.cell? (ad.add (i*n+j))=some v)→PRe ro w es ad n i
 |[],_,_,_,_,_,_,_=>by simp[PRe]
 | e::es,us,ad,n,i,hl,h,hc=>by
  have hel:e.length=n:=hl e (by simp);simp only[PRe];simp only[List.flatten_cons]at h;have hlen:=PRl.length h;rw[List.length_append]at hlen;have h1:PRl ro w e (us.take n):=by
   have:=PRl.take n h
   rwa [← hel,List.take_left,hel]at this
  have h2:PRl ro w es.flatten (us.drop n):=by
   have:=PRl.drop n h
   rwa [← hel,List.drop_left,hel]at this
  refine⟨hel,PRc.C4 e _ ad (i*n) h1 fun j v hv=>?_,PRe.C4 es _ ad n (i+1) (fun e he=>hl e (by simp[he])) h2 fun j v hv=>?_⟩
  ·rw[List.getElem?_take]at hv;split at hv
   ·exact hc j v hv
   ·cases hv
  ·rw[List.getElem?_drop]at hv;have:=hc _ v hv
   rwa [show i*n+(n+j)=(i+1)*n+j from by rw[Nat.add_mul,Nat.one_mul];omega]at this
theorem PRe.lens:∀ {es:List (List AV)} {ad:Addr} {n i:Nat},PRe ro w es ad n i→∀ e∈es,e.length=n
 |[],_,_,_,_,e,he=>by simp at he
 | e::es,ad,n,i,h,d,hd=>by
  simp only[PRe]at h;rcases List.mem_cons.1 hd with rfl|hd
  ·exact h.1
  ·exact PRe.lens h.2.2 d hd
theorem PRe.at_:∀ (es:List (List AV)) (ad:Addr) (n i:Nat),PRe ro w es ad n i→∀ (k:Nat) (e:List AV),es[k]?=some e→e.length=n∧PRc ro w e ad ((i+k)*n)
 |[],_,_,_,_,k,e,h=>by simp at h
 | e::es,ad,n,i,h,0,d,hd=>by
  simp only[PRe]at h;simp at hd;subst hd;exact⟨h.1,by simpa using h.2.1⟩
 | e::es,ad,n,i,h,k+1,d,hd=>by
  simp only[PRe]at h;simp at hd;have:=PRe.at_ es ad n (i+1) h.2.2 k d hd
  rwa [show i+1+k=i+(k+1) from by omega]at this
theorem PRc.shift(cs:List AV)(ad:Addr)(k j:Nat):PRc ro w cs ad (k+j)→PRc ro w cs (ad.add k) j:=by
 intro h;obtain⟨us,h1,h2⟩:=PRc.list cs ad (k+j) h;exact PRc.C4 cs us _ j h1 fun i v hv=>by rw[add_add];have:=h2 i v hv;rwa [Nat.add_assoc]at this
end
def St.freeze(S:List Nat)(st:St):St:=⟨st.tmps.map (fun p=>(p.1,p.2.freeze S)),st.Al.map (fun p=>(p.1,B9 S p.2))⟩
theorem KN{α β:Type}(f:α→β)(k:Nat):∀ l:List (Nat × α),lk k (l.map fun p=>(p.1,f p.2))=(lk k l).map f
 |[]=>rfl
 |(j,x)::l=>by
  simp only[List.map_cons,lk];split
  ·rfl
  ·exact KN f k l
section
variable {C:Ctx} {A:A0} {N:Nat} {g g':Gh} {st:St} {a:Act} {w w':World}
theorem Fr.freeze(h:Fr C A g w)(S:List Nat):Fr C A (g.freeze S) w where
 os:=h.os
 tape:=h.tape
 output:=h.output
 size:=h.size
 keep:=fun b hb hf=>by
  obtain⟨h1,h2⟩:=h.keep b hb hf;refine⟨h1,?_⟩;rcases hf with hf|hf
  ·rw[hf]at h2 ⊢;exact HD b h2
  ·rw[hf]at h2 ⊢;exact S5 b h2
 box:=h.box
 glob:=fun i cs hi=>by
  obtain⟨h1,h2,h3⟩:=h.glob i cs hi;exact⟨h1,HD i h2,PRc.mono Fb _ _ 0 h2 h3⟩
theorem R.freeze(h:R C A N g st a w)(S:List Nat):R C A N (g.freeze S) (st.freeze S) a w where
 size:=h.size
 defs:=h.defs
 tm:=fun k x hx=>by
  simp only[St.freeze,KN]at hx;obtain⟨y,hy,rfl⟩:=Option.map_eq_some_iff.1 hx;obtain⟨u,hu,hv⟩:=h.tm k y hy;exact⟨u,hu,VR.freeze y u hv⟩
 ob:=fun s cs hs=>by
  simp only[St.freeze,KN]at hs;obtain⟨y,hy,rfl⟩:=Option.map_eq_some_iff.1 hs;exact(h.ob s y hy).lift rfl (VY _ s (h.ob s y hy).1) rfl (fun us hu=>VRs.freeze _ _ hu)
 fr:=h.fr.freeze S
def Gh.Co(g:Gh)(b s:Nat):Gh:={ own:=fun x=>if x=b then .box s else g.own x,box:=fun x=>if x=s then b else g.box x,row:=g.row,inn:=g.inn }
def Gh.newRow(g:Gh)(b r:Nat):Gh:={ own:=fun x=>if x=b then .row r else g.own x,box:=g.box,row:=fun x=>if x=r then b else g.row x,inn:=g.inn }
theorem alloc_old(w:World)(o:Obj)(b:Nat)(h:b<w.heap.size):(w.alloc o).heap[b]?=w.heap[b]?:=by
 show (w.heap.push o)[b]?=_;rw[Array.getElem?_push,if_neg (by omega)]
theorem JL(g:Gh)(w:World)(o:Obj)(s:Nat):Lasts [] [s] g w (g.Co w.heap.size s) (w.alloc o) where
 ro:=fun b hb h=>⟨by simp[Gh.Co,Nat.ne_of_lt hb,h],alloc_old w o b hb⟩
 row:=fun b q hb _ h=>⟨by simp[Gh.Co,Nat.ne_of_lt hb,h],alloc_old w o b hb⟩
 rows:=fun _ _=>rfl
 boxes:=fun q hq=>by simp at hq;simp[Gh.Co,hq]
 inn:=fun b q i hb _ h=>⟨by simp[Gh.Co,Nat.ne_of_lt hb,h],alloc_old w o b hb⟩
 inns:=fun _ _ _=>rfl
theorem Tc(g:Gh)(w:World)(o:Obj)(r:Nat)(S:List Nat)(hr:r∈S):Lasts S [] g w (g.newRow w.heap.size r) (w.alloc o) where
 ro:=fun b hb h=>⟨by simp[Gh.newRow,Nat.ne_of_lt hb,h],alloc_old w o b hb⟩
 row:=fun b q hb _ h=>⟨by simp[Gh.newRow,Nat.ne_of_lt hb,h],alloc_old w o b hb⟩
 rows:=fun q hq=>by
  have:q≠r:=fun e=>hq (e▸hr)
  simp[Gh.newRow,this]
 boxes:=fun _ _=>rfl
 inn:=fun b q i hb _ h=>⟨by simp[Gh.newRow,Nat.ne_of_lt hb,h],alloc_old w o b hb⟩
 inns:=fun _ _ _=>rfl
theorem DE.lt{s:Nat}{cs:List AV}(h:DE g w s cs):g.box s<w.heap.size:=by
 obtain⟨_,⟨_,cur,T,h2,_⟩|⟨_,es,clk,h2,_⟩⟩:=h
 ·exact DS h2
 ·exact DS h2
theorem R.Co(h:R C A N g st a w)(s:Nat)(hmp:isMap s=false)(hs:s∉A.ext)(cur:Array Value)(T:TypeId)(cs:List AV)(hv:VRs g w cs cur.toList) :
 R C A N (g.Co w.heap.size s) ⟨(st.kill [] [s]).tmps,(s,Ej [] [s] cs)::(st.kill [] [s]).Al⟩ a (w.alloc (.cells cur T)):=by
 have hl:=JL g w (.cells cur T) s;have hfr:Fr C A (g.Co w.heap.size s) (w.alloc (.cells cur T)):=h.fr.step hl rfl ⟨rfl,by first|exact Nat.le_refl _|exact Nat.le_succ _⟩ rfl (by simp) (fun b hb ho=>⟨by simp[Gh.Co,Nat.ne_of_lt hb,ho],alloc_old w _ b hb⟩) (fun q hq he=>hs (by simpa [List.mem_singleton.1 he]using hq));have h1:=h.lasts hl hfr (fun q cs' hq hne=>by
  have ho:=h.ob q cs' hq;exact⟨by simp[Gh.Co,Nat.ne_of_lt ho.lt,ho.1],alloc_old w _ _ ho.lt⟩)
 refine⟨h1.size,h1.defs,h1.tm,fun q cs' hq=>?_,h1.fr⟩;simp only[lk]at hq
 by_cases hsq:s=q
 ·subst hsq;simp only[if_true,Option.some.injEq]at hq;subst hq;refine⟨by simp[Gh.Co],.inl ⟨hmp,cur,T,?_,VRs.lasts hl _ _ hv⟩⟩;simp only[Gh.Co,if_true];exact heap_alloc_new w _
 ·simp only[hsq,if_false]at hq;exact h1.ob q cs' hq
theorem R.newRow(h:R C A N g st a w)(r:Nat)(S:List Nat)(hr:r∈S)(cur:Array Value)(T:TypeId)(n cap:Nat)(es:List (List AV))(us:List Value)(hn:0<n)
 (hl:∀ e∈es,e.length=n) (hv:PRl (BM g) w es.flatten us) (hc:cur.size=cap*n) (hcap:es.length≤cap) (hm:cap≤maxLen) (hus:∀ (j:Nat) (v:Value),us[j]?=some v→cur[j]?=some v) :
 ∃ g',R C A N g' (st.kill S []) a (w.alloc (.cells cur T))∧VR g' (w.alloc (.cells cur T)) (.sl (.own r 0) n es) (.slice (some ⟨w.heap.size,0,none⟩) es.length cap):=by
 have hl':=Tc g w (.cells cur T) r S hr;refine⟨g.newRow w.heap.size r,?_,?_⟩
 ·refine h.lasts hl' ?_ ?_
  ·exact h.fr.step hl' rfl ⟨rfl,by first|exact Nat.le_refl _|exact Nat.le_succ _⟩ rfl (by simp) (fun b hb ho=>⟨by simp[Gh.newRow,Nat.ne_of_lt hb,ho],alloc_old w _ b hb⟩) (fun q _ he=>by cases he)
  ·intro q cs' hq _;have ho:=h.ob q cs' hq;exact⟨by simp[Gh.newRow,Nat.ne_of_lt ho.lt,ho.1],alloc_old w _ _ ho.lt⟩
 ·simp only[VR,Cq];refine⟨hn,.inr (.inr ⟨cap,cur,T,by simp[Gh.newRow],hcap,by omega,by simp[Gh.newRow],?_,by have:=Nat.le_of_eq hc.symm;simpa using this,?_⟩)⟩
  ·simp only[Gh.newRow,if_true];exact heap_alloc_new w _
  ·refine PRe.C4 es us _ n 0 hl (PRl.mono hl'.ro' hv) fun j v hv=>?_
   simp only[Gh.newRow,if_true,Nat.zero_mul,Nat.zero_add,add_lit];rw[cell_of_row _ _ _ _ _ _ (heap_alloc_new w _)];exact hus j v hv
end
end Go.Abs
namespace Go.Abs
def BJ(P:Program)(t:TypeId):Option Nat:=(P.info? t).map (·.size)
def AZ(P:Program)(t:TypeId):Option Bool:=(P.underlying t).map fun
 |.struct _|.array _ _=>true
 |_=>false
def AV.cells:AV→List AV
 |.agg cs=>cs
 | x=>[x]
def H2:AV→Bool
 |.v x=>x.oneCell'
 |.sl _ _ _|.ptr _ _|.ep _ _ _ _|.fn _ _|.mv _ _|.ifc _ _|.mp _=>true
 |_=>false
def Cc:List AV→Bool
 |[]=>true
 | c::cs=>H2 c&&Cc cs
def Does(P:Program)(o:Oper)(a:Act)(w:World)(u:Value)(w':World):Prop :=
 (execOp a.eval o).run P w=.ok (.value u) w'∨((execOp a.eval o).run P w=.ok .skip w'∧u=undef)
theorem Does.wp{P:Program}{o:Oper}{a:Act}{w w':World}{u:Value}{K:Act→World→Prop}{Q:Exit→Act→World→Prop}(h:Does P o a w u w')(hk:K (a.put o.dst u) w'):o.wp P a w K Q:=by
 unfold Oper.wp;rcases h with h|⟨h,rfl⟩<;>rw[h]<;>exact hk
theorem HB{P:Program}{o:Oper}{a:Act}{w w':World}{u:Value}{s:Sem Value}(ho:execOp a.eval o=(do pure (.value (← s))))(h:s.run P w=.ok u w'):Does P o a w u w':=by
 refine .inl ?_;rw[ho];simp[h]
section
variable {P:Program} {w:World}
theorem run_typeInfo{t:TypeId}{i:TypeInfo}(h:P.info? t=some i):(typeInfo t).run P w=.ok i w:=by simp[typeInfo,h]
theorem run_sizeOf{t:TypeId}{n:Nat}(h:BJ P t=some n):(sizeOf t).run P w=.ok n w:=by
 unfold BJ at h;obtain⟨i,hi,rfl⟩:=Option.map_eq_some_iff.1 h;simp[sizeOf,run_typeInfo hi]
theorem HI{t:TypeId}{b:Bool}(h:AZ P t=some b):(isAgg t).run P w=.ok b w:=by
 unfold AZ at h;obtain⟨d,hd,rfl⟩:=Option.map_eq_some_iff.1 h;unfold isAgg;rw[Sem.run_bind,run_underlying hd];cases d<;>simp
theorem Pm{t:TypeId}{n:Nat}{a:Addr}{us:List Value}(h1:AZ P t=some true)(h2:BJ P t=some n)(hl:us.length=n)(hc:∀ i v,us[i]?=some v→w.cell? (a.add i)=some v) :
 (loadVar t a).run P w=.ok (.agg us.toArray) w:=by
 unfold loadVar;subst hl;simp only[Sem.run_bind,HI h1,Result.andThen_ok,if_true,run_sizeOf h2,run_loadCells_list w a us hc,Sem.run_pure]
theorem Pn{t:TypeId}{a:Addr}{u:Value}(h1:AZ P t=some false)(hc:w.cell? a=some u):(loadVar t a).run P w=.ok u w:=by
 unfold loadVar;simp only[Sem.run_bind,HI h1,Result.andThen_ok];simp[hc]
end
def mkA(agg:Bool):List AV→Option AV
 | cs=>if agg then some (.agg cs) else match cs with
  |[c]=>some c
  |_=>none
def O6(agg:Bool)(n:Nat)(Al:List (Nat × List AV)):AV→Option AV
 |.ptr s off=>match lk s Al with
  |some cs=>if off+n≤cs.length then mkA agg ((cs.drop off).take n) else none
  |none=>none
 |.ep _ _ cs off=>if off+n≤cs.length then mkA agg ((cs.drop off).take n) else none
 |.hnd .dp r i _ _ m bss=>if n=1 then mkA agg [.hnd .isl r i 0 0 m bss] else none
 |.hnd .iep _ _ _ off _ [[c]]=>if off+n≤c.length then mkA agg ((c.drop off).take n) else none
 |.mem false [x]=>if n=1 then mkA agg [x] else none
 |_=>none
section
variable {C:Ctx} {A:A0} {N:Nat} {g g':Gh} {st:St} {a:Act} {w w':World}
theorem H0{P:Program}{t:TypeId}{agg:Bool}{n:Nat}{ad:Addr}{cs:List AV}{us:List Value}{x:AV}(h1:AZ P t=some agg)(h2:BJ P t=some n)(hv:VRs g w cs us)(hl:cs.length=n)
 (hc:∀ i v,us[i]?=some v→w.cell? (ad.add i)=some v) (hx:mkA agg cs=some x):∃ u,(loadVar t ad).run P w=.ok u w∧VR g w x u:=by
 have hul:us.length=n:=by rw[← VRs.length hv,hl]
 cases agg with
 | true =>
  simp only[mkA,if_true,Option.some.injEq]at hx;subst hx;exact⟨_,Pm h1 h2 hul hc,us.toArray,rfl,by simpa using hv⟩
 | false =>
  simp only[mkA,Bool.false_eq_true,if_false]at hx
  match cs,us,hv,hx with
  |[c],[u],hv,hx =>
   simp at hx;subst hx;simp only[VRs]at hv;have h0:=hc 0 u (by simp);simp only[Addr.add_zero']at h0;exact⟨u,Pn h1 h0,hv.1⟩
  |[_],[],hv,_=>simp[VRs]at hv
  |[_],_::_::_,hv,_=>simp[VRs]at hv
theorem WO{t:Tag}{i:Nat}{cs:List AV}{off:Nat}{u:Value}(h:Fg g w t i cs off u) :
 ∃ (ad:Addr) (us:List Value),u=.pointer (some ad)∧VRs g w (cs.drop off) us∧∀ j v,us[j]?=some v→w.cell? (ad.add j)=some v:=by
 cases t with
 | own r lo =>
  simp only[Fg]at h;obtain⟨cur,T,h1,h2,h3,h4,h5⟩:=h;obtain⟨us,k1,k2⟩:=PRc.list cs _ 0 h5;refine⟨_,us.drop off,h1,PRl.VRs (PRl.drop off k1),fun j v hv=>?_⟩;rw[List.getElem?_drop]at hv;have:=k2 _ v hv;rw[add_lit]at this ⊢;rw[show i*cs.length+off+j=i*cs.length+(0+(off+j)) from by omega];exact this
 | no =>
  simp only[Fg]at h;obtain⟨ad,h1,h0,h2,h3⟩:=h;obtain⟨us,k1,k2⟩:=PRc.list cs _ 0 h3;refine⟨_,us.drop off,h1,PRl.VRs (PRl.drop off k1),fun j v hv=>?_⟩;rw[List.getElem?_drop]at hv;have:=k2 _ v hv;rw[add_add];simpa using this
 | full =>
  simp only[Fg]at h;obtain⟨ad,h1,h0,h2,h3⟩:=h;obtain⟨us,k1,k2⟩:=PRc.list cs _ 0 h3;refine⟨_,us.drop off,h1,PRl.VRs (PRl.drop off k1),fun j v hv=>?_⟩;rw[List.getElem?_drop]at hv;have:=k2 _ v hv;rw[add_add];simpa using this
theorem YP{s:Nat}{cs:List AV}(h:DE g w s cs)(hmp:isMap s=false)(off:Nat):∃ us:List Value,VRs g w (cs.drop off) us∧∀ j v,us[j]?=some v→w.cell? ((⟨g.box s,off,none⟩:Addr).add j)=some v:=by
 obtain⟨cur,T,h2,h3⟩:=h.cells hmp;refine⟨cur.toList.drop off,VRs.drop off h3,fun j v hv=>?_⟩;rw[List.getElem?_drop]at hv;rw[add_lit,cell_of_row _ _ _ _ _ _ h2];simpa using hv
theorem Ml{P:Program}(hR:R C A N g st a w){t:TypeId}{agg:Bool}{n:Nat}(h1:AZ P t=some agg)(h2:BJ P t=some n){x:AV}{p:AV}{up:Value}(hp:VR g w p up)
 (hx:O6 agg n st.Al p=some x):∃ u,(Instr.loadAt t up).run P w=.ok u w∧VR g w x u:=by
 unfold O6 at hx;split at hx
 ·rename_i s off;split at hx
  ·rename_i cs hs;split at hx
   ·rename_i hle;simp only[VR]at hp;obtain⟨hmp,rfl⟩:=hp;obtain⟨us,k1,k2⟩:=YP (hR.ob s cs hs) hmp off;have:=H0 h1 h2 (VRs.take n k1) (by simp;omega) (ad:=⟨g.box s,off,none⟩) (fun i v hv=>by
     rw[List.getElem?_take]at hv;split at hv
     ·exact k2 i v hv
     ·cases hv) hx
    simpa [Instr.loadAt,Instr.sureAddr]using this
   ·cases hx
  ·cases hx
 ·rename_i t' i cs off;split at hx
  ·rename_i hle;simp only[VR]at hp;obtain⟨ad,us,rfl,k1,k2⟩:=WO hp;have:=H0 h1 h2 (VRs.take n k1) (by simp;omega) (ad:=ad) (fun i v hv=>by
    rw[List.getElem?_take]at hv;split at hv
    ·exact k2 i v hv
    ·cases hv) hx
   simpa [Instr.loadAt,Instr.sureAddr]using this
  ·cases hx
 ·rename_i r i j off m bss;split at hx
  ·rename_i hn1;subst hn1;simp only[VR]at hp;obtain⟨hm,b,rfl,cur,T,v,rfl,k4,k5,k6,k7⟩:=hp;have hv:VRs g w [.hnd .isl r i 0 0 m [b]] [v]:=by
    simp only[VRs,VR];exact⟨⟨hm,b,rfl,k7⟩,trivial⟩
   have:=H0 h1 h2 hv rfl (ad:=⟨g.row r,i,none⟩) (fun q v' hv'=>by
    match q,hv' with
    | 0,hv' =>
     simp at hv';subst hv';rw[add_lit,cell_of_row _ _ _ _ _ _ k5];exact k6
    | q+1,hv'=>simp at hv') hx
   simpa [Instr.loadAt,Instr.sureAddr]using this
  ·cases hx
 ·rename_i r i j off m c;split at hx
  ·rename_i hle;simp only[VR]at hp;obtain⟨hm,c',hc,hcl,cur,T,rfl,k4,k5,k6,k7⟩:=hp;simp only[List.cons.injEq,and_true]at hc;subst hc;obtain⟨us,e1,e2⟩:=PRc.list c _ 0 k7;have:=H0 h1 h2 (VRs.take n (PRl.VRs (PRl.drop off e1))) (by simp;omega) (ad:=⟨g.inn r i,j*m+off,none⟩) (fun q v' hv'=>by
    rw[List.getElem?_take]at hv';split at hv'
    ·rw[List.getElem?_drop]at hv';have:=e2 _ v' hv';rw[add_lit]at this ⊢;rw[show j*m+off+q=j*m+(0+(off+q)) from by omega];exact this
    ·cases hv') hx
   simpa [Instr.loadAt,Instr.sureAddr]using this
  ·cases hx
 ·rename_i y;split at hx
  ·rename_i hn1;subst hn1;simp only[VR,Vx]at hp;obtain⟨ad,vs,_,hc,hv,rfl⟩:=hp;have:=H0 h1 h2 hv rfl (ad:=ad) (fun q v' hv'=>by
    have hq:q<vs.length:=by
     rcases Nat.lt_or_ge q vs.length with h|h
     ·exact h
     ·rw[List.getElem?_eq_none h]at hv';cases hv'
    rw[hc.2 q hq];exact hv') hx
   simpa [Instr.loadAt,Instr.sureAddr]using this
  ·cases hx
 ·cases hx
end
end Go.Abs
