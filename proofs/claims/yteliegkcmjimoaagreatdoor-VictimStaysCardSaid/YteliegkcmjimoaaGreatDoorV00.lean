/- part 0 of the proof -/
import Derived.WalkKit
import Derived.Laws.CopyOwn
import Derived.WalkLawsBesides
set_option linter.all false
namespace Go.Abs
inductive Tag where
 | no
 | full
 | own(r lo:Nat)
inductive HK where
 | Xl
 | dp
 | iW
 | pR
inductive AV where
 | undef
 | v(x:Value)
 | agg(cs:List AV)
 | Bl(cs:List AV)
 | sl(t:Tag)(n:Nat)(es:List (List AV))
 | ptr(s off:Nat)
 | ep(t:Tag)(i:Nat)(cells:List AV)(off:Nat)
 | fn(f:Nat)(Bi:List AV)
 | mv(f:Nat)(first:List AV)
 | Gc(t:TypeId)(x:AV)
 | El(k:HK)(r i j off m:Nat)(bss:List (List (List AV)))
 | mem(b:Bool)(xs:List AV)
  | mp(s:Nat)
inductive Own where
 | other
 | ro
 | box(s:Nat)
 | row(r:Nat)
 | Cz(r i:Nat)
def isMap(s:Nat):Bool:=s%64==62||s%64==31
structure Gh where
 own:Nat->Own
 box:Nat->Nat
 row:Nat->Nat
 Cz:Nat->Nat->Nat
mutual
def PR(ro:Nat->Prop)(w:World):AV->Value->Prop
 |.undef,u=>u.oneCell'=true
 |.v x,u=>u=x/\x.oneCell'=true
 |.sl t n es,u=>(∀ r lo,t≠.own r lo)/\∃ a cap,u=.slice a es.length cap/\es.length<=cap/\cap<=maxLen/\(t=.full->cap=es.length)/\0<n /\
  (es=[]\/∃ ad,a=some ad/\ro ad.block/\CH ro w es ad n 0)
 |.fn f Bi,u=>Bi=[]/\u=.func (.func f) #[] #[]
 |_,_=>False
def CH(ro:Nat->Prop)(w:World):List (List AV)->Addr->Nat->Nat->Prop
 |[],_,_,_=>True
 | e::es,ad,n,i=>e.length=n/\Cu ro w e ad (i*n)/\CH ro w es ad n (i+1)
def Cu(ro:Nat->Prop)(w:World):List AV->Addr->Nat->Prop
 |[],_,_=>True
 | c::cs,ad,j=>(∃ u,w.cell? (ad.add j)=some u/\PR ro w c u)/\Cu ro w cs ad (j+1)
end
def BX(g:Gh)(b:Nat):Prop:=g.own b=.ro
def CM(g:Gh)(w:World)(r lo n:Nat)(es:List (List AV))(u:Value):Prop :=
 0<n/\((u=.slice none 0 0/\es=[])\/(0<lo/\es=[]/\∃ a cap,u=.slice a 0 cap/\cap<=maxLen) \/
 ∃ cap cur T,u=.slice (some ⟨g.row r,lo*n,none⟩) es.length cap/\es.length<=cap/\lo+cap<=maxLen/\g.own (g.row r)=.row r /\
  w.heap[g.row r]?=some (.cells cur T (0,0))/\(lo+cap)*n<=cur.size/\CH (BX g) w es ⟨g.row r,lo*n,none⟩ n 0)
def Fz(g:Gh)(w:World)(t:Tag)(i:Nat)(cells:List AV)(off:Nat)(u:Value):Prop :=
 match t with
 |.own r _=>∃ cur T,u=.pointer (some ⟨g.row r,i*cells.length+off,none⟩)/\g.own (g.row r)=.row r /\
  w.heap[g.row r]?=some (.cells cur T (0,0))/\(i+1)*cells.length<=cur.size/\Cu (BX g) w cells ⟨g.row r,i*cells.length,none⟩ 0
 |_=>∃ ad:Addr,u=.pointer (some (ad.add off))/\0<cells.length/\BX g ad.block/\Cu (BX g) w cells ad 0
def Ge(g:Gh)(w:World)(r i m:Nat)(b:List (List AV))(u:Value):Prop :=
 (b=[]/\∃ a cap,u=.slice a 0 cap/\cap<=maxLen) \/
 ∃ cap cur T,u=.slice (some ⟨g.Cz r i,0,none⟩) b.length cap/\b.length<=cap/\cap<=maxLen/\g.own (g.Cz r i)=.Cz r i/\w.heap[g.Cz r i]?=some (.cells cur T (0,0))/\cap*m<=cur.size /\
  CH (BX g) w b ⟨g.Cz r i,0,none⟩ m 0
def NU(g:Gh)(w:World)(k:HK)(r i j off m:Nat)(bss:List (List (List AV)))(u:Value):Prop :=
 0<m/\match k with
 |.Xl=>(u=.slice none 0 0/\bss=[])\/∃ cap cur T,u=.slice (some ⟨g.row r,0,none⟩) bss.length cap/\bss.length<=cap/\cap<=maxLen/\g.own (g.row r)=.row r/\w.heap[g.row r]?=some (.cells cur T (0,0))/\cur.size=cap /\
  ∀ q b,bss[q]?=some b->∃ v,cur[q]?=some v/\Ge g w r q m b v
 |.dp=>∃ b,bss=[b]/\∃ cur T v,u=.pointer (some ⟨g.row r,i,none⟩)/\g.own (g.row r)=.row r/\w.heap[g.row r]?=some (.cells cur T (0,0))/\cur[i]?=some v/\Ge g w r i m b v
 |.iW=>∃ b,bss=[b]/\Ge g w r i m b u
 |.pR=>∃ c,bss=[[c]]/\c.length=m/\∃ cur T,u=.pointer (some ⟨g.Cz r i,j*m+off,none⟩)/\g.own (g.Cz r i)=.Cz r i/\w.heap[g.Cz r i]?=some (.cells cur T (0,0))/\(j+1)*m<=cur.size /\
  Cu (BX g) w c ⟨g.Cz r i,j*m,none⟩ 0
def Sr(w:World)(ad:Addr)(vs:List Value):Prop:=vs≠[]/\∀ i,i<vs.length->w.cell? (ad.add i)=vs[i]?
def Yz(b:Bool)(ad:Addr)(n:Nat)(u:Value):Prop:=match b with
 | true=>∃ cap,u=.slice (some ad) n cap/\n<=cap/\cap<=maxLen
 | false=>u=.pointer (some ad)
mutual
def VR(g:Gh)(w:World):AV->Value->Prop
 |.undef,_=>True
 |.v x,u=>u=x
 |.agg cs,u=>∃ us,u=.agg us/\Az g w cs us.toList
 |.Bl cs,u=>∃ us,u=.tuple us/\Az g w cs us.toList
 |.sl (.own r lo) n es,u=>CM g w r lo n es u
 |.sl t n es,u=>PR (BX g) w (.sl t n es) u
 |.ptr s off,u=>isMap s=false/\u=.pointer (some ⟨g.box s,off,none⟩)
 |.ep t i cells off,u=>Fz g w t i cells off u
 |.fn f Bi,u=>∃ us,u=.func (.func f) #[] us/\Az g w Bi us.toList
 |.mv f Bi,u=>∃ us,u=.func (.func f) us #[]/\Az g w Bi us.toList
 |.mp s,u=>isMap s=true/\u=.map (some (g.box s))
 |.Gc t x,u=>∃ y,u=.iface t y/\VR g w x y
 |.El k r i j off m bss,u=>NU g w k r i j off m bss u
 |.mem b xs,u=>∃ ad vs,BX g ad.block/\Sr w ad vs/\Az g w xs vs/\Yz b ad vs.length u
def Az(g:Gh)(w:World):List AV->List Value->Prop
 |[],[]=>True
 | c::cs,u::us=>VR g w c u/\Az g w cs us
 |_,_=>False
end
mutual
def AV.kill(S T:List Nat):AV->AV
 |.undef=>.undef
 |.v x=>.v x
 |.agg cs=>.agg (EK S T cs)
 |.Bl cs=>.Bl (EK S T cs)
 |.sl (.own r lo) n es=>if r∈S then .undef else .sl (.own r lo) n es
 |.sl .no n es=>.sl .no n es
 |.sl .full n es=>.sl .full n es
 |.ptr s off=>if s∈T then .undef else .ptr s off
 |.ep (.own r lo) i cells off=>if r∈S then .undef else .ep (.own r lo) i cells off
 |.ep .no i cells off=>.ep .no i cells off
 |.ep .full i cells off=>.ep .full i cells off
 |.fn f Bi=>.fn f (EK S T Bi)
 |.mv f Bi=>.mv f (EK S T Bi)
 |.mp s=>if s∈T then .undef else .mp s
 |.Gc t x=>.Gc t (x.kill S T)
 |.El k r i j off m bss=>if r∈S then .undef else .El k r i j off m bss
 |.mem b xs=>.mem b (EK S T xs)
def EK(S T:List Nat):List AV->List AV
 |[]=>[]
 | c::cs=>c.kill S T::EK S T cs
end
theorem PT(g:Gh)(b:Nat):BX g b=(g.own b=.ro):=rfl
section mono
variable {ro M1:Nat->Prop} {w w':World}
def Ee{w:World}{b:Nat}{o:Obj}(h:w.heap[b]?=some o):b<w.heap.size:=by
 rcases Nat.lt_or_ge b w.heap.size with Au|G9
 ·exact Au
 ·rw[Array.getElem?_eq_none G9]at h;cases h
theorem E6(a:Addr)(n:Nat):(a.add n).block=a.block:=by unfold Addr.add;split<;>rfl
def FK{w:World}{a:Addr}{u:Value}(h:w.cell? a=some u):a.block<w.heap.size:=World.block_lt_of_cell? w a h
def Sr.move{P Q:Nat->Prop}{w w':World}{ad:Addr}{vs:List Value}(hc:Sr w ad vs)(h:∀ b,b<w.heap.size->P b->Q b/\w'.heap[b]?=w.heap[b]?)(h1:P ad.block):Q ad.block/\Sr w' ad vs:=by
 have h0:w.cell? (ad.add 0)=vs[0]?:=hc.2 0 (List.length_pos_iff.2 hc.1);obtain⟨v,hv⟩:∃ v,vs[0]?=some v:=⟨_,List.getElem?_eq_getElem (List.length_pos_iff.2 hc.1)⟩;rw[hv]at h0;have Au:ad.block<w.heap.size:=by
  have:=FK h0;simpa [Addr.add]using this
 obtain⟨q,hh⟩:=h _ Au h1;refine⟨q,hc.1,λi hi=>?_⟩;rw[<- hc.2 i hi];have hb:(ad.add i).block=ad.block:=by simp only[Addr.add];split<;>rfl
 simp only[World.cell?,hb,hh]
mutual
def PR.mono(h:∀ b,b<w.heap.size->ro b->M1 b/\w'.heap[b]?=w.heap[b]?):∀ (x:AV) (u:Value),PR ro w x u->PR M1 w' x u
 |.undef,_,hu=>by simpa [PR]using hu
 |.v x,u,hu=>by simpa [PR]using hu
 |.sl t n es,u,hu=>by
  simp only[PR]at hu ⊢;obtain⟨h0,a,cap,h1,h2,h3,h4,h5,h6⟩:=hu;refine⟨h0,a,cap,h1,h2,h3,h4,h5,?_⟩;rcases h6 with h6|⟨ad,h6,h7,h8⟩
  ·exact .inl h6
  ·match es,h8 with
   |[],_=>exact .inl rfl
   | e::es,h8 =>
    have:=CH.mono h (e::es) ad n 0 h7 h8;refine .inr ⟨ad,h6,?_,this⟩
    match e,n,h5,h8 with
    |[],n,h5,h8 =>
     simp only[CH,List.length_nil]at h8;omega
    | c::cs,n,_,h8 =>
     simp only[CH,Cu]at h8;obtain⟨_,⟨⟨u,hu,_⟩,_⟩,_⟩:=h8;have Au:=FK hu;rw[E6]at Au;exact(h _ Au h7).1
 |.agg _,_,hu=>by simp[PR]at hu
 |.Bl _,_,hu=>by simp[PR]at hu
 |.ptr _ _,_,hu=>by simp[PR]at hu
 |.ep _ _ _ _,_,hu=>by simp[PR]at hu
 |.fn _ _,_,hu=>by simpa only[PR]using hu
 |.mv _ _,_,hu=>by simp[PR]at hu
 |.mp _,_,hu=>by simp[PR]at hu
 |.Gc _ _,_,hu=>by simp[PR]at hu
 |.mem _ _,_,hu=>by simp[PR]at hu
def CH.mono(h:∀ b,b<w.heap.size->ro b->M1 b/\w'.heap[b]?=w.heap[b]?):∀ (es:List (List AV)) (ad:Addr) (n i:Nat),ro ad.block->CH ro w es ad n i->CH M1 w' es ad n i
 |[],_,_,_,_,_=>by simp[CH]
 | e::es,ad,n,i,hr,hu=>by
  simp only[CH]at hu ⊢;exact⟨hu.1,Cu.mono h e ad _ hr hu.2.1,CH.mono h es ad n _ hr hu.2.2⟩
def Cu.mono(h:∀ b,b<w.heap.size->ro b->M1 b/\w'.heap[b]?=w.heap[b]?):∀ (cs:List AV) (ad:Addr) (j:Nat),ro ad.block->Cu ro w cs ad j->Cu M1 w' cs ad j
 |[],_,_,_,_=>by simp[Cu]
 | c::cs,ad,j,hr,hu=>by
  simp only[Cu]at hu ⊢;obtain⟨⟨u,h1,h2⟩,h3⟩:=hu;refine⟨⟨u,?_,PR.mono h c u h2⟩,Cu.mono h cs ad _ hr h3⟩;have Au:=FK h1;rw[World.cell?_of_block (w:=w) (by rw[E6]at Au ⊢;exact(h _ Au hr).2)];exact h1
end
def Cu.Cv(h:∀ b,b<w.heap.size->ro b->M1 b/\w'.heap[b]?=w.heap[b]?):∀ (cs:List AV) (ad:Addr) (j:Nat),w'.heap[ad.block]?=w.heap[ad.block]?->Cu ro w cs ad j->Cu M1 w' cs ad j
 |[],_,_,_,_=>by simp[Cu]
 | c::cs,ad,j,hr,hu=>by
  simp only[Cu]at hu ⊢;obtain⟨⟨u,h1,h2⟩,h3⟩:=hu;refine⟨⟨u,?_,PR.mono h c u h2⟩,Cu.Cv h cs ad _ hr h3⟩;rw[World.cell?_of_block (w:=w) (by rw[E6];exact hr)];exact h1
def CH.Cv(h:∀ b,b<w.heap.size->ro b->M1 b/\w'.heap[b]?=w.heap[b]?):∀ (es:List (List AV)) (ad:Addr) (n i:Nat),w'.heap[ad.block]?=w.heap[ad.block]?->CH ro w es ad n i->CH M1 w' es ad n i
 |[],_,_,_,_,_=>by simp[CH]
 | e::es,ad,n,i,hr,hu=>by
  simp only[CH]at hu ⊢;exact⟨hu.1,Cu.Cv h e ad _ hr hu.2.1,CH.Cv h es ad n _ hr hu.2.2⟩
end mono
structure Lasts(S T:List Nat)(g:Gh)(w:World)(g':Gh)(w':World):Prop where
 ro:∀ b,b<w.heap.size->g.own b=.ro->g'.own b=.ro/\w'.heap[b]?=w.heap[b]?
 row:∀ b q,b<w.heap.size->q∉S->g.own b=.row q->g'.own b=.row q/\w'.heap[b]?=w.heap[b]?
 rows:∀ q,q∉S->g'.row q=g.row q
 boxes:∀ s,s∉T->g'.box s=g.box s
 Cz:∀ b q i,b<w.heap.size->q∉S->g.own b=.Cz q i->g'.own b=.Cz q i/\w'.heap[b]?=w.heap[b]?
 cc:∀ q i,q∉S->g'.Cz q i=g.Cz q i
def Lasts.M1{S T:List Nat}{g g':Gh}{w w':World}(h:Lasts S T g w g' w'):∀ b,b<w.heap.size->BX g b->BX g' b/\w'.heap[b]?=w.heap[b]?:=h.ro
structure WZ(g:Gh)(w:World)(r:Nat)(g':Gh)(w':World)(r':Nat):Prop where
 ro:∀ b,b<w.heap.size->BX g b->BX g' b/\w'.heap[b]?=w.heap[b]?
 row:g'.row r'=g.row r
 Cz:∀ i,g'.Cz r' i=g.Cz r i
 own:g.row r<w.heap.size->g.own (g.row r)=.row r->g'.own (g.row r)=.row r'/\w'.heap[g.row r]?=w.heap[g.row r]?
 vc:∀ i,g.Cz r i<w.heap.size->g.own (g.Cz r i)=.Cz r i->g'.own (g.Cz r i)=.Cz r' i/\w'.heap[g.Cz r i]?=w.heap[g.Cz r i]?
def Ge.map{g g':Gh}{w w':World}{r r':Nat}(h:WZ g w r g' w' r'){i m:Nat}{b:List (List AV)}{u:Value}(hu:Ge g w r i m b u):Ge g' w' r' i m b u:=by
 rcases hu with hu|⟨cap,cur,T,h1,h2,h3,h4,h5,h6,h7⟩
 ·exact .inl hu
 ·obtain⟨k1,k2⟩:=h.vc i (Ee h5) h4;refine .inr ⟨cap,cur,T,?_,h2,h3,?_,?_,h6,?_⟩
  ·rw[h.Cz];exact h1
  ·rw[h.Cz];exact k1
  ·rw[h.Cz,k2];exact h5
  ·rw[h.Cz];exact CH.Cv h.ro b _ m 0 k2 h7
def NU.map{g g':Gh}{w w':World}{r r':Nat}(h:WZ g w r g' w' r'){k:HK}{i j off m:Nat}{bss:List (List (List AV))}{u:Value}(hu:NU g w k r i j off m bss u):NU g' w' k r' i j off m bss u:=by
 obtain⟨hm,hu⟩:=hu;refine⟨hm,?_⟩;cases k with
 | Xl =>
  rcases hu with hu|⟨cap,cur,T,h1,h2,h3,h4,h5,h6,h7⟩
  ·exact .inl hu
  ·obtain⟨k1,k2⟩:=h.own (Ee h5) h4;refine .inr ⟨cap,cur,T,?_,h2,h3,?_,?_,h6,λq b hq=>?_⟩
   ·rw[h.row];exact h1
   ·rw[h.row];exact k1
   ·rw[h.row,k2];exact h5
   ·obtain⟨v,hv,hi⟩:=h7 q b hq;exact⟨v,hv,hi.map h⟩
 | dp =>
  obtain⟨b,hb,cur,T,v,h1,h4,h5,h6,h7⟩:=hu;obtain⟨k1,k2⟩:=h.own (Ee h5) h4;refine⟨b,hb,cur,T,v,?_,?_,?_,h6,h7.map h⟩
  ·rw[h.row];exact h1
  ·rw[h.row];exact k1
  ·rw[h.row,k2];exact h5
 | iW =>
  obtain⟨b,hb,hi⟩:=hu;exact⟨b,hb,hi.map h⟩
 | pR =>
  obtain⟨c,hc,hl,cur,T,h1,h4,h5,h6,h7⟩:=hu;obtain⟨k1,k2⟩:=h.vc i (Ee h5) h4;refine⟨c,hc,hl,cur,T,?_,?_,?_,h6,?_⟩
  ·rw[h.Cz];exact h1
  ·rw[h.Cz];exact k1
  ·rw[h.Cz,k2];exact h5
  ·rw[h.Cz];exact Cu.Cv h.ro c _ 0 k2 h7
def Lasts.El{S T:List Nat}{g g':Gh}{w w':World}(h:Lasts S T g w g' w'){r:Nat}(hr:r∉S):WZ g w r g' w' r where
 ro:=h.ro
 row:=h.rows r hr
 Cz:=λi=>h.cc r i hr
 own:=λAu ho=>h.row _ r Au hr ho
 vc:=λi Au ho=>h.Cz _ r i Au hr ho
mutual
def VR.lasts{S T:List Nat}{g g':Gh}{w w':World}(h:Lasts S T g w g' w'):∀ (x:AV) (u:Value),VR g w x u->VR g' w' (x.kill S T) u
 |.undef,_,_=>by simp[AV.kill,VR]
 |.v x,u,hu=>by simpa [AV.kill,VR]using hu
 |.agg cs,u,hu=>by
  simp only[AV.kill,VR]at hu ⊢;obtain⟨us,h1,h2⟩:=hu;exact⟨us,h1,Az.lasts h cs us.toList h2⟩
 |.Bl cs,u,hu=>by
  simp only[AV.kill,VR]at hu ⊢;obtain⟨us,h1,h2⟩:=hu;exact⟨us,h1,Az.lasts h cs us.toList h2⟩
 |.sl (.own r lo) n es,u,hu=>by
  simp only[AV.kill];split
  ·simp[VR]
  ·rename_i hr;simp only[VR,CM]at hu ⊢;refine⟨hu.1,?_⟩;rcases hu.2 with hu|hu|⟨cap,cur,T',h1,h2,h3,h5,h6,h7,h8⟩
   ·exact .inl hu
   ·exact .inr (.inl hu)
   ·have Au:=Ee h6;obtain⟨k1,k2⟩:=h.row _ r Au hr h5;have MF:=h.rows r hr;refine .inr (.inr ⟨cap,cur,T',?_,h2,h3,?_,?_,h7,?_⟩)
    ·rw[MF];exact h1
    ·rw[MF];exact k1
    ·rw[MF,k2];exact h6
    ·rw[MF];exact CH.Cv h.M1 es _ n 0 k2 h8
 |.sl .no n es,u,hu=>by
  simp only[AV.kill,VR]at hu ⊢;exact PR.mono h.M1 _ u hu
 |.sl .full n es,u,hu=>by
  simp only[AV.kill,VR]at hu ⊢;exact PR.mono h.M1 _ u hu
 |.ptr s off,u,hu=>by
  simp only[AV.kill];split
  ·simp[VR]
  ·rename_i hs;simp only[VR]at hu ⊢;rw[h.boxes s hs];exact hu
 |.mp s,u,hu=>by
  simp only[AV.kill];split
  ·simp[VR]
  ·rename_i hs;simp only[VR]at hu ⊢;rw[h.boxes s hs];exact hu
 |.ep (.own r lo) i cells off,u,hu=>by
  simp only[AV.kill];split
  ·simp[VR]
  ·rename_i hr;simp only[VR,Fz]at hu ⊢;obtain⟨cur,T',h1,h2,h3,h4,h5⟩:=hu;have Au:=Ee h3;obtain⟨k1,k2⟩:=h.row _ r Au hr h2;have MF:=h.rows r hr;refine⟨cur,T',?_,?_,?_,h4,?_⟩
   ·rw[MF];exact h1
   ·rw[MF];exact k1
   ·rw[MF,k2];exact h3
   ·rw[MF];exact Cu.Cv h.M1 cells _ 0 k2 h5
 |.ep .no i cells off,u,hu=>by
  simp only[AV.kill,VR,Fz]at hu ⊢;obtain⟨ad,h1,h0,h2,h3⟩:=hu
  match cells,h0,h3 with
  | c::cs,h0,h3 =>
   have UP:=h3;simp only[Cu]at UP;obtain⟨⟨u',V8,_⟩,_⟩:=UP;have Au:=FK V8;rw[E6]at Au;exact⟨ad,h1,h0,(h.ro _ Au h2).1,Cu.mono h.M1 _ ad 0 h2 h3⟩
 |.ep .full i cells off,u,hu=>by
  simp only[AV.kill,VR,Fz]at hu ⊢;obtain⟨ad,h1,h0,h2,h3⟩:=hu
  match cells,h0,h3 with
  | c::cs,h0,h3 =>
   have UP:=h3;simp only[Cu]at UP;obtain⟨⟨u',V8,_⟩,_⟩:=UP;have Au:=FK V8;rw[E6]at Au;exact⟨ad,h1,h0,(h.ro _ Au h2).1,Cu.mono h.M1 _ ad 0 h2 h3⟩
 |.fn f Bi,u,hu=>by
  simp only[AV.kill,VR]at hu ⊢;obtain⟨us,h1,h2⟩:=hu;exact⟨us,h1,Az.lasts h Bi us.toList h2⟩
 |.mv f Bi,u,hu=>by
  simp only[AV.kill,VR]at hu ⊢;obtain⟨us,h1,h2⟩:=hu;exact⟨us,h1,Az.lasts h Bi us.toList h2⟩
 |.Gc t x,u,hu=>by
  simp only[AV.kill,VR]at hu ⊢;obtain⟨y,h1,h2⟩:=hu;exact⟨y,h1,VR.lasts h x y h2⟩
 |.El k r i j off m bss,u,hu=>by
  simp only[AV.kill];split
  ·simp[VR]
  ·rename_i hr;simp only[VR]at hu ⊢;exact hu.map (h.El hr)
 |.mem b xs,u,hu=>by
  simp only[AV.kill,VR]at hu ⊢;obtain⟨ad,vs,h1,h2,h3,h4⟩:=hu;obtain⟨k1,k2⟩:=h2.move h.M1 h1;exact⟨ad,vs,k1,k2,Az.lasts h xs vs h3,h4⟩
def Az.lasts{S T:List Nat}{g g':Gh}{w w':World}(h:Lasts S T g w g' w'):∀ (cs:List AV) (us:List Value),Az g w cs us->Az g' w' (EK S T cs) us
 |[],[],_=>by simp[EK,Az]
 |[],_::_,hu=>by simp[Az]at hu
 |_::_,[],hu=>by simp[Az]at hu
 | c::cs,u::us,hu=>by
  simp only[EK,Az]at hu ⊢;exact⟨VR.lasts h c u hu.1,Az.lasts h cs us hu.2⟩
end
end Go.Abs
namespace Go.Abs
structure Ctx where
 P:Program
 G:Nat->Option (List AV)
structure St where
 tmps:List (Nat × AV)
 Ah:List (Nat × List AV)
def lk{α:Type}(k:Nat):List (Nat × α)->Option α
 |[]=>none
 |(j,x)::l=>if j=k then some x else lk k l
def MH(S T:List Nat):List (Nat × AV)->List (Nat × AV)
 |[]=>[]
 |(k,x)::l=>(k,x.kill S T)::MH S T l
def IB(S T:List Nat):List (Nat × List AV)->List (Nat × List AV)
 |[]=>[]
 |(k,x)::l=>if k∈T then IB S T l else (k,EK S T x)::IB S T l
def St.kill(S T:List Nat)(st:St):St:=⟨MH S T st.tmps,IB S T st.Ah⟩
def St.put(d:Option Nat)(x:AV)(st:St):St :=
 match d with
 |some k=>⟨(k,x)::st.tmps,st.Ah⟩
 |none=>st
def ev(C:Ctx)(st:St):Operand->AV
 |.tmp t=>(lk t st.tmps).getD .undef
 |.const v=>.v v
 |.func f=>.fn f []
 |.global i=>match C.G i with
  |some cs=>.ep .no 0 cs 0
  |none=>.undef
structure A0 where
 w:World
 g:Gh
 ext:List Nat
def A0.fixed(A:A0)(b:Nat):Prop:=A.g.own b=.ro\/A.g.own b=.other
def I5(w w':World):Prop:=w'.tape=w.tape/\w.drawn<=w'.drawn
structure Fr(C:Ctx)(A:A0)(g:Gh)(w:World):Prop where
 os:w.os=A.w.os
 tape:I5 A.w w
 output:w.output=A.w.output
 size:A.w.heap.size<=w.heap.size
 EE:∀ b,b<A.w.heap.size->A.fixed b->w.heap[b]?=A.w.heap[b]?/\g.own b=A.g.own b
 box:∀ s,s∈A.ext->g.box s=A.g.box s
 glob:∀ i cs,C.G i=some cs->0<cs.length/\BX g i/\Cu (BX g) w cs ⟨i,0,none⟩ 0
def Dc:List MapEntry->List Value
 |[]=>[]
 | e::es=>e.key::e.val::Dc es
def DO(g:Gh)(w:World)(s:Nat)(cs:List AV):Prop :=
 g.own (g.box s)=.box s/\((isMap s=false/\∃ cur T,w.heap[g.box s]?=some (.cells cur T (0,0))/\Az g w cs cur.toList) \/
  (isMap s=true/\∃ es Vy,w.heap[g.box s]?=some (.map es Vy)/\Az g w cs (Dc es.toList)))
def DO.lift{g g':Gh}{w w':World}{s s':Nat}{cs Mp:List AV}(h:DO g w s cs)(hk:isMap s'=isMap s)(ho:g'.own (g'.box s')=.box s')(hh:w'.heap[g'.box s']?=w.heap[g.box s]?)
 (hv:∀ us,Az g w cs us->Az g' w' Mp us):DO g' w' s' Mp:=by
 obtain⟨_,⟨h1,cur,T,h2,h3⟩|⟨h1,es,Vy,h2,h3⟩⟩:=h
 ·exact⟨ho,.inl ⟨hk.trans h1,cur,T,hh.trans h2,hv _ h3⟩⟩
 ·exact⟨ho,.inr ⟨hk.trans h1,es,Vy,hh.trans h2,hv _ h3⟩⟩
def DO.cells{g:Gh}{w:World}{s:Nat}{cs:List AV}(h:DO g w s cs)(hk:isMap s=false):∃ cur T,w.heap[g.box s]?=some (.cells cur T (0,0))/\Az g w cs cur.toList:=by
 obtain⟨_,⟨_,h⟩|⟨h1,_⟩⟩:=h
 ·exact h
 ·rw[hk]at h1;cases h1
structure R(C:Ctx)(A:A0)(N:Nat)(g:Gh)(st:St)(a:Act)(w:World):Prop where
 size:a.tmps.size=N
 defs:a.defers=[]
 tm:∀ k x,lk k st.tmps=some x->∃ u,a.tmps[k]?=some u/\VR g w x u
 ob:∀ s cs,lk s st.Ah=some cs->DO g w s cs
 fr:Fr C A g w
def Ud(S T:List Nat)(k:Nat):∀ l:List (Nat × AV),lk k (MH S T l)=(lk k l).map (·.kill S T)
 |[]=>rfl
 |(j,x)::l=>by
  simp only[MH,lk];split
  ·rfl
  ·exact Ud S T k l
def Uc(S T:List Nat)(k:Nat):∀ l:List (Nat × List AV),lk k (IB S T l)=if k∈T then none else (lk k l).map (EK S T)
 |[]=>by simp[IB,lk]
 |(j,x)::l=>by
  simp only[IB]
  by_cases hj:j∈T
  ·simp only[hj,if_true];rw[Uc S T k l]
   by_cases hk:k∈T
   ·simp[hk]
   ·have:j≠k:=λe=>hk (e▸hj)
    simp[hk,lk,this]
  ·simp only[hj,if_false,lk]
   by_cases Zx:j=k
   ·subst Zx;simp[hj]
   ·simp only[Zx,if_false];exact Uc S T k l
section
variable {C:Ctx} {A:A0} {N:Nat} {g g':Gh} {st:St} {a:Act} {w w':World}
def Az.length:∀ {cs:List AV} {us:List Value},Az g w cs us->cs.length=us.length
 |[],[],_=>rfl
 |[],_::_,h=>by simp[Az]at h
 |_::_,[],h=>by simp[Az]at h
 | c::cs,u::us,h=>by
  simp only[Az]at h;simp[Az.length h.2]
def Fr.step(h:Fr C A g w){S T:List Nat}(hl:Lasts S T g w g' w')(gK:w'.os=w.os)(RT:I5 w w')(Ve:w'.output=w.output)(Ec:w.heap.size<=w'.heap.size)
 (OF:∀ b,b<w.heap.size->g.own b=.other->g'.own b=.other/\w'.heap[b]?=w.heap[b]?) (H6:∀ s,s∈A.ext->s∉T):Fr C A g' w' where
 os:=gK.trans h.os
 tape:=⟨RT.1.trans h.tape.1,Nat.le_trans h.tape.2 RT.2⟩
 output:=Ve.trans h.output
 size:=Nat.le_trans h.size Ec
 EE:=λb hb hf=>by
  have hk:=h.EE b hb hf;have Au:b<w.heap.size:=Nat.lt_of_lt_of_le hb h.size;rcases hf with hf|hf
  ·have:=hl.ro b Au (hk.2.trans hf);exact⟨this.2.trans hk.1,this.1.trans hf.symm⟩
  ·have:=OF b Au (hk.2.trans hf);exact⟨this.2.trans hk.1,this.1.trans hf.symm⟩
 box:=λs hs=>(hl.boxes s (H6 s hs)).trans (h.box s hs)
 glob:=λi cs hi=>by
  obtain⟨h1,h2,h3⟩:=h.glob i cs hi
  match cs,h1,h3 with
  | c::cs,h1,h3 =>
   have UP:=h3;simp only[Cu]at UP;obtain⟨⟨u,hu,_⟩,_⟩:=UP;have Au:=FK hu;rw[E6]at Au;exact⟨h1,(hl.ro i Au h2).1,Cu.mono hl.M1 _ ⟨i,0,none⟩ 0 h2 h3⟩
def R.lasts(h:R C A N g st a w){S T:List Nat}(hl:Lasts S T g w g' w')(Gq:Fr C A g' w')
 (AaL:∀ s cs,lk s st.Ah=some cs->s∉T->g'.own (g.box s)=.box s/\w'.heap[g.box s]?=w.heap[g.box s]?):R C A N g' (st.kill S T) a w' where
 size:=h.size
 defs:=h.defs
 tm:=λk x hx=>by
  simp only[St.kill,Ud]at hx;obtain⟨y,hy,rfl⟩:=Option.map_eq_some_iff.1 hx;obtain⟨u,hu,hv⟩:=h.tm k y hy;exact⟨u,hu,VR.lasts hl y u hv⟩
 ob:=λs cs hs=>by
  simp only[St.kill,Uc]at hs
  by_cases hT:s∈T
  ·simp[hT]at hs
  ·simp only[hT,if_false]at hs;obtain⟨y,hy,rfl⟩:=Option.map_eq_some_iff.1 hs;obtain⟨k1,k2⟩:=AaL s y hy hT;exact(h.ob s y hy).lift rfl (by rw[hl.boxes s hT];exact k1) (by rw[hl.boxes s hT];exact k2) (λus hu=>Az.lasts hl _ _ hu)
 fr:=Gq
def R.put(h:R C A N g st a w){d:Option Nat}(hd:∀ k,d=some k->k<N){x:AV}{u:Value}(hx:VR g w x u):R C A N g (st.put d x) (a.put d u) w:=by
 cases d with
 |none=>exact h
 |some k =>
  have hk:=hd k rfl;refine⟨by simp[Act.put,h.size],by simp[Act.put,h.defs],λj y hy=>?_,h.ob,h.fr⟩;simp only[St.put,lk]at hy
  by_cases Zx:k=j
  ·subst Zx;simp only[if_true,Option.some.injEq]at hy;subst hy;refine⟨u,?_,hx⟩;simp[Act.put,h.size,hk]
  ·simp only[Zx,if_false]at hy;obtain⟨v,hv,hr⟩:=h.tm j y hy;exact⟨v,by simp[Act.put,Array.getElem?_setIfInBounds_ne Zx,hv],hr⟩
def R.ev(h:R C A N g st a w)(x:Operand):VR g w (ev C st x) (a.eval x):=by
 cases x with
 | tmp t =>
  simp only[Abs.ev];cases ht:lk t st.tmps with
  |none=>simp[VR]
  |some y =>
   obtain⟨u,hu,hv⟩:=h.tm t y ht;have:a.eval (.tmp t)=u:=by simp[Act.eval,hu]
   rw[this];exact hv
 | const v=>simp[Abs.ev,VR,Act.eval]
 | func f=>exact⟨#[],rfl,by simp[Az]⟩
 | global i =>
  simp only[Abs.ev];cases hi:C.G i with
  |none=>simp[VR]
  |some cs =>
   obtain⟨h1,h2,h3⟩:=h.fr.glob i cs hi;exact⟨⟨i,0,none⟩,rfl,h1,h2,h3⟩
end
def Hx:AV->Option AV
 |.undef=>some .undef
 |.v x=>some (.v x)
 |.sl (.own r 0) n es=>some (.sl .no n es)
 |.sl .no n es=>some (.sl .no n es)
 |.sl .full n es=>some (.sl .full n es)
 |.fn f []=>some (.fn f [])
 |_=>none
def MY:List AV->Option (List AV)
 |[]=>some []
 | c::cs=>match Hx c,MY cs with
  |some x,some xs=>some (x::xs)
  |_,_=>none
def rowsOf:List AV->List Nat
 |[]=>[]
 |.sl (.own r 0) _ _::cs=>r::rowsOf cs
 |_::cs=>rowsOf cs
def frozen(k:HK)(m:Nat)(bss:List (List (List AV))):AV:=match k,bss with
 |.Xl,bss=>.sl .no 1 (bss.map λb=>[.sl .no m b])
 |.iW,[b]=>.sl .no m b
 |_,_=>.undef
mutual
def AV.freeze(S:List Nat):AV->AV
 |.undef=>.undef
 |.v x=>.v x
 |.agg cs=>.agg (DF S cs)
 |.Bl cs=>.Bl (DF S cs)
 |.sl (.own r lo) n es=>if r∈S then .sl .no n es else .sl (.own r lo) n es
 |.sl .no n es=>.sl .no n es
 |.sl .full n es=>.sl .full n es
 |.ptr s off=>.ptr s off
 |.ep (.own r lo) i cells off=>if r∈S then .undef else .ep (.own r lo) i cells off
 |.ep .no i cells off=>.ep .no i cells off
 |.ep .full i cells off=>.ep .full i cells off
 |.fn f Bi=>.fn f (DF S Bi)
 |.mv f Bi=>.mv f (DF S Bi)
 |.mp o=>.mp o
 |.Gc t x=>.Gc t (x.freeze S)
 |.El k r i j off m bss=>if r∈S then frozen k m bss else .El k r i j off m bss
 |.mem b xs=>.mem b (DF S xs)
def DF(S:List Nat):List AV->List AV
 |[]=>[]
 | c::cs=>c.freeze S::DF S cs
end
def Gh.freeze(S:List Nat)(g:Gh):Gh :=
 { g with own:=λb=>match g.own b with
   |.row r=>if r∈S then .ro else .row r
   |.Cz r i=>if r∈S then .ro else .Cz r i
   | o=>o }
section
variable {C:Ctx} {A:A0} {N:Nat} {g g':Gh} {st:St} {a:Act} {w w':World} {S:List Nat}
def IX(b:Nat)(h:g.own b=.ro):(g.freeze S).own b=.ro:=by simp[Gh.freeze,h]
def OD(b r:Nat)(h:g.own b=.row r)(hr:r∈S):(g.freeze S).own b=.ro:=by simp[Gh.freeze,h,hr]
def MD(b r:Nat)(h:g.own b=.row r)(hr:r∉S):(g.freeze S).own b=.row r:=by simp[Gh.freeze,h,hr]
def bO(b s:Nat)(h:g.own b=.box s):(g.freeze S).own b=.box s:=by simp[Gh.freeze,h]
def XL(b:Nat)(h:g.own b=.other):(g.freeze S).own b=.other:=by simp[Gh.freeze,h]
def FP:∀ b,b<w.heap.size->BX g b->BX (g.freeze S) b/\w.heap[b]?=w.heap[b]?:=λb _ h=>⟨IX b h,rfl⟩
def bP(b r i:Nat)(h:g.own b=.Cz r i)(hr:r∈S):(g.freeze S).own b=.ro:=by simp[Gh.freeze,h,hr]
def Zn(b r i:Nat)(h:g.own b=.Cz r i)(hr:r∉S):(g.freeze S).own b=.Cz r i:=by simp[Gh.freeze,h,hr]
def NV{w:World}{b:Nat}{cur:Array Value}{T:TypeId}{fz:Nat × Nat}(h:w.heap[b]?=some (.cells cur T fz))(q:Nat):w.cell? ((⟨b,0,none⟩:Addr).add q)=cur[q]?:=by
 rw[Addr.add_lit];simp[World.cell?,h]
def Vo{ro:Nat->Prop}{m:Nat}{ad:Addr}:∀ (bss:List (List (List AV))) (k:Nat),(∀ q b,bss[q]?=some b->∃ v,w.cell? (ad.add (k+q))=some v/\PR ro w (.sl .no m b) v)->CH ro w (bss.map λb=>[.sl .no m b]) ad 1 k
 |[],_,_=>by simp[CH]
 | b::bss,k,h=>by
  simp only[List.map_cons,CH,Cu,List.length_cons,List.length_nil,Nat.mul_one,Nat.zero_add,and_true,true_and];refine⟨?_,Vo bss (k+1) λq b' hq=>?_⟩
  ·obtain⟨v,h1,h2⟩:=h 0 b rfl;exact⟨v,by simpa using h1,h2⟩
  ·have:=h (q+1) b' (by simpa using hq)
   rwa [show k+(q+1)=k+1+q by omega]at this
def Ge.pr(V7:∀ b,b<w.heap.size->BX g b->BX g' b/\w.heap[b]?=w.heap[b]?){r i m:Nat}(hm:0<m)(ho:g.own (g.Cz r i)=.Cz r i->g'.own (g.Cz r i)=.ro){b:List (List AV)}{u:Value}(h:Ge g w r i m b u):PR (BX g') w (.sl .no m b) u:=by
 simp only[PR];refine⟨(λ_ _ h=>by cases h),?_⟩;rcases h with ⟨rfl,a,cap,h1,h2⟩|⟨cap,cur,T,h1,h2,h3,h4,h5,h6,h7⟩
 ·exact⟨a,cap,h1,Nat.zero_le _,h2,(by intro h;cases h),hm,.inl rfl⟩
 ·exact⟨some ⟨g.Cz r i,0,none⟩,cap,h1,h2,h3,(by intro h;cases h),hm,.inr ⟨⟨g.Cz r i,0,none⟩,rfl,ho h4,CH.Cv V7 b _ m 0 rfl h7⟩⟩
def NU.frozen(V7:∀ b,b<w.heap.size->BX g b->BX g' b/\w.heap[b]?=w.heap[b]?){k:HK}{r i j off m:Nat}{bss:List (List (List AV))}{u:Value}(hr:g.own (g.row r)=.row r->g'.own (g.row r)=.ro)
 (ho:∀ i,g.own (g.Cz r i)=.Cz r i->g'.own (g.Cz r i)=.ro) (h:NU g w k r i j off m bss u):VR g' w (Abs.frozen k m bss) u:=by
 obtain⟨hm,h⟩:=h;cases k with
 | Xl =>
  simp only[Abs.frozen,VR,PR];refine⟨(λ_ _ h=>by cases h),?_⟩;rcases h with ⟨h1,rfl⟩|⟨cap,cur,T,h1,h2,h3,h4,h5,h6,h7⟩
  ·exact⟨none,0,by simpa using h1,by simp,by simp[maxLen],(by intro h;cases h),by omega,.inl rfl⟩
  ·refine⟨some ⟨g.row r,0,none⟩,cap,by rw[List.length_map];exact h1,by rw[List.length_map];exact h2,h3,(by intro h;cases h),by omega,.inr ⟨⟨g.row r,0,none⟩,rfl,hr h4,Vo bss 0 λq b hq=>?_⟩⟩;obtain⟨v,hv,hi⟩:=h7 q b hq;exact⟨v,by rw[Nat.zero_add,NV h5];exact hv,hi.pr V7 hm (ho q)⟩
 | dp=>simp only[Abs.frozen,VR]
 | iW =>
  obtain⟨b,rfl,hi⟩:=h;simp only[Abs.frozen,VR];exact hi.pr V7 hm (ho i)
 | pR=>simp only[Abs.frozen,VR]
mutual
def VR.freeze:∀ (x:AV) (u:Value),VR g w x u->VR (g.freeze S) w (x.freeze S) u
 |.undef,_,_=>by simp[AV.freeze,VR]
 |.v x,u,hu=>by simpa [AV.freeze,VR]using hu
 |.agg cs,u,hu=>by
  simp only[AV.freeze,VR]at hu ⊢;obtain⟨us,h1,h2⟩:=hu;exact⟨us,h1,Az.freeze cs us.toList h2⟩
 |.Bl cs,u,hu=>by
  simp only[AV.freeze,VR]at hu ⊢;obtain⟨us,h1,h2⟩:=hu;exact⟨us,h1,Az.freeze cs us.toList h2⟩
 |.sl (.own r lo) n es,u,hu=>by
  simp only[AV.freeze];split
  ·rename_i hr;simp only[VR,CM,PR]at hu ⊢;refine⟨(λ_ _ h=>by cases h),?_⟩;rcases hu.2 with ⟨h1,h2⟩|⟨_,h2,a',cap,h3,h4⟩|⟨cap,cur,T',h1,h2,h3,h5,h6,h7,h8⟩
   ·subst h2;exact⟨_,0,h1,by simp,by simp[maxLen],(by intro h;cases h),hu.1,.inl rfl⟩
   ·subst h2;exact⟨_,cap,h3,by simp,h4,(by intro h;cases h),hu.1,.inl rfl⟩
   ·refine⟨_,cap,h1,h2,by omega,(by intro h;cases h),hu.1,.inr ⟨_,rfl,OD _ r h5 hr,?_⟩⟩;exact CH.Cv FP es _ n 0 rfl h8
  ·rename_i hr;simp only[VR,CM]at hu ⊢;refine⟨hu.1,?_⟩;rcases hu.2 with hu|hu|⟨cap,cur,T',h1,h2,h3,h5,h6,h7,h8⟩
   ·exact .inl hu
   ·exact .inr (.inl hu)
   ·exact .inr (.inr ⟨cap,cur,T',h1,h2,h3,MD _ r h5 hr,h6,h7,CH.Cv FP es _ n 0 rfl h8⟩)
 |.sl .no n es,u,hu=>by
  simp only[AV.freeze,VR]at hu ⊢;exact PR.mono FP _ u hu
 |.sl .full n es,u,hu=>by
  simp only[AV.freeze,VR]at hu ⊢;exact PR.mono FP _ u hu
 |.ptr s off,u,hu=>by simpa [AV.freeze,VR,Gh.freeze]using hu
 |.mp s,u,hu=>by simpa [AV.freeze,VR,Gh.freeze]using hu
 |.ep (.own r lo) i cells off,u,hu=>by
  simp only[AV.freeze];split
  ·simp[VR]
  ·rename_i hr;simp only[VR,Fz]at hu ⊢;obtain⟨cur,T',h1,h2,h3,h4,h5⟩:=hu;exact⟨cur,T',h1,MD _ r h2 hr,h3,h4,Cu.Cv FP cells _ 0 rfl h5⟩
 |.ep .no i cells off,u,hu=>by
  simp only[AV.freeze,VR,Fz]at hu ⊢;obtain⟨ad,h1,h0,h2,h3⟩:=hu;exact⟨ad,h1,h0,IX _ h2,Cu.mono FP _ ad 0 h2 h3⟩
 |.ep .full i cells off,u,hu=>by
  simp only[AV.freeze,VR,Fz]at hu ⊢;obtain⟨ad,h1,h0,h2,h3⟩:=hu;exact⟨ad,h1,h0,IX _ h2,Cu.mono FP _ ad 0 h2 h3⟩
 |.fn f Bi,u,hu=>by
  simp only[AV.freeze,VR]at hu ⊢;obtain⟨us,h1,h2⟩:=hu;exact⟨us,h1,Az.freeze Bi us.toList h2⟩
 |.mv f Bi,u,hu=>by
  simp only[AV.freeze,VR]at hu ⊢;obtain⟨us,h1,h2⟩:=hu;exact⟨us,h1,Az.freeze Bi us.toList h2⟩
 |.Gc t x,u,hu=>by
  simp only[AV.freeze,VR]at hu ⊢;obtain⟨y,h1,h2⟩:=hu;exact⟨y,h1,VR.freeze x y h2⟩
 |.El k r i j off m bss,u,hu=>by
  simp only[AV.freeze];split
  ·rename_i hr;simp only[VR]at hu;exact hu.frozen FP (λh=>OD _ r h hr) (λi h=>bP _ r i h hr)
  ·rename_i hr;simp only[VR]at hu ⊢;exact hu.map ⟨FP,rfl,λ_=>rfl,λ_ h=>⟨MD _ r h hr,rfl⟩,λi _ h=>⟨Zn _ r i h hr,rfl⟩⟩
 |.mem b xs,u,hu=>by
  simp only[AV.freeze,VR]at hu ⊢;obtain⟨ad,vs,h1,h2,h3,h4⟩:=hu;exact⟨ad,vs,IX _ h1,h2,Az.freeze xs vs h3,h4⟩
def Az.freeze:∀ (cs:List AV) (us:List Value),Az g w cs us->Az (g.freeze S) w (DF S cs) us
 |[],[],_=>by simp[DF,Az]
 |[],_::_,hu=>by simp[Az]at hu
 |_::_,[],hu=>by simp[Az]at hu
 | c::cs,u::us,hu=>by
  simp only[DF,Az]at hu ⊢;exact⟨VR.freeze c u hu.1,Az.freeze cs us hu.2⟩
end
end
end Go.Abs
namespace Go.Abs
def B3(ro:Nat->Prop)(w:World):List AV->List Value->Prop
 |[],[]=>True
 | c::cs,u::us=>PR ro w c u/\B3 ro w cs us
 |_,_=>False
section
variable {ro M1:Nat->Prop} {w w':World}
def B3.length:∀ {cs:List AV} {us:List Value},B3 ro w cs us->cs.length=us.length
 |[],[],_=>rfl
 |[],_::_,h=>by simp[B3]at h
 |_::_,[],h=>by simp[B3]at h
 | c::cs,u::us,h=>by
  simp only[B3]at h;simp[B3.length h.2]
def B3.mono(h:∀ b,b<w.heap.size->ro b->M1 b/\w'.heap[b]?=w.heap[b]?):∀ {cs:List AV} {us:List Value},B3 ro w cs us->B3 M1 w' cs us
 |[],[],_=>by simp[B3]
 |[],_::_,hu=>by simp[B3]at hu
 |_::_,[],hu=>by simp[B3]at hu
 | c::cs,u::us,hu=>by
  simp only[B3]at hu ⊢;exact⟨PR.mono h _ _ hu.1,B3.mono h hu.2⟩
def B3.append:∀ {cs ds:List AV} {us vs:List Value},B3 ro w cs us->B3 ro w ds vs->B3 ro w (cs++ds) (us++vs)
 |[],_,[],_,_,h=>by simpa using h
 |[],_,_::_,_,hu,_=>by simp[B3]at hu
 |_::_,_,[],_,hu,_=>by simp[B3]at hu
 | c::cs,ds,u::us,vs,hu,h=>by
  simp only[List.cons_append,B3]at hu ⊢;exact⟨hu.1,B3.append hu.2 h⟩
def B3.get:∀ {cs:List AV} {us:List Value},B3 ro w cs us->∀ (i:Nat) (c:AV),cs[i]?=some c->∃ u,us[i]?=some u/\PR ro w c u
 |[],_,_,i,c,h=>by simp at h
 |_::_,[],hu,_,_,_=>by simp[B3]at hu
 | c::cs,u::us,hu,0,d,h=>by
  simp only[B3]at hu;simp at h;subst h;exact⟨u,by simp,hu.1⟩
 | c::cs,u::us,hu,i+1,d,h=>by
  simp only[B3]at hu;simp at h;obtain⟨v,h1,h2⟩:=B3.get hu.2 i d h;exact⟨v,by simpa using h1,h2⟩
def B3.take:∀ {cs:List AV} {us:List Value} (n:Nat),B3 ro w cs us->B3 ro w (cs.take n) (us.take n)
 |_,_,0,_=>by simp[B3]
 |[],[],n+1,_=>by simp[B3]
 |[],_::_,_+1,hu=>by simp[B3]at hu
 |_::_,[],_+1,hu=>by simp[B3]at hu
 | c::cs,u::us,n+1,hu=>by
  simp only[List.take_succ_cons,B3]at hu ⊢;exact⟨hu.1,B3.take n hu.2⟩
def B3.drop:∀ {cs:List AV} {us:List Value} (n:Nat),B3 ro w cs us->B3 ro w (cs.drop n) (us.drop n)
 |_,_,0,h=>by simpa using h
 |[],[],n+1,_=>by simp[B3]
 |[],_::_,_+1,hu=>by simp[B3]at hu
 |_::_,[],_+1,hu=>by simp[B3]at hu
 | c::cs,u::us,n+1,hu=>by
  simp only[List.drop_succ_cons,B3]at hu ⊢;exact B3.drop n hu.2
def Az.take{g:Gh}:∀ {cs:List AV} {us:List Value} (n:Nat),Az g w cs us->Az g w (cs.take n) (us.take n)
 |_,_,0,_=>by simp[Az]
 |[],[],n+1,_=>by simp[Az]
 |[],_::_,_+1,hu=>by simp[Az]at hu
 |_::_,[],_+1,hu=>by simp[Az]at hu
 | c::cs,u::us,n+1,hu=>by
  simp only[List.take_succ_cons,Az]at hu ⊢;exact⟨hu.1,Az.take n hu.2⟩
def Az.drop{g:Gh}:∀ {cs:List AV} {us:List Value} (n:Nat),Az g w cs us->Az g w (cs.drop n) (us.drop n)
 |_,_,0,h=>by simpa using h
 |[],[],n+1,_=>by simp[Az]
 |[],_::_,_+1,hu=>by simp[Az]at hu
 |_::_,[],_+1,hu=>by simp[Az]at hu
 | c::cs,u::us,n+1,hu=>by
  simp only[List.drop_succ_cons,Az]at hu ⊢;exact Az.drop n hu.2
def Az.append{g:Gh}:∀ {cs ds:List AV} {us vs:List Value},Az g w cs us->Az g w ds vs->Az g w (cs++ds) (us++vs)
 |[],_,[],_,_,h=>by simpa using h
 |[],_,_::_,_,hu,_=>by simp[Az]at hu
 |_::_,_,[],_,hu,_=>by simp[Az]at hu
 | c::cs,ds,u::us,vs,hu,h=>by
  simp only[List.cons_append,Az]at hu ⊢;exact⟨hu.1,Az.append hu.2 h⟩
def Az.get{g:Gh}:∀ {cs:List AV} {us:List Value},Az g w cs us->∀ (i:Nat) (c:AV),cs[i]?=some c->∃ u,us[i]?=some u/\VR g w c u
 |[],_,_,i,c,h=>by simp at h
 |_::_,[],hu,_,_,_=>by simp[Az]at hu
 | c::cs,u::us,hu,0,d,h=>by
  simp only[Az]at hu;simp at h;subst h;exact⟨u,by simp,hu.1⟩
 | c::cs,u::us,hu,i+1,d,h=>by
  simp only[Az]at hu;simp at h;obtain⟨v,h1,h2⟩:=Az.get hu.2 i d h;exact⟨v,by simpa using h1,h2⟩
def PR.VR{g:Gh}:∀ (x:AV) (u:Value),PR (BX g) w x u->VR g w x u
 |.undef,_,_=>by simp[Abs.VR]
 |.v x,u,h=>by simp only[PR]at h;simp only[Abs.VR];exact h.1
 |.sl (.own r lo) n es,u,h=>by simp[PR]at h
 |.sl .no n es,u,h=>by simpa [Abs.VR]using h
 |.sl .full n es,u,h=>by simpa [Abs.VR]using h
 |.agg _,_,hu=>by simp[PR]at hu
 |.Bl _,_,hu=>by simp[PR]at hu
 |.ptr _ _,_,hu=>by simp[PR]at hu
 |.ep _ _ _ _,_,hu=>by simp[PR]at hu
 |.fn _ _,_,hu=>by simp only[PR]at hu;obtain⟨rfl,rfl⟩:=hu;simp only[Abs.VR];exact⟨#[],rfl,by simp[Abs.Az]⟩
 |.mv _ _,_,hu=>by simp[PR]at hu
 |.mp _,_,hu=>by simp[PR]at hu
 |.Gc _ _,_,hu=>by simp[PR]at hu
 |.mem _ _,_,hu=>by simp[PR]at hu
def PR.one{x:AV}{u:Value}(h:PR ro w x u):u.oneCell'=true:=by
 cases x with
 | undef=>simpa [PR]using h
 | v x=>simp only[PR]at h;rw[h.1];exact h.2
 | sl t n es=>simp only[PR]at h;obtain⟨_,_,_,rfl,_⟩:=h;rfl
 | fn f Bi=>simp only[PR]at h;obtain⟨rfl,rfl⟩:=h;rfl
 |_=>simp[PR]at h
def B3.one:∀ {cs:List AV} {us:List Value},B3 ro w cs us->∀ u∈us,u.oneCell'=true
 |[],[],_,u,hu=>by simp at hu
 |[],_::_,hu,_,_=>by simp[B3]at hu
 |_::_,[],hu,_,_=>by simp[B3]at hu
 | c::cs,v::us,h,u,hu=>by
  simp only[B3]at h;rcases List.mem_cons.1 hu with rfl|hu
  ·exact PR.one h.1
  ·exact B3.one h.2 u hu
def B3.Az{g:Gh}:∀ {cs:List AV} {us:List Value},B3 (BX g) w cs us->Az g w cs us
 |[],[],_=>by simp[Abs.Az]
 |[],_::_,hu=>by simp[B3]at hu
 |_::_,[],hu=>by simp[B3]at hu
 | c::cs,u::us,hu=>by
  simp only[B3,Abs.Az]at hu ⊢;exact⟨PR.VR _ _ hu.1,B3.Az hu.2⟩
def add_add(a:Addr)(i j:Nat):(a.add i).add j=a.add (i+j):=by
 unfold Addr.add
 by_cases hi:i=0<;>by_cases hj:j=0<;>simp[hi,hj,Nat.add_assoc]
def add_lit(b o n:Nat):Addr.add ⟨b,o,none⟩ n=⟨b,o+n,none⟩:=Addr.add_lit b o n
def Cu.list:∀ (cs:List AV) (ad:Addr) (j:Nat),Cu ro w cs ad j->∃ us:List Value,B3 ro w cs us/\∀ i v,us[i]?=some v->w.cell? (ad.add (j+i))=some v
 |[],ad,j,_=>⟨[],by simp[B3],by simp⟩
 | c::cs,ad,j,h=>by
  simp only[Cu]at h;obtain⟨⟨u,h1,h2⟩,h3⟩:=h;obtain⟨us,h4,h5⟩:=Cu.list cs ad (j+1) h3;refine⟨u::us,by simp only[B3];exact⟨h2,h4⟩,λi v hv=>?_⟩;cases i with
  | zero=>simp at hv;subst hv;simpa using h1
  | succ i =>
   simp at hv;have:=h5 i v hv
   rwa [Nat.add_assoc,Nat.add_comm 1 i]at this
def Cu.Dt:∀ (cs:List AV) (us:List Value) (ad:Addr) (j:Nat),B3 ro w cs us->(∀ i v,us[i]?=some v->w.cell? (ad.add (j+i))=some v)->Cu ro w cs ad j
 |[],_,_,_,_,_=>by simp[Cu]
 |_::_,[],_,_,h,_=>by simp[B3]at h
 | c::cs,u::us,ad,j,h,hc=>by
  simp only[B3]at h;simp only[Cu];refine⟨⟨u,by simpa using hc 0 u (by simp),h.1⟩,Cu.Dt cs us ad (j+1) h.2 λi v hv=>?_⟩;have:=hc (i+1) v (by simpa using hv)
  rwa [Nat.add_assoc,Nat.add_comm 1 i]
def CH.list:∀ (es:List (List AV)) (ad:Addr) (n i:Nat),CH ro w es ad n i->∃ us:List Value,B3 ro w es.flatten us/\us.length=es.length*n/\∀ j v,us[j]?=some v->w.cell? (ad.add (i*n+j))=some v
 |[],ad,n,i,_=>⟨[],by simp[B3],by simp,by simp⟩
 | e::es,ad,n,i,h=>by
  simp only[CH]at h;obtain⟨hl,h1,h2⟩:=h;obtain⟨us,h3,h4⟩:=Cu.list e ad (i*n) h1;obtain⟨vs,h5,h6,h7⟩:=CH.list es ad n (i+1) h2;have V9:us.length=n:=by rw[<- B3.length h3,hl]
  refine⟨us++vs,by simpa using B3.append h3 h5,by simp[V9,h6,Nat.add_mul,Nat.add_comm],λj v hv=>?_⟩;rw[List.getElem?_append]at hv;split at hv
  ·exact h4 j v hv
  ·have:=h7 _ v hv;rw[show (i+1)*n+(j-us.length)=i*n+j from by rw[Nat.add_mul,Nat.one_mul];omega]at this;exact this
def CH.Dt:∀ (es:List (List AV)) (us:List Value) (ad:Addr) (n i:Nat),(∀ e∈es,e.length=n)->B3 ro w es.flatten us->(∀ j v,us[j]?=some v->w.cell? (ad.add (i*n+j))=some v)->CH ro w es ad n i
 |[],_,_,_,_,_,_,_=>by simp[CH]
 | e::es,us,ad,n,i,hl,h,hc=>by
  have a6:e.length=n:=hl e (by simp);simp only[CH];simp only[List.flatten_cons]at h;have hlen:=B3.length h;rw[List.length_append]at hlen;have h1:B3 ro w e (us.take n):=by
   have:=B3.take n h
   rwa [<- a6,List.take_left,a6]at this
  have h2:B3 ro w es.flatten (us.drop n):=by
   have:=B3.drop n h
   rwa [<- a6,List.drop_left,a6]at this
  refine⟨a6,Cu.Dt e _ ad (i*n) h1 λj v hv=>?_,CH.Dt es _ ad n (i+1) (λe he=>hl e (by simp[he])) h2 λj v hv=>?_⟩
  ·rw[List.getElem?_take]at hv;split at hv
   ·exact hc j v hv
   ·cases hv
  ·rw[List.getElem?_drop]at hv;have:=hc _ v hv
   rwa [show i*n+(n+j)=(i+1)*n+j from by rw[Nat.add_mul,Nat.one_mul];omega]at this
def CH.lens:∀ {es:List (List AV)} {ad:Addr} {n i:Nat},CH ro w es ad n i->∀ e∈es,e.length=n
 |[],_,_,_,_,e,he=>by simp at he
 | e::es,ad,n,i,h,d,hd=>by
  simp only[CH]at h;rcases List.mem_cons.1 hd with rfl|hd
  ·exact h.1
  ·exact CH.lens h.2.2 d hd
def CH.at_:∀ (es:List (List AV)) (ad:Addr) (n i:Nat),CH ro w es ad n i->∀ (k:Nat) (e:List AV),es[k]?=some e->e.length=n/\Cu ro w e ad ((i+k)*n)
 |[],_,_,_,_,k,e,h=>by simp at h
 | e::es,ad,n,i,h,0,d,hd=>by
  simp only[CH]at h;simp at hd;subst hd;exact⟨h.1,by simpa using h.2.1⟩
 | e::es,ad,n,i,h,k+1,d,hd=>by
  simp only[CH]at h;simp at hd;have:=CH.at_ es ad n (i+1) h.2.2 k d hd
  rwa [show i+1+k=i+(k+1) from by omega]at this
def Cu.shift(cs:List AV)(ad:Addr)(k j:Nat):Cu ro w cs ad (k+j)->Cu ro w cs (ad.add k) j:=by
 intro h;obtain⟨us,h1,h2⟩:=Cu.list cs ad (k+j) h;exact Cu.Dt cs us _ j h1 λi v hv=>by rw[add_add];have:=h2 i v hv;rwa [Nat.add_assoc]at this
end
def St.freeze(S:List Nat)(st:St):St:=⟨st.tmps.map (λp=>(p.1,p.2.freeze S)),st.Ah.map (λp=>(p.1,DF S p.2))⟩
def OJ{α β:Type}(f:α->β)(k:Nat):∀ l:List (Nat × α),lk k (l.map λp=>(p.1,f p.2))=(lk k l).map f
 |[]=>rfl
 |(j,x)::l=>by
  simp only[List.map_cons,lk];split
  ·rfl
  ·exact OJ f k l
section
variable {C:Ctx} {A:A0} {N:Nat} {g g':Gh} {st:St} {a:Act} {w w':World}
def Fr.freeze(h:Fr C A g w)(S:List Nat):Fr C A (g.freeze S) w where
 os:=h.os
 tape:=h.tape
 output:=h.output
 size:=h.size
 EE:=λb hb hf=>by
  obtain⟨h1,h2⟩:=h.EE b hb hf;refine⟨h1,?_⟩;rcases hf with hf|hf
  ·rw[hf]at h2 ⊢;exact IX b h2
  ·rw[hf]at h2 ⊢;exact XL b h2
 box:=h.box
 glob:=λi cs hi=>by
  obtain⟨h1,h2,h3⟩:=h.glob i cs hi;exact⟨h1,IX i h2,Cu.mono FP _ _ 0 h2 h3⟩
def R.freeze(h:R C A N g st a w)(S:List Nat):R C A N (g.freeze S) (st.freeze S) a w where
 size:=h.size
 defs:=h.defs
 tm:=λk x hx=>by
  simp only[St.freeze,OJ]at hx;obtain⟨y,hy,rfl⟩:=Option.map_eq_some_iff.1 hx;obtain⟨u,hu,hv⟩:=h.tm k y hy;exact⟨u,hu,VR.freeze y u hv⟩
 ob:=λs cs hs=>by
  simp only[St.freeze,OJ]at hs;obtain⟨y,hy,rfl⟩:=Option.map_eq_some_iff.1 hs;exact(h.ob s y hy).lift rfl (bO _ s (h.ob s y hy).1) rfl (λus hu=>Az.freeze _ _ hu)
 fr:=h.fr.freeze S
def Gh.CI(g:Gh)(b s:Nat):Gh:={ own:=λx=>if x=b then .box s else g.own x,box:=λx=>if x=s then b else g.box x,row:=g.row,Cz:=g.Cz }
def Gh.newRow(g:Gh)(b r:Nat):Gh:={ own:=λx=>if x=b then .row r else g.own x,box:=g.box,row:=λx=>if x=r then b else g.row x,Cz:=g.Cz }
def alloc_old(w:World)(o:Obj)(b:Nat)(h:b<w.heap.size):(w.alloc o).heap[b]?=w.heap[b]?:=by
 show (w.heap.push o)[b]?=_;rw[Array.getElem?_push,if_neg (by omega)]
theorem Ly(g:Gh)(w:World)(o:Obj)(s:Nat):Lasts [] [s] g w (g.CI w.heap.size s) (w.alloc o) where
 ro:=λb hb h=>⟨by simp[Gh.CI,Nat.ne_of_lt hb,h],alloc_old w o b hb⟩
 row:=λb q hb _ h=>⟨by simp[Gh.CI,Nat.ne_of_lt hb,h],alloc_old w o b hb⟩
 rows:=λ_ _=>rfl
 boxes:=λq hq=>by simp at hq;simp[Gh.CI,hq]
 Cz:=λb q i hb _ h=>⟨by simp[Gh.CI,Nat.ne_of_lt hb,h],alloc_old w o b hb⟩
 cc:=λ_ _ _=>rfl
theorem X2(g:Gh)(w:World)(o:Obj)(r:Nat)(S:List Nat)(hr:r∈S):Lasts S [] g w (g.newRow w.heap.size r) (w.alloc o) where
 ro:=λb hb h=>⟨by simp[Gh.newRow,Nat.ne_of_lt hb,h],alloc_old w o b hb⟩
 row:=λb q hb _ h=>⟨by simp[Gh.newRow,Nat.ne_of_lt hb,h],alloc_old w o b hb⟩
 rows:=λq hq=>by
  have:q≠r:=λe=>hq (e▸hr)
  simp[Gh.newRow,this]
 boxes:=λ_ _=>rfl
 Cz:=λb q i hb _ h=>⟨by simp[Gh.newRow,Nat.ne_of_lt hb,h],alloc_old w o b hb⟩
 cc:=λ_ _ _=>rfl
def DO.lt{s:Nat}{cs:List AV}(h:DO g w s cs):g.box s<w.heap.size:=by
 obtain⟨_,⟨_,cur,T,h2,_⟩|⟨_,es,Vy,h2,_⟩⟩:=h
 ·exact Ee h2
 ·exact Ee h2
def R.CI(h:R C A N g st a w)(s:Nat)(Ys:isMap s=false)(hs:s∉A.ext)(cur:Array Value)(T:TypeId)(cs:List AV)(hv:Az g w cs cur.toList) :
 R C A N (g.CI w.heap.size s) ⟨(st.kill [] [s]).tmps,(s,EK [] [s] cs)::(st.kill [] [s]).Ah⟩ a (w.alloc (.cells cur T)):=by
 have hl:=Ly g w (.cells cur T) s;have Gq:Fr C A (g.CI w.heap.size s) (w.alloc (.cells cur T)):=h.fr.step hl rfl ⟨rfl,by first|exact Nat.le_refl _|exact Nat.le_succ _⟩ rfl (by simp) (λb hb ho=>⟨by simp[Gh.CI,Nat.ne_of_lt hb,ho],alloc_old w _ b hb⟩) (λq hq he=>hs (by simpa [List.mem_singleton.1 he]using hq));have h1:=h.lasts hl Gq (λq Mp hq Ca=>by
  have ho:=h.ob q Mp hq;exact⟨by simp[Gh.CI,Nat.ne_of_lt ho.lt,ho.1],alloc_old w _ _ ho.lt⟩)
 refine⟨h1.size,h1.defs,h1.tm,λq Mp hq=>?_,h1.fr⟩;simp only[lk]at hq
 by_cases yi:s=q
 ·subst yi;simp only[if_true,Option.some.injEq]at hq;subst hq;refine⟨by simp[Gh.CI],.inl ⟨Ys,cur,T,?_,Az.lasts hl _ _ hv⟩⟩;simp only[Gh.CI,if_true];exact heap_alloc_new w _
 ·simp only[yi,if_false]at hq;exact h1.ob q Mp hq
def R.newRow(h:R C A N g st a w)(r:Nat)(S:List Nat)(hr:r∈S)(cur:Array Value)(T:TypeId)(n cap:Nat)(es:List (List AV))(us:List Value)(hn:0<n)
 (hl:∀ e∈es,e.length=n) (hv:B3 (BX g) w es.flatten us) (hc:cur.size=cap*n) (TT:es.length<=cap) (hm:cap<=maxLen) (Si:∀ (j:Nat) (v:Value),us[j]?=some v->cur[j]?=some v) :
 ∃ g',R C A N g' (st.kill S []) a (w.alloc (.cells cur T))/\VR g' (w.alloc (.cells cur T)) (.sl (.own r 0) n es) (.slice (some ⟨w.heap.size,0,none⟩) es.length cap):=by
 have Vc:=X2 g w (.cells cur T) r S hr;refine⟨g.newRow w.heap.size r,?_,?_⟩
 ·refine h.lasts Vc ?_ ?_
  ·exact h.fr.step Vc rfl ⟨rfl,by first|exact Nat.le_refl _|exact Nat.le_succ _⟩ rfl (by simp) (λb hb ho=>⟨by simp[Gh.newRow,Nat.ne_of_lt hb,ho],alloc_old w _ b hb⟩) (λq _ he=>by cases he)
  ·intro q Mp hq _;have ho:=h.ob q Mp hq;exact⟨by simp[Gh.newRow,Nat.ne_of_lt ho.lt,ho.1],alloc_old w _ _ ho.lt⟩
 ·simp only[VR,CM];refine⟨hn,.inr (.inr ⟨cap,cur,T,by simp[Gh.newRow],TT,by omega,by simp[Gh.newRow],?_,by have:=Nat.le_of_eq hc.symm;simpa using this,?_⟩)⟩
  ·simp only[Gh.newRow,if_true];exact heap_alloc_new w _
  ·refine CH.Dt es us _ n 0 hl (B3.mono Vc.M1 hv) λj v hv=>?_
   simp only[Gh.newRow,if_true,Nat.zero_mul,Nat.zero_add,add_lit];rw[cell_of_row _ _ _ _ _ _ (heap_alloc_new w _)];exact Si j v hv
end
end Go.Abs
namespace Go.Abs
def BW(P:Program)(t:TypeId):Option Nat:=(P.info? t).map (·.size)
def Be(P:Program)(t:TypeId):Option Bool:=(P.underlying t).map fun
 |.struct _|.array _ _=>true
 |_=>false
def AV.cells:AV->List AV
 |.agg cs=>cs
 | x=>[x]
def Jm:AV->Bool
 |.v x=>x.oneCell'
 |.sl _ _ _|.ptr _ _|.ep _ _ _ _|.fn _ _|.mv _ _|.Gc _ _|.mp _=>true
 |_=>false
def Cx:List AV->Bool
 |[]=>true
 | c::cs=>Jm c&&Cx cs
def Does(P:Program)(o:Oper)(a:Act)(w:World)(u:Value)(w':World):Prop :=
 (execOp a.eval o).run P w=.ok (.value u) w'\/((execOp a.eval o).run P w=.ok .skip w'/\u=undef)
def Does.wp{P:Program}{o:Oper}{a:Act}{w w':World}{u:Value}{K:Act->World->Prop}{Q:Exit->Act->World->Prop}(h:Does P o a w u w')(hk:K (a.put o.dst u) w'):o.wp P a w K Q:=by
 unfold Oper.wp;rcases h with h|⟨h,rfl⟩<;>rw[h]<;>exact hk
def IV{P:Program}{o:Oper}{a:Act}{w w':World}{u:Value}{s:Sem Value}(ho:execOp a.eval o=(do pure (.value (<- s))))(h:s.run P w=.ok u w'):Does P o a w u w':=by
 refine .inl ?_;rw[ho];simp[h]
section
variable {P:Program} {w:World}
def run_typeInfo{t:TypeId}{i:TypeInfo}(h:P.info? t=some i):(typeInfo t).run P w=.ok i w:=by simp[typeInfo,h]
def run_sizeOf{t:TypeId}{n:Nat}(h:BW P t=some n):(sizeOf t).run P w=.ok n w:=by
 unfold BW at h;obtain⟨i,hi,rfl⟩:=Option.map_eq_some_iff.1 h;simp[sizeOf,run_typeInfo hi]
def I0{t:TypeId}{b:Bool}(h:Be P t=some b):(isAgg t).run P w=.ok b w:=by
 unfold Be at h;obtain⟨d,hd,rfl⟩:=Option.map_eq_some_iff.1 h;unfold isAgg;rw[Sem.run_bind,run_underlying hd];cases d<;>simp
def Sn{t:TypeId}{n:Nat}{a:Addr}{us:List Value}(h1:Be P t=some true)(h2:BW P t=some n)(hl:us.length=n)(hc:∀ i v,us[i]?=some v->w.cell? (a.add i)=some v) :
 (loadVar t a).run P w=.ok (.agg us.toArray) w:=by
 unfold loadVar;subst hl;simp only[Sem.run_bind,I0 h1,Result.andThen_ok,if_true,run_sizeOf h2,run_loadCells_list w a us hc,Sem.run_pure]
def Sp{t:TypeId}{a:Addr}{u:Value}(h1:Be P t=some false)(hc:w.cell? a=some u):(loadVar t a).run P w=.ok u w:=by
 unfold loadVar;simp only[Sem.run_bind,I0 h1,Result.andThen_ok];simp[hc]
end
def cz(agg:Bool):List AV->Option AV
 | cs=>if agg then some (.agg cs) else match cs with
  |[c]=>some c
  |_=>none
def LX(agg:Bool)(n:Nat)(Ah:List (Nat × List AV)):AV->Option AV
 |.ptr s off=>match lk s Ah with
  |some cs=>if off+n<=cs.length then cz agg ((cs.drop off).take n) else none
  |none=>none
 |.ep _ _ cs off=>if off+n<=cs.length then cz agg ((cs.drop off).take n) else none
 |.El .dp r i _ _ m bss=>if n=1 then cz agg [.El .iW r i 0 0 m bss] else none
 |.El .pR _ _ _ off _ [[c]]=>if off+n<=c.length then cz agg ((c.drop off).take n) else none
 |.mem false [x]=>if n=1 then cz agg [x] else none
 |_=>none
section
variable {C:Ctx} {A:A0} {N:Nat} {g g':Gh} {st:St} {a:Act} {w w':World}
def Jl{P:Program}{t:TypeId}{agg:Bool}{n:Nat}{ad:Addr}{cs:List AV}{us:List Value}{x:AV}(h1:Be P t=some agg)(h2:BW P t=some n)(hv:Az g w cs us)(hl:cs.length=n)
 (hc:∀ i v,us[i]?=some v->w.cell? (ad.add i)=some v) (hx:cz agg cs=some x):∃ u,(loadVar t ad).run P w=.ok u w/\VR g w x u:=by
 have V9:us.length=n:=by rw[<- Az.length hv,hl]
 cases agg with
 | true =>
  simp only[cz,if_true,Option.some.injEq]at hx;subst hx;exact⟨_,Sn h1 h2 V9 hc,us.toArray,rfl,by simpa using hv⟩
 | false =>
  simp only[cz,Bool.false_eq_true,if_false]at hx
  match cs,us,hv,hx with
  |[c],[u],hv,hx =>
   simp at hx;subst hx;simp only[Az]at hv;have h0:=hc 0 u (by simp);simp only[Addr.add_zero']at h0;exact⟨u,Sp h1 h0,hv.1⟩
  |[_],[],hv,_=>simp[Az]at hv
  |[_],_::_::_,hv,_=>simp[Az]at hv
def de{t:Tag}{i:Nat}{cs:List AV}{off:Nat}{u:Value}(h:Fz g w t i cs off u) :
 ∃ (ad:Addr) (us:List Value),u=.pointer (some ad)/\Az g w (cs.drop off) us/\∀ j v,us[j]?=some v->w.cell? (ad.add j)=some v:=by
 cases t with
 | own r lo =>
  simp only[Fz]at h;obtain⟨cur,T,h1,h2,h3,h4,h5⟩:=h;obtain⟨us,k1,k2⟩:=Cu.list cs _ 0 h5;refine⟨_,us.drop off,h1,B3.Az (B3.drop off k1),λj v hv=>?_⟩;rw[List.getElem?_drop]at hv;have:=k2 _ v hv;rw[add_lit]at this ⊢;rw[show i*cs.length+off+j=i*cs.length+(0+(off+j)) from by omega];exact this
 | no =>
  simp only[Fz]at h;obtain⟨ad,h1,h0,h2,h3⟩:=h;obtain⟨us,k1,k2⟩:=Cu.list cs _ 0 h3;refine⟨_,us.drop off,h1,B3.Az (B3.drop off k1),λj v hv=>?_⟩;rw[List.getElem?_drop]at hv;have:=k2 _ v hv;rw[add_add];simpa using this
 | full =>
  simp only[Fz]at h;obtain⟨ad,h1,h0,h2,h3⟩:=h;obtain⟨us,k1,k2⟩:=Cu.list cs _ 0 h3;refine⟨_,us.drop off,h1,B3.Az (B3.drop off k1),λj v hv=>?_⟩;rw[List.getElem?_drop]at hv;have:=k2 _ v hv;rw[add_add];simpa using this
def ji{s:Nat}{cs:List AV}(h:DO g w s cs)(Ys:isMap s=false)(off:Nat):∃ us:List Value,Az g w (cs.drop off) us/\∀ j v,us[j]?=some v->w.cell? ((⟨g.box s,off,none⟩:Addr).add j)=some v:=by
 obtain⟨cur,T,h2,h3⟩:=h.cells Ys;refine⟨cur.toList.drop off,Az.drop off h3,λj v hv=>?_⟩;rw[List.getElem?_drop]at hv;rw[add_lit,cell_of_row _ _ _ _ _ _ h2];simpa using hv
def LA{P:Program}(hR:R C A N g st a w){t:TypeId}{agg:Bool}{n:Nat}(h1:Be P t=some agg)(h2:BW P t=some n){x:AV}{p:AV}{up:Value}(hp:VR g w p up)
 (hx:LX agg n st.Ah p=some x):∃ u,(Instr.loadAt t up).run P w=.ok u w/\VR g w x u:=by
 unfold LX at hx;split at hx
 ·rename_i s off;split at hx
  ·rename_i cs hs;split at hx
   ·rename_i hle;simp only[VR]at hp;obtain⟨Ys,rfl⟩:=hp;obtain⟨us,k1,k2⟩:=ji (hR.ob s cs hs) Ys off;have:=Jl h1 h2 (Az.take n k1) (by simp;omega) (ad:=⟨g.box s,off,none⟩) (λi v hv=>by
     rw[List.getElem?_take]at hv;split at hv
     ·exact k2 i v hv
     ·cases hv) hx
    simpa [Instr.loadAt,Instr.sureAddr]using this
   ·cases hx
  ·cases hx
 ·rename_i t' i cs off;split at hx
  ·rename_i hle;simp only[VR]at hp;obtain⟨ad,us,rfl,k1,k2⟩:=de hp;have:=Jl h1 h2 (Az.take n k1) (by simp;omega) (ad:=ad) (λi v hv=>by
    rw[List.getElem?_take]at hv;split at hv
    ·exact k2 i v hv
    ·cases hv) hx
   simpa [Instr.loadAt,Instr.sureAddr]using this
  ·cases hx
 ·rename_i r i j off m bss;split at hx
  ·rename_i gH;subst gH;simp only[VR]at hp;obtain⟨hm,b,rfl,cur,T,v,rfl,k4,k5,k6,k7⟩:=hp;have hv:Az g w [.El .iW r i 0 0 m [b]] [v]:=by
    simp only[Az,VR];exact⟨⟨hm,b,rfl,k7⟩,trivial⟩
   have:=Jl h1 h2 hv rfl (ad:=⟨g.row r,i,none⟩) (λq v' L8=>by
    match q,L8 with
    | 0,L8 =>
     simp at L8;subst L8;rw[add_lit,cell_of_row _ _ _ _ _ _ k5];exact k6
    | q+1,L8=>simp at L8) hx
   simpa [Instr.loadAt,Instr.sureAddr]using this
  ·cases hx
 ·rename_i r i j off m c;split at hx
  ·rename_i hle;simp only[VR]at hp;obtain⟨hm,c',hc,NN,cur,T,rfl,k4,k5,k6,k7⟩:=hp;simp only[List.cons.injEq,and_true]at hc;subst hc;obtain⟨us,e1,e2⟩:=Cu.list c _ 0 k7;have:=Jl h1 h2 (Az.take n (B3.Az (B3.drop off e1))) (by simp;omega) (ad:=⟨g.Cz r i,j*m+off,none⟩) (λq v' L8=>by
    rw[List.getElem?_take]at L8;split at L8
    ·rw[List.getElem?_drop]at L8;have:=e2 _ v' L8;rw[add_lit]at this ⊢;rw[show j*m+off+q=j*m+(0+(off+q)) from by omega];exact this
    ·cases L8) hx
   simpa [Instr.loadAt,Instr.sureAddr]using this
  ·cases hx
 ·rename_i y;split at hx
  ·rename_i gH;subst gH;simp only[VR,Yz]at hp;obtain⟨ad,vs,_,hc,hv,rfl⟩:=hp;have:=Jl h1 h2 hv rfl (ad:=ad) (λq v' L8=>by
    have hq:q<vs.length:=by
     rcases Nat.lt_or_ge q vs.length with h|h
     ·exact h
     ·rw[List.getElem?_eq_none h]at L8;cases L8
    rw[hc.2 q hq];exact L8) hx
   simpa [Instr.loadAt,Instr.sureAddr]using this
  ·cases hx
 ·cases hx
end
end Go.Abs
