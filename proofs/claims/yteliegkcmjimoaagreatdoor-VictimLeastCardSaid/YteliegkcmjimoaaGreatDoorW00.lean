/- part 0 of the proof -/
import Derived.WalkKit
import Derived.Laws.CopyOwn
import Derived.WalkLawsBesides
set_option linter.all false
namespace Go.Abs
inductive Tag where
 | no
 | full
 | own(r lo:Nat)
inductive AV where
 | undef
 | v(x:Value)
 | agg(cs:List AV)
 | BC(cs:List AV)
 | sl(t:Tag)(n:Nat)(es:List (List AV))
 | ptr(s off:Nat)
 | ep(t:Tag)(i:Nat)(cells:List AV)(off:Nat)
 | fn(f:Nat)(CW:List AV)
 | mv(f:Nat)(first:List AV)
 | Kb(t:TypeId)(x:AV)
 | mem(b:Bool)(xs:List AV)
  | mp(s:Nat)
inductive Own where
 | other
 | ro
 | box(s:Nat)
 | row(r:Nat)
def Dm(s:Nat):Bool:=s%64==62||s%64==31
structure Gh where
 own:Nat->Own
 box:Nat->Nat
 row:Nat->Nat
mutual
def PR(ro:Nat->Prop)(w:World):AV->Value->Prop
 |.undef,u=>u.oneCell'=true
 |.v x,u=>u=x/\x.oneCell'=true
 |.sl t n es,u=>(∀ r lo,t≠.own r lo)/\∃ a cap,u=.slice a es.length cap/\es.length<=cap/\cap<=maxLen/\(t=.full->cap=es.length)/\0<n /\
  (es=[]\/∃ ad,a=some ad/\ro ad.block/\Ea ro w es ad n 0)
 |.fn f CW,u=>CW=[]/\u=.func (.func f) #[] #[]
 |_,_=>False
def Ea(ro:Nat->Prop)(w:World):List (List AV)->Addr->Nat->Nat->Prop
 |[],_,_,_=>True
 | e::es,ad,n,i=>e.length=n/\EG ro w e ad (i*n)/\Ea ro w es ad n (i+1)
def EG(ro:Nat->Prop)(w:World):List AV->Addr->Nat->Prop
 |[],_,_=>True
 | c::cs,ad,j=>(∃ u,w.cell? (ad.add j)=some u/\PR ro w c u)/\EG ro w cs ad (j+1)
end
def CK(g:Gh)(b:Nat):Prop:=g.own b=.ro
def Dr(g:Gh)(w:World)(r lo n:Nat)(es:List (List AV))(u:Value):Prop :=
 0<n/\((u=.slice none 0 0/\es=[])\/(0<lo/\es=[]/\∃ a cap,u=.slice a 0 cap/\cap<=maxLen) \/
 ∃ cap cur T,u=.slice (some ⟨g.row r,lo*n,none⟩) es.length cap/\es.length<=cap/\lo+cap<=maxLen/\g.own (g.row r)=.row r /\
  w.heap[g.row r]?=some (.cells cur T (0,0))/\(lo+cap)*n<=cur.size/\Ea (CK g) w es ⟨g.row r,lo*n,none⟩ n 0)
def Ix(g:Gh)(w:World)(t:Tag)(i:Nat)(cells:List AV)(off:Nat)(u:Value):Prop :=
 match t with
 |.own r _=>∃ cur T,u=.pointer (some ⟨g.row r,i*cells.length+off,none⟩)/\g.own (g.row r)=.row r /\
  w.heap[g.row r]?=some (.cells cur T (0,0))/\(i+1)*cells.length<=cur.size/\EG (CK g) w cells ⟨g.row r,i*cells.length,none⟩ 0
 |_=>∃ ad:Addr,u=.pointer (some (ad.add off))/\0<cells.length/\CK g ad.block/\EG (CK g) w cells ad 0
def UZ(w:World)(ad:Addr)(vs:List Value):Prop:=vs≠[]/\∀ i,i<vs.length->w.cell? (ad.add i)=vs[i]?
def gw(b:Bool)(ad:Addr)(n:Nat)(u:Value):Prop:=match b with
 | true=>∃ cap,u=.slice (some ad) n cap/\n<=cap/\cap<=maxLen
 | false=>u=.pointer (some ad)
mutual
def VR(g:Gh)(w:World):AV->Value->Prop
 |.undef,_=>True
 |.v x,u=>u=x
 |.agg cs,u=>∃ us,u=.agg us/\Bf g w cs us.toList
 |.BC cs,u=>∃ us,u=.tuple us/\Bf g w cs us.toList
 |.sl (.own r lo) n es,u=>Dr g w r lo n es u
 |.sl t n es,u=>PR (CK g) w (.sl t n es) u
 |.ptr s off,u=>Dm s=false/\u=.pointer (some ⟨g.box s,off,none⟩)
 |.ep t i cells off,u=>Ix g w t i cells off u
 |.fn f CW,u=>∃ us,u=.func (.func f) #[] us/\Bf g w CW us.toList
 |.mv f CW,u=>∃ us,u=.func (.func f) us #[]/\Bf g w CW us.toList
 |.mp s,u=>Dm s=true/\u=.map (some (g.box s))
 |.Kb t x,u=>∃ y,u=.iface t y/\VR g w x y
 |.mem b xs,u=>∃ ad vs,CK g ad.block/\UZ w ad vs/\Bf g w xs vs/\gw b ad vs.length u
def Bf(g:Gh)(w:World):List AV->List Value->Prop
 |[],[]=>True
 | c::cs,u::us=>VR g w c u/\Bf g w cs us
 |_,_=>False
end
mutual
def AV.Cz(f:AV->AV):AV->AV
 |.undef=>.undef
 |.v x=>.v x
 |.agg cs=>.agg (F0 f cs)
 |.BC cs=>.BC (F0 f cs)
 |.sl (.own r lo) n es=>f (.sl (.own r lo) n es)
 |.sl .no n es=>.sl .no n es
 |.sl .full n es=>.sl .full n es
 |.ptr s off=>f (.ptr s off)
 |.ep (.own r lo) i cells off=>f (.ep (.own r lo) i cells off)
 |.ep .no i cells off=>.ep .no i cells off
 |.ep .full i cells off=>.ep .full i cells off
 |.fn q CW=>.fn q (F0 f CW)
 |.mv q CW=>.mv q (F0 f CW)
 |.mp s=>f (.mp s)
 |.Kb t x=>.Kb t (x.Cz f)
 |.mem b xs=>.mem b (F0 f xs)
def F0(f:AV->AV):List AV->List AV
 |[]=>[]
 | c::cs=>c.Cz f::F0 f cs
end
def AV.Ii(S T:List Nat):AV->AV
 |.sl (.own r lo) n es=>if r∈S then .undef else .sl (.own r lo) n es
 |.ptr s off=>if s∈T then .undef else .ptr s off
 |.ep (.own r lo) i cells off=>if r∈S then .undef else .ep (.own r lo) i cells off
 |.mp s=>if s∈T then .undef else .mp s
 | x=>x
def AV.kill(S T:List Nat)(x:AV):AV:=x.Cz (AV.Ii S T)
def NQ(S T:List Nat)(cs:List AV):List AV:=F0 (AV.Ii S T) cs
theorem RV(g:Gh)(b:Nat):CK g b=(g.own b=.ro):=rfl
section mono
variable {ro QX:Nat->Prop} {w w':World}
def QO{w:World}{b:Nat}{o:Obj}(h:w.heap[b]?=some o):b<w.heap.size:=by grind
theorem GV(a:Addr)(n:Nat):(a.add n).block=a.block:=by grind[Addr.add]
theorem GM{w:World}{a:Addr}{u:Value}(h:w.cell? a=some u):a.block<w.heap.size:=World.block_lt_of_cell? w a h
def UZ.move{P Q:Nat->Prop}{w w':World}{ad:Addr}{vs:List Value}(hc:UZ w ad vs)(h:∀ b,b<w.heap.size->P b->Q b/\w'.heap[b]?=w.heap[b]?)(h1:P ad.block):Q ad.block/\UZ w' ad vs:=by
 have h0:w.cell? (ad.add 0)=vs[0]?:=hc.2 0 (List.length_pos_iff.2 hc.1);obtain⟨v,hv⟩:∃ v,vs[0]?=some v:=⟨_,List.getElem?_eq_getElem (List.length_pos_iff.2 hc.1)⟩;rw[hv]at h0;have AP:ad.block<w.heap.size:=by grind[GM,Addr.add]
 obtain⟨q,hh⟩:=h _ AP h1;refine⟨q,hc.1,λi hi=>?_⟩;rw[<- hc.2 i hi];grind[Addr.add,World.cell?]
mutual
theorem PR.mono(h:∀ b,b<w.heap.size->ro b->QX b/\w'.heap[b]?=w.heap[b]?):∀ (x:AV) (u:Value),PR ro w x u->PR QX w' x u
 |.undef,_,hu=>by grind[PR]
 |.v x,u,hu=>by grind[PR]
 |.sl t n es,u,hu=>by
  simp only[PR]at hu ⊢;obtain⟨h0,a,cap,h1,h2,h3,h4,h5,h6⟩:=hu;refine⟨h0,a,cap,h1,h2,h3,h4,h5,?_⟩;rcases h6 with h6|⟨ad,h6,h7,h8⟩
  ·grind
  ·match es,h8 with
   |[],_=>grind
   | e::es,h8 =>
    have:=Ea.mono h (e::es) ad n 0 h7 h8;refine .inr ⟨ad,h6,?_,this⟩
    match e,n,h5,h8 with
    |[],n,h5,h8 =>
     grind[Ea]
    | c::cs,n,_,h8 =>
     grind[Ea,EG,GM,GV]
 |.agg _,_,hu=>by grind[PR]
 |.BC _,_,hu=>by grind[PR]
 |.ptr _ _,_,hu=>by grind[PR]
 |.ep _ _ _ _,_,hu=>by grind[PR]
 |.fn _ _,_,hu=>by grind[PR]
 |.mv _ _,_,hu=>by grind[PR]
 |.mp _,_,hu=>by grind[PR]
 |.Kb _ _,_,hu=>by grind[PR]
 |.mem _ _,_,hu=>by grind[PR]
theorem Ea.mono(h:∀ b,b<w.heap.size->ro b->QX b/\w'.heap[b]?=w.heap[b]?):∀ (es:List (List AV)) (ad:Addr) (n i:Nat),ro ad.block->Ea ro w es ad n i->Ea QX w' es ad n i
 |[],_,_,_,_,_=>by simp[Ea]
 | e::es,ad,n,i,hr,hu=>by
  simp only[Ea]at hu ⊢;exact⟨hu.1,EG.mono h e ad _ hr hu.2.1,Ea.mono h es ad n _ hr hu.2.2⟩
theorem EG.mono(h:∀ b,b<w.heap.size->ro b->QX b/\w'.heap[b]?=w.heap[b]?):∀ (cs:List AV) (ad:Addr) (j:Nat),ro ad.block->EG ro w cs ad j->EG QX w' cs ad j
 |[],_,_,_,_=>by simp[EG]
 | c::cs,ad,j,hr,hu=>by
  simp only[EG]at hu ⊢;obtain⟨⟨u,h1,h2⟩,h3⟩:=hu;refine⟨⟨u,?_,PR.mono h c u h2⟩,EG.mono h cs ad _ hr h3⟩;have AP:=GM h1;rw[World.cell?_of_block (w:=w) (by rw[GV]at AP ⊢;exact(h _ AP hr).2)];exact h1
end
def EG.Ls(h:∀ b,b<w.heap.size->ro b->QX b/\w'.heap[b]?=w.heap[b]?):∀ (cs:List AV) (ad:Addr) (j:Nat),w'.heap[ad.block]?=w.heap[ad.block]?->EG ro w cs ad j->EG QX w' cs ad j
 |[],_,_,_,_=>by simp[EG]
 | c::cs,ad,j,hr,hu=>by
  simp only[EG]at hu ⊢;obtain⟨⟨u,h1,h2⟩,h3⟩:=hu;refine⟨⟨u,?_,PR.mono h c u h2⟩,EG.Ls h cs ad _ hr h3⟩;rw[World.cell?_of_block (w:=w) (by rw[GV];exact hr)];exact h1
def Ea.Ls(h:∀ b,b<w.heap.size->ro b->QX b/\w'.heap[b]?=w.heap[b]?):∀ (es:List (List AV)) (ad:Addr) (n i:Nat),w'.heap[ad.block]?=w.heap[ad.block]?->Ea ro w es ad n i->Ea QX w' es ad n i
 |[],_,_,_,_,_=>by simp[Ea]
 | e::es,ad,n,i,hr,hu=>by
  simp only[Ea]at hu ⊢;exact⟨hu.1,EG.Ls h e ad _ hr hu.2.1,Ea.Ls h es ad n _ hr hu.2.2⟩
end mono
structure Lasts(S T:List Nat)(g:Gh)(w:World)(g':Gh)(w':World):Prop where
 ro:∀ b,b<w.heap.size->g.own b=.ro->g'.own b=.ro/\w'.heap[b]?=w.heap[b]?
 row:∀ b q,b<w.heap.size->q∉S->g.own b=.row q->g'.own b=.row q/\w'.heap[b]?=w.heap[b]?
 rows:∀ q,q∉S->g'.row q=g.row q
 boxes:∀ s,s∉T->g'.box s=g.box s
def Lasts.QX{S T:List Nat}{g g':Gh}{w w':World}(h:Lasts S T g w g' w'):∀ b,b<w.heap.size->CK g b->CK g' b/\w'.heap[b]?=w.heap[b]?:=h.ro
theorem Ix.mono{g g':Gh}{w w':World}(h:∀ b,b<w.heap.size->CK g b->CK g' b/\w'.heap[b]?=w.heap[b]?){t:Tag}{i:Nat}{cells:List AV}{off:Nat}{u:Value}(hu:Ix g w t i cells off u)(ht:∀ r lo,t≠.own r lo):Ix g' w' t i cells off u:=by
 have key:(∃ ad:Addr,u=.pointer (some (ad.add off))/\0<cells.length/\CK g ad.block/\EG (CK g) w cells ad 0)->∃ ad:Addr,u=.pointer (some (ad.add off))/\0<cells.length/\CK g' ad.block/\EG (CK g') w' cells ad 0:=by
  intro ⟨ad,h1,h0,h2,h3⟩
  match cells,h0,h3 with
  | c::cs,h0,h3 =>
   grind[EG,GM,GV,EG.mono]
 match t,ht with
 |.own r lo,ht=>grind
 |.no,_=>exact key hu
 |.full,_=>exact key hu
mutual
theorem VR.Cz{g g':Gh}{w w':World}{f:AV->AV}(Vr:∀ b,b<w.heap.size->CK g b->CK g' b/\w'.heap[b]?=w.heap[b]?)(h1:∀ r lo n es u,Dr g w r lo n es u->VR g' w' (f (.sl (.own r lo) n es)) u)
 (h2:∀ s off u,VR g w (.ptr s off) u->VR g' w' (f (.ptr s off)) u) (h3:∀ r lo i cells off u,Ix g w (.own r lo) i cells off u->VR g' w' (f (.ep (.own r lo) i cells off)) u) (h4:∀ s u,VR g w (.mp s) u->VR g' w' (f (.mp s)) u) :
 ∀ (x:AV) (u:Value),VR g w x u->VR g' w' (x.Cz f) u
 |.undef,_,_=>by simp[AV.Cz,VR]
 |.v x,u,hu=>by grind[AV.Cz,VR]
 |.agg cs,u,hu=>by
  simp only[AV.Cz,VR]at hu ⊢;obtain⟨us,k1,k2⟩:=hu;exact⟨us,k1,Bf.Cz Vr h1 h2 h3 h4 cs us.toList k2⟩
 |.BC cs,u,hu=>by
  simp only[AV.Cz,VR]at hu ⊢;obtain⟨us,k1,k2⟩:=hu;exact⟨us,k1,Bf.Cz Vr h1 h2 h3 h4 cs us.toList k2⟩
 |.sl (.own r lo) n es,u,hu=>by grind[AV.Cz,VR]
 |.sl .no n es,u,hu=>by grind[AV.Cz,VR,PR.mono]
 |.sl .full n es,u,hu=>by grind[AV.Cz,VR,PR.mono]
 |.ptr s off,u,hu=>by grind[AV.Cz]
 |.mp s,u,hu=>by grind[AV.Cz]
 |.ep (.own r lo) i cells off,u,hu=>by grind[AV.Cz,VR]
 |.ep .no i cells off,u,hu=>by
  simp[AV.Cz,VR]at hu ⊢;exact Ix.mono Vr hu (λ_ _=>Tag.noConfusion)
 |.ep .full i cells off,u,hu=>by
  simp[AV.Cz,VR]at hu ⊢;exact Ix.mono Vr hu (λ_ _=>Tag.noConfusion)
 |.fn q CW,u,hu=>by
  simp only[AV.Cz,VR]at hu ⊢;obtain⟨us,k1,k2⟩:=hu;exact⟨us,k1,Bf.Cz Vr h1 h2 h3 h4 CW us.toList k2⟩
 |.mv q CW,u,hu=>by
  simp only[AV.Cz,VR]at hu ⊢;obtain⟨us,k1,k2⟩:=hu;exact⟨us,k1,Bf.Cz Vr h1 h2 h3 h4 CW us.toList k2⟩
 |.Kb t x,u,hu=>by
  simp only[AV.Cz,VR]at hu ⊢;obtain⟨y,k1,k2⟩:=hu;exact⟨y,k1,VR.Cz Vr h1 h2 h3 h4 x y k2⟩
 |.mem b xs,u,hu=>by
  simp only[AV.Cz,VR]at hu ⊢;obtain⟨ad,vs,k1,k2,k3,k4⟩:=hu;obtain⟨k5,k6⟩:=k2.move Vr k1;exact⟨ad,vs,k5,k6,Bf.Cz Vr h1 h2 h3 h4 xs vs k3,k4⟩
theorem Bf.Cz{g g':Gh}{w w':World}{f:AV->AV}(Vr:∀ b,b<w.heap.size->CK g b->CK g' b/\w'.heap[b]?=w.heap[b]?)(h1:∀ r lo n es u,Dr g w r lo n es u->VR g' w' (f (.sl (.own r lo) n es)) u)
 (h2:∀ s off u,VR g w (.ptr s off) u->VR g' w' (f (.ptr s off)) u) (h3:∀ r lo i cells off u,Ix g w (.own r lo) i cells off u->VR g' w' (f (.ep (.own r lo) i cells off)) u) (h4:∀ s u,VR g w (.mp s) u->VR g' w' (f (.mp s)) u) :
 ∀ (cs:List AV) (us:List Value),Bf g w cs us->Bf g' w' (F0 f cs) us
 |[],[],_=>by simp[F0,Bf]
 |[],_::_,hu=>by grind[Bf]
 |_::_,[],hu=>by grind[Bf]
 | c::cs,u::us,hu=>by
  simp only[F0,Bf]at hu ⊢;exact⟨VR.Cz Vr h1 h2 h3 h4 c u hu.1,Bf.Cz Vr h1 h2 h3 h4 cs us hu.2⟩
end
mutual
def Vy{f:AV->AV}(h1:∀ r lo n es,f (.sl (.own r lo) n es)=.sl (.own r lo) n es)(h2:∀ s off,f (.ptr s off)=.ptr s off)(h3:∀ r lo i cells off,f (.ep (.own r lo) i cells off)=.ep (.own r lo) i cells off)(h4:∀ s,f (.mp s)=.mp s):∀ x:AV,x.Cz f=x
 |.undef=>rfl
 |.v _=>rfl
 |.agg cs=>by simp only[AV.Cz,Jw h1 h2 h3 h4 cs]
 |.BC cs=>by simp only[AV.Cz,Jw h1 h2 h3 h4 cs]
 |.sl (.own r lo) n es=>h1 r lo n es
 |.sl .no _ _=>rfl
 |.sl .full _ _=>rfl
 |.ptr s off=>h2 s off
 |.ep (.own r lo) i cells off=>h3 r lo i cells off
 |.ep .no _ _ _=>rfl
 |.ep .full _ _ _=>rfl
 |.fn _ CW=>by simp only[AV.Cz,Jw h1 h2 h3 h4 CW]
 |.mv _ CW=>by simp only[AV.Cz,Jw h1 h2 h3 h4 CW]
 |.mp s=>h4 s
 |.Kb _ x=>by simp only[AV.Cz,Vy h1 h2 h3 h4 x]
 |.mem _ xs=>by simp only[AV.Cz,Jw h1 h2 h3 h4 xs]
def Jw{f:AV->AV}(h1:∀ r lo n es,f (.sl (.own r lo) n es)=.sl (.own r lo) n es)(h2:∀ s off,f (.ptr s off)=.ptr s off)(h3:∀ r lo i cells off,f (.ep (.own r lo) i cells off)=.ep (.own r lo) i cells off)(h4:∀ s,f (.mp s)=.mp s):∀ xs:List AV,F0 f xs=xs
 |[]=>rfl
 | x::xs=>by simp only[F0,Vy h1 h2 h3 h4 x,Jw h1 h2 h3 h4 xs]
end
section
variable {S T:List Nat} {g g':Gh} {w w':World} {r r' lo n i off:Nat} {es:List (List AV)} {cells:List AV} {u:Value}
def Dr.map(Vr:∀ b,b<w.heap.size->CK g b->CK g' b/\w'.heap[b]?=w.heap[b]?)(hr:g'.row r'=g.row r)(ho:g.row r<w.heap.size->g.own (g.row r)=.row r->g'.own (g.row r)=.row r'/\w'.heap[g.row r]?=w.heap[g.row r]?)(hu:Dr g w r lo n es u):Dr g' w' r' lo n es u:=by
 refine⟨hu.1,?_⟩;rcases hu.2 with hu|hu|⟨cap,cur,T',h1,h2,h3,h5,h6,h7,h8⟩
 ·grind
 ·grind
 ·obtain⟨k1,k2⟩:=ho (QO h6) h5;rw[<- hr]at h1 h5 h6 h8 k1 k2;exact .inr (.inr ⟨cap,cur,T',h1,h2,h3,k1,k2.trans h6,h7,Ea.Ls Vr es _ n 0 k2 h8⟩)
def Ix.map(Vr:∀ b,b<w.heap.size->CK g b->CK g' b/\w'.heap[b]?=w.heap[b]?)(hr:g'.row r'=g.row r)(ho:g.row r<w.heap.size->g.own (g.row r)=.row r->g'.own (g.row r)=.row r'/\w'.heap[g.row r]?=w.heap[g.row r]?)(hu:Ix g w (.own r lo) i cells off u):Ix g' w' (.own r' lo) i cells off u:=by
 obtain⟨cur,T',h1,h2,h3,h4,h5⟩:=hu;obtain⟨k1,k2⟩:=ho (QO h3) h2;rw[<- hr]at h1 h2 h3 h5 k1 k2;exact⟨cur,T',h1,k1,k2.trans h3,h4,EG.Ls Vr cells _ 0 k2 h5⟩
def Dr.ro(Vr:∀ b,b<w.heap.size->CK g b->CK g' b/\w.heap[b]?=w.heap[b]?)(ho:g.own (g.row r)=.row r->g'.own (g.row r)=.ro)(hu:Dr g w r lo n es u):VR g' w (.sl .no n es) u:=by
 simp only[VR,PR];refine⟨(λ_ _ h=>by cases h),?_⟩;rcases hu.2 with ⟨h1,h2⟩|⟨_,h2,a',cap,h3,h4⟩|⟨cap,cur,T',h1,h2,h3,h5,h6,h7,h8⟩
 ·subst h2;exact⟨_,0,h1,by simp,by omega,(by grind),hu.1,.inl rfl⟩
 ·subst h2;exact⟨_,cap,h3,by simp,h4,(by grind),hu.1,.inl rfl⟩
 ·exact⟨_,cap,h1,h2,by omega,(by grind),hu.1,.inr ⟨_,rfl,ho h5,Ea.Ls Vr es _ n 0 rfl h8⟩⟩
def Lasts.sl(h:Lasts S T g w g' w')(r lo n:Nat)(es:List (List AV))(u:Value)(hu:Dr g w r lo n es u):VR g' w' (AV.Ii S T (.sl (.own r lo) n es)) u:=by
 simp[AV.Ii];split
 ·simp[VR]
 ·rename_i hr;exact hu.map h.QX (h.rows r hr) (λhb=>h.row _ r hb hr)
def Lasts.ep(h:Lasts S T g w g' w')(r lo i:Nat)(cells:List AV)(off:Nat)(u:Value)(hu:Ix g w (.own r lo) i cells off u):VR g' w' (AV.Ii S T (.ep (.own r lo) i cells off)) u:=by
 simp[AV.Ii];split
 ·simp[VR]
 ·rename_i hr;exact hu.map h.QX (h.rows r hr) (λhb=>h.row _ r hb hr)
def Lasts.ptr(h:Lasts S T g w g' w')(s off:Nat)(u:Value)(hu:VR g w (.ptr s off) u):VR g' w' (AV.Ii S T (.ptr s off)) u:=by
 simp[AV.Ii];split
 ·simp[VR]
 ·rename_i hs;simp[VR]at hu ⊢;rw[h.boxes s hs];omega
def Lasts.mp(h:Lasts S T g w g' w')(s:Nat)(u:Value)(hu:VR g w (.mp s) u):VR g' w' (AV.Ii S T (.mp s)) u:=by
 simp[AV.Ii];split
 ·simp[VR]
 ·rename_i hs;simp[VR]at hu ⊢;rw[h.boxes s hs];omega
theorem VR.lasts(h:Lasts S T g w g' w'):∀ (x:AV) (u:Value),VR g w x u->VR g' w' (x.kill S T) u:=VR.Cz h.QX h.sl h.ptr h.ep h.mp
theorem Bf.lasts(h:Lasts S T g w g' w'):∀ (cs:List AV) (us:List Value),Bf g w cs us->Bf g' w' (NQ S T cs) us:=Bf.Cz h.QX h.sl h.ptr h.ep h.mp
end
end Go.Abs
namespace Go.Abs
structure Ctx where
 P:Program
 G:Nat->Option (List AV)
structure St where
 tmps:List (Nat × AV)
 Aj:List (Nat × List AV)
def lk{α:Type}(k:Nat):List (Nat × α)->Option α
 |[]=>none
 |(j,x)::l=>if j=k then some x else lk k l
def ON(S T:List Nat):List (Nat × AV)->List (Nat × AV)
 |[]=>[]
 |(k,x)::l=>(k,x.kill S T)::ON S T l
def JZ(S T:List Nat):List (Nat × List AV)->List (Nat × List AV)
 |[]=>[]
 |(k,x)::l=>if k∈T then JZ S T l else (k,NQ S T x)::JZ S T l
def St.kill(S T:List Nat)(st:St):St:=⟨ON S T st.tmps,JZ S T st.Aj⟩
def St.put(d:Option Nat)(x:AV)(st:St):St :=
 match d with
 |some k=>⟨(k,x)::st.tmps,st.Aj⟩
 |none=>st
def ev(C:Ctx)(st:St):Operand->AV
 |.tmp t=>(lk t st.tmps).getD .undef
 |.const v=>.v v
 |.func f=>.fn f []
 |.global i=>match C.G i with
  |some cs=>.ep .no 0 cs 0
  |none=>.undef
structure A0 where
 w:World
 g:Gh
 ext:List Nat
def A0.fixed(A:A0)(b:Nat):Prop:=A.g.own b=.ro\/A.g.own b=.other
def Od(w w':World):Prop:=w'.tape=w.tape/\w.drawn<=w'.drawn
structure Fr(C:Ctx)(A:A0)(g:Gh)(w:World):Prop where
 os:w.os=A.w.os
 tape:Od A.w w
 output:w.output=A.w.output
 size:A.w.heap.size<=w.heap.size
 FD:∀ b,b<A.w.heap.size->A.fixed b->w.heap[b]?=A.w.heap[b]?/\g.own b=A.g.own b
 box:∀ s,s∈A.ext->g.box s=A.g.box s
 glob:∀ i cs,C.G i=some cs->0<cs.length/\CK g i/\EG (CK g) w cs ⟨i,0,none⟩ 0
def DV:List MapEntry->List Value
 |[]=>[]
 | e::es=>e.key::e.val::DV es
def Er(g:Gh)(w:World)(s:Nat)(cs:List AV):Prop :=
 g.own (g.box s)=.box s/\((Dm s=false/\∃ cur T,w.heap[g.box s]?=some (.cells cur T (0,0))/\Bf g w cs cur.toList) \/
  (Dm s=true/\∃ es Ys,w.heap[g.box s]?=some (.map es Ys)/\Bf g w cs (DV es.toList)))
def Er.lift{g g':Gh}{w w':World}{s s':Nat}{cs N7:List AV}(h:Er g w s cs)(hk:Dm s'=Dm s)(ho:g'.own (g'.box s')=.box s')(hh:w'.heap[g'.box s']?=w.heap[g.box s]?)
 (hv:∀ us,Bf g w cs us->Bf g' w' N7 us):Er g' w' s' N7:=by
 obtain⟨_,⟨h1,cur,T,h2,h3⟩|⟨h1,es,Ys,h2,h3⟩⟩:=h
 ·exact⟨ho,.inl ⟨hk.trans h1,cur,T,hh.trans h2,hv _ h3⟩⟩
 ·exact⟨ho,.inr ⟨hk.trans h1,es,Ys,hh.trans h2,hv _ h3⟩⟩
theorem Er.cells{g:Gh}{w:World}{s:Nat}{cs:List AV}(h:Er g w s cs)(hk:Dm s=false):∃ cur T,w.heap[g.box s]?=some (.cells cur T (0,0))/\Bf g w cs cur.toList:=by obtain⟨_,⟨_,h⟩|⟨h1,_⟩⟩:=h<;>grind
structure R(C:Ctx)(A:A0)(N:Nat)(g:Gh)(st:St)(a:Act)(w:World):Prop where
 size:a.tmps.size=N
 defs:a.defers=[]
 tm:∀ k x,lk k st.tmps=some x->∃ u,a.tmps[k]?=some u/\VR g w x u
 ob:∀ s cs,lk s st.Aj=some cs->Er g w s cs
 fr:Fr C A g w
def WY(S T:List Nat)(k:Nat):∀ l:List (Nat × AV),lk k (ON S T l)=(lk k l).map (·.kill S T)
 |[]=>rfl
 |(j,x)::l=>by
  simp only[ON,lk];split
  ·rfl
  ·exact WY S T k l
def WX(S T:List Nat)(k:Nat):∀ l:List (Nat × List AV),lk k (JZ S T l)=if k∈T then none else (lk k l).map (NQ S T)
 |[]=>by simp[JZ,lk]
 |(j,x)::l=>by
  simp[JZ]
  by_cases hj:j∈T
  ·simp[hj];rw[WX S T k l]
   by_cases hk:k∈T
   ·simp[hk]
   ·have:j≠k:=λe=>hk (e▸hj)
    simp[hk,lk,this]
  ·simp[hj,if_false,lk]
   by_cases gl:j=k<;>simp_all[WX]
section
variable {C:Ctx} {A:A0} {N:Nat} {g g':Gh} {st:St} {a:Act} {w w':World}
theorem Bf.length:∀ {cs:List AV} {us:List Value},Bf g w cs us->cs.length=us.length
 |[],[],_=>rfl
 |[],_::_,h=>by grind[Bf]
 |_::_,[],h=>by grind[Bf]
 | c::cs,u::us,h=>by
  simp only[Bf]at h;simp[Bf.length h.2]
def Fr.step(h:Fr C A g w){S T:List Nat}(hl:Lasts S T g w g' w')(xj:w'.os=w.os)(lQ:Od w w')(xk:w'.output=w.output)(Hb:w.heap.size<=w'.heap.size)
 (QK:∀ b,b<w.heap.size->g.own b=.other->g'.own b=.other/\w'.heap[b]?=w.heap[b]?) (JR:∀ s,s∈A.ext->s∉T):Fr C A g' w' where
 os:=xj.trans h.os
 tape:=⟨lQ.1.trans h.tape.1,Nat.le_trans h.tape.2 lQ.2⟩
 output:=xk.trans h.output
 size:=Nat.le_trans h.size Hb
 FD:=λb hb hf=>by
  have hk:=h.FD b hb hf;have AP:b<w.heap.size:=Nat.lt_of_lt_of_le hb h.size;rcases hf with hf|hf
  ·have:=hl.ro b AP (hk.2.trans hf);grind
  grind
 box:=λs hs=>(hl.boxes s (JR s hs)).trans (h.box s hs)
 glob:=λi cs hi=>by
  obtain⟨h1,h2,h3⟩:=h.glob i cs hi
  match cs,h1,h3 with
  | c::cs,h1,h3 =>
   have lH:=h3;simp only[EG]at lH;obtain⟨⟨u,hu,_⟩,_⟩:=lH;have AP:=GM hu;rw[GV]at AP;exact⟨h1,(hl.ro i AP h2).1,EG.mono hl.QX _ ⟨i,0,none⟩ 0 h2 h3⟩
theorem R.lasts(h:R C A N g st a w){S T:List Nat}(hl:Lasts S T g w g' w')(Ig:Fr C A g' w')
 (Ahn:∀ s cs,lk s st.Aj=some cs->s∉T->g'.own (g.box s)=.box s/\w'.heap[g.box s]?=w.heap[g.box s]?):R C A N g' (st.kill S T) a w' where
 size:=h.size
 defs:=h.defs
 tm:=λk x hx=>by
  simp only[St.kill,WY]at hx;obtain⟨y,hy,rfl⟩:=Option.map_eq_some_iff.1 hx;obtain⟨u,hu,hv⟩:=h.tm k y hy;grind[VR.lasts]
 ob:=λs cs hs=>by
  simp only[St.kill,WX]at hs
  by_cases hT:s∈T
  ·grind
  ·simp only[hT,if_false]at hs;obtain⟨y,hy,rfl⟩:=Option.map_eq_some_iff.1 hs;obtain⟨k1,k2⟩:=Ahn s y hy hT;exact(h.ob s y hy).lift rfl (by rw[hl.boxes s hT];omega) (by rw[hl.boxes s hT];omega) (λus hu=>Bf.lasts hl _ _ hu)
 fr:=Ig
theorem R.put(h:R C A N g st a w){d:Option Nat}(hd:∀ k,d=some k->k<N){x:AV}{u:Value}(hx:VR g w x u):R C A N g (st.put d x) (a.put d u) w:=by
 cases d with
 |none=>exact h
 |some k =>
  have hk:=hd k rfl;refine⟨by simp[Act.put,h.size],by simp[Act.put,h.defs],λj y hy=>?_,h.ob,h.fr⟩;simp[St.put,lk]at hy
  by_cases gl:k=j
  ·subst gl;simp at hy;subst hy;refine⟨u,?_,hx⟩;simp[Act.put,h.size,hk]
  ·simp[gl]at hy;obtain⟨v,hv,hr⟩:=h.tm j y hy;grind[Act.put]
def R.ev(h:R C A N g st a w)(x:Operand):VR g w (ev C st x) (a.eval x):=by
 cases x with
 | tmp t =>
  simp[Abs.ev];cases ht:lk t st.tmps with
  |none=>simp[VR]
  |some y =>
   obtain⟨u,hu,hv⟩:=h.tm t y ht;simp_all[Act.eval]
 | const v=>simp[Abs.ev,VR,Act.eval]
 | func f=>exact⟨#[],rfl,by simp[Bf]⟩
 | global i =>
  simp[Abs.ev];cases hi:C.G i with
  |none=>simp[VR]
  |some cs =>
   obtain⟨h1,h2,h3⟩:=h.fr.glob i cs hi;exact⟨⟨i,0,none⟩,rfl,h1,h2,h3⟩
end
def IG:AV->Option AV
 |.undef=>some .undef
 |.v x=>some (.v x)
 |.sl (.own r 0) n es=>some (.sl .no n es)
 |.sl .no n es=>some (.sl .no n es)
 |.sl .full n es=>some (.sl .full n es)
 |.fn f []=>some (.fn f [])
 |_=>none
def P9:List AV->Option (List AV)
 |[]=>some []
 | c::cs=>match IG c,P9 cs with
  |some x,some xs=>some (x::xs)
  |_,_=>none
def rowsOf:List AV->List Nat
 |[]=>[]
 |.sl (.own r 0) _ _::cs=>r::rowsOf cs
 |_::cs=>rowsOf cs
def AV.C7(S:List Nat):AV->AV
 |.sl (.own r lo) n es=>if r∈S then .sl .no n es else .sl (.own r lo) n es
 |.ptr s off=>.ptr s off
 |.ep (.own r lo) i cells off=>if r∈S then .undef else .ep (.own r lo) i cells off
 |.mp s=>.mp s
 | x=>x
def AV.freeze(S:List Nat)(x:AV):AV:=x.Cz (AV.C7 S)
def Ng(S:List Nat)(cs:List AV):List AV:=F0 (AV.C7 S) cs
def Gh.freeze(S:List Nat)(g:Gh):Gh :=
 { g with own:=λb=>match g.own b with
   |.row r=>if r∈S then .ro else .row r
   | o=>o }
section
variable {C:Ctx} {A:A0} {N:Nat} {g g':Gh} {st:St} {a:Act} {w w':World} {S:List Nat}
theorem SV(b:Nat)(h:g.own b=.ro):(g.freeze S).own b=.ro:=by simp[Gh.freeze,h]
theorem WB(b r:Nat)(h:g.own b=.row r)(hr:r∈S):(g.freeze S).own b=.ro:=by grind[Gh.freeze]
def Uc(b r:Nat)(h:g.own b=.row r)(hr:r∉S):(g.freeze S).own b=.row r:=by grind[Gh.freeze]
def iv(b s:Nat)(h:g.own b=.box s):(g.freeze S).own b=.box s:=by simp[Gh.freeze,h]
theorem a7(b:Nat)(h:g.own b=.other):(g.freeze S).own b=.other:=by simp[Gh.freeze,h]
def K0:∀ b,b<w.heap.size->CK g b->CK (g.freeze S) b/\w.heap[b]?=w.heap[b]?:=λb _ h=>⟨SV b h,rfl⟩
def YX(r lo n:Nat)(es:List (List AV))(u:Value)(hu:Dr g w r lo n es u):VR (g.freeze S) w (AV.C7 S (.sl (.own r lo) n es)) u:=by
 simp[AV.C7];split
 ·rename_i hr;exact hu.ro K0 λh=>WB _ r h hr
 ·rename_i hr;exact hu.map K0 rfl λ_ h=>⟨Uc _ r h hr,rfl⟩
def YW(r lo i:Nat)(cells:List AV)(off:Nat)(u:Value)(hu:Ix g w (.own r lo) i cells off u):VR (g.freeze S) w (AV.C7 S (.ep (.own r lo) i cells off)) u:=by
 simp[AV.C7];split
 ·simp[VR]
 ·rename_i hr;exact hu.map K0 rfl λ_ h=>⟨Uc _ r h hr,rfl⟩
theorem VR.freeze:∀ (x:AV) (u:Value),VR g w x u->VR (g.freeze S) w (x.freeze S) u :=
 VR.Cz K0 YX (λ_ _ _ hu=>by simp_all[AV.C7,VR,Gh.freeze]) YW (λ_ _ hu=>by simp_all[AV.C7,VR,Gh.freeze])
theorem Bf.freeze:∀ (cs:List AV) (us:List Value),Bf g w cs us->Bf (g.freeze S) w (Ng S cs) us :=
 Bf.Cz K0 YX (λ_ _ _ hu=>by simp_all[AV.C7,VR,Gh.freeze]) YW (λ_ _ hu=>by simp_all[AV.C7,VR,Gh.freeze])
end
end Go.Abs
namespace Go.Abs
def CR(ro:Nat->Prop)(w:World):List AV->List Value->Prop
 |[],[]=>True
 | c::cs,u::us=>PR ro w c u/\CR ro w cs us
 |_,_=>False
section
variable {ro QX:Nat->Prop} {w w':World}
theorem CR.length:∀ {cs:List AV} {us:List Value},CR ro w cs us->cs.length=us.length
 |[],[],_=>rfl
 |[],_::_,h=>by grind[CR]
 |_::_,[],h=>by grind[CR]
 | c::cs,u::us,h=>by
  simp only[CR]at h;simp[CR.length h.2]
theorem CR.mono(h:∀ b,b<w.heap.size->ro b->QX b/\w'.heap[b]?=w.heap[b]?):∀ {cs:List AV} {us:List Value},CR ro w cs us->CR QX w' cs us
 |[],[],_=>by simp[CR]
 |[],_::_,hu=>by grind[CR]
 |_::_,[],hu=>by grind[CR]
 | c::cs,u::us,hu=>by
  simp only[CR]at hu ⊢;exact⟨PR.mono h _ _ hu.1,CR.mono h hu.2⟩
theorem CR.append:∀ {cs ds:List AV} {us vs:List Value},CR ro w cs us->CR ro w ds vs->CR ro w (cs++ds) (us++vs)
 |[],_,[],_,_,h=>by grind
 |[],_,_::_,_,hu,_=>by grind[CR]
 |_::_,_,[],_,hu,_=>by grind[CR]
 | c::cs,ds,u::us,vs,hu,h=>by
  simp only[List.cons_append,CR]at hu ⊢;exact⟨hu.1,CR.append hu.2 h⟩
def CR.get:∀ {cs:List AV} {us:List Value},CR ro w cs us->∀ (i:Nat) (c:AV),cs[i]?=some c->∃ u,us[i]?=some u/\PR ro w c u
 |[],_,_,i,c,h=>by grind
 |_::_,[],hu,_,_,_=>by grind[CR]
 | c::cs,u::us,hu,0,d,h=>by grind[CR]
 | c::cs,u::us,hu,i+1,d,h=>by
  simp only[CR]at hu;simp at h;obtain⟨v,h1,h2⟩:=CR.get hu.2 i d h;exact⟨v,by simpa using h1,h2⟩
theorem CR.take:∀ {cs:List AV} {us:List Value} (n:Nat),CR ro w cs us->CR ro w (cs.take n) (us.take n)
 |_,_,0,_=>by simp[CR]
 |[],[],n+1,_=>by grind
 |[],_::_,_+1,hu=>by grind[CR]
 |_::_,[],_+1,hu=>by grind[CR]
 | c::cs,u::us,n+1,hu=>by
  simp only[List.take_succ_cons,CR]at hu ⊢;exact⟨hu.1,CR.take n hu.2⟩
theorem CR.drop:∀ {cs:List AV} {us:List Value} (n:Nat),CR ro w cs us->CR ro w (cs.drop n) (us.drop n)
 |_,_,0,h=>by grind
 |[],[],n+1,_=>by grind
 |[],_::_,_+1,hu=>by grind[CR]
 |_::_,[],_+1,hu=>by grind[CR]
 | c::cs,u::us,n+1,hu=>by
  simp only[List.drop_succ_cons,CR]at hu ⊢;exact CR.drop n hu.2
theorem Bf.take{g:Gh}:∀ {cs:List AV} {us:List Value} (n:Nat),Bf g w cs us->Bf g w (cs.take n) (us.take n)
 |_,_,0,_=>by simp[Bf]
 |[],[],n+1,_=>by grind
 |[],_::_,_+1,hu=>by grind[Bf]
 |_::_,[],_+1,hu=>by grind[Bf]
 | c::cs,u::us,n+1,hu=>by
  simp only[List.take_succ_cons,Bf]at hu ⊢;exact⟨hu.1,Bf.take n hu.2⟩
theorem Bf.drop{g:Gh}:∀ {cs:List AV} {us:List Value} (n:Nat),Bf g w cs us->Bf g w (cs.drop n) (us.drop n)
 |_,_,0,h=>by grind
 |[],[],n+1,_=>by grind
 |[],_::_,_+1,hu=>by grind[Bf]
 |_::_,[],_+1,hu=>by grind[Bf]
 | c::cs,u::us,n+1,hu=>by
  simp only[List.drop_succ_cons,Bf]at hu ⊢;exact Bf.drop n hu.2
theorem Bf.append{g:Gh}:∀ {cs ds:List AV} {us vs:List Value},Bf g w cs us->Bf g w ds vs->Bf g w (cs++ds) (us++vs)
 |[],_,[],_,_,h=>by grind
 |[],_,_::_,_,hu,_=>by grind[Bf]
 |_::_,_,[],_,hu,_=>by grind[Bf]
 | c::cs,ds,u::us,vs,hu,h=>by
  simp only[List.cons_append,Bf]at hu ⊢;exact⟨hu.1,Bf.append hu.2 h⟩
def Bf.get{g:Gh}:∀ {cs:List AV} {us:List Value},Bf g w cs us->∀ (i:Nat) (c:AV),cs[i]?=some c->∃ u,us[i]?=some u/\VR g w c u
 |[],_,_,i,c,h=>by grind
 |_::_,[],hu,_,_,_=>by grind[Bf]
 | c::cs,u::us,hu,0,d,h=>by grind[Bf]
 | c::cs,u::us,hu,i+1,d,h=>by
  simp only[Bf]at hu;simp at h;obtain⟨v,h1,h2⟩:=Bf.get hu.2 i d h;exact⟨v,by simpa using h1,h2⟩
theorem PR.VR{g:Gh}:∀ (x:AV) (u:Value),PR (CK g) w x u->VR g w x u
 |.undef,_,_=>by simp[Abs.VR]
 |.v x,u,h=>by grind[PR,Abs.VR]
 |.sl (.own r lo) n es,u,h=>by grind[PR]
 |.sl .no n es,u,h=>by grind[Abs.VR]
 |.sl .full n es,u,h=>by grind[Abs.VR]
 |.agg _,_,hu=>by grind[PR]
 |.BC _,_,hu=>by grind[PR]
 |.ptr _ _,_,hu=>by grind[PR]
 |.ep _ _ _ _,_,hu=>by grind[PR]
 |.fn _ _,_,hu=>by simp_all[PR,Abs.VR,Abs.Bf]
 |.mv _ _,_,hu=>by grind[PR]
 |.mp _,_,hu=>by grind[PR]
 |.Kb _ _,_,hu=>by grind[PR]
 |.mem _ _,_,hu=>by grind[PR]
theorem PR.one{x:AV}{u:Value}(h:PR ro w x u):u.oneCell'=true:=by
 cases x with
 | undef=>grind[PR]
 | v x=>grind[PR]
 | sl t n es=>simp only[PR]at h;obtain⟨_,_,_,rfl,_⟩:=h;rfl
 | fn f CW=>simp[PR]at h;obtain⟨rfl,rfl⟩:=h;rfl
 |_=>simp[PR]at h
theorem CR.one:∀ {cs:List AV} {us:List Value},CR ro w cs us->∀ u∈us,u.oneCell'=true
 |[],[],_,u,hu=>by grind
 |[],_::_,hu,_,_=>by grind[CR]
 |_::_,[],hu,_,_=>by grind
 | c::cs,v::us,h,u,hu=>by
  simp[CR]at h;rcases List.mem_cons.1 hu with rfl|hu
  ·grind[PR.one]
  ·exact CR.one h.2 u hu
theorem CR.Bf{g:Gh}:∀ {cs:List AV} {us:List Value},CR (CK g) w cs us->Bf g w cs us
 |[],[],_=>by simp[Abs.Bf]
 |[],_::_,hu=>by grind[CR]
 |_::_,[],hu=>by grind[CR]
 | c::cs,u::us,hu=>by
  simp only[CR,Abs.Bf]at hu ⊢;exact⟨PR.VR _ _ hu.1,CR.Bf hu.2⟩
theorem add_add(a:Addr)(i j:Nat):(a.add i).add j=a.add (i+j):=by grind[Addr.add]
theorem add_lit(b o n:Nat):Addr.add ⟨b,o,none⟩ n=⟨b,o+n,none⟩:=Addr.add_lit b o n
theorem EG.list:∀ (cs:List AV) (ad:Addr) (j:Nat),EG ro w cs ad j->∃ us:List Value,CR ro w cs us/\∀ i v,us[i]?=some v->w.cell? (ad.add (j+i))=some v
 |[],ad,j,_=>⟨[],by simp[CR],by simp⟩
 | c::cs,ad,j,h=>by
  simp only[EG]at h;obtain⟨⟨u,h1,h2⟩,h3⟩:=h;obtain⟨us,h4,h5⟩:=EG.list cs ad (j+1) h3;refine⟨u::us,by simp only[CR];exact⟨h2,h4⟩,λi v hv=>?_⟩;cases i with
  | zero=>simp at hv;subst hv;simpa using h1
  | succ i =>
   simp at hv;have:=h5 i v hv
   rwa [Nat.add_assoc,Nat.add_comm 1 i]at this
theorem EG.FO:∀ (cs:List AV) (us:List Value) (ad:Addr) (j:Nat),CR ro w cs us->(∀ i v,us[i]?=some v->w.cell? (ad.add (j+i))=some v)->EG ro w cs ad j
 |[],_,_,_,_,_=>by simp[EG]
 |_::_,[],_,_,h,_=>by grind[CR]
 | c::cs,u::us,ad,j,h,hc=>by
  simp only[CR]at h;simp only[EG];refine⟨⟨u,by simpa using hc 0 u (by simp),h.1⟩,EG.FO cs us ad (j+1) h.2 λi v hv=>?_⟩;have:=hc (i+1) v (by simpa using hv)
  rwa [Nat.add_assoc,Nat.add_comm 1 i]
theorem Ea.list:∀ (es:List (List AV)) (ad:Addr) (n i:Nat),Ea ro w es ad n i->∃ us:List Value,CR ro w es.flatten us/\us.length=es.length*n/\∀ j v,us[j]?=some v->w.cell? (ad.add (i*n+j))=some v
 |[],ad,n,i,_=>⟨[],by simp[CR],by simp,by simp⟩
 | e::es,ad,n,i,h=>by
  simp[Ea]at h;obtain⟨hl,h1,h2⟩:=h;obtain⟨us,h3,h4⟩:=EG.list e ad (i*n) h1;obtain⟨vs,h5,h6,h7⟩:=Ea.list es ad n (i+1) h2;have pJ:us.length=n:=by grind[CR.length]
  refine⟨us++vs,by grind[CR.append],by grind,λj v hv=>?_⟩;grind
theorem Ea.FO:∀ (es:List (List AV)) (us:List Value) (ad:Addr) (n i:Nat),(∀ e∈es,e.length=n)->CR ro w es.flatten us->(∀ j v,us[j]?=some v->w.cell? (ad.add (i*n+j))=some v)->Ea ro w es ad n i
 |[],_,_,_,_,_,_,_=>by simp[Ea]
 | e::es,us,ad,n,i,hl,h,hc=>by
  have nW:e.length=n:=hl e (by simp);simp[Ea];simp at h;have hlen:=CR.length h;rw[List.length_append]at hlen;have h1:CR ro w e (us.take n):=by grind[CR.take,List.take_left]
  have h2:CR ro w es.flatten (us.drop n):=by grind[CR.drop,List.drop_left]
  refine⟨nW,EG.FO e _ ad (i*n) h1 λj v hv=>?_,Ea.FO es _ ad n (i+1) (λe he=>hl e (by simp[he])) h2 λj v hv=>?_⟩<;>grind
theorem Ea.lens:∀ {es:List (List AV)} {ad:Addr} {n i:Nat},Ea ro w es ad n i->∀ e∈es,e.length=n
 |[],_,_,_,_,e,he=>by grind
 | e::es,ad,n,i,h,d,hd=>by
  simp[Ea]at h;rcases List.mem_cons.1 hd with rfl|hd
  ·omega
  ·exact Ea.lens h.2.2 d hd
def Ea.at_:∀ (es:List (List AV)) (ad:Addr) (n i:Nat),Ea ro w es ad n i->∀ (k:Nat) (e:List AV),es[k]?=some e->e.length=n/\EG ro w e ad ((i+k)*n)
 |[],_,_,_,_,k,e,h=>by grind
 | e::es,ad,n,i,h,0,d,hd=>by grind[Ea]
 | e::es,ad,n,i,h,k+1,d,hd=>by
  simp only[Ea]at h;simp at hd;have:=Ea.at_ es ad n (i+1) h.2.2 k d hd
  rwa [show i+1+k=i+(k+1) from by omega]at this
theorem EG.shift(cs:List AV)(ad:Addr)(k j:Nat):EG ro w cs ad (k+j)->EG ro w cs (ad.add k) j:=by grind[EG.list,EG.FO,add_add]
end
def St.Cz(f:AV->AV)(st:St):St:=⟨st.tmps.map (λp=>(p.1,p.2.Cz f)),st.Aj.map (λp=>(p.1,F0 f p.2))⟩
def St.freeze(S:List Nat)(st:St):St:=st.Cz (AV.C7 S)
def iY{α β:Type}(f:α->β)(k:Nat):∀ l:List (Nat × α),lk k (l.map λp=>(p.1,f p.2))=(lk k l).map f
 |[]=>rfl
 |(j,x)::l=>by
  simp only[List.map_cons,lk];split
  ·rfl
  ·exact iY f k l
section
variable {C:Ctx} {A:A0} {N:Nat} {g g':Gh} {st:St} {a:Act} {w w':World}
theorem Fr.freeze(h:Fr C A g w)(S:List Nat):Fr C A (g.freeze S) w where
 os:=h.os
 tape:=h.tape
 output:=h.output
 size:=h.size
 FD:=λb hb hf=>by
  obtain⟨h1,h2⟩:=h.FD b hb hf;refine⟨h1,?_⟩;rcases hf with hf|hf<;>grind[SV,a7]
 box:=h.box
 glob:=λi cs hi=>by
  obtain⟨h1,h2,h3⟩:=h.glob i cs hi;exact⟨h1,SV i h2,EG.mono K0 _ _ 0 h2 h3⟩
theorem R.Cz{f:AV->AV}(h:R C A N g st a w)(hv:∀ x u,VR g w x u->VR g' w' (x.Cz f) u)(lR:∀ cs us,Bf g w cs us->Bf g' w' (F0 f cs) us)
 (hb:∀ s,g.own (g.box s)=.box s->g'.box s=g.box s/\g'.own (g.box s)=.box s/\w'.heap[g.box s]?=w.heap[g.box s]?) (Ig:Fr C A g' w'):R C A N g' (st.Cz f) a w' where
 size:=h.size
 defs:=h.defs
 tm:=λk x hx=>by
  simp only[St.Cz,iY]at hx;obtain⟨y,hy,rfl⟩:=Option.map_eq_some_iff.1 hx;obtain⟨u,hu,h1⟩:=h.tm k y hy;grind
 ob:=λs cs hs=>by
  simp only[St.Cz,iY]at hs;obtain⟨y,hy,rfl⟩:=Option.map_eq_some_iff.1 hs;obtain⟨h1,h2,h3⟩:=hb s (h.ob s y hy).1;exact(h.ob s y hy).lift rfl (by grind) (by grind) (λus hu=>lR _ _ hu)
 fr:=Ig
theorem R.freeze(h:R C A N g st a w)(S:List Nat):R C A N (g.freeze S) (st.freeze S) a w :=
 h.Cz VR.freeze Bf.freeze (λs hs=>⟨rfl,iv _ s hs,rfl⟩) (h.fr.freeze S)
def Gh.DJ(g:Gh)(b s:Nat):Gh:={ own:=λx=>if x=b then .box s else g.own x,box:=λx=>if x=s then b else g.box x,row:=g.row }
def Gh.newRow(g:Gh)(b r:Nat):Gh:={ own:=λx=>if x=b then .row r else g.own x,box:=g.box,row:=λx=>if x=r then b else g.row x }
def At(w:World)(o:Obj)(b:Nat)(h:b<w.heap.size):(w.alloc o).heap[b]?=w.heap[b]?:=by
 show (w.heap.push o)[b]?=_;grind
def Nk(g:Gh)(w:World)(o:Obj)(s:Nat):Lasts [] [s] g w (g.DJ w.heap.size s) (w.alloc o) where
 ro:=λb hb h=>⟨by grind[Gh.DJ],At w o b hb⟩
 row:=λb q hb _ h=>⟨by grind[Gh.DJ],At w o b hb⟩
 rows:=λ_ _=>rfl
 boxes:=λq hq=>by grind[Gh.DJ]
theorem bC(g:Gh)(w:World)(o:Obj)(r:Nat)(S:List Nat)(hr:r∈S):Lasts S [] g w (g.newRow w.heap.size r) (w.alloc o) where
 ro:=λb hb h=>⟨by grind[Gh.newRow],At w o b hb⟩
 row:=λb q hb _ h=>⟨by grind[Gh.newRow],At w o b hb⟩
 rows:=λq hq=>by grind[Gh.newRow]
 boxes:=λ_ _=>rfl
def Er.lt{s:Nat}{cs:List AV}(h:Er g w s cs):g.box s<w.heap.size:=by obtain⟨_,⟨_,cur,T,h2,_⟩|⟨_,es,Ys,h2,_⟩⟩:=h<;>grind
theorem R.DJ(h:R C A N g st a w)(s:Nat)(lL:Dm s=false)(hs:s∉A.ext)(cur:Array Value)(T:TypeId)(cs:List AV)(hv:Bf g w cs cur.toList) :
 R C A N (g.DJ w.heap.size s) ⟨(st.kill [] [s]).tmps,(s,NQ [] [s] cs)::(st.kill [] [s]).Aj⟩ a (w.alloc (.cells cur T)):=by
 have hl:=Nk g w (.cells cur T) s;have Ig:Fr C A (g.DJ w.heap.size s) (w.alloc (.cells cur T)):=h.fr.step hl rfl ⟨rfl,by simp⟩ rfl (by simp) (λb hb ho=>⟨by grind[Gh.DJ],At w _ b hb⟩) (λq hq he=>hs (by grind));have h1:=h.lasts hl Ig (λq N7 hq CZ=>by
  have ho:=h.ob q N7 hq;exact⟨by simp[Gh.DJ,Nat.ne_of_lt ho.lt,ho.1],At w _ _ ho.lt⟩)
 refine⟨h1.size,h1.defs,h1.tm,λq N7 hq=>?_,h1.fr⟩;simp[lk]at hq
 by_cases rY:s=q
 ·subst rY;simp at hq;subst hq;refine⟨by simp[Gh.DJ],.inl ⟨lL,cur,T,?_,Bf.lasts hl _ _ hv⟩⟩;simp only[Gh.DJ,if_true];grind[heap_alloc_new]
 ·simp[rY]at hq;exact h1.ob q N7 hq
theorem R.newRow(h:R C A N g st a w)(r:Nat)(S:List Nat)(hr:r∈S)(cur:Array Value)(T:TypeId)(n cap:Nat)(es:List (List AV))(us:List Value)(hn:0<n)
 (hl:∀ e∈es,e.length=n) (hv:CR (CK g) w es.flatten us) (hc:cur.size=cap*n) (dy:es.length<=cap) (hm:cap<=maxLen) (Y6:∀ (j:Nat) (v:Value),us[j]?=some v->cur[j]?=some v) :
 ∃ g',R C A N g' (st.kill S []) a (w.alloc (.cells cur T))/\VR g' (w.alloc (.cells cur T)) (.sl (.own r 0) n es) (.slice (some ⟨w.heap.size,0,none⟩) es.length cap):=by
 have bj:=bC g w (.cells cur T) r S hr;refine⟨g.newRow w.heap.size r,?_,?_⟩
 ·refine h.lasts bj ?_ ?_
  ·exact h.fr.step bj rfl ⟨rfl,by simp⟩ rfl (by simp) (λb hb ho=>⟨by grind[Gh.newRow],At w _ b hb⟩) (λq _ he=>by grind)
  ·intro q N7 hq _;have ho:=h.ob q N7 hq;exact⟨by simp[Gh.newRow,Nat.ne_of_lt ho.lt,ho.1],At w _ _ ho.lt⟩
 ·simp only[VR,Dr];refine⟨hn,.inr (.inr ⟨cap,cur,T,by simp[Gh.newRow],dy,by omega,by simp[Gh.newRow],?_,by grind,?_⟩)⟩
  ·simp only[Gh.newRow,if_true];grind[heap_alloc_new]
  ·refine Ea.FO es us _ n 0 hl (CR.mono bj.QX hv) λj v hv=>?_
   simp_all[Gh.newRow,add_lit]
end
end Go.Abs
namespace Go.Abs
def Cn(P:Program)(t:TypeId):Option Nat:=(P.info? t).map (·.size)
def Bp(P:Program)(t:TypeId):Option Bool:=(P.underlying t).map fun
 |.struct _|.array _ _=>true
 |_=>false
def AV.cells:AV->List AV
 |.agg cs=>cs
 | x=>[x]
def KR:AV->Bool
 |.v x=>x.oneCell'
 |.sl _ _ _|.ptr _ _|.ep _ _ _ _|.fn _ _|.mv _ _|.Kb _ _|.mp _=>true
 |_=>false
def DD:List AV->Bool
 |[]=>true
 | c::cs=>KR c&&DD cs
def Does(P:Program)(o:Oper)(a:Act)(w:World)(u:Value)(w':World):Prop :=
 (execOp a.eval o).run P w=.ok (.value u) w'\/((execOp a.eval o).run P w=.ok .skip w'/\u=undef)
def Does.wp{P:Program}{o:Oper}{a:Act}{w w':World}{u:Value}{K:Act->World->Prop}{Q:Exit->Act->World->Prop}(h:Does P o a w u w')(hk:K (a.put o.dst u) w'):o.wp P a w K Q:=by
 unfold Oper.wp;rcases h with h|⟨h,rfl⟩<;>rw[h]<;>exact hk
def Kg{P:Program}{o:Oper}{a:Act}{w w':World}{u:Value}{s:Sem Value}(ho:execOp a.eval o=(do pure (.value (<- s))))(h:s.run P w=.ok u w'):Does P o a w u w':=by
 refine .inl ?_;simp_all
section
variable {P:Program} {w:World}
def run_typeInfo{t:TypeId}{i:TypeInfo}(h:P.info? t=some i):(typeInfo t).run P w=.ok i w:=by simp[typeInfo,h]
def run_sizeOf{t:TypeId}{n:Nat}(h:Cn P t=some n):(sizeOf t).run P w=.ok n w:=by
 unfold Cn at h;obtain⟨i,hi,rfl⟩:=Option.map_eq_some_iff.1 h;simp[sizeOf,run_typeInfo hi]
def Kp{t:TypeId}{b:Bool}(h:Bp P t=some b):(isAgg t).run P w=.ok b w:=by
 unfold Bp at h;obtain⟨d,hd,rfl⟩:=Option.map_eq_some_iff.1 h;unfold isAgg;rw[Sem.run_bind,run_underlying hd];cases d<;>simp
def UW{t:TypeId}{n:Nat}{a:Addr}{us:List Value}(h1:Bp P t=some true)(h2:Cn P t=some n)(hl:us.length=n)(hc:∀ i v,us[i]?=some v->w.cell? (a.add i)=some v) :
 (loadVar t a).run P w=.ok (.agg us.toArray) w:=by
 unfold loadVar;subst hl;simp_all[Kp,run_sizeOf,run_loadCells_list]
theorem UX{t:TypeId}{a:Addr}{u:Value}(h1:Bp P t=some false)(hc:w.cell? a=some u):(loadVar t a).run P w=.ok u w:=by simp_all[loadVar,Kp]
end
def oE(agg:Bool):List AV->Option AV
 | cs=>if agg then some (.agg cs) else match cs with
  |[c]=>some c
  |_=>none
def NS(agg:Bool)(n:Nat)(Aj:List (Nat × List AV)):AV->Option AV
 |.ptr s off=>match lk s Aj with
  |some cs=>if off+n<=cs.length then oE agg ((cs.drop off).take n) else none
  |none=>none
 |.ep _ _ cs off=>if off+n<=cs.length then oE agg ((cs.drop off).take n) else none
 |.mem false [x]=>if n=1 then oE agg [x] else none
 |_=>none
section
variable {C:Ctx} {A:A0} {N:Nat} {g g':Gh} {st:St} {a:Act} {w w':World}
def QN{P:Program}{t:TypeId}{agg:Bool}{n:Nat}{ad:Addr}{cs:List AV}{us:List Value}{x:AV}(h1:Bp P t=some agg)(h2:Cn P t=some n)(hv:Bf g w cs us)(hl:cs.length=n)
 (hc:∀ i v,us[i]?=some v->w.cell? (ad.add i)=some v) (hx:oE agg cs=some x):∃ u,(loadVar t ad).run P w=.ok u w/\VR g w x u:=by
 have pJ:us.length=n:=by grind[Bf.length]
 cases agg with
 | true =>
  simp[oE]at hx;subst hx;exact⟨_,UW h1 h2 pJ hc,us.toArray,rfl,by omega⟩
 | false =>
  simp[oE]at hx
  match cs,us,hv,hx with
  |[c],[u],hv,hx =>
   simp at hx;subst hx;simp only[Bf]at hv;have h0:=hc 0 u (by simp);grind[Addr.add_zero',UX]
  |[_],[],hv,_=>grind
  |[_],_::_::_,hv,_=>grind
theorem aC{t:Tag}{i:Nat}{cs:List AV}{off:Nat}{u:Value}(h:Ix g w t i cs off u) :
 ∃ (ad:Addr) (us:List Value),u=.pointer (some ad)/\Bf g w (cs.drop off) us/\∀ j v,us[j]?=some v->w.cell? (ad.add j)=some v:=by
 cases t with
 | own r lo =>
  simp only[Ix]at h;obtain⟨cur,T,h1,h2,h3,h4,h5⟩:=h;obtain⟨us,k1,k2⟩:=EG.list cs _ 0 h5;refine⟨_,us.drop off,h1,CR.Bf (CR.drop off k1),λj v hv=>?_⟩;grind[add_lit]
 | no =>
  simp[Ix]at h;obtain⟨ad,h1,h0,h2,h3⟩:=h;obtain⟨us,k1,k2⟩:=EG.list cs _ 0 h3;refine⟨_,us.drop off,h1,CR.Bf (CR.drop off k1),λj v hv=>?_⟩;grind[add_add]
 | full =>
  simp[Ix]at h;obtain⟨ad,h1,h0,h2,h3⟩:=h;obtain⟨us,k1,k2⟩:=EG.list cs _ 0 h3;refine⟨_,us.drop off,h1,CR.Bf (CR.drop off k1),λj v hv=>?_⟩;grind[add_add]
def qd{s:Nat}{cs:List AV}(h:Er g w s cs)(lL:Dm s=false)(off:Nat):∃ us:List Value,Bf g w (cs.drop off) us/\∀ j v,us[j]?=some v->w.cell? ((⟨g.box s,off,none⟩:Addr).add j)=some v:=by
 obtain⟨cur,T,h2,h3⟩:=h.cells lL;refine⟨cur.toList.drop off,Bf.drop off h3,λj v hv=>?_⟩;grind[add_lit,cell_of_row]
def Nq{P:Program}(hR:R C A N g st a w){t:TypeId}{agg:Bool}{n:Nat}(h1:Bp P t=some agg)(h2:Cn P t=some n){x:AV}{p:AV}{up:Value}(hp:VR g w p up)
 (hx:NS agg n st.Aj p=some x):∃ u,(Instr.loadAt t up).run P w=.ok u w/\VR g w x u:=by
 unfold NS at hx;split at hx
 ·rename_i s off;split at hx
  ·rename_i cs hs;split at hx
   ·rename_i hle;simp[VR]at hp;obtain⟨lL,rfl⟩:=hp;obtain⟨us,k1,k2⟩:=qd (hR.ob s cs hs) lL off;have:=QN h1 h2 (Bf.take n k1) (by grind) (ad:=⟨g.box s,off,none⟩) (λi v hv=>by grind) hx;grind[Instr.loadAt,Instr.sureAddr]
   grind
  grind
 ·rename_i t' i cs off;split at hx
  ·rename_i hle;simp[VR]at hp;obtain⟨ad,us,rfl,k1,k2⟩:=aC hp;have:=QN h1 h2 (Bf.take n k1) (by grind) (ad:=ad) (λi v hv=>by grind) hx;grind[Instr.loadAt,Instr.sureAddr]
  grind
 ·rename_i y;split at hx
  ·rename_i dD;subst dD;simp only[VR,gw]at hp;obtain⟨ad,vs,_,hc,hv,rfl⟩:=hp;have:=QN h1 h2 hv rfl (ad:=ad) (λq v' Vs=>by
    have hq:q<vs.length:=by grind
    rw[hc.2 q hq];omega) hx
   grind[Instr.loadAt,Instr.sureAddr]
  grind
 grind
def Zj{agg:Bool}{n:Nat}{Aj:List (Nat × List AV)}{x z:AV}{u:Value}(hv:VR g w x u)(h:NS agg n Aj x=some z):∃ ad,u=.pointer (some ad):=by
 unfold NS at h;grind[VR,aC,gw]
end
end Go.Abs
