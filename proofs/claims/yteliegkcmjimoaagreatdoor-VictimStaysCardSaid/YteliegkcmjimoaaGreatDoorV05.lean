/- part 5 of the proof -/
import Derived.Test.YteliegkcmjimoaaGreatDoorV04
set_option linter.all false
namespace Go.Abs
structure Grow(S T U:List Nat)(g:Gh)(w:World)(g':Gh)(w':World):Prop extends Lasts S T g w g' w' where
 os:w'.os=w.os
 tape:I5 w w'
 output:w'.output=w.output
 size:w.heap.size<=w'.heap.size
 other:∀ b,b<w.heap.size->g.own b=.other->g'.own b=.other/\w'.heap[b]?=w.heap[b]?
 kept:∀ s,s∉U->s∉T->g.own (g.box s)=.box s->g.box s<w.heap.size->g'.own (g.box s)=.box s/\w'.heap[g.box s]?=w.heap[g.box s]?
def H4(U:List Nat):List (Nat × List AV)->List (Nat × List AV)
 |[]=>[]
 |(k,x)::l=>if k∈U then H4 U l else (k,x)::H4 U l
def P1(U:List Nat)(k:Nat):∀ l:List (Nat × List AV),lk k (H4 U l)=if k∈U then none else lk k l
 |[]=>by simp[H4,lk]
 |(j,x)::l=>by
  simp only[H4];split
  ·rename_i hj;rw[P1 U k l];simp only[lk]
   by_cases Zx:j=k
   ·subst Zx;simp[hj]
   ·simp[Zx]
  ·rename_i hj;simp only[lk]
   by_cases Zx:j=k
   ·subst Zx;simp[hj]
   ·simp only[Zx,if_false];exact P1 U k l
section
variable {C:Ctx} {A:A0} {N:Nat} {g g':Gh} {st st':St} {a:Act} {w w':World}
def R.grow(h:R C A N g st a w){S T U:List Nat}(hg:Grow S T U g w g' w')(H6:∀ s,s∈A.ext->s∉T):R C A N g' (St.kill S T ⟨st.tmps,H4 U st.Ah⟩) a w':=by
 have h1:R C A N g ⟨st.tmps,H4 U st.Ah⟩ a w:=⟨h.size,h.defs,h.tm,λs cs hs=>by
  rw[P1]at hs;split at hs
  ·cases hs
  ·exact h.ob s cs hs,h.fr⟩
 refine h1.lasts hg.toLasts (h.fr.step hg.toLasts hg.os hg.tape hg.output hg.size hg.other H6) λs cs hs hT=>?_
 simp only[P1]at hs;split at hs
 ·cases hs
 ·rename_i hU;have ho:=h.ob s cs hs;exact hg.kept s hU hT ho.1 ho.lt
end
abbrev Ren:=List (Nat × Nat)
def inv(l:Ren):Ren:=l.map λp=>(p.2,p.1)
def Ey(l:Ren):Bool:=l.all λp=>lk p.1 l==some p.2&&lk p.2 (inv l)==some p.1&&isMap p.2==isMap p.1
def Jk{α:Type}{k:Nat}{x:α}:∀ {l:List (Nat × α)},lk k l=some x->(k,x)∈l
 |(j,y)::l,h=>by
  simp only[lk]at h;split at h
  ·rename_i hj;injection h with h;subst h;subst hj;simp
  ·exact List.mem_cons_of_mem _ (Jk h)
def Ey.fwd{l:Ren}(h:Ey l=true){r r':Nat}(hr:lk r l=some r'):lk r' (inv l)=some r:=by
 have:=List.all_eq_true.1 h _ (Jk hr);simp at this;exact this.1.2
def Ey.kind{l:Ren}(h:Ey l=true){r r':Nat}(hr:lk r l=some r'):isMap r'=isMap r:=by
 have:=List.all_eq_true.1 h _ (Jk hr);simp at this;exact this.2
def Ey.bwd{l:Ren}(h:Ey l=true){r r':Nat}(hr:lk r' (inv l)=some r):lk r l=some r':=by
 have hm:=Jk hr;simp only[inv,List.mem_map,Prod.mk.injEq,Prod.exists]at hm;obtain⟨a,b,LS,rfl,rfl⟩:=hm;have:=List.all_eq_true.1 h _ LS;simp at this;exact this.1.1
structure Rn where
 l:Ren
 m:Ren
 bs:List Nat
mutual
def AV.BS(ρ:Rn):AV->AV
 |.undef=>.undef
 |.v x=>.v x
 |.agg cs=>.agg (E2 ρ cs)
 |.Bl cs=>.Bl (E2 ρ cs)
 |.sl (.own r lo) n es=>match lk r ρ.l with
  |some r'=>.sl (.own r' lo) n es
  |none=>if r∈ρ.bs then .sl .no n es else .undef
 |.sl .no n es=>.sl .no n es
 |.sl .full n es=>.sl .full n es
 |.ptr s off=>match lk s ρ.m with
  |some s'=>.ptr s' off
  |none=>.undef
 |.ep (.own r lo) i cells off=>match lk r ρ.l with
  |some r'=>.ep (.own r' lo) i cells off
  |none=>.undef
 |.ep .no i cells off=>.ep .no i cells off
 |.ep .full i cells off=>.ep .full i cells off
 |.fn f Bi=>.fn f (E2 ρ Bi)
 |.mv f Bi=>.mv f (E2 ρ Bi)
 |.mp s=>match lk s ρ.m with
  |some s'=>.mp s'
  |none=>.undef
 |.Gc t x=>.Gc t (x.BS ρ)
 |.El k r i j off m bss=>match lk r ρ.l with
  |some r'=>.El k r' i j off m bss
  |none=>if r∈ρ.bs then frozen k m bss else .undef
 |.mem b xs=>.mem b (E2 ρ xs)
def E2(ρ:Rn):List AV->List AV
 |[]=>[]
 | c::cs=>c.BS ρ::E2 ρ cs
end
def Gh.BS(ρ:Rn)(g base:Gh):Gh where
 own b:=match g.own b with
  |.ro=>.ro
  |.other=>.other
  |.row r=>match lk r ρ.l with
   |some r'=>.row r'
   |none=>if r∈ρ.bs then .ro else .other
  |.box s=>match lk s ρ.m with
   |some s'=>.box s'
   |none=>.other
  |.Cz r i=>match lk r ρ.l with
   |some r'=>.Cz r' i
   |none=>if r∈ρ.bs then .ro else .other
 row r':=match lk r' (inv ρ.l) with
  |some r=>g.row r
  |none=>base.row r'
 box s':=match lk s' (inv ρ.m) with
  |some s=>g.box s
  |none=>base.box s'
 Cz r' i:=match lk r' (inv ρ.l) with
  |some r=>g.Cz r i
  |none=>base.Cz r' i
structure Rn.OK(ρ:Rn):Prop where
 l:Ey ρ.l=true
 m:Ey ρ.m=true
section
variable {ρ:Rn} {base g g':Gh} {w:World}
def Fg{b:Nat}(h:g.own b=.ro):(Gh.BS ρ g base).own b=.ro:=by simp[Gh.BS,h]
def Du{b:Nat}(h:g.own b=.other):(Gh.BS ρ g base).own b=.other:=by simp[Gh.BS,h]
def Ye{b r r':Nat}(h:g.own b=.row r)(hr:lk r ρ.l=some r'):(Gh.BS ρ g base).own b=.row r':=by simp[Gh.BS,h,hr]
def qC{b s s':Nat}(h:g.own b=.box s)(hr:lk s ρ.m=some s'):(Gh.BS ρ g base).own b=.box s':=by simp[Gh.BS,h,hr]
def ao{b r:Nat}(h:g.own b=.row r)(hr:lk r ρ.l=none)(hb:r∈ρ.bs):(Gh.BS ρ g base).own b=.ro:=by simp[Gh.BS,h,hr,hb]
def cM(ho:ρ.OK){r r':Nat}(hr:lk r ρ.l=some r'):(Gh.BS ρ g base).row r'=g.row r:=by simp[Gh.BS,Ey.fwd ho.l hr]
def M0(ho:ρ.OK){s s':Nat}(hr:lk s ρ.m=some s'):(Gh.BS ρ g base).box s'=g.box s:=by simp[Gh.BS,Ey.fwd ho.m hr]
def qD{b r r' i:Nat}(h:g.own b=.Cz r i)(hr:lk r ρ.l=some r'):(Gh.BS ρ g base).own b=.Cz r' i:=by simp[Gh.BS,h,hr]
def ij{b r i:Nat}(h:g.own b=.Cz r i)(hr:lk r ρ.l=none)(hb:r∈ρ.bs):(Gh.BS ρ g base).own b=.ro:=by simp[Gh.BS,h,hr,hb]
def vh(ho:ρ.OK){r r':Nat}(hr:lk r ρ.l=some r')(i:Nat):(Gh.BS ρ g base).Cz r' i=g.Cz r i:=by simp[Gh.BS,Ey.fwd ho.l hr]
def LY:∀ b,b<w.heap.size->BX g b->BX (Gh.BS ρ g base) b/\w.heap[b]?=w.heap[b]?:=λb _ h=>⟨Fg h,rfl⟩
mutual
def VR.BS(ho:ρ.OK):∀ (x:AV) (u:Value),VR g w x u->VR (Gh.BS ρ g base) w (x.BS ρ) u
 |.undef,_,_=>by simp[AV.BS,VR]
 |.v x,u,hu=>by simpa [AV.BS,VR]using hu
 |.agg cs,u,hu=>by
  simp only[AV.BS,VR]at hu ⊢;obtain⟨us,h1,h2⟩:=hu;exact⟨us,h1,Az.BS ho cs us.toList h2⟩
 |.Bl cs,u,hu=>by
  simp only[AV.BS,VR]at hu ⊢;obtain⟨us,h1,h2⟩:=hu;exact⟨us,h1,Az.BS ho cs us.toList h2⟩
 |.sl (.own r lo) n es,u,hu=>by
  simp only[AV.BS];split
  ·rename_i r' hr;simp only[VR,CM]at hu ⊢;refine⟨hu.1,?_⟩;rcases hu.2 with hu|hu|⟨cap,cur,T',h1,h2,h3,h5,h6,h7,h8⟩
   ·exact .inl hu
   ·exact .inr (.inl hu)
   ·rw[cM ho hr];exact .inr (.inr ⟨cap,cur,T',h1,h2,h3,Ye h5 hr,h6,h7,CH.Cv LY es _ n 0 rfl h8⟩)
  ·rename_i hr;split
   ·rename_i hb;simp only[VR,CM,PR]at hu ⊢;refine⟨(λ_ _ h=>by cases h),?_⟩;rcases hu.2 with ⟨h1,h2⟩|⟨_,h2,a',cap,h3,h4⟩|⟨cap,cur,T',h1,h2,h3,h5,h6,h7,h8⟩
    ·subst h2;exact⟨_,0,h1,by simp,by simp[maxLen],(by intro h;cases h),hu.1,.inl rfl⟩
    ·subst h2;exact⟨_,cap,h3,by simp,h4,(by intro h;cases h),hu.1,.inl rfl⟩
    ·exact⟨_,cap,h1,h2,by omega,(by intro h;cases h),hu.1,.inr ⟨_,rfl,ao h5 hr hb,CH.Cv LY es _ n 0 rfl h8⟩⟩
   ·simp[VR]
 |.sl .no n es,u,hu=>by
  simp only[AV.BS,VR]at hu ⊢;exact PR.mono LY _ u hu
 |.sl .full n es,u,hu=>by
  simp only[AV.BS,VR]at hu ⊢;exact PR.mono LY _ u hu
 |.ptr s off,u,hu=>by
  simp only[AV.BS];split
  ·rename_i s' hs;simp only[VR]at hu ⊢;rw[M0 ho hs,Ey.kind ho.m hs];exact hu
  ·simp[VR]
 |.mp s,u,hu=>by
  simp only[AV.BS];split
  ·rename_i s' hs;simp only[VR]at hu ⊢;rw[M0 ho hs,Ey.kind ho.m hs];exact hu
  ·simp[VR]
 |.ep (.own r lo) i cells off,u,hu=>by
  simp only[AV.BS];split
  ·rename_i r' hr;simp only[VR,Fz]at hu ⊢;obtain⟨cur,T',h1,h2,h3,h4,h5⟩:=hu;rw[cM ho hr];exact⟨cur,T',h1,Ye h2 hr,h3,h4,Cu.Cv LY cells _ 0 rfl h5⟩
  ·simp[VR]
 |.ep .no i cells off,u,hu=>by
  simp only[AV.BS,VR,Fz]at hu ⊢;obtain⟨ad,h1,h0,h2,h3⟩:=hu;exact⟨ad,h1,h0,Fg h2,Cu.mono LY _ ad 0 h2 h3⟩
 |.ep .full i cells off,u,hu=>by
  simp only[AV.BS,VR,Fz]at hu ⊢;obtain⟨ad,h1,h0,h2,h3⟩:=hu;exact⟨ad,h1,h0,Fg h2,Cu.mono LY _ ad 0 h2 h3⟩
 |.fn f Bi,u,hu=>by
  simp only[AV.BS,VR]at hu ⊢;obtain⟨us,h1,h2⟩:=hu;exact⟨us,h1,Az.BS ho Bi us.toList h2⟩
 |.mv f Bi,u,hu=>by
  simp only[AV.BS,VR]at hu ⊢;obtain⟨us,h1,h2⟩:=hu;exact⟨us,h1,Az.BS ho Bi us.toList h2⟩
 |.Gc t x,u,hu=>by
  simp only[AV.BS,VR]at hu ⊢;obtain⟨y,h1,h2⟩:=hu;exact⟨y,h1,VR.BS ho x y h2⟩
 |.El k r i j off m bss,u,hu=>by
  simp only[AV.BS];split
  ·rename_i r' hr;simp only[VR]at hu ⊢;exact hu.map ⟨LY,cM ho hr,vh ho hr,λ_ h=>⟨Ye h hr,rfl⟩,λi _ h=>⟨qD h hr,rfl⟩⟩
  ·rename_i hr;split
   ·rename_i hb;simp only[VR]at hu;exact hu.frozen LY (λh=>ao h hr hb) (λi h=>ij h hr hb)
   ·simp[VR]
 |.mem b xs,u,hu=>by
  simp only[AV.BS,VR]at hu ⊢;obtain⟨ad,vs,h1,h2,h3,h4⟩:=hu;exact⟨ad,vs,Fg h1,h2,Az.BS ho xs vs h3,h4⟩
def Az.BS(ho:ρ.OK):∀ (cs:List AV) (us:List Value),Az g w cs us->Az (Gh.BS ρ g base) w (E2 ρ cs) us
 |[],[],_=>by simp[E2,Az]
 |[],_::_,hu=>by simp[Az]at hu
 |_::_,[],hu=>by simp[Az]at hu
 | c::cs,u::us,hu=>by
  simp only[E2,Az]at hu ⊢;exact⟨VR.BS ho c u hu.1,Az.BS ho cs us hu.2⟩
end
def DO.BS(ho:ρ.OK){s s':Nat}{cs:List AV}(hs:lk s ρ.m=some s')(h:DO g w s cs):DO (Gh.BS ρ g base) w s' (E2 ρ cs):=by
 exact h.lift (Ey.kind ho.m hs) (by rw[M0 ho hs];exact qC h.1 hs) (by rw[M0 ho hs]) (λus hu=>Az.BS ho _ _ hu)
end
def ja(c:AV):Prop:=(∃ x,c=.v x)\/c=.undef
mutual
def Flat:AV->Prop
 |.undef=>True
 |.v _=>True
 |.agg cs=>Ma cs
 |.Bl cs=>Ma cs
 |.sl (.own _ _) _ es=>∀ e∈es,∀ c∈e,ja c
 |.sl _ _ es=>es=[]
 |.ptr _ _=>True
 |.ep _ _ _ _=>False
 |.fn _ cs=>Ma cs
 |.mv _ cs=>Ma cs
 |.mp _=>False
 |.Gc _ x=>Flat x
 |.El _ _ _ _ _ _ _=>False
 |.mem _ _=>False
def Ma:List AV->Prop
 |[]=>True
 | c::cs=>Flat c/\Ma cs
end
section
variable {g g':Gh} {w:World} {ro M1:Nat->Prop}
def Cu.flat:∀ (cs:List AV) (ad:Addr) (j:Nat),(∀ c∈cs,ja c)->Cu ro w cs ad j->Cu M1 w cs ad j
 |[],_,_,_,_=>by simp[Cu]
 | c::cs,ad,j,hf,h=>by
  simp only[Cu]at h ⊢;obtain⟨⟨u,h1,h2⟩,h3⟩:=h;refine⟨⟨u,h1,?_⟩,Cu.flat cs ad _ (λc' hc=>hf c' (by simp[hc])) h3⟩;rcases hf c (by simp) with ⟨x,rfl⟩|rfl<;>simpa [PR]using h2
def CH.flat:∀ (es:List (List AV)) (ad:Addr) (n i:Nat),(∀ e∈es,∀ c∈e,ja c)->CH ro w es ad n i->CH M1 w es ad n i
 |[],_,_,_,_,_=>by simp[CH]
 | e::es,ad,n,i,hf,h=>by
  simp only[CH]at h ⊢;exact⟨h.1,Cu.flat e ad _ (hf e (by simp)) h.2.1,CH.flat es ad n _ (λe' he=>hf e' (by simp[he])) h.2.2⟩
structure Names(g g':Gh):Prop where
 row:∀ b q,g.own b=.row q->g'.own b=.row q
 box:∀ b s,g.own b=.box s->g'.own b=.box s
 rows:∀ q,g'.row q=g.row q
 boxes:∀ s,g'.box s=g.box s
mutual
def VR.flat(hn:Names g g'):∀ (x:AV) (u:Value),Flat x->VR g w x u->VR g' w x u
 |.undef,_,_,_=>by simp[VR]
 |.v x,u,_,hu=>by simpa [VR]using hu
 |.agg cs,u,hf,hu=>by
  simp only[Flat,VR]at hf hu ⊢;obtain⟨us,h1,h2⟩:=hu;exact⟨us,h1,Az.flat hn cs us.toList hf h2⟩
 |.Bl cs,u,hf,hu=>by
  simp only[Flat,VR]at hf hu ⊢;obtain⟨us,h1,h2⟩:=hu;exact⟨us,h1,Az.flat hn cs us.toList hf h2⟩
 |.sl (.own r lo) n es,u,hf,hu=>by
  simp only[Flat,VR,CM]at hf hu ⊢;refine⟨hu.1,?_⟩;rcases hu.2 with hu|hu|⟨cap,cur,T',h1,h2,h3,h5,h6,h7,h8⟩
  ·exact .inl hu
  ·exact .inr (.inl hu)
  ·rw[hn.rows r];exact .inr (.inr ⟨cap,cur,T',h1,h2,h3,hn.row _ _ h5,h6,h7,CH.flat es _ n 0 hf h8⟩)
 |.sl .no n es,u,hf,hu=>by
  simp only[Flat,VR,PR]at hf hu ⊢;subst hf;obtain⟨h1,a,cap,h2,h3,h4,h5,h6,_⟩:=hu;exact⟨h1,a,cap,h2,h3,h4,h5,h6,.inl rfl⟩
 |.sl .full n es,u,hf,hu=>by
  simp only[Flat,VR,PR]at hf hu ⊢;subst hf;obtain⟨h1,a,cap,h2,h3,h4,h5,h6,_⟩:=hu;exact⟨h1,a,cap,h2,h3,h4,h5,h6,.inl rfl⟩
 |.ptr s off,u,_,hu=>by
  simp only[VR]at hu ⊢;rw[hn.boxes s];exact hu
 |.mp _,u,hf,_=>by simp[Flat]at hf
 |.ep t i cells off,u,hf,_=>by simp[Flat]at hf
 |.fn f Bi,u,hf,hu=>by
  simp only[Flat,VR]at hf hu ⊢;obtain⟨us,h1,h2⟩:=hu;exact⟨us,h1,Az.flat hn Bi us.toList hf h2⟩
 |.mv f Bi,u,hf,hu=>by
  simp only[Flat,VR]at hf hu ⊢;obtain⟨us,h1,h2⟩:=hu;exact⟨us,h1,Az.flat hn Bi us.toList hf h2⟩
 |.Gc t x,u,hf,hu=>by
  simp only[Flat,VR]at hf hu ⊢;obtain⟨y,h1,h2⟩:=hu;exact⟨y,h1,VR.flat hn x y hf h2⟩
 |.El k r i j off m bss,u,hf,_=>by simp[Flat]at hf
 |.mem b xs,u,hf,_=>by simp[Flat]at hf
def Az.flat(hn:Names g g'):∀ (cs:List AV) (us:List Value),Ma cs->Az g w cs us->Az g' w cs us
 |[],[],_,_=>by simp[Az]
 |[],_::_,_,hu=>by simp[Az]at hu
 |_::_,[],_,hu=>by simp[Az]at hu
 | c::cs,u::us,hf,hu=>by
  simp only[Ma,Az]at hf hu ⊢;exact⟨VR.flat hn c u hf.1 hu.1,Az.flat hn cs us hf.2 hu.2⟩
end
end
end Go.Abs
namespace Go.Abs
def names{α:Type}(o:List (Nat × α)):List Nat:=o.map (·.1)
def Glob(C:Ctx)(g:Gh)(w:World):Prop:=∀ i cs,C.G i=some cs->0<cs.length/\BX g i/\Cu (BX g) w cs ⟨i,0,none⟩ 0
def Ac(C:Ctx)(f:Nat)(xs:List AV)(o:List (Nat × List AV))(y:AV)(o':List (Nat × List AV)):Prop :=
 (∃ fn c,C.P.funcs[f]?=some fn/\(fn.name=="runtime.NumGoroutine")=false/\fn.body=some c) /\
 ∀ g w us,Glob C g w->Az g w xs us->(∀ s cs,lk s o=some cs->DO g w s cs) ->
  Calls C.P f us.toArray w λe w'=>∃ u g',e=.returned u/\Fr C ⟨w,g,names o⟩ g' w'/\VR g' w' y u/\∀ s cs,lk s o'=some cs->DO g' w' s cs
def FnP(C:Ctx)(f:Nat)(xs:List AV)(o:List (Nat × List AV))(S:AV->List (Nat × List AV)->Prop):Prop :=
 (∃ fn c,C.P.funcs[f]?=some fn/\(fn.name=="runtime.NumGoroutine")=false/\fn.body=some c) /\
 ∀ g w us,Glob C g w->Az g w xs us->(∀ s cs,lk s o=some cs->DO g w s cs) ->
  Calls C.P f us.toArray w λe w'=>∃ y o',S y o'/\∃ u g',e=.returned u/\Fr C ⟨w,g,names o⟩ g' w'/\VR g' w' y u/\∀ s cs,lk s o'=some cs->DO g' w' s cs
def Ac.toP{C:Ctx}{f:Nat}{xs:List AV}{o o':List (Nat × List AV)}{y:AV}(h:Ac C f xs o y o'):FnP C f xs o λy2 o2=>y2=y/\o2=o' :=
 ⟨h.1,λg w us hg hv ho=>Calls.mono (h.2 g w us hg hv ho) λ_ _ hq=>⟨y,o',⟨rfl,rfl⟩,hq⟩⟩
structure Quiet(w w':World):Prop where
 os:w'.os=w.os
 tape:I5 w w'
 output:w'.output=w.output
 size:w.heap.size<=w'.heap.size
 old:∀ b,b<w.heap.size->w'.heap[b]?=w.heap[b]?
def S4(C:Ctx)(f n:Nat)(es:List (List AV))(ys:List AV)(NK:List (List AV)):Prop :=
 (∃ fn c,C.P.funcs[f]?=some fn/\(fn.name=="runtime.NumGoroutine")=false/\fn.body=some c) /\
 ∀ g w r u us,Glob C g w->CM g w r 0 n es u->Az g w ys us ->
  Calls C.P f (u::us).toArray w λe w'=>e=.returned (.tuple #[])/\((NK=[]/\Quiet w w')\/∃ cur new T,aX g w r n 0 NK cur new T/\Quiet (w.setRow (g.row r) new) w')
def rngs(l:Ren):List Nat:=l.map (·.2)
def SY{α:Type}{k:Nat}:∀ {l:List (Nat × α)},k∉names l->lk k l=none
 |[],_=>rfl
 |(j,x)::l,h=>by
  simp only[names,List.map_cons,List.mem_cons,not_or]at h;simp only[lk,Ne.symm h.1,if_false];exact SY h.2
def Vh{α:Type}{k:Nat}{x:α}{l:List (Nat × α)}(h:lk k l=some x):k∈names l:=by
 have:=Jk h;simp only[names,List.mem_map];exact⟨_,this,rfl⟩
def Ws(l:Ren):names (inv l)=rngs l:=by simp[names,inv,rngs,List.map_map,Function.comp_def]
def ET(ρ:Rn)(o:List (Nat × List AV)):List (Nat × List AV) :=
 o.filterMap λp=>(lk p.1 ρ.m).map λs=>(s,E2 ρ p.2)
def Lz{ρ:Rn}(ho:ρ.OK){s':Nat}{cs:List AV}:∀ {o:List (Nat × List AV)},lk s' (ET ρ o)=some cs->∃ s Yr,lk s ρ.m=some s'/\lk s o=some Yr/\cs=E2 ρ Yr
 |[],h=>by simp[ET,lk]at h
 |(k,c)::o,h=>by
  simp only[ET,List.filterMap_cons]at h;cases hk:lk k ρ.m with
  |none =>
   simp only[hk,Option.map_none]at h;obtain⟨s,Yr,h1,h2,h3⟩:=Lz ho (o:=o) h;refine⟨s,Yr,h1,?_,h3⟩;have:k≠s:=λe=>by subst e;rw[hk]at h1;cases h1
   simp[lk,this,h2]
  |some k' =>
   simp only[hk,Option.map_some,lk]at h;split at h
   ·rename_i he;injection h with h
    exact⟨k,c,by rw[hk,he],by simp[lk],h.symm⟩
   ·rename_i he;obtain⟨s,Yr,h1,h2,h3⟩:=Lz ho (o:=o) h;refine⟨s,Yr,h1,?_,h3⟩;have:k≠s:=λe=>by subst e;rw[hk]at h1;injection h1 with h1;exact he h1
    simp[lk,this,h2]
structure Way where
 ρ:Rn
 fl:Ren
 fm:Ren
def Way.back(v:Way):Rn:=⟨inv v.ρ.l++v.fl,inv v.ρ.m++v.fm,[]⟩
structure Way.OK(v:Way)(o:List (Nat × List AV)):Prop where
 T4:v.ρ.OK
 back:v.back.OK
 ext:∀ s',s'∈rngs v.ρ.m->s'∈names o
section
variable {C:Ctx} {A:A0} {N:Nat} {g g1:Gh} {st:St} {a:Act} {w w1:World} {v:Way} {o o':List (Nat × List AV)} {xs:List AV} {y:AV}
def inv_inv(l:Ren):inv (inv l)=l:=by simp[inv,List.map_map,Function.comp_def]
def HJ{α:Type}{k:Nat}{m:List (Nat × α)}:∀ {l:List (Nat × α)},lk k (l++m)=(lk k l).or (lk k m)
 |[]=>by simp[lk]
 |(j,x)::l=>by
  simp only[List.cons_append,lk];split
  ·simp
  ·exact HJ
def after(v:Way)(g:Gh)(w:World)(g1:Gh):Gh where
 own b:=if b<w.heap.size then match g.own b with
   |.ro=>.ro
   |.other=>.other
   |.row r=>if (lk r v.ρ.l).isSome then (g1.BS v.back g).own b else .row r
   |.box s=>if (lk s v.ρ.m).isSome then (g1.BS v.back g).own b else .box s
   |.Cz r i=>if (lk r v.ρ.l).isSome then (g1.BS v.back g).own b else .Cz r i
  else (g1.BS v.back g).own b
 row:=(g1.BS v.back g).row
 box:=(g1.BS v.back g).box
 Cz:=(g1.BS v.back g).Cz
def entry(v:Way)(g:Gh):Gh:=g.BS v.ρ g
def G6(Gq:Fr C ⟨w,entry v g,names o⟩ g1 w1){b:Nat}(hb:b<w.heap.size) :
 (g.own b=.ro->w1.heap[b]?=w.heap[b]?/\g1.own b=.ro)/\(g.own b=.other->w1.heap[b]?=w.heap[b]?/\g1.own b=.other) /\
 (∀ r,g.own b=.row r->lk r v.ρ.l=none->w1.heap[b]?=w.heap[b]?/\g1.own b=(if r∈v.ρ.bs then .ro else .other)) /\
 (∀ s,g.own b=.box s->lk s v.ρ.m=none->w1.heap[b]?=w.heap[b]?/\g1.own b=.other) /\
 (∀ r i,g.own b=.Cz r i->lk r v.ρ.l=none->w1.heap[b]?=w.heap[b]?/\g1.own b=(if r∈v.ρ.bs then .ro else .other)):=by
 have hk:=Gq.EE b hb;refine⟨λh=>?_,λh=>?_,λr h hr=>?_,λs h hs=>?_,λr i h hr=>?_⟩
 ·have e:(entry v g).own b=.ro:=Fg h;have:=hk (.inl e);exact⟨this.1,this.2.trans e⟩
 ·have e:(entry v g).own b=.other:=Du h;have:=hk (.inr e);exact⟨this.1,this.2.trans e⟩
 ·have e:(entry v g).own b=(if r∈v.ρ.bs then .ro else .other):=by simp[entry,Gh.BS,h,hr]
  have hf:A0.fixed ⟨w,entry v g,names o⟩ b:=by
   unfold A0.fixed;simp only;rw[e];split
   ·exact .inl rfl
   ·exact .inr rfl
  have:=hk hf;exact⟨this.1,this.2.trans e⟩
 ·have e:(entry v g).own b=.other:=by simp[entry,Gh.BS,h,hs]
  have:=hk (.inr e);exact⟨this.1,this.2.trans e⟩
 ·have e:(entry v g).own b=(if r∈v.ρ.bs then .ro else .other):=by simp[entry,Gh.BS,h,hr]
  have hf:A0.fixed ⟨w,entry v g,names o⟩ b:=by
   unfold A0.fixed;simp only;rw[e];split
   ·exact .inl rfl
   ·exact .inr rfl
  have:=hk hf;exact⟨this.1,this.2.trans e⟩
def Qw(Gq:Fr C ⟨w,entry v g,names o⟩ g1 w1){b q:Nat}(h:(g1.BS v.back g).own b=.row q):(after v g w g1).own b=.row q:=by
 unfold after;simp only;split
 ·rename_i hb;obtain⟨f1,f2,f3,f4,f5⟩:=G6 Gq hb;cases hg:g.own b with
  | ro=>rw[Fg (f1 hg).2]at h;cases h
  | other=>rw[Du (f2 hg).2]at h;cases h
  | row r =>
   simp only;cases hr:lk r v.ρ.l with
   |none =>
    have:=(f3 r hg hr).2;split at this
    ·rw[Fg this]at h;cases h
    ·rw[Du this]at h;cases h
   |some r'=>simpa using h
  | box s =>
   simp only;cases hs:lk s v.ρ.m with
   |none=>rw[Du (f4 s hg hs).2]at h;cases h
   |some r'=>simpa using h
  | Cz r i =>
   simp only;cases hr:lk r v.ρ.l with
   |none =>
    have:=(f5 r i hg hr).2;split at this
    ·rw[Fg this]at h;cases h
    ·rw[Du this]at h;cases h
   |some r'=>simpa using h
 ·exact h
def Vr(Gq:Fr C ⟨w,entry v g,names o⟩ g1 w1){b q n:Nat}(h:(g1.BS v.back g).own b=.Cz q n):(after v g w g1).own b=.Cz q n:=by
 unfold after;simp only;split
 ·rename_i hb;obtain⟨f1,f2,f3,f4,f5⟩:=G6 Gq hb;cases hg:g.own b with
  | ro=>rw[Fg (f1 hg).2]at h;cases h
  | other=>rw[Du (f2 hg).2]at h;cases h
  | row r =>
   simp only;cases hr:lk r v.ρ.l with
   |none =>
    have:=(f3 r hg hr).2;split at this
    ·rw[Fg this]at h;cases h
    ·rw[Du this]at h;cases h
   |some r'=>simpa using h
  | box s =>
   simp only;cases hs:lk s v.ρ.m with
   |none=>rw[Du (f4 s hg hs).2]at h;cases h
   |some r'=>simpa using h
  | Cz r i =>
   simp only;cases hr:lk r v.ρ.l with
   |none =>
    have:=(f5 r i hg hr).2;split at this
    ·rw[Fg this]at h;cases h
    ·rw[Du this]at h;cases h
   |some r'=>simpa using h
 ·exact h
def Qv(Gq:Fr C ⟨w,entry v g,names o⟩ g1 w1){b q:Nat}(h:(g1.BS v.back g).own b=.box q):(after v g w g1).own b=.box q:=by
 unfold after;simp only;split
 ·rename_i hb;obtain⟨f1,f2,f3,f4,f5⟩:=G6 Gq hb;cases hg:g.own b with
  | ro=>rw[Fg (f1 hg).2]at h;cases h
  | other=>rw[Du (f2 hg).2]at h;cases h
  | row r =>
   simp only;cases hr:lk r v.ρ.l with
   |none =>
    have:=(f3 r hg hr).2;split at this
    ·rw[Fg this]at h;cases h
    ·rw[Du this]at h;cases h
   |some r'=>simpa using h
  | box s =>
   simp only;cases hs:lk s v.ρ.m with
   |none=>rw[Du (f4 s hg hs).2]at h;cases h
   |some r'=>simpa using h
  | Cz r i =>
   simp only;cases hr:lk r v.ρ.l with
   |none =>
    have:=(f5 r i hg hr).2;split at this
    ·rw[Fg this]at h;cases h
    ·rw[Du this]at h;cases h
   |some r'=>simpa using h
 ·exact h
def Rr(Gq:Fr C ⟨w,entry v g,names o⟩ g1 w1):Names (g1.BS v.back g) (after v g w g1) :=
 ⟨λ_ _ h=>Qw Gq h,λ_ _ h=>Qv Gq h,λ_=>rfl,λ_=>rfl⟩
def YG(Gq:Fr C ⟨w,entry v g,names o⟩ g1 w1)(rm:v.ρ.bs=[]){b:Nat}(h:(g1.BS v.back g).own b=.ro):(after v g w g1).own b=.ro:=by
 have h1:g1.own b=.ro:=by
  unfold Gh.BS at h;simp only at h;split at h
  ·assumption
  ·cases h
  ·split at h
   ·cases h
   ·simp[Way.back]at h
  ·split at h<;>cases h
  ·split at h
   ·cases h
   ·simp[Way.back]at h
 unfold after;simp only;split
 ·rename_i hb;obtain⟨f1,f2,f3,f4,f5⟩:=G6 Gq hb;cases hg:g.own b with
  | ro=>rfl
  | other=>rw[(f2 hg).2]at h1;cases h1
  | row r =>
   simp only;cases hr:lk r v.ρ.l with
   |none=>have:=(f3 r hg hr).2;simp[rm]at this;rw[this]at h1;cases h1
   |some r'=>simpa using h
  | box s =>
   simp only;cases hs:lk s v.ρ.m with
   |none=>rw[(f4 s hg hs).2]at h1;cases h1
   |some r'=>simpa using h
  | Cz r i =>
   simp only;cases hr:lk r v.ρ.l with
   |none=>have:=(f5 r i hg hr).2;simp[rm]at this;rw[this]at h1;cases h1
   |some r'=>simpa using h
 ·exact h
def S9(hv:v.OK o)(Gq:Fr C ⟨w,entry v g,names o⟩ g1 w1):Grow (rngs v.back.l) (rngs v.fm) (rngs v.back.m) g w (after v g w g1) w1 where
 ro:=λb hb h=>by
  obtain⟨f1,_,_,_,_⟩:=G6 Gq hb;refine⟨by simp[after,hb,h],(f1 h).1⟩
 row:=λb q hb hq h=>by
  obtain⟨_,_,f3,_,_⟩:=G6 Gq hb;have hn:lk q v.ρ.l=none:=by
   cases hl:lk q v.ρ.l with
   |none=>rfl
   |some q' =>
    have:=Ey.bwd (l:=inv v.ρ.l) (r:=q') (r':=q) (by
     have:=hv.T4.l;unfold Ey at this ⊢;rw[inv_inv];simp only[List.all_eq_true,Bool.and_eq_true]at this ⊢;intro p hp;simp only[inv,List.mem_map]at hp;obtain⟨p0,QW,rfl⟩:=hp;exact⟨⟨(this p0 QW).1.2,(this p0 QW).1.1⟩,by have h2:=(this p0 QW).2;simp only[beq_iff_eq]at h2 ⊢;exact h2.symm⟩) (by rw[inv_inv];exact hl)
    exact(hq (by
     simp only[Way.back,rngs,List.map_append,List.mem_append,List.mem_map];exact .inl ⟨_,Jk this,rfl⟩)).elim
  exact⟨by simp[after,hb,h,hn],(f3 q h hn).1⟩
 rows:=λq hq=>by
  simp only[after,Gh.BS];have:lk q (inv v.back.l)=none:=SY (by rw[Ws];exact hq);rw[this]
 boxes:=λs hs=>by
  simp only[after,Gh.BS];cases hl:lk s (inv v.back.m) with
  |none=>rfl
  |some s' =>
   simp only;have h1:=Ey.bwd hv.back.m hl;simp only[Way.back,HJ]at h1;cases h2:lk s' (inv v.ρ.m) with
   |none =>
    rw[h2]at h1;simp only[Option.none_or]at h1;exact(hs (by simp only[rngs,List.mem_map];exact⟨_,Jk h1,rfl⟩)).elim
   |some s0 =>
    rw[h2]at h1;simp only[Option.some_or,Option.some.injEq]at h1;subst h1;have h3:=Ey.bwd hv.T4.m h2;have he:s'∈names o:=hv.ext s' (by simp only[rngs,List.mem_map];exact⟨_,Jk h3,rfl⟩);rw[Gq.box s' he];exact M0 hv.T4 h3
 Cz:=λb q i hb hq h=>by
  obtain⟨_,_,_,_,f5⟩:=G6 Gq hb;have hn:lk q v.ρ.l=none:=by
   cases hl:lk q v.ρ.l with
   |none=>rfl
   |some q' =>
    have:=Ey.bwd (l:=inv v.ρ.l) (r:=q') (r':=q) (by
     have:=hv.T4.l;unfold Ey at this ⊢;rw[inv_inv];simp only[List.all_eq_true,Bool.and_eq_true]at this ⊢;intro p hp;simp only[inv,List.mem_map]at hp;obtain⟨p0,QW,rfl⟩:=hp;exact⟨⟨(this p0 QW).1.2,(this p0 QW).1.1⟩,by have h2:=(this p0 QW).2;simp only[beq_iff_eq]at h2 ⊢;exact h2.symm⟩) (by rw[inv_inv];exact hl)
    exact(hq (by
     simp only[Way.back,rngs,List.map_append,List.mem_append,List.mem_map];exact .inl ⟨_,Jk this,rfl⟩)).elim
  exact⟨by simp[after,hb,h,hn],(f5 q i h hn).1⟩
 cc:=λq i hq=>by
  simp only[after,Gh.BS];have:lk q (inv v.back.l)=none:=SY (by rw[Ws];exact hq);rw[this]
 os:=Gq.os
 tape:=Gq.tape
 output:=Gq.output
 size:=Gq.size
 other:=λb hb h=>by
  obtain⟨_,f2,_,_,_⟩:=G6 Gq hb;exact⟨by simp[after,hb,h],(f2 h).1⟩
 kept:=λs hU _ h hb=>by
  obtain⟨_,_,_,f4,_⟩:=G6 Gq hb;have hn:lk s v.ρ.m=none:=by
   cases hl:lk s v.ρ.m with
   |none=>rfl
   |some q' =>
    have:=Ey.fwd hv.T4.m hl;exact(hU (by
     simp only[Way.back,rngs,List.map_append,List.mem_append,List.mem_map];exact .inl ⟨_,Jk this,rfl⟩)).elim
  exact⟨by simp[after,hb,h,hn],(f4 s h hn).1⟩
def YF(hv:v.OK o)(Gq:Fr C ⟨w,entry v g,names o⟩ g1 w1){x:AV}{u:Value}(hx:VR g1 w1 x u)(hf:v.ρ.bs=[]\/Flat (x.BS v.back)):VR (after v g w g1) w1 (x.BS v.back) u:=by
 have h1:VR (g1.BS v.back g) w1 (x.BS v.back) u:=VR.BS hv.back x u hx;rcases hf with rm|hf
 ·have hl:Lasts [] [] (g1.BS v.back g) w1 (after v g w g1) w1:=⟨λb _ h=>⟨YG Gq rm h,rfl⟩,λb q _ _ h=>⟨Qw Gq h,rfl⟩,λ_ _=>rfl,λ_ _=>rfl,λb q i _ _ h=>⟨Vr Gq h,rfl⟩,λ_ _ _=>rfl⟩;have:=VR.lasts hl _ _ h1
  rwa [Jh]at this
 ·exact VR.flat (Rr Gq) _ _ hf h1
def Vq(hv:v.OK o)(Gq:Fr C ⟨w,entry v g,names o⟩ g1 w1){x:List AV}{u:List Value}(hx:Az g1 w1 x u)(hf:v.ρ.bs=[]\/Ma (E2 v.back x)):Az (after v g w g1) w1 (E2 v.back x) u:=by
 have h1:Az (g1.BS v.back g) w1 (E2 v.back x) u:=Az.BS hv.back x u hx;rcases hf with rm|hf
 ·have hl:Lasts [] [] (g1.BS v.back g) w1 (after v g w g1) w1:=⟨λb _ h=>⟨YG Gq rm h,rfl⟩,λb q _ _ h=>⟨Qw Gq h,rfl⟩,λ_ _=>rfl,λ_ _=>rfl,λb q i _ _ h=>⟨Vr Gq h,rfl⟩,λ_ _ _=>rfl⟩;have:=Az.lasts hl _ _ h1
  rwa [D5]at this
 ·exact Az.flat (Rr Gq) _ _ hf h1
end
end Go.Abs
namespace Go.Abs
def qP(C:Ctx)(o:Oper)(r:St)(x:AV)(S T U:List Nat)(GY:List (Nat × List AV)):Prop :=
 ∀ A N g a w,R C A N g r a w->∀ K Q,(∀ u g' w',Grow S T U g w g' w'->VR g' w' x u->(∀ s cs,lk s GY=some cs->DO g' w' s cs)->K (a.put o.dst u) w')->o.wp C.P a w K Q
def St.app(S T U:List Nat)(GY:List (Nat × List AV))(st:St):St:=⟨MH S T st.tmps,GY++IB S T (H4 U st.Ah)⟩
section
variable {C:Ctx} {A:A0} {N:Nat} {g g':Gh} {st:St} {a:Act} {w w':World}
def R.glob(h:R C A N g st a w):Glob C g w:=λi cs hi=>h.fr.glob i cs hi
def R.app(h:R C A N g st a w){S T U:List Nat}{GY:List (Nat × List AV)}(hg:Grow S T U g w g' w')(H6:∀ s,s∈A.ext->s∉T)(hu:∀ s cs,lk s GY=some cs->DO g' w' s cs) :
 R C A N g' (st.app S T U GY) a w':=by
 have h1:=h.grow hg H6;refine⟨h1.size,h1.defs,h1.tm,λs cs hs=>?_,h1.fr⟩;simp only[St.app,HJ]at hs;cases hl:lk s GY with
 |none=>rw[hl]at hs;exact h1.ob s cs (by simpa [St.kill]using hs)
 |some c=>rw[hl]at hs;simp at hs;subst hs;exact hu s c hl
def Steps.wp{o:Oper}{x:AV}{st':St}(hs:Steps C A N o a w x st')(hd:∀ k,o.dst=some k->k<N)
 {K:Act->World->Prop} {Q:Exit->Act->World->Prop} (hk:∀ g' a' w',R C A N g' (st'.put o.dst x) a' w'->K a' w'):o.wp C.P a w K Q:=by
 obtain⟨u,w',g',h1,h2,h3⟩:=hs;exact h1.wp (hk g' _ w' (h2.put hd h3))
def KU{P:Program}{f:FuncId}{fn:Func}{c:Code}(hf:P.funcs[f]?=some fn)(EY:(fn.name=="runtime.NumGoroutine")=false)(hb:fn.body=some c)(args:Array Value)(w:World):(callFunc f args).run P w=.ok (.enter f args) w:=by
 have h1:¬ fn.name = "runtime.NumGoroutine":=by simpa using EY
 simp[callFunc,hf,h1,hb]
def fX(ρ:Act){P:Program}{o:Oper}{c:Call}{f:Operand}{EG:FuncId}{us:Array Value}(ho:o.op=.call c)(hc:c.callee=.value f)(hf:ρ.eval f=.func (.func EG) #[] us)(w:World) :
 (execOp ρ.eval o).run P w=(callFunc EG (c.args.map ρ.eval++us)).run P w:=by
 unfold execOp;rw[ho];simp[resolve,hc,hf,Deferred.ofValue,invoke]
def bB(ρ:Act){P:Program}{o:Oper}{c:Call}{f:Operand}{EG:FuncId}{fs us:Array Value}(ho:o.op=.call c)(hc:c.callee=.value f)(hf:ρ.eval f=.func (.func EG) fs us)(w:World) :
 (execOp ρ.eval o).run P w=(callFunc EG (fs++c.args.map ρ.eval++us)).run P w:=by
 unfold execOp;rw[ho];simp[resolve,hc,hf,Deferred.ofValue,invoke]
def Yx(x:AV)(EG:Nat)(first Bi:List AV):Prop:=(x=.fn EG Bi/\first=[])\/(x=.mv EG first/\Bi=[])
def Yx.read{x:AV}{EG:Nat}{first Bi:List AV}{u:Value}(h:Yx x EG first Bi)(hv:VR g w x u):∃ fs us,u=.func (.func EG) fs us/\Az g w first fs.toList/\Az g w Bi us.toList:=by
 rcases h with ⟨rfl,rfl⟩|⟨rfl,rfl⟩
 ·simp only[VR]at hv;obtain⟨us,rfl,h⟩:=hv;exact⟨#[],us,rfl,by simp[Az],h⟩
 ·simp only[VR]at hv;obtain⟨us,rfl,h⟩:=hv;exact⟨us,#[],rfl,h,by simp[Az]⟩
def Has(v:Way)(st:St)(ob:List (Nat × List AV)):Prop:=∀ s' cs,lk s' ob=some cs->lk s' (ET v.ρ st.Ah)=some cs
def Jy:List (Nat × List AV)->Prop
 |[]=>True
 | p::l=>Ma p.2/\Jy l
def Jy.lk:∀ {l:List (Nat × List AV)} {s:Nat} {cs:List AV},Jy l->lk s l=some cs->Ma cs
 |(j,c)::l,s,cs,hf,h=>by
  simp only[Abs.lk]at h;split at h
  ·injection h with h;subst h;exact hf.1
  ·exact Jy.lk hf.2 h
def L9(C:Ctx)(o:Oper)(a:Act)(g:Gh)(w:World)(EG:Nat)(xs:List AV):Prop:=∃ us:List Value,Az g w xs us/\(execOp a.eval o).run C.P w=(callFunc EG us.toArray).run C.P w
def L9.val{o:Oper}{c:Call}{f:Operand}{EG:Nat}{first Bi:List AV}(ho:o.op=.call c)(hc:c.callee=.value f)(hf:Yx (ev C st f) EG first Bi)(h:R C A N g st a w):L9 C o a g w EG (first++c.args.toList.map (ev C st)++Bi):=by
 obtain⟨fs,us,Si,NX,uG⟩:=hf.read (h.ev f);refine⟨fs.toList++(c.args.toList.map a.eval)++us.toList,Az.append (Az.append NX (Gw h _)) uG,?_⟩;rw[bB a ho hc Si w];congr 2;rw[<- Array.toList_inj];simp
def w7{o:Oper}{EG:Nat}{xs:List AV}(rp:L9 C o a g w EG xs){v:Way}{ob:List (Nat × List AV)}{S:AV->List (Nat × List AV)->Prop}(hv:v.OK ob)
 (Ce:FnP C EG (E2 v.ρ xs) ob S) (rI:Has v st ob) (NW:∀ y IC,S y IC->v.ρ.bs=[]\/(Flat (y.BS v.back)/\Jy (ET v.back IC))) (h:R C A N g st a w)
 (H6:∀ s,s∈A.ext->s∉rngs v.fm) (hd:∀ k,o.dst=some k->k<N) {K:Act->World->Prop} {Q:Exit->Act->World->Prop}
 (hk:∀ y IC g' a' w',S y IC->R C A N g' ((st.app (rngs v.back.l) (rngs v.fm) (rngs v.back.m) (ET v.back IC)).put o.dst (y.BS v.back)) a' w'->K a' w'):o.wp C.P a w K Q:=by
 obtain⟨⟨fn,cd,hfn,EY,hb⟩,Je⟩:=Ce;obtain⟨us,Fm,hex⟩:=rp;unfold Oper.wp;rw[hex,KU hfn EY hb,Oper.upon_enter];have bR:=Az.BS (ρ:=v.ρ) (base:=g) hv.T4 _ _ Fm;have TW:Glob C (entry v g) w:=λi cs hi=>by
  obtain⟨h1,h2,h3⟩:=h.glob i cs hi;exact⟨h1,Fg h2,Cu.mono LY _ ⟨i,0,none⟩ 0 h2 h3⟩
 have eE:=Je (entry v g) w _ TW bR λs' cs hs=>by
  obtain⟨s,Yr,h1,h2,rfl⟩:=Lz hv.T4 (rI s' cs hs);exact DO.BS hv.T4 h1 (h.ob s Yr h2)
 refine Calls.mono eE λe w' he=>?_
 obtain⟨y,IC,hS,u,g1,rfl,Gq,hy,uo⟩:=he;have NW:=NW y IC hS;refine hk y IC (after v g w g1) _ w' hS ((h.app (S9 hv Gq) H6 λs cs hs=>?_).put hd (YF hv Gq hy (NW.imp id And.left)));obtain⟨s',Yr,h1,h2,rfl⟩:=Lz hv.back hs;have Sh:=uo s' Yr h2;have uA:DO (g1.BS v.back g) w' s (E2 v.back Yr):=DO.BS hv.back h1 Sh;have hbx:g1.box s'=(g1.BS v.back g).box s:=(M0 hv.back h1).symm;exact Sh.lift (Ey.kind hv.back.m h1) (Qv Gq uA.1) (by show w'.heap[(g1.BS v.back g).box s]?=_;rw[<- hbx]) (λus h=>Vq hv Gq h (NW.imp id λh=>Jy.lk h.2 hs))
def R.quiet(h:R C A N g st a w)(hq:Quiet w w'):R C A N g st a w':=by
 have hl:Lasts [] [] g w g w':=⟨λb hb ho=>⟨ho,hq.old b hb⟩,λb _ hb _ ho=>⟨ho,hq.old b hb⟩,λ_ _=>rfl,λ_ _=>rfl,λb _ _ hb _ ho=>⟨ho,hq.old b hb⟩,λ_ _ _=>rfl⟩;have:=h.lasts hl (h.fr.step hl hq.os hq.tape hq.output hq.size (λb hb ho=>⟨ho,hq.old b hb⟩) (λ_ _ he=>by cases he)) (λs cs hs _=>⟨(h.ob s cs hs).1,hq.old _ (h.ob s cs hs).lt⟩)
 rwa [OV]at this
def w8{o:Oper}{EG r n:Nat}{ys:List AV}{es NK:List (List AV)}(rp:L9 C o a g w EG (.sl (.own r 0) n es::ys))
 (Ce:S4 C EG n es ys NK) (h:R C A N g st a w) (hd:∀ k,o.dst=some k->k<N) {K:Act->World->Prop} {Q:Exit->Act->World->Prop}
 (hk:∀ g' a' w',R C A N g' ((st.AP r n 0 NK).put o.dst (.Bl [])) a' w'->K a' w'):o.wp C.P a w K Q:=by
 obtain⟨⟨fn,cd,hfn,EY,hb⟩,Je⟩:=Ce;obtain⟨vs,Fm,hex⟩:=rp;unfold Oper.wp;rw[hex,KU hfn EY hb,Oper.upon_enter]
 match vs,Fm with
 | u::vs,Fm =>
  simp only[Az,VR]at Fm;refine Calls.mono (Je g w r u vs h.glob Fm.1 Fm.2) λe w' he=>?_
  obtain⟨rfl,hq⟩:=he;have RV:VR g w' (.Bl []) (.tuple #[]):=by simp only[VR];exact⟨#[],rfl,by simp[Az]⟩
  rcases hq with ⟨rfl,hq⟩|⟨cur,new,T,kL,hq⟩
  ·exact hk g _ w' (((h.DZ r n 0).quiet hq).put hd RV)
  ·exact hk g _ w' (((h.AP kL).quiet hq).put hd RV)
 |[],Fm=>simp[Az]at Fm
def wZ{o:Oper}{c:Call}{f:Operand}{EG:Nat}{Bi:List AV}(ho:o.op=.call c)(hc:c.callee=.value f)(hf:ev C st f=.fn EG Bi){v:Way}{ob IC:List (Nat × List AV)}{y:AV}(hv:v.OK ob)
 (Ce:Ac C EG (E2 v.ρ (c.args.toList.map (ev C st)++Bi)) ob y IC) (rI:Has v st ob) (NW:v.ρ.bs=[]\/(Flat (y.BS v.back)/\Jy (ET v.back IC))) :
 qP C o st (y.BS v.back) (rngs v.back.l) (rngs v.fm) (rngs v.back.m) (ET v.back IC):=by
 intro A N g a w hR K Q hk;obtain⟨⟨fn,cd,hfn,EY,hb⟩,Je⟩:=Ce;have hfv:=hR.ev f;rw[hf]at hfv;simp only[VR]at hfv;obtain⟨us,Si,uG⟩:=hfv;unfold Oper.wp;rw[fX a ho hc Si w,KU hfn EY hb,Oper.upon_enter];have Fm:Az g w (c.args.toList.map (ev C st)++Bi) ((c.args.toList.map a.eval)++us.toList):=Az.append (Gw hR _) uG;have bR:=Az.BS (ρ:=v.ρ) (base:=g) hv.T4 _ _ Fm;have TW:Glob C (entry v g) w:=λi cs hi=>by
  obtain⟨h1,h2,h3⟩:=hR.glob i cs hi;exact⟨h1,Fg h2,Cu.mono LY _ ⟨i,0,none⟩ 0 h2 h3⟩
 have eE:=Je (entry v g) w _ TW bR λs' cs hs=>by
  obtain⟨s,Yr,h1,h2,rfl⟩:=Lz hv.T4 (rI s' cs hs);exact DO.BS hv.T4 h1 (hR.ob s Yr h2)
 have e:c.args.map a.eval++us=((c.args.toList.map a.eval)++us.toList).toArray:=by
  rw[<- Array.toList_inj];simp
 rw[e];refine Calls.mono eE λe w' he=>?_
 obtain⟨u,g1,rfl,Gq,hy,uo⟩:=he;refine hk u (after v g w g1) w' (S9 hv Gq) (YF hv Gq hy (NW.imp id And.left)) λs cs hs=>?_
 obtain⟨s',Yr,h1,h2,rfl⟩:=Lz hv.back hs;have Sh:=uo s' Yr h2;have uA:DO (g1.BS v.back g) w' s (E2 v.back Yr):=DO.BS hv.back h1 Sh;have hbx:g1.box s'=(g1.BS v.back g).box s:=(M0 hv.back h1).symm;exact Sh.lift (Ey.kind hv.back.m h1) (Qv Gq uA.1) (by show w'.heap[(g1.BS v.back g).box s]?=_;rw[<- hbx]) (λus h=>Vq hv Gq h (NW.imp id λh=>Jy.lk h.2 hs))
end
end Go.Abs
namespace Go.Abs
section
variable {C:Ctx} {A:A0} {N:Nat} {g g':Gh} {st:St} {a:Act} {w w':World} {P:Program}
def Gh.deep(g:Gh)(B k r r2 n:Nat):Gh where
 own b:=if b=B then .row k else match g.own b with
  |.Cz q i=>if q=r2 then .Cz k (n+i) else if q=r then .Cz k i else .Cz q i
  | o=>o
 box:=g.box
 row q:=if q=k then B else g.row q
 Cz q i:=if q=k then (if i<n then g.Cz r i else g.Cz r2 (i-n)) else g.Cz q i
def Tt(hR:R C A N g st a w){r r2 k B cap m:Nat}{T:TypeId}{cur':Array Value}{bss bss2:List (List (List AV))}{S:List Nat}(hm:0<m)(hr:r∈S)(pI:r2∈S)(hk:k∈S)(Ca:bss=[]\/r≠r2)
 (hB:B=w.heap.size\/g.own B=.row r) (gK:w'.os=w.os) (RT:I5 w w') (Ve:w'.output=w.output) (Ec:w.heap.size<=w'.heap.size) (hold:∀ b,b<w.heap.size->b≠B->w'.heap[b]?=w.heap[b]?)
 (xS:w'.heap[B]?=some (.cells cur' T (0,0))) (RR:cur'.size=cap) (hlen:bss.length+bss2.length<=cap) (TT:cap<=maxLen)
 (h1:∀ q b,bss[q]?=some b->∃ v,cur'[q]?=some v/\Ge g w r q m b v) (h2:∀ q b,bss2[q]?=some b->∃ v,cur'[bss.length+q]?=some v/\Ge g w r2 q m b v) :
 ∃ g',R C A N g' (st.kill S []) a w'/\NU g' w' .Xl k 0 0 0 m (bss++bss2) (.slice (some ⟨B,0,none⟩) (bss++bss2).length cap):=by
 let g':=g.deep B k r r2 bss.length
 have wk:∀ b,b<w.heap.size->g.own b≠.row r->b≠B:=λb hb ho e=>by
  subst e;rcases hB with hB|hB
  ·omega
  ·exact ho hB
 have V7:∀ b,b<w.heap.size->BX g b->BX g' b/\w'.heap[b]?=w.heap[b]?:=λb hb ho=>by
  have Yt:g.own b=.ro:=ho;have Ca:=wk b hb (by rw[Yt];intro e;cases e);exact⟨by simp[g',Gh.deep,BX,Ca,Yt],hold b hb Ca⟩
 have hl:Lasts S [] g w g' w':=by
  refine⟨V7,λb q hb hq ho=>?_,λq hq=>?_,λ_ _=>rfl,λb q i hb hq ho=>?_,λq i hq=>?_⟩
  ·have Ca:=wk b hb (by rw[ho];intro e;injection e with e;exact hq (e▸hr));exact⟨by simp[g',Gh.deep,Ca,ho],hold b hb Ca⟩
  ·have:q≠k:=λe=>hq (e▸hk)
   simp[g',Gh.deep,this]
  ·have Ca:=wk b hb (by rw[ho];intro e;cases e);have n1:q≠r2:=λe=>hq (e▸pI)
   have n2:q≠r:=λe=>hq (e▸hr)
   exact⟨by simp[g',Gh.deep,Ca,ho,n1,n2],hold b hb Ca⟩
  ·have:q≠k:=λe=>hq (e▸hk)
   simp[g',Gh.deep,this]
 refine⟨g',hR.lasts hl (hR.fr.step hl gK RT Ve Ec (λb hb ho=>?_) (λ_ _ h=>by cases h)) (λs cs hs _=>?_),hm,.inr ⟨cap,cur',T,?_,?_,TT,?_,?_,RR,λq b hq=>?_⟩⟩
 ·have Ca:=wk b hb (by rw[ho];intro e;cases e);exact⟨by simp[g',Gh.deep,Ca,ho],hold b hb Ca⟩
 ·have rI:=hR.ob s cs hs;have Ca:=wk _ rI.lt (by rw[rI.1];intro e;cases e);exact⟨by simp[g',Gh.deep,Ca,rI.1],hold _ rI.lt Ca⟩
 ·simp[g',Gh.deep]
 ·simpa using hlen
 ·simp[g',Gh.deep]
 ·have:g'.row k=B:=by simp[g',Gh.deep]
  rw[this];exact xS
 ·have Cz:∀ (r0 q0:Nat) (b:List (List AV)) (v:Value),Ge g w r0 q0 m b v->g'.Cz k q=g.Cz r0 q0->(∀ _:Nat,g.own (g.Cz r0 q0)=.Cz r0 q0->g.Cz r0 q0≠B->g'.own (g.Cz r0 q0)=.Cz k q)->Ge g' w' k q m b v:=by
   intro r0 q0 b v hi he ho;rcases hi with hi|⟨Aap,Aav,T1,e1,e2,e3,e4,e5,e6,e7⟩
   ·exact .inl hi
   ·have Au:=Ee e5;have x6:=wk _ Au (by rw[e4];intro e;cases e);have hh:=hold _ Au x6;refine .inr ⟨Aap,Aav,T1,by rw[he];exact e1,e2,e3,by rw[he];exact ho 0 e4 x6,by rw[he,hh];exact e5,e6,?_⟩;rw[he];exact CH.Cv V7 b _ m 0 hh e7
  rw[List.getElem?_append]at hq;split at hq
  ·rename_i Au;obtain⟨v,hv,hi⟩:=h1 q b hq;refine⟨v,hv,Cz r q b v hi (by simp[g',Gh.deep,Au]) λ_ ho hnB=>?_⟩;have:r≠r2:=Ca.resolve_left (λe=>by rw[e]at Au;simp at Au);simp[g',Gh.deep,hnB,ho,this]
  ·rename_i G9;obtain⟨v,hv,hi⟩:=h2 (q-bss.length) b hq;rw[show bss.length+(q-bss.length)=q from by omega]at hv;refine⟨v,hv,Cz r2 (q-bss.length) b v hi (by simp[g',Gh.deep,G9]) λ_ ho hnB=>?_⟩;simp[g',Gh.deep,hnB,ho];omega
def O5(k:Nat)(st:St)(x y:AV):Option (AV × St):=match y with
 |.El .Xl r2 _ _ _ m bss2=>match x with
  |.v (.slice none 0 0)=>if bss2.length<=4294967296 then some (.El .Xl k 0 0 0 m bss2,st.kill [r2,k] []) else none
  |.El .Xl r _ _ _ m' bss=>if m'=m/\r≠r2/\bss.length+bss2.length<=4294967296 then some (.El .Xl k 0 0 0 m (bss++bss2),st.kill [r,r2,k] []) else none
  |_=>none
 |_=>none
def lf(k:Nat)(st:St)(len:Nat)(parts:List (Nat × AV)):Option (AV × St):=match len,parts with
 | 1,[(0,.sl (.own q 0) m b)]=>some (.El .Xl k 0 0 0 m [b],(st.kill [q] []).kill [q,k] [])
 |_,_=>none
def dc{r i j off m:Nat}{bss:List (List (List AV))}{u:Value}(h:NU g w .Xl r i j off m bss u) :
 0<m/\∃ vs:List Value,S6 w 1 bss.length u vs/\(∀ v∈vs,v.oneCell'=true)/\∀ q b,bss[q]?=some b->∃ v,vs[q]?=some v/\Ge g w r q m b v:=by
 obtain⟨hm,⟨rfl,rfl⟩|⟨cap,cur,T,rfl,h2,h3,h4,h5,h6,h7⟩⟩:=h
 ·exact⟨hm,[],⟨by simp,.inr ⟨rfl,0,rfl⟩⟩,by simp,λq b hq=>by simp at hq⟩
 ·refine⟨hm,cur.toList.take bss.length,⟨by simp;omega,.inl ⟨_,cap,rfl,λj v hj=>?_⟩⟩,λv hv=>?_,λq b hq=>?_⟩
  ·rw[List.getElem?_take]at hj;split at hj
   ·rw[NV h5];simpa using hj
   ·cases hj
  ·obtain⟨q,hq⟩:=List.getElem?_of_mem hv;rw[List.getElem?_take]at hq;split at hq
   ·rename_i Au;obtain⟨v',L8,hi⟩:=h7 q bss[q] (List.getElem?_eq_getElem Au);simp only[Array.getElem?_toList]at hq;rw[L8]at hq;injection hq with hq
    subst hq;rcases hi with ⟨_,_,_,rfl,_⟩|⟨_,_,_,rfl,_⟩<;>rfl
   ·cases hq
  ·obtain⟨v,hv,hi⟩:=h7 q b hq;have Au:q<bss.length:=by
    rcases Nat.lt_or_ge q bss.length with h|h
    ·exact h
    ·rw[List.getElem?_eq_none h]at hq;cases hq
   exact⟨v,by rw[List.getElem?_take,if_pos Au];simpa using hv,hi⟩
def UU(hR:R C A N g st a w){t t2 ty e b k:Nat}(ht:Bz P t=some (e,1,b))(GP:AJ P t2=true){x y z:AV}{ux uy:Value}(hx:VR g w x ux)(hy:VR g w y uy){st':St}
 (ha:O5 k st x y=some (z,st')):∃ u w' g',(Builtin.append_ #[t,t2] ty #[ux,uy]).run P w=.ok u w'/\R C A N g' st' a w'/\VR g' w' z u:=by
 obtain⟨hu,i,zv,hi,hz,SV,Ec,pw,hn,hb⟩:=DL ht;unfold O5 at ha;split at ha
 ·rename_i r2 _ _ _ m bss2;simp only[VR]at hy;obtain⟨hm,vs,sy,ov,iv⟩:=dc hy;rw[<- Ec]at sy;have key:∀ (r sLen sCap:Nat) (base:Option Addr) (us:List Value) (bss:List (List (List AV))),sLen=bss.length->sLen<=sCap->us.length=sLen->ux=.slice base sLen sCap->S6 w i.size sLen ux us->(∀ q b,bss[q]?=some b->∃ v,us[q]?=some v/\Ge g w r q m b v)->(bss=[]\/r≠r2) ->
   bss.length+bss2.length<=4294967296->(∀ S:List Nat,r∈S->r2∈S->k∈S->∃ u w' g',(Builtin.append_ #[t,t2] ty #[ux,uy]).run P w=.ok u w'/\R C A N g' (st.kill S []) a w'/\VR g' w' (.El .Xl k 0 0 0 m (bss++bss2)) u)\/(sLen+bss2.length<=sCap):=by
   intro r sLen sCap base us bss XU hle V9 yn sx ix Ca NM
   by_cases NY:sLen+bss2.length<=sCap
   ·exact .inr NY
   ·left;intro S hr pI hk;subst XU;have Ka:(bss.length+bss2.length)*i.bytes<=140737488355328:=by
     have:(bss.length+bss2.length)*i.bytes<=4294967296*32768:=Nat.mul_le_mul NM (by omega);omega
    have CZ:=FQ (ty:=ty) hu GP hi hz (yn▸sx) sy (by omega) hle Ka (by omega);rw[<- yn]at CZ;have uF:vs.length=bss2.length:=by rw[sy.1,Ec];simp
    have hgc:=grownCap_ge w (bss.length+bss2.length) sCap e;have hA:∀ q b,bss[q]?=some b->∃ v,(us.toArray++vs.toArray++Builtin.zeroCells zv.cells (grownCap w (bss.length+bss2.length) sCap e-(bss.length+bss2.length)))[q]?=some v/\Ge g w r q m b v:=λq b hq=>by
     obtain⟨v,hv,tV⟩:=ix q b hq;have Au:q<us.length:=by
      rcases Nat.lt_or_ge q us.length with h|h
      ·exact h
      ·rw[List.getElem?_eq_none h]at hv;cases hv
     refine⟨v,?_,tV⟩;rw[Array.getElem?_append_left (by simp;omega),Array.getElem?_append_left (by simpa using Au)];simpa using hv
    have hB:∀ q b,bss2[q]?=some b->∃ v,(us.toArray++vs.toArray++Builtin.zeroCells zv.cells (grownCap w (bss.length+bss2.length) sCap e-(bss.length+bss2.length)))[bss.length+q]?=some v/\Ge g w r2 q m b v:=λq b hq=>by
     obtain⟨v,hv,tV⟩:=iv q b hq;have Au:q<vs.length:=by
      rcases Nat.lt_or_ge q vs.length with h|h
      ·exact h
      ·rw[List.getElem?_eq_none h]at hv;cases hv
     refine⟨v,?_,tV⟩;rw[Array.getElem?_append_left (by simp;omega),Array.getElem?_append_right (by simp;omega)];simp only[List.size_toArray,V9,Nat.add_sub_cancel_left,List.getElem?_toArray];exact hv
    obtain⟨g',k1,k2⟩:=Tt hR (w':=w.drew.alloc (.cells (us.toArray++vs.toArray++Builtin.zeroCells zv.cells (grownCap w (bss.length+bss2.length) sCap e-(bss.length+bss2.length))) e)) (B:=w.heap.size) (S:=S) (cap:=grownCap w (bss.length+bss2.length) sCap e) hm hr pI hk Ca (.inl rfl) rfl ⟨rfl,Nat.le_succ _⟩ rfl (by simp) (λb hb _=>alloc_old _ _ b hb) (heap_alloc_new _ _)
     (by
      have pP:zv.cells.size=1:=by omega
      simp[Builtin.zeroCells,V9,uF,pP];omega) (by omega) (grownCap_le_maxLen w _ sCap e (by simp only[maxLen];omega)) hA hB
    refine⟨_,_,g',CZ,k1,?_⟩;simp only[VR];rw[List.length_append]at k2;exact k2
  split at ha
  ·split at ha
   ·rename_i NM;simp only[Option.some.injEq,Prod.mk.injEq]at ha;obtain⟨rfl,rfl⟩:=ha;simp only[VR]at hx;subst hx;rcases key r2 0 0 none [] [] rfl (Nat.le_refl _) rfl rfl ⟨by simp,.inr ⟨rfl,0,rfl⟩⟩ (λq b hq=>by simp at hq) (.inl rfl) (by simpa using NM) with h|h
    ·have:=h [r2,k] (by simp) (by simp) (by simp);simpa using this
    ·have iO:bss2=[]:=List.eq_nil_of_length_eq_zero (by omega);subst iO;have pK:vs=[]:=List.eq_nil_of_length_eq_zero (by rw[sy.1];simp);subst pK;exact⟨_,_,g,E4 hu GP hi sy (Nat.le_refl 0),hR.kill [r2,k] [] (λ_ _ h=>by cases h),by simp only[VR];exact⟨hm,.inl ⟨rfl,rfl⟩⟩⟩
   ·cases ha
  ·rename_i r _ _ _ m' bss;split at ha
   ·rename_i hc;obtain⟨rfl,hrr,NM⟩:=hc;simp only[Option.some.injEq,Prod.mk.injEq]at ha;obtain⟨rfl,rfl⟩:=ha;simp only[VR]at hx;obtain⟨_,us,sx,ou,iu⟩:=dc hx;rw[<- Ec]at sx;have V9:us.length=bss.length:=by rw[sx.1,Ec];simp
    obtain⟨_,⟨rfl,rfl⟩|⟨cap,cur,T,rfl,h2,h3,h4,h5,h6,h7⟩⟩:=hx
    ·rcases key r 0 0 none [] [] rfl (Nat.le_refl _) rfl rfl ⟨by simp,.inr ⟨rfl,0,rfl⟩⟩ (λq b hq=>by simp at hq) (.inl rfl) NM with h|h
     ·exact h [r,r2,k] (by simp) (by simp) (by simp)
     ·have iO:bss2=[]:=List.eq_nil_of_length_eq_zero (by omega);subst iO;have pK:vs=[]:=List.eq_nil_of_length_eq_zero (by rw[sy.1];simp);subst pK;exact⟨_,_,g,E4 hu GP hi sy (Nat.le_refl 0),hR.kill [r,r2,k] [] (λ_ _ h=>by cases h),by simp only[VR];exact⟨hm,.inl ⟨rfl,rfl⟩⟩⟩
    ·rcases key r bss.length cap (some ⟨g.row r,0,none⟩) us bss rfl h2 V9 rfl sx iu (.inr hrr) NM with h|NY
     ·exact h [r,r2,k] (by simp) (by simp) (by simp)
     ·-- in place
      have uF:vs.length=bss2.length:=by rw[sy.1,Ec];simp
      have CZ:=KT (ty:=ty) hu GP hi h5 sy ov NY (by rw[uF,Ec,h6];omega);rw[Ec,Nat.mul_one]at CZ;generalize Jg:(cur.toList.take bss.length++vs++cur.toList.drop (bss.length+vs.length)).toArray=new at CZ;have Jw:∀ p,new[p]?=if p<bss.length then cur[p]? else if p<bss.length+vs.length then vs[p-bss.length]? else cur[p]?:=by
       intro p;rw[<- Jg];simp only[List.getElem?_toArray];rw[List.append_assoc,List.getElem?_append];simp only[List.length_take,Array.length_toList];rw[Nat.min_eq_left (by omega)];split
       ·rename_i Au;rw[List.getElem?_take,if_pos Au];simp
       ·rename_i G9;rw[List.getElem?_append]
        by_cases Au:p<bss.length+vs.length
        ·rw[if_pos (by omega),if_pos Au]
        ·rw[if_neg (by omega),if_neg Au,List.getElem?_drop];simp only[Array.getElem?_toList];congr 1;omega
      have hA:∀ q b,bss[q]?=some b->∃ v,new[q]?=some v/\Ge g w r q m' b v:=λq b hq=>by
       obtain⟨v,hv,tV⟩:=h7 q b hq;have Au:q<bss.length:=by
        rcases Nat.lt_or_ge q bss.length with h|h
        ·exact h
        ·rw[List.getElem?_eq_none h]at hq;cases hq
       exact⟨v,by rw[Jw,if_pos Au];exact hv,tV⟩
      have hB:∀ q b,bss2[q]?=some b->∃ v,new[bss.length+q]?=some v/\Ge g w r2 q m' b v:=λq b hq=>by
       obtain⟨v,hv,tV⟩:=iv q b hq;have Au:q<vs.length:=by
        rcases Nat.lt_or_ge q vs.length with h|h
        ·exact h
        ·rw[List.getElem?_eq_none h]at hv;cases hv
       refine⟨v,?_,tV⟩;rw[Jw,if_neg (by omega),if_pos (by omega),Nat.add_sub_cancel_left];exact hv
      obtain⟨g',k1,k2⟩:=Tt hR (w':=w.setRow (g.row r) new) (B:=g.row r) (S:=[r,r2,k]) (cap:=cap) (bss:=bss) (bss2:=bss2) (k:=k) hm (by simp) (by simp) (by simp) (.inr hrr) (.inr h4) rfl ⟨rfl,Nat.le_refl _⟩ rfl (by simp) (λb _ Ca=>setRow_other w _ b new Ca) (setRow_heap w _ cur new T _ h5)
       (by
        rw[<- Jg];simp only[List.size_toArray,List.length_append,List.length_take,List.length_drop,Array.length_toList];omega) NY h3 hA hB
      refine⟨_,_,g',CZ,k1,?_⟩;simp only[VR];rw[List.length_append]at k2;exact k2
   ·cases ha
  ·cases ha
 ·cases ha
theorem R.zf(hR:R C A N g st a w){q m:Nat}{b:List (List AV)}{v:Value}(hv:VR g w (.sl (.own q 0) m b) v) :
 ∃ g',R C A N g' (st.kill [q] []) a w/\0<m/\Ge g' w q 0 m b v/\v.oneCell'=true:=by
 simp only[VR,CM]at hv;obtain⟨hm,hv⟩:=hv
 let g':Gh:={ g with own:=λx=>match g.own x with|.row p=>if p=q/\x=g.row q then .Cz q 0 else .row p|o=>o,Cz:=λp i=>if p=q then g.row q else g.Cz p i }
 have V7:∀ x,x<w.heap.size->BX g x->BX g' x/\w.heap[x]?=w.heap[x]?:=λx _ ho=>by
  have Yt:g.own x=.ro:=ho;exact⟨by simp[g',BX,Yt],rfl⟩
 have hl:Lasts [q] [] g w g' w:=by
  refine⟨V7,λx p _ hp ho=>⟨?_,rfl⟩,λ_ _=>rfl,λ_ _=>rfl,λx p i _ _ ho=>⟨by simp[g',ho],rfl⟩,λp i hp=>?_⟩
  ·have:p≠q:=by simpa using hp
   simp[g',ho,this]
  ·have:p≠q:=by simpa using hp
   simp[g',this]
 refine⟨g',hR.lasts hl (hR.fr.step hl rfl ⟨rfl,by first|exact Nat.le_refl _|exact Nat.le_succ _⟩ rfl (Nat.le_refl _) (λx _ ho=>⟨by simp[g',ho],rfl⟩) (λ_ _ h=>by cases h)) (λs cs hs _=>?_),hm,?_,?_⟩
 ·have ho:=(hR.ob s cs hs).1;exact⟨by simp[g',ho],rfl⟩
 ·rcases hv with ⟨rfl,rfl⟩|⟨h0,_⟩|⟨cap,cur,T,rfl,h2,h3,h5,h6,h7,h8⟩
  ·exact .inl ⟨rfl,none,0,rfl,by simp[maxLen]⟩
  ·omega
  ·have hi:g'.Cz q 0=g.row q:=by simp[g']
   refine .inr ⟨cap,cur,T,by rw[hi];simp,h2,by omega,?_,by rw[hi];exact h6,by rwa [Nat.zero_add]at h7,?_⟩
   ·rw[hi];simp[g',h5]
   ·rw[hi];have:=CH.Cv V7 b _ m 0 rfl h8;simpa using this
 ·rcases hv with ⟨rfl,_⟩|⟨h0,_⟩|⟨cap,cur,T,rfl,_⟩
  ·rfl
  ·omega
  ·rfl
def cn(hR:R C A N g st a w){t e b k len:Nat}{zs:List Value}(ht:Bz P t=some (e,1,b))(SV:zeroOf P e=some zs){parts:List (Nat × AV)}{pv:List (Nat × Value)}
 (TZ:parts.map (·.1)=pv.map (·.1)) (V6:Az g w (parts.map (·.2)) (pv.map (·.2))) {z:AV} {st':St} (ha:lf k st len parts=some (z,st')) :
 ∃ u w' g',(Instr.buildSlice t len pv.toArray).run P w=.ok u w'/\R C A N g' st' a w'/\VR g' w' z u:=by
 obtain⟨hu,i,zv,hi,hz,gP,Ec,pw,hn,hb⟩:=DL ht;unfold lf at ha;split at ha
 ·rename_i q m bs;simp only[Option.some.injEq,Prod.mk.injEq]at ha;obtain⟨rfl,rfl⟩:=ha
  match pv,TZ,V6 with
  |[(p0,v)],TZ,V6 =>
   simp only[List.map_cons,List.map_nil,List.cons.injEq,and_true]at TZ;subst TZ;simp only[List.map_cons,List.map_nil,Az,and_true]at V6;obtain⟨g1,hR1,hm,HT,kI⟩:=hR.zf V6;have hvc:v.cells = #[v]:=by
    cases v<;>simp_all[Value.cells,Value.oneCell']
   have pP:zv.cells.size=1:=by omega
   have xQ:Instr.fill (λi=>some (i,1)) ((Array.range 1).map (zv.cells[·%zv.cells.size]!)) [(0,v)]=some #[v]:=by
    have hr1:Array.range 1 = #[0]:=rfl;simp[Instr.fill,hvc,hr1]
   obtain⟨g',k1,k2⟩:=Tt hR1 (w':=w.alloc (.cells #[v] e)) (r:=q) (r2:=q) (k:=k) (B:=w.heap.size) (cap:=1) (bss:=[]) (bss2:=[bs]) (S:=[q,k]) (cur':=#[v]) (T:=e) hm (by simp) (by simp) (by simp) (.inl rfl) (.inl rfl) rfl ⟨rfl,Nat.le_refl _⟩ rfl (by simp) (λx hx _=>alloc_old _ _ x hx) (heap_alloc_new _ _) (by simp) (by simp) (by simp[maxLen]) (λq' b' L7=>by simp at L7)
    (λq' b' L7=>by
     match q',L7 with
     | 0,L7=>simp at L7;subst L7;exact⟨v,by simp,HT⟩
     | q'+1,L7=>simp at L7)
   refine⟨.slice (some ⟨w.heap.size,0,none⟩) 1 1,_,g',?_,k1,by simp only[VR];simpa using k2⟩;simp[Instr.buildSlice,run_underlying hu,sizeOf,typeInfo,hi,Ec,zeroValue,hz,xQ,newRow]
  |[],TZ,_=>simp at TZ
  |_::_::_,TZ,_=>simp at TZ
 ·cases ha
end
end Go.Abs
