/- part 5 of the proof -/
import Derived.Test.YthachdiockkofaaGreatDoorW04
set_option linter.all false
namespace Go.Abs
structure Grow(S T U:List Nat)(g:Gh)(w:World)(g':Gh)(w':World):Prop extends Lasts S T g w g' w' where
 os:w'.os=w.os
 tape:HN w w'
 output:w'.output=w.output
 size:w.heap.size≤w'.heap.size
 other:∀ b,b<w.heap.size→g.own b=.other→g'.own b=.other∧w'.heap[b]?=w.heap[b]?
 kept:∀ s,s∉U→s∉T→g.own (g.box s)=.box s→g.box s<w.heap.size→g'.own (g.box s)=.box s∧w'.heap[g.box s]?=w.heap[g.box s]?
def GQ(U:List Nat):List (Nat × List AV)→List (Nat × List AV)
 |[]=>[]
 |(k,x)::l=>if k∈U then GQ U l else (k,x)::GQ U l
theorem Nc(U:List Nat)(k:Nat):∀ l:List (Nat × List AV),lk k (GQ U l)=if k∈U then none else lk k l
 |[]=>by simp[GQ,lk]
 |(j,x)::l=>by
  simp only[GQ];split
  ·rename_i hj;rw[Nc U k l];simp only[lk]
   by_cases hjk:j=k
   ·subst hjk;simp[hj]
   ·simp[hjk]
  ·rename_i hj;simp only[lk]
   by_cases hjk:j=k
   ·subst hjk;simp[hj]
   ·simp only[hjk,if_false];exact Nc U k l
section
variable {C:Ctx} {A:A0} {N:Nat} {g g':Gh} {st st':St} {a:Act} {w w':World}
def Le(st' st:St):Prop:=(∀ k x,lk k st'.tmps=some x→x=.undef∨lk k st.tmps=some x)∧(∀ s cs,lk s st'.Al=some cs→lk s st.Al=some cs)
theorem R.YM(h:R C A N g st a w){k:Nat}(hk:k<N):∃ u,a.tmps[k]?=some u :=
 ⟨_,Array.getElem?_eq_getElem (by rw[h.size];exact hk)⟩
theorem R.le(h:R C A N g st a w)(hle:Le st' st)(hb:∀ k x,lk k st'.tmps=some x→k<N):R C A N g st' a w where
 size:=h.size
 defs:=h.defs
 tm:=fun k x hx=>by
  rcases hle.1 k x hx with rfl|h'
  ·obtain⟨u,hu⟩:=h.YM (hb k _ hx);exact⟨u,hu,by simp[VR]⟩
  ·exact h.tm k x h'
 ob:=fun s cs hs=>h.ob s cs (hle.2 s cs hs)
 fr:=h.fr
theorem R.grow(h:R C A N g st a w){S T U:List Nat}(hg:Grow S T U g w g' w')(hext:∀ s,s∈A.ext→s∉T):R C A N g' (St.kill S T ⟨st.tmps,GQ U st.Al⟩) a w':=by
 have h1:R C A N g ⟨st.tmps,GQ U st.Al⟩ a w:=⟨h.size,h.defs,h.tm,fun s cs hs=>by
  rw[Nc]at hs;split at hs
  ·cases hs
  ·exact h.ob s cs hs,h.fr⟩
 refine h1.lasts hg.toLasts (h.fr.step hg.toLasts hg.os hg.tape hg.output hg.size hg.other hext) fun s cs hs hT=>?_
 simp only[Nc]at hs;split at hs
 ·cases hs
 ·rename_i hU;have ho:=h.ob s cs hs;exact hg.kept s hU hT ho.1 ho.lt
end
abbrev Ren:=List (Nat × Nat)
def inv(l:Ren):Ren:=l.map fun p=>(p.2,p.1)
def Ea(l:Ren):Bool:=l.all fun p=>lk p.1 l==some p.2&&lk p.2 (inv l)==some p.1&&isMap p.2==isMap p.1
theorem HZ{α:Type}{k:Nat}{x:α}:∀ {l:List (Nat × α)},lk k l=some x→(k,x)∈l
 |(j,y)::l,h=>by
  simp only[lk]at h;split at h
  ·rename_i hj;injection h with h;subst h;subst hj;simp
  ·exact List.mem_cons_of_mem _ (HZ h)
theorem Ea.fwd{l:Ren}(h:Ea l=true){r r':Nat}(hr:lk r l=some r'):lk r' (inv l)=some r:=by
 have:=List.all_eq_true.1 h _ (HZ hr);simp at this;exact this.1.2
theorem Ea.kind{l:Ren}(h:Ea l=true){r r':Nat}(hr:lk r l=some r'):isMap r'=isMap r:=by
 have:=List.all_eq_true.1 h _ (HZ hr);simp at this;exact this.2
theorem Ea.bwd{l:Ren}(h:Ea l=true){r r':Nat}(hr:lk r' (inv l)=some r):lk r l=some r':=by
 have hm:=HZ hr;simp only[inv,List.mem_map,Prod.mk.injEq,Prod.exists]at hm;obtain⟨a,b,hab,rfl,rfl⟩:=hm;have:=List.all_eq_true.1 h _ hab;simp at this;exact this.1.1
structure Rn where
 l:Ren
 m:Ren
 bs:List Nat
mutual
def AV.ren(ρ:Rn):AV→AV
 |.undef=>.undef
 |.v x=>.v x
 |.agg cs=>.agg (EY ρ cs)
 |.tup cs=>.tup (EY ρ cs)
 |.sl (.own r lo) n es=>match lk r ρ.l with
  |some r'=>.sl (.own r' lo) n es
  |none=>if r∈ρ.bs then .sl .no n es else .undef
 |.sl .no n es=>.sl .no n es
 |.sl .full n es=>.sl .full n es
 |.ptr s off=>match lk s ρ.m with
  |some s'=>.ptr s' off
  |none=>.undef
 |.ep (.own r lo) i cells off=>match lk r ρ.l with
  |some r'=>.ep (.own r' lo) i cells off
  |none=>.undef
 |.ep .no i cells off=>.ep .no i cells off
 |.ep .full i cells off=>.ep .full i cells off
 |.fn f AU=>.fn f (EY ρ AU)
 |.mv f AU=>.mv f (EY ρ AU)
 |.mp s=>match lk s ρ.m with
  |some s'=>.mp s'
  |none=>.undef
 |.ifc t x=>.ifc t (x.ren ρ)
 |.hnd k r i j off m bss=>match lk r ρ.l with
  |some r'=>.hnd k r' i j off m bss
  |none=>if r∈ρ.bs then frozen k m bss else .undef
 |.mem b xs=>.mem b (EY ρ xs)
def EY(ρ:Rn):List AV→List AV
 |[]=>[]
 | c::cs=>c.ren ρ::EY ρ cs
end
def Gh.ren(ρ:Rn)(g base:Gh):Gh where
 own b:=match g.own b with
  |.ro=>.ro
  |.other=>.other
  |.row r=>match lk r ρ.l with
   |some r'=>.row r'
   |none=>if r∈ρ.bs then .ro else .other
  |.box s=>match lk s ρ.m with
   |some s'=>.box s'
   |none=>.other
  |.inn r i=>match lk r ρ.l with
   |some r'=>.inn r' i
   |none=>if r∈ρ.bs then .ro else .other
 row r':=match lk r' (inv ρ.l) with
  |some r=>g.row r
  |none=>base.row r'
 box s':=match lk s' (inv ρ.m) with
  |some s=>g.box s
  |none=>base.box s'
 inn r' i:=match lk r' (inv ρ.l) with
  |some r=>g.inn r i
  |none=>base.inn r' i
structure Rn.OK(ρ:Rn):Prop where
 l:Ea ρ.l=true
 m:Ea ρ.m=true
section
variable {ρ:Rn} {base g g':Gh} {w:World}
theorem EK{b:Nat}(h:g.own b=.ro):(Gh.ren ρ g base).own b=.ro:=by simp[Gh.ren,h]
theorem C5{b:Nat}(h:g.own b=.other):(Gh.ren ρ g base).own b=.other:=by simp[Gh.ren,h]
theorem Tr{b r r':Nat}(h:g.own b=.row r)(hr:lk r ρ.l=some r'):(Gh.ren ρ g base).own b=.row r':=by simp[Gh.ren,h,hr]
theorem bI{b s s':Nat}(h:g.own b=.box s)(hr:lk s ρ.m=some s'):(Gh.ren ρ g base).own b=.box s':=by simp[Gh.ren,h,hr]
theorem U9{b r:Nat}(h:g.own b=.row r)(hr:lk r ρ.l=none)(hb:r∈ρ.bs):(Gh.ren ρ g base).own b=.ro:=by simp[Gh.ren,h,hr,hb]
theorem Wu(ho:ρ.OK){r r':Nat}(hr:lk r ρ.l=some r'):(Gh.ren ρ g base).row r'=g.row r:=by simp[Gh.ren,Ea.fwd ho.l hr]
theorem K4(ho:ρ.OK){s s':Nat}(hr:lk s ρ.m=some s'):(Gh.ren ρ g base).box s'=g.box s:=by simp[Gh.ren,Ea.fwd ho.m hr]
theorem bJ{b r r' i:Nat}(h:g.own b=.inn r i)(hr:lk r ρ.l=some r'):(Gh.ren ρ g base).own b=.inn r' i:=by simp[Gh.ren,h,hr]
theorem Yk{b r i:Nat}(h:g.own b=.inn r i)(hr:lk r ρ.l=none)(hb:r∈ρ.bs):(Gh.ren ρ g base).own b=.ro:=by simp[Gh.ren,h,hr,hb]
theorem dc(ho:ρ.OK){r r':Nat}(hr:lk r ρ.l=some r')(i:Nat):(Gh.ren ρ g base).inn r' i=g.inn r i:=by simp[Gh.ren,Ea.fwd ho.l hr]
theorem J6:∀ b,b<w.heap.size→BM g b→BM (Gh.ren ρ g base) b∧w.heap[b]?=w.heap[b]?:=fun b _ h=>⟨EK h,rfl⟩
mutual
theorem VR.ren(ho:ρ.OK):∀ (x:AV) (u:Value),VR g w x u→VR (Gh.ren ρ g base) w (x.ren ρ) u
 |.undef,_,_=>by simp[AV.ren,VR]
 |.v x,u,hu=>by simpa [AV.ren,VR]using hu
 |.agg cs,u,hu=>by
  simp only[AV.ren,VR]at hu ⊢;obtain⟨us,h1,h2⟩:=hu;exact⟨us,h1,VRs.ren ho cs us.toList h2⟩
 |.tup cs,u,hu=>by
  simp only[AV.ren,VR]at hu ⊢;obtain⟨us,h1,h2⟩:=hu;exact⟨us,h1,VRs.ren ho cs us.toList h2⟩
 |.sl (.own r lo) n es,u,hu=>by
  simp only[AV.ren];split
  ·rename_i r' hr;simp only[VR,Cq]at hu ⊢;refine⟨hu.1,?_⟩;rcases hu.2 with hu|hu|⟨cap,cur,T',h1,h2,h3,h5,h6,h7,h8⟩
   ·exact .inl hu
   ·exact .inr (.inl hu)
   ·rw[Wu ho hr];exact .inr (.inr ⟨cap,cur,T',h1,h2,h3,Tr h5 hr,h6,h7,PRe.Ca J6 es _ n 0 rfl h8⟩)
  ·rename_i hr;split
   ·rename_i hb;simp only[VR,Cq,PR]at hu ⊢;refine⟨(fun _ _ h=>by cases h),?_⟩;rcases hu.2 with ⟨h1,h2⟩|⟨_,h2,a',cap,h3,h4⟩|⟨cap,cur,T',h1,h2,h3,h5,h6,h7,h8⟩
    ·subst h2;exact⟨_,0,h1,by simp,by simp[maxLen],(by intro h;cases h),hu.1,.inl rfl⟩
    ·subst h2;exact⟨_,cap,h3,by simp,h4,(by intro h;cases h),hu.1,.inl rfl⟩
    ·exact⟨_,cap,h1,h2,by omega,(by intro h;cases h),hu.1,.inr ⟨_,rfl,U9 h5 hr hb,PRe.Ca J6 es _ n 0 rfl h8⟩⟩
   ·simp[VR]
 |.sl .no n es,u,hu=>by
  simp only[AV.ren,VR]at hu ⊢;exact PR.mono J6 _ u hu
 |.sl .full n es,u,hu=>by
  simp only[AV.ren,VR]at hu ⊢;exact PR.mono J6 _ u hu
 |.ptr s off,u,hu=>by
  simp only[AV.ren];split
  ·rename_i s' hs;simp only[VR]at hu ⊢;rw[K4 ho hs,Ea.kind ho.m hs];exact hu
  ·simp[VR]
 |.mp s,u,hu=>by
  simp only[AV.ren];split
  ·rename_i s' hs;simp only[VR]at hu ⊢;rw[K4 ho hs,Ea.kind ho.m hs];exact hu
  ·simp[VR]
 |.ep (.own r lo) i cells off,u,hu=>by
  simp only[AV.ren];split
  ·rename_i r' hr;simp only[VR,Fg]at hu ⊢;obtain⟨cur,T',h1,h2,h3,h4,h5⟩:=hu;rw[Wu ho hr];exact⟨cur,T',h1,Tr h2 hr,h3,h4,PRc.Ca J6 cells _ 0 rfl h5⟩
  ·simp[VR]
 |.ep .no i cells off,u,hu=>by
  simp only[AV.ren,VR,Fg]at hu ⊢;obtain⟨ad,h1,h0,h2,h3⟩:=hu;exact⟨ad,h1,h0,EK h2,PRc.mono J6 _ ad 0 h2 h3⟩
 |.ep .full i cells off,u,hu=>by
  simp only[AV.ren,VR,Fg]at hu ⊢;obtain⟨ad,h1,h0,h2,h3⟩:=hu;exact⟨ad,h1,h0,EK h2,PRc.mono J6 _ ad 0 h2 h3⟩
 |.fn f AU,u,hu=>by
  simp only[AV.ren,VR]at hu ⊢;obtain⟨us,h1,h2⟩:=hu;exact⟨us,h1,VRs.ren ho AU us.toList h2⟩
 |.mv f AU,u,hu=>by
  simp only[AV.ren,VR]at hu ⊢;obtain⟨us,h1,h2⟩:=hu;exact⟨us,h1,VRs.ren ho AU us.toList h2⟩
 |.ifc t x,u,hu=>by
  simp only[AV.ren,VR]at hu ⊢;obtain⟨y,h1,h2⟩:=hu;exact⟨y,h1,VR.ren ho x y h2⟩
 |.hnd k r i j off m bss,u,hu=>by
  simp only[AV.ren];split
  ·rename_i r' hr;simp only[VR]at hu ⊢;exact hu.map ⟨J6,Wu ho hr,dc ho hr,fun _ h=>⟨Tr h hr,rfl⟩,fun i _ h=>⟨bJ h hr,rfl⟩⟩
  ·rename_i hr;split
   ·rename_i hb;simp only[VR]at hu;exact hu.frozen J6 (fun h=>U9 h hr hb) (fun i h=>Yk h hr hb)
   ·simp[VR]
 |.mem b xs,u,hu=>by
  simp only[AV.ren,VR]at hu ⊢;obtain⟨ad,vs,h1,h2,h3,h4⟩:=hu;exact⟨ad,vs,EK h1,h2,VRs.ren ho xs vs h3,h4⟩
theorem VRs.ren(ho:ρ.OK):∀ (cs:List AV) (us:List Value),VRs g w cs us→VRs (Gh.ren ρ g base) w (EY ρ cs) us
 |[],[],_=>by simp[EY,VRs]
 |[],_::_,hu=>by simp[VRs]at hu
 |_::_,[],hu=>by simp[VRs]at hu
 | c::cs,u::us,hu=>by
  simp only[EY,VRs]at hu ⊢;exact⟨VR.ren ho c u hu.1,VRs.ren ho cs us hu.2⟩
end
theorem DE.ren(ho:ρ.OK){s s':Nat}{cs:List AV}(hs:lk s ρ.m=some s')(h:DE g w s cs):DE (Gh.ren ρ g base) w s' (EY ρ cs):=by
 exact h.lift (Ea.kind ho.m hs) (by rw[K4 ho hs];exact bI h.1 hs) (by rw[K4 ho hs]) (fun us hu=>VRs.ren ho _ _ hu)
end
def YG(c:AV):Prop:=(∃ x,c=.v x)∨c=.undef
mutual
def Flat:AV→Prop
 |.undef=>True
 |.v _=>True
 |.agg cs=>Kb cs
 |.tup cs=>Kb cs
 |.sl (.own _ _) _ es=>∀ e∈es,∀ c∈e,YG c
 |.sl _ _ es=>es=[]
 |.ptr _ _=>True
 |.ep _ _ _ _=>False
 |.fn _ cs=>Kb cs
 |.mv _ cs=>Kb cs
 |.mp _=>False
 |.ifc _ x=>Flat x
 |.hnd _ _ _ _ _ _ _=>False
 |.mem _ _=>False
def Kb:List AV→Prop
 |[]=>True
 | c::cs=>Flat c∧Kb cs
end
section
variable {g g':Gh} {w:World} {ro ro':Nat→Prop}
theorem PRc.flat:∀ (cs:List AV) (ad:Addr) (j:Nat),(∀ c∈cs,YG c)→PRc ro w cs ad j→PRc ro' w cs ad j
 |[],_,_,_,_=>by simp[PRc]
 | c::cs,ad,j,hf,h=>by
  simp only[PRc]at h ⊢;obtain⟨⟨u,h1,h2⟩,h3⟩:=h;refine⟨⟨u,h1,?_⟩,PRc.flat cs ad _ (fun c' hc=>hf c' (by simp[hc])) h3⟩;rcases hf c (by simp) with ⟨x,rfl⟩|rfl<;>simpa [PR]using h2
theorem PRe.flat:∀ (es:List (List AV)) (ad:Addr) (n i:Nat),(∀ e∈es,∀ c∈e,YG c)→PRe ro w es ad n i→PRe ro' w es ad n i
 |[],_,_,_,_,_=>by simp[PRe]
 | e::es,ad,n,i,hf,h=>by
  simp only[PRe]at h ⊢;exact⟨h.1,PRc.flat e ad _ (hf e (by simp)) h.2.1,PRe.flat es ad n _ (fun e' he=>hf e' (by simp[he])) h.2.2⟩
structure Names(g g':Gh):Prop where
 row:∀ b q,g.own b=.row q→g'.own b=.row q
 box:∀ b s,g.own b=.box s→g'.own b=.box s
 rows:∀ q,g'.row q=g.row q
 boxes:∀ s,g'.box s=g.box s
mutual
theorem VR.flat(hn:Names g g'):∀ (x:AV) (u:Value),Flat x→VR g w x u→VR g' w x u
 |.undef,_,_,_=>by simp[VR]
 |.v x,u,_,hu=>by simpa [VR]using hu
 |.agg cs,u,hf,hu=>by
  simp only[Flat,VR]at hf hu ⊢;obtain⟨us,h1,h2⟩:=hu;exact⟨us,h1,VRs.flat hn cs us.toList hf h2⟩
 |.tup cs,u,hf,hu=>by
  simp only[Flat,VR]at hf hu ⊢;obtain⟨us,h1,h2⟩:=hu;exact⟨us,h1,VRs.flat hn cs us.toList hf h2⟩
 |.sl (.own r lo) n es,u,hf,hu=>by
  simp only[Flat,VR,Cq]at hf hu ⊢;refine⟨hu.1,?_⟩;rcases hu.2 with hu|hu|⟨cap,cur,T',h1,h2,h3,h5,h6,h7,h8⟩
  ·exact .inl hu
  ·exact .inr (.inl hu)
  ·rw[hn.rows r];exact .inr (.inr ⟨cap,cur,T',h1,h2,h3,hn.row _ _ h5,h6,h7,PRe.flat es _ n 0 hf h8⟩)
 |.sl .no n es,u,hf,hu=>by
  simp only[Flat,VR,PR]at hf hu ⊢;subst hf;obtain⟨h1,a,cap,h2,h3,h4,h5,h6,_⟩:=hu;exact⟨h1,a,cap,h2,h3,h4,h5,h6,.inl rfl⟩
 |.sl .full n es,u,hf,hu=>by
  simp only[Flat,VR,PR]at hf hu ⊢;subst hf;obtain⟨h1,a,cap,h2,h3,h4,h5,h6,_⟩:=hu;exact⟨h1,a,cap,h2,h3,h4,h5,h6,.inl rfl⟩
 |.ptr s off,u,_,hu=>by
  simp only[VR]at hu ⊢;rw[hn.boxes s];exact hu
 |.mp _,u,hf,_=>by simp[Flat]at hf
 |.ep t i cells off,u,hf,_=>by simp[Flat]at hf
 |.fn f AU,u,hf,hu=>by
  simp only[Flat,VR]at hf hu ⊢;obtain⟨us,h1,h2⟩:=hu;exact⟨us,h1,VRs.flat hn AU us.toList hf h2⟩
 |.mv f AU,u,hf,hu=>by
  simp only[Flat,VR]at hf hu ⊢;obtain⟨us,h1,h2⟩:=hu;exact⟨us,h1,VRs.flat hn AU us.toList hf h2⟩
 |.ifc t x,u,hf,hu=>by
  simp only[Flat,VR]at hf hu ⊢;obtain⟨y,h1,h2⟩:=hu;exact⟨y,h1,VR.flat hn x y hf h2⟩
 |.hnd k r i j off m bss,u,hf,_=>by simp[Flat]at hf
 |.mem b xs,u,hf,_=>by simp[Flat]at hf
theorem VRs.flat(hn:Names g g'):∀ (cs:List AV) (us:List Value),Kb cs→VRs g w cs us→VRs g' w cs us
 |[],[],_,_=>by simp[VRs]
 |[],_::_,_,hu=>by simp[VRs]at hu
 |_::_,[],_,hu=>by simp[VRs]at hu
 | c::cs,u::us,hf,hu=>by
  simp only[Kb,VRs]at hf hu ⊢;exact⟨VR.flat hn c u hf.1 hu.1,VRs.flat hn cs us hf.2 hu.2⟩
end
end
end Go.Abs
namespace Go.Abs
def names{α:Type}(o:List (Nat × α)):List Nat:=o.map (·.1)
def Glob(C:Ctx)(g:Gh)(w:World):Prop:=∀ i cs,C.G i=some cs→0<cs.length∧BM g i∧PRc (BM g) w cs ⟨i,0,none⟩ 0
def Ad(C:Ctx)(f:Nat)(xs:List AV)(o:List (Nat × List AV))(y:AV)(o':List (Nat × List AV)):Prop :=
 (∃ fn c,C.P.funcs[f]?=some fn∧(fn.name=="runtime.NumGoroutine")=false∧fn.body=some c) ∧
 ∀ g w us,Glob C g w→VRs g w xs us→(∀ s cs,lk s o=some cs→DE g w s cs) →
  Calls C.P f us.toArray w fun e w'=>∃ u g',e=.returned u∧Fr C ⟨w,g,names o⟩ g' w'∧VR g' w' y u∧∀ s cs,lk s o'=some cs→DE g' w' s cs
def FnP(C:Ctx)(f:Nat)(xs:List AV)(o:List (Nat × List AV))(S:AV→List (Nat × List AV)→Prop):Prop :=
 (∃ fn c,C.P.funcs[f]?=some fn∧(fn.name=="runtime.NumGoroutine")=false∧fn.body=some c) ∧
 ∀ g w us,Glob C g w→VRs g w xs us→(∀ s cs,lk s o=some cs→DE g w s cs) →
  Calls C.P f us.toArray w fun e w'=>∃ y o',S y o'∧∃ u g',e=.returned u∧Fr C ⟨w,g,names o⟩ g' w'∧VR g' w' y u∧∀ s cs,lk s o'=some cs→DE g' w' s cs
theorem Ad.toP{C:Ctx}{f:Nat}{xs:List AV}{o o':List (Nat × List AV)}{y:AV}(h:Ad C f xs o y o'):FnP C f xs o fun y2 o2=>y2=y∧o2=o' :=
 ⟨h.1,fun g w us hg hv ho=>Calls.mono (h.2 g w us hg hv ho) fun _ _ hq=>⟨y,o',⟨rfl,rfl⟩,hq⟩⟩
theorem FnP.mono{C:Ctx}{f:Nat}{xs:List AV}{o:List (Nat × List AV)}{S S':AV→List (Nat × List AV)→Prop}(h:FnP C f xs o S)(hs:∀ y o',S y o'→S' y o'):FnP C f xs o S' :=
 ⟨h.1,fun g w us hg hv ho=>Calls.mono (h.2 g w us hg hv ho) fun _ _ ⟨y,o',hS,hq⟩=>⟨y,o',hs y o' hS,hq⟩⟩
structure Quiet(w w':World):Prop where
 os:w'.os=w.os
 tape:HN w w'
 output:w'.output=w.output
 size:w.heap.size≤w'.heap.size
 old:∀ b,b<w.heap.size→w'.heap[b]?=w.heap[b]?
def PD(C:Ctx)(f n:Nat)(es:List (List AV))(ys:List AV)(es':List (List AV)):Prop :=
 (∃ fn c,C.P.funcs[f]?=some fn∧(fn.name=="runtime.NumGoroutine")=false∧fn.body=some c) ∧
 ∀ g w r u us,Glob C g w→Cq g w r 0 n es u→VRs g w ys us →
  Calls C.P f (u::us).toArray w fun e w'=>e=.returned (.tuple #[])∧((es'=[]∧Quiet w w')∨∃ cur new T,Ran g w r n 0 es' cur new T∧Quiet (w.setRow (g.row r) new) w')
def rngs(l:Ren):List Nat:=l.map (·.2)
theorem Pw{α:Type}{k:Nat}:∀ {l:List (Nat × α)},k∉names l→lk k l=none
 |[],_=>rfl
 |(j,x)::l,h=>by
  simp only[names,List.map_cons,List.mem_cons,not_or]at h;simp only[lk,Ne.symm h.1,if_false];exact Pw h.2
theorem Rj{α:Type}{k:Nat}{x:α}{l:List (Nat × α)}(h:lk k l=some x):k∈names l:=by
 have:=HZ h;simp only[names,List.mem_map];exact⟨_,this,rfl⟩
theorem Sg(l:Ren):names (inv l)=rngs l:=by simp[names,inv,rngs,List.map_map,Function.comp_def]
def Ee(ρ:Rn)(o:List (Nat × List AV)):List (Nat × List AV) :=
 o.filterMap fun p=>(lk p.1 ρ.m).map fun s=>(s,EY ρ p.2)
theorem Ir{ρ:Rn}(ho:ρ.OK){s':Nat}{cs:List AV}:∀ {o:List (Nat × List AV)},lk s' (Ee ρ o)=some cs→∃ s cs0,lk s ρ.m=some s'∧lk s o=some cs0∧cs=EY ρ cs0
 |[],h=>by simp[Ee,lk]at h
 |(k,c)::o,h=>by
  simp only[Ee,List.filterMap_cons]at h;cases hk:lk k ρ.m with
  |none =>
   simp only[hk,Option.map_none]at h;obtain⟨s,cs0,h1,h2,h3⟩:=Ir ho (o:=o) h;refine⟨s,cs0,h1,?_,h3⟩;have:k≠s:=fun e=>by subst e;rw[hk]at h1;cases h1
   simp[lk,this,h2]
  |some k' =>
   simp only[hk,Option.map_some,lk]at h;split at h
   ·rename_i he;injection h with h
    exact⟨k,c,by rw[hk,he],by simp[lk],h.symm⟩
   ·rename_i he;obtain⟨s,cs0,h1,h2,h3⟩:=Ir ho (o:=o) h;refine⟨s,cs0,h1,?_,h3⟩;have:k≠s:=fun e=>by subst e;rw[hk]at h1;injection h1 with h1;exact he h1
    simp[lk,this,h2]
structure Way where
 ρ:Rn
 fl:Ren
 fm:Ren
def Way.back(v:Way):Rn:=⟨inv v.ρ.l++v.fl,inv v.ρ.m++v.fm,[]⟩
structure Way.OK(v:Way)(o:List (Nat × List AV)):Prop where
 into:v.ρ.OK
 back:v.back.OK
 ext:∀ s',s'∈rngs v.ρ.m→s'∈names o
section
variable {C:Ctx} {A:A0} {N:Nat} {g g1:Gh} {st:St} {a:Act} {w w1:World} {v:Way} {o o':List (Nat × List AV)} {xs:List AV} {y:AV}
theorem inv_inv(l:Ren):inv (inv l)=l:=by simp[inv,List.map_map,Function.comp_def]
theorem Gy{α:Type}{k:Nat}{m:List (Nat × α)}:∀ {l:List (Nat × α)},lk k (l++m)=(lk k l).or (lk k m)
 |[]=>by simp[lk]
 |(j,x)::l=>by
  simp only[List.cons_append,lk];split
  ·simp
  ·exact Gy
def after(v:Way)(g:Gh)(w:World)(g1:Gh):Gh where
 own b:=if b<w.heap.size then match g.own b with
   |.ro=>.ro
   |.other=>.other
   |.row r=>if (lk r v.ρ.l).isSome then (g1.ren v.back g).own b else .row r
   |.box s=>if (lk s v.ρ.m).isSome then (g1.ren v.back g).own b else .box s
   |.inn r i=>if (lk r v.ρ.l).isSome then (g1.ren v.back g).own b else .inn r i
  else (g1.ren v.back g).own b
 row:=(g1.ren v.back g).row
 box:=(g1.ren v.back g).box
 inn:=(g1.ren v.back g).inn
def entry(v:Way)(g:Gh):Gh:=g.ren v.ρ g
theorem FZ(hfr:Fr C ⟨w,entry v g,names o⟩ g1 w1){b:Nat}(hb:b<w.heap.size) :
 (g.own b=.ro→w1.heap[b]?=w.heap[b]?∧g1.own b=.ro)∧(g.own b=.other→w1.heap[b]?=w.heap[b]?∧g1.own b=.other) ∧
 (∀ r,g.own b=.row r→lk r v.ρ.l=none→w1.heap[b]?=w.heap[b]?∧g1.own b=(if r∈v.ρ.bs then .ro else .other)) ∧
 (∀ s,g.own b=.box s→lk s v.ρ.m=none→w1.heap[b]?=w.heap[b]?∧g1.own b=.other) ∧
 (∀ r i,g.own b=.inn r i→lk r v.ρ.l=none→w1.heap[b]?=w.heap[b]?∧g1.own b=(if r∈v.ρ.bs then .ro else .other)):=by
 have hk:=hfr.keep b hb;refine⟨fun h=>?_,fun h=>?_,fun r h hr=>?_,fun s h hs=>?_,fun r i h hr=>?_⟩
 ·have e:(entry v g).own b=.ro:=EK h;have:=hk (.inl e);exact⟨this.1,this.2.trans e⟩
 ·have e:(entry v g).own b=.other:=C5 h;have:=hk (.inr e);exact⟨this.1,this.2.trans e⟩
 ·have e:(entry v g).own b=(if r∈v.ρ.bs then .ro else .other):=by simp[entry,Gh.ren,h,hr]
  have hf:A0.fixed ⟨w,entry v g,names o⟩ b:=by
   unfold A0.fixed;simp only;rw[e];split
   ·exact .inl rfl
   ·exact .inr rfl
  have:=hk hf;exact⟨this.1,this.2.trans e⟩
 ·have e:(entry v g).own b=.other:=by simp[entry,Gh.ren,h,hs]
  have:=hk (.inr e);exact⟨this.1,this.2.trans e⟩
 ·have e:(entry v g).own b=(if r∈v.ρ.bs then .ro else .other):=by simp[entry,Gh.ren,h,hr]
  have hf:A0.fixed ⟨w,entry v g,names o⟩ b:=by
   unfold A0.fixed;simp only;rw[e];split
   ·exact .inl rfl
   ·exact .inr rfl
  have:=hk hf;exact⟨this.1,this.2.trans e⟩
theorem NK(hfr:Fr C ⟨w,entry v g,names o⟩ g1 w1){b q:Nat}(h:(g1.ren v.back g).own b=.row q):(after v g w g1).own b=.row q:=by
 unfold after;simp only;split
 ·rename_i hb;obtain⟨f1,f2,f3,f4,f5⟩:=FZ hfr hb;cases hg:g.own b with
  | ro=>rw[EK (f1 hg).2]at h;cases h
  | other=>rw[C5 (f2 hg).2]at h;cases h
  | row r =>
   simp only;cases hr:lk r v.ρ.l with
   |none =>
    have:=(f3 r hg hr).2;split at this
    ·rw[EK this]at h;cases h
    ·rw[C5 this]at h;cases h
   |some r'=>simpa using h
  | box s =>
   simp only;cases hs:lk s v.ρ.m with
   |none=>rw[C5 (f4 s hg hs).2]at h;cases h
   |some r'=>simpa using h
  | inn r i =>
   simp only;cases hr:lk r v.ρ.l with
   |none =>
    have:=(f5 r i hg hr).2;split at this
    ·rw[EK this]at h;cases h
    ·rw[C5 this]at h;cases h
   |some r'=>simpa using h
 ·exact h
theorem Rv(hfr:Fr C ⟨w,entry v g,names o⟩ g1 w1){b q n:Nat}(h:(g1.ren v.back g).own b=.inn q n):(after v g w g1).own b=.inn q n:=by
 unfold after;simp only;split
 ·rename_i hb;obtain⟨f1,f2,f3,f4,f5⟩:=FZ hfr hb;cases hg:g.own b with
  | ro=>rw[EK (f1 hg).2]at h;cases h
  | other=>rw[C5 (f2 hg).2]at h;cases h
  | row r =>
   simp only;cases hr:lk r v.ρ.l with
   |none =>
    have:=(f3 r hg hr).2;split at this
    ·rw[EK this]at h;cases h
    ·rw[C5 this]at h;cases h
   |some r'=>simpa using h
  | box s =>
   simp only;cases hs:lk s v.ρ.m with
   |none=>rw[C5 (f4 s hg hs).2]at h;cases h
   |some r'=>simpa using h
  | inn r i =>
   simp only;cases hr:lk r v.ρ.l with
   |none =>
    have:=(f5 r i hg hr).2;split at this
    ·rw[EK this]at h;cases h
    ·rw[C5 this]at h;cases h
   |some r'=>simpa using h
 ·exact h
theorem NJ(hfr:Fr C ⟨w,entry v g,names o⟩ g1 w1){b q:Nat}(h:(g1.ren v.back g).own b=.box q):(after v g w g1).own b=.box q:=by
 unfold after;simp only;split
 ·rename_i hb;obtain⟨f1,f2,f3,f4,f5⟩:=FZ hfr hb;cases hg:g.own b with
  | ro=>rw[EK (f1 hg).2]at h;cases h
  | other=>rw[C5 (f2 hg).2]at h;cases h
  | row r =>
   simp only;cases hr:lk r v.ρ.l with
   |none =>
    have:=(f3 r hg hr).2;split at this
    ·rw[EK this]at h;cases h
    ·rw[C5 this]at h;cases h
   |some r'=>simpa using h
  | box s =>
   simp only;cases hs:lk s v.ρ.m with
   |none=>rw[C5 (f4 s hg hs).2]at h;cases h
   |some r'=>simpa using h
  | inn r i =>
   simp only;cases hr:lk r v.ρ.l with
   |none =>
    have:=(f5 r i hg hr).2;split at this
    ·rw[EK this]at h;cases h
    ·rw[C5 this]at h;cases h
   |some r'=>simpa using h
 ·exact h
theorem OC(hfr:Fr C ⟨w,entry v g,names o⟩ g1 w1):Names (g1.ren v.back g) (after v g w g1) :=
 ⟨fun _ _ h=>NK hfr h,fun _ _ h=>NJ hfr h,fun _=>rfl,fun _=>rfl⟩
theorem TK(hfr:Fr C ⟨w,entry v g,names o⟩ g1 w1)(hbs:v.ρ.bs=[]){b:Nat}(h:(g1.ren v.back g).own b=.ro):(after v g w g1).own b=.ro:=by
 have h1:g1.own b=.ro:=by
  unfold Gh.ren at h;simp only at h;split at h
  ·assumption
  ·cases h
  ·split at h
   ·cases h
   ·simp[Way.back]at h
  ·split at h<;>cases h
  ·split at h
   ·cases h
   ·simp[Way.back]at h
 unfold after;simp only;split
 ·rename_i hb;obtain⟨f1,f2,f3,f4,f5⟩:=FZ hfr hb;cases hg:g.own b with
  | ro=>rfl
  | other=>rw[(f2 hg).2]at h1;cases h1
  | row r =>
   simp only;cases hr:lk r v.ρ.l with
   |none=>have:=(f3 r hg hr).2;simp[hbs]at this;rw[this]at h1;cases h1
   |some r'=>simpa using h
  | box s =>
   simp only;cases hs:lk s v.ρ.m with
   |none=>rw[(f4 s hg hs).2]at h1;cases h1
   |some r'=>simpa using h
  | inn r i =>
   simp only;cases hr:lk r v.ρ.l with
   |none=>have:=(f5 r i hg hr).2;simp[hbs]at this;rw[this]at h1;cases h1
   |some r'=>simpa using h
 ·exact h
theorem PI(hv:v.OK o)(hfr:Fr C ⟨w,entry v g,names o⟩ g1 w1):Grow (rngs v.back.l) (rngs v.fm) (rngs v.back.m) g w (after v g w g1) w1 where
 ro:=fun b hb h=>by
  obtain⟨f1,_,_,_,_⟩:=FZ hfr hb;refine⟨by simp[after,hb,h],(f1 h).1⟩
 row:=fun b q hb hq h=>by
  obtain⟨_,_,f3,_,_⟩:=FZ hfr hb;have hn:lk q v.ρ.l=none:=by
   cases hl:lk q v.ρ.l with
   |none=>rfl
   |some q' =>
    have:=Ea.bwd (l:=inv v.ρ.l) (r:=q') (r':=q) (by
     have:=hv.into.l;unfold Ea at this ⊢;rw[inv_inv];simp only[List.all_eq_true,Bool.and_eq_true]at this ⊢;intro p hp;simp only[inv,List.mem_map]at hp;obtain⟨p0,hp0,rfl⟩:=hp;exact⟨⟨(this p0 hp0).1.2,(this p0 hp0).1.1⟩,by have h2:=(this p0 hp0).2;simp only[beq_iff_eq]at h2 ⊢;exact h2.symm⟩) (by rw[inv_inv];exact hl)
    exact(hq (by
     simp only[Way.back,rngs,List.map_append,List.mem_append,List.mem_map];exact .inl ⟨_,HZ this,rfl⟩)).elim
  exact⟨by simp[after,hb,h,hn],(f3 q h hn).1⟩
 rows:=fun q hq=>by
  simp only[after,Gh.ren];have:lk q (inv v.back.l)=none:=Pw (by rw[Sg];exact hq);rw[this]
 boxes:=fun s hs=>by
  simp only[after,Gh.ren];cases hl:lk s (inv v.back.m) with
  |none=>rfl
  |some s' =>
   simp only;have h1:=Ea.bwd hv.back.m hl;simp only[Way.back,Gy]at h1;cases h2:lk s' (inv v.ρ.m) with
   |none =>
    rw[h2]at h1;simp only[Option.none_or]at h1;exact(hs (by simp only[rngs,List.mem_map];exact⟨_,HZ h1,rfl⟩)).elim
   |some s0 =>
    rw[h2]at h1;simp only[Option.some_or,Option.some.injEq]at h1;subst h1;have h3:=Ea.bwd hv.into.m h2;have he:s'∈names o:=hv.ext s' (by simp only[rngs,List.mem_map];exact⟨_,HZ h3,rfl⟩);rw[hfr.box s' he];exact K4 hv.into h3
 inn:=fun b q i hb hq h=>by
  obtain⟨_,_,_,_,f5⟩:=FZ hfr hb;have hn:lk q v.ρ.l=none:=by
   cases hl:lk q v.ρ.l with
   |none=>rfl
   |some q' =>
    have:=Ea.bwd (l:=inv v.ρ.l) (r:=q') (r':=q) (by
     have:=hv.into.l;unfold Ea at this ⊢;rw[inv_inv];simp only[List.all_eq_true,Bool.and_eq_true]at this ⊢;intro p hp;simp only[inv,List.mem_map]at hp;obtain⟨p0,hp0,rfl⟩:=hp;exact⟨⟨(this p0 hp0).1.2,(this p0 hp0).1.1⟩,by have h2:=(this p0 hp0).2;simp only[beq_iff_eq]at h2 ⊢;exact h2.symm⟩) (by rw[inv_inv];exact hl)
    exact(hq (by
     simp only[Way.back,rngs,List.map_append,List.mem_append,List.mem_map];exact .inl ⟨_,HZ this,rfl⟩)).elim
  exact⟨by simp[after,hb,h,hn],(f5 q i h hn).1⟩
 inns:=fun q i hq=>by
  simp only[after,Gh.ren];have:lk q (inv v.back.l)=none:=Pw (by rw[Sg];exact hq);rw[this]
 os:=hfr.os
 tape:=hfr.tape
 output:=hfr.output
 size:=hfr.size
 other:=fun b hb h=>by
  obtain⟨_,f2,_,_,_⟩:=FZ hfr hb;exact⟨by simp[after,hb,h],(f2 h).1⟩
 kept:=fun s hU _ h hb=>by
  obtain⟨_,_,_,f4,_⟩:=FZ hfr hb;have hn:lk s v.ρ.m=none:=by
   cases hl:lk s v.ρ.m with
   |none=>rfl
   |some q' =>
    have:=Ea.fwd hv.into.m hl;exact(hU (by
     simp only[Way.back,rngs,List.map_append,List.mem_append,List.mem_map];exact .inl ⟨_,HZ this,rfl⟩)).elim
  exact⟨by simp[after,hb,h,hn],(f4 s h hn).1⟩
theorem TJ(hv:v.OK o)(hfr:Fr C ⟨w,entry v g,names o⟩ g1 w1){x:AV}{u:Value}(hx:VR g1 w1 x u)(hf:v.ρ.bs=[]∨Flat (x.ren v.back)):VR (after v g w g1) w1 (x.ren v.back) u:=by
 have h1:VR (g1.ren v.back g) w1 (x.ren v.back) u:=VR.ren hv.back x u hx;rcases hf with hbs|hf
 ·have hl:Lasts [] [] (g1.ren v.back g) w1 (after v g w g1) w1:=⟨fun b _ h=>⟨TK hfr hbs h,rfl⟩,fun b q _ _ h=>⟨NK hfr h,rfl⟩,fun _ _=>rfl,fun _ _=>rfl,fun b q i _ _ h=>⟨Rv hfr h,rfl⟩,fun _ _ _=>rfl⟩;have:=VR.lasts hl _ _ h1
  rwa [HX]at this
 ·exact VR.flat (OC hfr) _ _ hf h1
theorem Ru(hv:v.OK o)(hfr:Fr C ⟨w,entry v g,names o⟩ g1 w1){x:List AV}{u:List Value}(hx:VRs g1 w1 x u)(hf:v.ρ.bs=[]∨Kb (EY v.back x)):VRs (after v g w g1) w1 (EY v.back x) u:=by
 have h1:VRs (g1.ren v.back g) w1 (EY v.back x) u:=VRs.ren hv.back x u hx;rcases hf with hbs|hf
 ·have hl:Lasts [] [] (g1.ren v.back g) w1 (after v g w g1) w1:=⟨fun b _ h=>⟨TK hfr hbs h,rfl⟩,fun b q _ _ h=>⟨NK hfr h,rfl⟩,fun _ _=>rfl,fun _ _=>rfl,fun b q i _ _ h=>⟨Rv hfr h,rfl⟩,fun _ _ _=>rfl⟩;have:=VRs.lasts hl _ _ h1
  rwa [DJ]at this
 ·exact VRs.flat (OC hfr) _ _ hf h1
end
end Go.Abs
namespace Go.Abs
def OpG(C:Ctx)(o:Oper)(r:St)(x:AV)(S T U:List Nat)(FL:List (Nat × List AV)):Prop :=
 ∀ A N g a w,R C A N g r a w→∀ K Q,(∀ u g' w',Grow S T U g w g' w'→VR g' w' x u→(∀ s cs,lk s FL=some cs→DE g' w' s cs)→K (a.put o.dst u) w')→o.wp C.P a w K Q
def St.app(S T U:List Nat)(FL:List (Nat × List AV))(st:St):St:=⟨LN S T st.tmps,FL++Hk S T (GQ U st.Al)⟩
section
variable {C:Ctx} {A:A0} {N:Nat} {g g':Gh} {st:St} {a:Act} {w w':World}
theorem R.glob(h:R C A N g st a w):Glob C g w:=fun i cs hi=>h.fr.glob i cs hi
theorem R.app(h:R C A N g st a w){S T U:List Nat}{FL:List (Nat × List AV)}(hg:Grow S T U g w g' w')(hext:∀ s,s∈A.ext→s∉T)(hu:∀ s cs,lk s FL=some cs→DE g' w' s cs) :
 R C A N g' (st.app S T U FL) a w':=by
 have h1:=h.grow hg hext;refine⟨h1.size,h1.defs,h1.tm,fun s cs hs=>?_,h1.fr⟩;simp only[St.app,Gy]at hs;cases hl:lk s FL with
 |none=>rw[hl]at hs;exact h1.ob s cs (by simpa [St.kill]using hs)
 |some c=>rw[hl]at hs;simp at hs;subst hs;exact hu s c hl
theorem OpG.wp{o:Oper}{x:AV}{S T U:List Nat}{FL:List (Nat × List AV)}(ho:OpG C o st x S T U FL)(h:R C A N g st a w)(hext:∀ s,s∈A.ext→s∉T)(hd:∀ k,o.dst=some k→k<N)
 {K:Act→World→Prop} {Q:Exit→Act→World→Prop} (hk:∀ g' a' w',R C A N g' ((st.app S T U FL).put o.dst x) a' w'→K a' w'):o.wp C.P a w K Q :=
 ho A N g a w h K Q fun u g' w' hg hx hu=>hk g' _ w' ((h.app hg hext hu).put hd hx)
theorem Steps.wp{o:Oper}{x:AV}{st':St}(hs:Steps C A N o a w x st')(hd:∀ k,o.dst=some k→k<N)
 {K:Act→World→Prop} {Q:Exit→Act→World→Prop} (hk:∀ g' a' w',R C A N g' (st'.put o.dst x) a' w'→K a' w'):o.wp C.P a w K Q:=by
 obtain⟨u,w',g',h1,h2,h3⟩:=hs;exact h1.wp (hk g' _ w' (h2.put hd h3))
theorem LF{P:Program}{f:FuncId}{fn:Func}{c:Code}(hf:P.funcs[f]?=some fn)(hname:(fn.name=="runtime.NumGoroutine")=false)(hb:fn.body=some c)(args:Array Value)(w:World):(callFunc f args).run P w=.ok (.enter f args) w:=by
 have h1:¬ fn.name = "runtime.NumGoroutine":=by simpa using hname
 simp[callFunc,hf,h1,hb]
theorem XK(ρ:Act){P:Program}{o:Oper}{c:Call}{f:Operand}{fid:FuncId}{us:Array Value}(ho:o.op=.call c)(hc:c.callee=.value f)(hf:ρ.eval f=.func (.func fid) #[] us)(w:World) :
 (execOp ρ.eval o).run P w=(callFunc fid (c.args.map ρ.eval++us)).run P w:=by
 unfold execOp;rw[ho];simp[resolve,hc,hf,Deferred.ofValue,invoke]
theorem Qc(ρ:Act){P:Program}{o:Oper}{c:Call}{f:Operand}{fid:FuncId}{fs us:Array Value}(ho:o.op=.call c)(hc:c.callee=.value f)(hf:ρ.eval f=.func (.func fid) fs us)(w:World) :
 (execOp ρ.eval o).run P w=(callFunc fid (fs++c.args.map ρ.eval++us)).run P w:=by
 unfold execOp;rw[ho];simp[resolve,hc,hf,Deferred.ofValue,invoke]
def Rr(x:AV)(fid:Nat)(first AU:List AV):Prop:=(x=.fn fid AU∧first=[])∨(x=.mv fid first∧AU=[])
theorem Rr.read{x:AV}{fid:Nat}{first AU:List AV}{u:Value}(h:Rr x fid first AU)(hv:VR g w x u):∃ fs us,u=.func (.func fid) fs us∧VRs g w first fs.toList∧VRs g w AU us.toList:=by
 rcases h with ⟨rfl,rfl⟩|⟨rfl,rfl⟩
 ·simp only[VR]at hv;obtain⟨us,rfl,h⟩:=hv;exact⟨#[],us,rfl,by simp[VRs],h⟩
 ·simp only[VR]at hv;obtain⟨us,rfl,h⟩:=hv;exact⟨us,#[],rfl,h,by simp[VRs]⟩
def Has(v:Way)(st:St)(ob:List (Nat × List AV)):Prop:=∀ s' cs,lk s' ob=some cs→lk s' (Ee v.ρ st.Al)=some cs
def Ie:List (Nat × List AV)→Prop
 |[]=>True
 | p::l=>Kb p.2∧Ie l
theorem Ie.lk:∀ {l:List (Nat × List AV)} {s:Nat} {cs:List AV},Ie l→lk s l=some cs→Kb cs
 |(j,c)::l,s,cs,hf,h=>by
  simp only[Abs.lk]at h;split at h
  ·injection h with h;subst h;exact hf.1
  ·exact Ie.lk hf.2 h
theorem eC{o:Oper}{c:Call}{f:Operand}{fid:Nat}{first AU:List AV}(ho:o.op=.call c)(hc:c.callee=.value f)(hf:Rr (ev C st f) fid first AU){v:Way}{ob:List (Nat × List AV)}{S:AV→List (Nat × List AV)→Prop}(hv:v.OK ob)
 (hok:FnP C fid (EY v.ρ (first++c.args.toList.map (ev C st)++AU)) ob S) (hob:Has v st ob) (hfl:∀ y ob',S y ob'→v.ρ.bs=[]∨(Flat (y.ren v.back)∧Ie (Ee v.back ob'))) (h:R C A N g st a w)
 (hext:∀ s,s∈A.ext→s∉rngs v.fm) (hd:∀ k,o.dst=some k→k<N) {K:Act→World→Prop} {Q:Exit→Act→World→Prop}
 (hk:∀ y ob' g' a' w',S y ob'→R C A N g' ((st.app (rngs v.back.l) (rngs v.fm) (rngs v.back.m) (Ee v.back ob')).put o.dst (y.ren v.back)) a' w'→K a' w'):o.wp C.P a w K Q:=by
 obtain⟨⟨fn,cd,hfn,hname,hb⟩,hcall⟩:=hok;obtain⟨fs,us,hus,hfs,hvs⟩:=hf.read (h.ev f);unfold Oper.wp;rw[Qc a ho hc hus w,LF hfn hname hb,Oper.upon_enter];have hargs:VRs g w (first++c.args.toList.map (ev C st)++AU) (fs.toList++(c.args.toList.map a.eval)++us.toList):=VRs.append (VRs.append hfs (FG h _)) hvs;have hargs':=VRs.ren (ρ:=v.ρ) (base:=g) hv.into _ _ hargs;have hgl:Glob C (entry v g) w:=fun i cs hi=>by
  obtain⟨h1,h2,h3⟩:=h.glob i cs hi;exact⟨h1,EK h2,PRc.mono J6 _ ⟨i,0,none⟩ 0 h2 h3⟩
 have hc1:=hcall (entry v g) w _ hgl hargs' fun s' cs hs=>by
  obtain⟨s,cs0,h1,h2,rfl⟩:=Ir hv.into (hob s' cs hs);exact DE.ren hv.into h1 (h.ob s cs0 h2)
 have e:fs++c.args.map a.eval++us=(fs.toList++(c.args.toList.map a.eval)++us.toList).toArray:=by
  rw[← Array.toList_inj];simp
 rw[e];refine Calls.mono hc1 fun e w' he=>?_
 obtain⟨y,ob',hS,u,g1,rfl,hfr,hy,hob'⟩:=he;have hfl:=hfl y ob' hS;refine hk y ob' (after v g w g1) _ w' hS ((h.app (PI hv hfr) hext fun s cs hs=>?_).put hd (TJ hv hfr hy (hfl.imp id And.left)));obtain⟨s',cs0,h1,h2,rfl⟩:=Ir hv.back hs;have hk1:=hob' s' cs0 h2;have hren:DE (g1.ren v.back g) w' s (EY v.back cs0):=DE.ren hv.back h1 hk1;have hbx:g1.box s'=(g1.ren v.back g).box s:=(K4 hv.back h1).symm;exact hk1.lift (Ea.kind hv.back.m h1) (NJ hfr hren.1) (by show w'.heap[(g1.ren v.back g).box s]?=_;rw[← hbx]) (fun us h=>Ru hv hfr h (hfl.imp id fun h=>Ie.lk h.2 hs))
theorem R.quiet(h:R C A N g st a w)(hq:Quiet w w'):R C A N g st a w':=by
 have hl:Lasts [] [] g w g w':=⟨fun b hb ho=>⟨ho,hq.old b hb⟩,fun b _ hb _ ho=>⟨ho,hq.old b hb⟩,fun _ _=>rfl,fun _ _=>rfl,fun b _ _ hb _ ho=>⟨ho,hq.old b hb⟩,fun _ _ _=>rfl⟩;have:=h.lasts hl (h.fr.step hl hq.os hq.tape hq.output hq.size (fun b hb ho=>⟨ho,hq.old b hb⟩) (fun _ _ he=>by cases he)) (fun s cs hs _=>⟨(h.ob s cs hs).1,hq.old _ (h.ob s cs hs).lt⟩)
 rwa [Mv]at this
theorem eD{o:Oper}{c:Call}{f:Operand}{fid r n:Nat}{first AU ys:List AV}{es es':List (List AV)}(ho:o.op=.call c)(hc:c.callee=.value f)(hf:Rr (ev C st f) fid first AU)(hx:first++c.args.toList.map (ev C st)++AU=.sl (.own r 0) n es::ys)
 (hok:PD C fid n es ys es') (h:R C A N g st a w) (hd:∀ k,o.dst=some k→k<N) {K:Act→World→Prop} {Q:Exit→Act→World→Prop}
 (hk:∀ g' a' w',R C A N g' ((st.AQ r n 0 es').put o.dst (.tup [])) a' w'→K a' w'):o.wp C.P a w K Q:=by
 obtain⟨⟨fn,cd,hfn,hname,hb⟩,hcall⟩:=hok;obtain⟨fs,us,hus,hfs,hvs⟩:=hf.read (h.ev f);unfold Oper.wp;rw[Qc a ho hc hus w,LF hfn hname hb,Oper.upon_enter];have hargs:VRs g w (first++c.args.toList.map (ev C st)++AU) (fs.toList++(c.args.toList.map a.eval)++us.toList):=VRs.append (VRs.append hfs (FG h _)) hvs;rw[hx]at hargs;have e:fs++c.args.map a.eval++us=(fs.toList++(c.args.toList.map a.eval)++us.toList).toArray:=by
  rw[← Array.toList_inj];simp
 rw[e];generalize fs.toList++(c.args.toList.map a.eval)++us.toList=vs at hargs
 match vs,hargs with
 | u::vs,hargs =>
  simp only[VRs,VR]at hargs;refine Calls.mono (hcall g w r u vs h.glob hargs.1 hargs.2) fun e w' he=>?_
  obtain⟨rfl,hq⟩:=he;have hunit:VR g w' (.tup []) (.tuple #[]):=by simp only[VR];exact⟨#[],rfl,by simp[VRs]⟩
  rcases hq with ⟨rfl,hq⟩|⟨cur,new,T,hran,hq⟩
  ·exact hk g _ w' (((h.DB r n 0).quiet hq).put hd hunit)
  ·exact hk g _ w' (((h.AQ hran).quiet hq).put hd hunit)
 |[],hargs=>simp[VRs]at hargs
theorem eB{o:Oper}{c:Call}{f:Operand}{fid:Nat}{AU:List AV}(ho:o.op=.call c)(hc:c.callee=.value f)(hf:ev C st f=.fn fid AU){v:Way}{ob ob':List (Nat × List AV)}{y:AV}(hv:v.OK ob)
 (hok:Ad C fid (EY v.ρ (c.args.toList.map (ev C st)++AU)) ob y ob') (hob:Has v st ob) (hfl:v.ρ.bs=[]∨(Flat (y.ren v.back)∧Ie (Ee v.back ob'))) :
 OpG C o st (y.ren v.back) (rngs v.back.l) (rngs v.fm) (rngs v.back.m) (Ee v.back ob'):=by
 intro A N g a w hR K Q hk;obtain⟨⟨fn,cd,hfn,hname,hb⟩,hcall⟩:=hok;have hfv:=hR.ev f;rw[hf]at hfv;simp only[VR]at hfv;obtain⟨us,hus,hvs⟩:=hfv;unfold Oper.wp;rw[XK a ho hc hus w,LF hfn hname hb,Oper.upon_enter];have hargs:VRs g w (c.args.toList.map (ev C st)++AU) ((c.args.toList.map a.eval)++us.toList):=VRs.append (FG hR _) hvs;have hargs':=VRs.ren (ρ:=v.ρ) (base:=g) hv.into _ _ hargs;have hgl:Glob C (entry v g) w:=fun i cs hi=>by
  obtain⟨h1,h2,h3⟩:=hR.glob i cs hi;exact⟨h1,EK h2,PRc.mono J6 _ ⟨i,0,none⟩ 0 h2 h3⟩
 have hc1:=hcall (entry v g) w _ hgl hargs' fun s' cs hs=>by
  obtain⟨s,cs0,h1,h2,rfl⟩:=Ir hv.into (hob s' cs hs);exact DE.ren hv.into h1 (hR.ob s cs0 h2)
 have e:c.args.map a.eval++us=((c.args.toList.map a.eval)++us.toList).toArray:=by
  rw[← Array.toList_inj];simp
 rw[e];refine Calls.mono hc1 fun e w' he=>?_
 obtain⟨u,g1,rfl,hfr,hy,hob'⟩:=he;refine hk u (after v g w g1) w' (PI hv hfr) (TJ hv hfr hy (hfl.imp id And.left)) fun s cs hs=>?_
 obtain⟨s',cs0,h1,h2,rfl⟩:=Ir hv.back hs;have hk1:=hob' s' cs0 h2;have hren:DE (g1.ren v.back g) w' s (EY v.back cs0):=DE.ren hv.back h1 hk1;have hbx:g1.box s'=(g1.ren v.back g).box s:=(K4 hv.back h1).symm;exact hk1.lift (Ea.kind hv.back.m h1) (NJ hfr hren.1) (by show w'.heap[(g1.ren v.back g).box s]?=_;rw[← hbx]) (fun us h=>Ru hv hfr h (hfl.imp id fun h=>Ie.lk h.2 hs))
end
end Go.Abs
namespace Go.Abs
section
variable {C:Ctx} {A:A0} {N:Nat} {g g':Gh} {st:St} {a:Act} {w w':World} {P:Program}
def Gh.deep(g:Gh)(B k r r2 n:Nat):Gh where
 own b:=if b=B then .row k else match g.own b with
  |.inn q i=>if q=r2 then .inn k (n+i) else if q=r then .inn k i else .inn q i
  | o=>o
 box:=g.box
 row q:=if q=k then B else g.row q
 inn q i:=if q=k then (if i<n then g.inn r i else g.inn r2 (i-n)) else g.inn q i
theorem P7(hR:R C A N g st a w){r r2 k B cap m:Nat}{T:TypeId}{cur':Array Value}{bss bss2:List (List (List AV))}{S:List Nat}(hm:0<m)(hr:r∈S)(hr2:r2∈S)(hk:k∈S)(hne:bss=[]∨r≠r2)
 (hB:B=w.heap.size∨g.own B=.row r) (hos:w'.os=w.os) (htape:HN w w') (hout:w'.output=w.output) (hsz:w.heap.size≤w'.heap.size) (hold:∀ b,b<w.heap.size→b≠B→w'.heap[b]?=w.heap[b]?)
 (hheap:w'.heap[B]?=some (.cells cur' T (0,0))) (hcs:cur'.size=cap) (hlen:bss.length+bss2.length≤cap) (hcap:cap≤maxLen)
 (h1:∀ q b,bss[q]?=some b→∃ v,cur'[q]?=some v∧Fu g w r q m b v) (h2:∀ q b,bss2[q]?=some b→∃ v,cur'[bss.length+q]?=some v∧Fu g w r2 q m b v) :
 ∃ g',R C A N g' (st.kill S []) a w'∧LJ g' w' .dsl k 0 0 0 m (bss++bss2) (.slice (some ⟨B,0,none⟩) (bss++bss2).length cap):=by
 let g':=g.deep B k r r2 bss.length
 have neB:∀ b,b<w.heap.size→g.own b≠.row r→b≠B:=fun b hb ho e=>by
  subst e;rcases hB with hB|hB
  ·omega
  ·exact ho hB
 have hro:∀ b,b<w.heap.size→BM g b→BM g' b∧w'.heap[b]?=w.heap[b]?:=fun b hb ho=>by
  have ho':g.own b=.ro:=ho;have hne:=neB b hb (by rw[ho'];intro e;cases e);exact⟨by simp[g',Gh.deep,BM,hne,ho'],hold b hb hne⟩
 have hl:Lasts S [] g w g' w':=by
  refine⟨hro,fun b q hb hq ho=>?_,fun q hq=>?_,fun _ _=>rfl,fun b q i hb hq ho=>?_,fun q i hq=>?_⟩
  ·have hne:=neB b hb (by rw[ho];intro e;injection e with e;exact hq (e▸hr));exact⟨by simp[g',Gh.deep,hne,ho],hold b hb hne⟩
  ·have:q≠k:=fun e=>hq (e▸hk)
   simp[g',Gh.deep,this]
  ·have hne:=neB b hb (by rw[ho];intro e;cases e);have n1:q≠r2:=fun e=>hq (e▸hr2)
   have n2:q≠r:=fun e=>hq (e▸hr)
   exact⟨by simp[g',Gh.deep,hne,ho,n1,n2],hold b hb hne⟩
  ·have:q≠k:=fun e=>hq (e▸hk)
   simp[g',Gh.deep,this]
 refine⟨g',hR.lasts hl (hR.fr.step hl hos htape hout hsz (fun b hb ho=>?_) (fun _ _ h=>by cases h)) (fun s cs hs _=>?_),hm,.inr ⟨cap,cur',T,?_,?_,hcap,?_,?_,hcs,fun q b hq=>?_⟩⟩
 ·have hne:=neB b hb (by rw[ho];intro e;cases e);exact⟨by simp[g',Gh.deep,hne,ho],hold b hb hne⟩
 ·have hob:=hR.ob s cs hs;have hne:=neB _ hob.lt (by rw[hob.1];intro e;cases e);exact⟨by simp[g',Gh.deep,hne,hob.1],hold _ hob.lt hne⟩
 ·simp[g',Gh.deep]
 ·simpa using hlen
 ·simp[g',Gh.deep]
 ·have:g'.row k=B:=by simp[g',Gh.deep]
  rw[this];exact hheap
 ·have inn:∀ (r0 q0:Nat) (b:List (List AV)) (v:Value),Fu g w r0 q0 m b v→g'.inn k q=g.inn r0 q0→(∀ _:Nat,g.own (g.inn r0 q0)=.inn r0 q0→g.inn r0 q0≠B→g'.own (g.inn r0 q0)=.inn k q)→Fu g' w' k q m b v:=by
   intro r0 q0 b v hi he ho;rcases hi with hi|⟨cap',cur1,T1,e1,e2,e3,e4,e5,e6,e7⟩
   ·exact .inl hi
   ·have hlt:=DS e5;have hneB:=neB _ hlt (by rw[e4];intro e;cases e);have hh:=hold _ hlt hneB;refine .inr ⟨cap',cur1,T1,by rw[he];exact e1,e2,e3,by rw[he];exact ho 0 e4 hneB,by rw[he,hh];exact e5,e6,?_⟩;rw[he];exact PRe.Ca hro b _ m 0 hh e7
  rw[List.getElem?_append]at hq;split at hq
  ·rename_i hlt;obtain⟨v,hv,hi⟩:=h1 q b hq;refine⟨v,hv,inn r q b v hi (by simp[g',Gh.deep,hlt]) fun _ ho hnB=>?_⟩;have:r≠r2:=hne.resolve_left (fun e=>by rw[e]at hlt;simp at hlt);simp[g',Gh.deep,hnB,ho,this]
  ·rename_i hge;obtain⟨v,hv,hi⟩:=h2 (q-bss.length) b hq;rw[show bss.length+(q-bss.length)=q from by omega]at hv;refine⟨v,hv,inn r2 (q-bss.length) b v hi (by simp[g',Gh.deep,hge]) fun _ ho hnB=>?_⟩;simp[g',Gh.deep,hnB,ho];omega
def MD(k:Nat)(st:St)(x y:AV):Option (AV × St):=match y with
 |.hnd .dsl r2 _ _ _ m bss2=>match x with
  |.v (.slice none 0 0)=>if bss2.length≤4294967296 then some (.hnd .dsl k 0 0 0 m bss2,st.kill [r2,k] []) else none
  |.hnd .dsl r _ _ _ m' bss=>if m'=m∧r≠r2∧bss.length+bss2.length≤4294967296 then some (.hnd .dsl k 0 0 0 m (bss++bss2),st.kill [r,r2,k] []) else none
  |_=>none
 |_=>none
def Zw(k:Nat)(st:St)(len:Nat)(parts:List (Nat × AV)):Option (AV × St):=match len,parts with
 | 1,[(0,.sl (.own q 0) m b)]=>some (.hnd .dsl k 0 0 0 m [b],(st.kill [q] []).kill [q,k] [])
 |_,_=>none
theorem WN{r i j off m:Nat}{bss:List (List (List AV))}{u:Value}(h:LJ g w .dsl r i j off m bss u) :
 0<m∧∃ vs:List Value,PF w 1 bss.length u vs∧(∀ v∈vs,v.oneCell'=true)∧∀ q b,bss[q]?=some b→∃ v,vs[q]?=some v∧Fu g w r q m b v:=by
 obtain⟨hm,⟨rfl,rfl⟩|⟨cap,cur,T,rfl,h2,h3,h4,h5,h6,h7⟩⟩:=h
 ·exact⟨hm,[],⟨by simp,.inr ⟨rfl,0,rfl⟩⟩,by simp,fun q b hq=>by simp at hq⟩
 ·refine⟨hm,cur.toList.take bss.length,⟨by simp;omega,.inl ⟨_,cap,rfl,fun j v hj=>?_⟩⟩,fun v hv=>?_,fun q b hq=>?_⟩
  ·rw[List.getElem?_take]at hj;split at hj
   ·rw[LK h5];simpa using hj
   ·cases hj
  ·obtain⟨q,hq⟩:=List.getElem?_of_mem hv;rw[List.getElem?_take]at hq;split at hq
   ·rename_i hlt;obtain⟨v',hv',hi⟩:=h7 q bss[q] (List.getElem?_eq_getElem hlt);simp only[Array.getElem?_toList]at hq;rw[hv']at hq;injection hq with hq
    subst hq;rcases hi with ⟨_,_,_,rfl,_⟩|⟨_,_,_,rfl,_⟩<;>rfl
   ·cases hq
  ·obtain⟨v,hv,hi⟩:=h7 q b hq;have hlt:q<bss.length:=by
    rcases Nat.lt_or_ge q bss.length with h|h
    ·exact h
    ·rw[List.getElem?_eq_none h]at hq;cases hq
   exact⟨v,by rw[List.getElem?_take,if_pos hlt];simpa using hv,hi⟩
theorem Q6(hR:R C A N g st a w){t t2 ty e b k:Nat}(ht:Bg P t=some (e,1,b))(ht2:AI P t2=true){x y z:AV}{ux uy:Value}(hx:VR g w x ux)(hy:VR g w y uy){st':St}
 (ha:MD k st x y=some (z,st')):∃ u w' g',(Builtin.append_ #[t,t2] ty #[ux,uy]).run P w=.ok u w'∧R C A N g' st' a w'∧VR g' w' z u:=by
 obtain⟨hu,i,zv,hi,hz,hzs,hsz,hby,hn,hb⟩:=Dr ht;unfold MD at ha;split at ha
 ·rename_i r2 _ _ _ m bss2;simp only[VR]at hy;obtain⟨hm,vs,sy,ov,iv⟩:=WN hy;rw[← hsz]at sy;have key:∀ (r sLen sCap:Nat) (base:Option Addr) (us:List Value) (bss:List (List (List AV))),sLen=bss.length→sLen≤sCap→us.length=sLen→ux=.slice base sLen sCap→PF w i.size sLen ux us→(∀ q b,bss[q]?=some b→∃ v,us[q]?=some v∧Fu g w r q m b v)→(bss=[]∨r≠r2) →
   bss.length+bss2.length≤4294967296→(∀ S:List Nat,r∈S→r2∈S→k∈S→∃ u w' g',(Builtin.append_ #[t,t2] ty #[ux,uy]).run P w=.ok u w'∧R C A N g' (st.kill S []) a w'∧VR g' w' (.hnd .dsl k 0 0 0 m (bss++bss2)) u)∨(sLen+bss2.length≤sCap):=by
   intro r sLen sCap base us bss hsl hle hul hux sx ix hne hbig
   by_cases hroom:sLen+bss2.length≤sCap
   ·exact .inr hroom
   ·left;intro S hr hr2 hk;subst hsl;have hbytes:(bss.length+bss2.length)*i.bytes≤140737488355328:=by
     have:(bss.length+bss2.length)*i.bytes≤4294967296*32768:=Nat.mul_le_mul hbig (by omega);omega
    have hrun:=Fc (ty:=ty) hu ht2 hi hz (hux▸sx) sy (by omega) hle hbytes (by omega);rw[← hux]at hrun;have hvl:vs.length=bss2.length:=by rw[sy.1,hsz];simp
    have hgc:=grownCap_ge w (bss.length+bss2.length) sCap e;have hA:∀ q b,bss[q]?=some b→∃ v,(us.toArray++vs.toArray++Builtin.zeroCells zv.cells (grownCap w (bss.length+bss2.length) sCap e-(bss.length+bss2.length)))[q]?=some v∧Fu g w r q m b v:=fun q b hq=>by
     obtain⟨v,hv,hi'⟩:=ix q b hq;have hlt:q<us.length:=by
      rcases Nat.lt_or_ge q us.length with h|h
      ·exact h
      ·rw[List.getElem?_eq_none h]at hv;cases hv
     refine⟨v,?_,hi'⟩;rw[Array.getElem?_append_left (by simp;omega),Array.getElem?_append_left (by simpa using hlt)];simpa using hv
    have hB:∀ q b,bss2[q]?=some b→∃ v,(us.toArray++vs.toArray++Builtin.zeroCells zv.cells (grownCap w (bss.length+bss2.length) sCap e-(bss.length+bss2.length)))[bss.length+q]?=some v∧Fu g w r2 q m b v:=fun q b hq=>by
     obtain⟨v,hv,hi'⟩:=iv q b hq;have hlt:q<vs.length:=by
      rcases Nat.lt_or_ge q vs.length with h|h
      ·exact h
      ·rw[List.getElem?_eq_none h]at hv;cases hv
     refine⟨v,?_,hi'⟩;rw[Array.getElem?_append_left (by simp;omega),Array.getElem?_append_right (by simp;omega)];simp only[List.size_toArray,hul,Nat.add_sub_cancel_left,List.getElem?_toArray];exact hv
    obtain⟨g',k1,k2⟩:=P7 hR (w':=w.drew.alloc (.cells (us.toArray++vs.toArray++Builtin.zeroCells zv.cells (grownCap w (bss.length+bss2.length) sCap e-(bss.length+bss2.length))) e)) (B:=w.heap.size) (S:=S) (cap:=grownCap w (bss.length+bss2.length) sCap e) hm hr hr2 hk hne (.inl rfl) rfl ⟨rfl,Nat.le_succ _⟩ rfl (by simp) (fun b hb _=>alloc_old _ _ b hb) (heap_alloc_new _ _)
     (by
      have hzc:zv.cells.size=1:=by omega
      simp[Builtin.zeroCells,hul,hvl,hzc];omega) (by omega) (grownCap_le_maxLen w _ sCap e (by simp only[maxLen];omega)) hA hB
    refine⟨_,_,g',hrun,k1,?_⟩;simp only[VR];rw[List.length_append]at k2;exact k2
  split at ha
  ·split at ha
   ·rename_i hbig;simp only[Option.some.injEq,Prod.mk.injEq]at ha;obtain⟨rfl,rfl⟩:=ha;simp only[VR]at hx;subst hx;rcases key r2 0 0 none [] [] rfl (Nat.le_refl _) rfl rfl ⟨by simp,.inr ⟨rfl,0,rfl⟩⟩ (fun q b hq=>by simp at hq) (.inl rfl) (by simpa using hbig) with h|h
    ·have:=h [r2,k] (by simp) (by simp) (by simp);simpa using this
    ·have hb0:bss2=[]:=List.eq_nil_of_length_eq_zero (by omega);subst hb0;have hv0:vs=[]:=List.eq_nil_of_length_eq_zero (by rw[sy.1];simp);subst hv0;exact⟨_,_,g,Ey hu ht2 hi sy (Nat.le_refl 0),hR.kill [r2,k] [] (fun _ _ h=>by cases h),by simp only[VR];exact⟨hm,.inl ⟨rfl,rfl⟩⟩⟩
   ·cases ha
  ·rename_i r _ _ _ m' bss;split at ha
   ·rename_i hc;obtain⟨rfl,hrr,hbig⟩:=hc;simp only[Option.some.injEq,Prod.mk.injEq]at ha;obtain⟨rfl,rfl⟩:=ha;simp only[VR]at hx;obtain⟨_,us,sx,ou,iu⟩:=WN hx;rw[← hsz]at sx;have hul:us.length=bss.length:=by rw[sx.1,hsz];simp
    obtain⟨_,⟨rfl,rfl⟩|⟨cap,cur,T,rfl,h2,h3,h4,h5,h6,h7⟩⟩:=hx
    ·rcases key r 0 0 none [] [] rfl (Nat.le_refl _) rfl rfl ⟨by simp,.inr ⟨rfl,0,rfl⟩⟩ (fun q b hq=>by simp at hq) (.inl rfl) hbig with h|h
     ·exact h [r,r2,k] (by simp) (by simp) (by simp)
     ·have hb0:bss2=[]:=List.eq_nil_of_length_eq_zero (by omega);subst hb0;have hv0:vs=[]:=List.eq_nil_of_length_eq_zero (by rw[sy.1];simp);subst hv0;exact⟨_,_,g,Ey hu ht2 hi sy (Nat.le_refl 0),hR.kill [r,r2,k] [] (fun _ _ h=>by cases h),by simp only[VR];exact⟨hm,.inl ⟨rfl,rfl⟩⟩⟩
    ·rcases key r bss.length cap (some ⟨g.row r,0,none⟩) us bss rfl h2 hul rfl sx iu (.inr hrr) hbig with h|hroom
     ·exact h [r,r2,k] (by simp) (by simp) (by simp)
     ·-- in place
      have hvl:vs.length=bss2.length:=by rw[sy.1,hsz];simp
      have hrun:=Jh (ty:=ty) hu ht2 hi h5 sy ov hroom (by rw[hvl,hsz,h6];omega);rw[hsz,Nat.mul_one]at hrun;generalize hnew:(cur.toList.take bss.length++vs++cur.toList.drop (bss.length+vs.length)).toArray=new at hrun;have hget:∀ p,new[p]?=if p<bss.length then cur[p]? else if p<bss.length+vs.length then vs[p-bss.length]? else cur[p]?:=by
       intro p;rw[← hnew];simp only[List.getElem?_toArray];rw[List.append_assoc,List.getElem?_append];simp only[List.length_take,Array.length_toList];rw[Nat.min_eq_left (by omega)];split
       ·rename_i hlt;rw[List.getElem?_take,if_pos hlt];simp
       ·rename_i hge;rw[List.getElem?_append]
        by_cases hlt:p<bss.length+vs.length
        ·rw[if_pos (by omega),if_pos hlt]
        ·rw[if_neg (by omega),if_neg hlt,List.getElem?_drop];simp only[Array.getElem?_toList];congr 1;omega
      have hA:∀ q b,bss[q]?=some b→∃ v,new[q]?=some v∧Fu g w r q m' b v:=fun q b hq=>by
       obtain⟨v,hv,hi'⟩:=h7 q b hq;have hlt:q<bss.length:=by
        rcases Nat.lt_or_ge q bss.length with h|h
        ·exact h
        ·rw[List.getElem?_eq_none h]at hq;cases hq
       exact⟨v,by rw[hget,if_pos hlt];exact hv,hi'⟩
      have hB:∀ q b,bss2[q]?=some b→∃ v,new[bss.length+q]?=some v∧Fu g w r2 q m' b v:=fun q b hq=>by
       obtain⟨v,hv,hi'⟩:=iv q b hq;have hlt:q<vs.length:=by
        rcases Nat.lt_or_ge q vs.length with h|h
        ·exact h
        ·rw[List.getElem?_eq_none h]at hv;cases hv
       refine⟨v,?_,hi'⟩;rw[hget,if_neg (by omega),if_pos (by omega),Nat.add_sub_cancel_left];exact hv
      obtain⟨g',k1,k2⟩:=P7 hR (w':=w.setRow (g.row r) new) (B:=g.row r) (S:=[r,r2,k]) (cap:=cap) (bss:=bss) (bss2:=bss2) (k:=k) hm (by simp) (by simp) (by simp) (.inr hrr) (.inr h4) rfl ⟨rfl,Nat.le_refl _⟩ rfl (by simp) (fun b _ hne=>setRow_other w _ b new hne) (setRow_heap w _ cur new T _ h5)
       (by
        rw[← hnew];simp only[List.size_toArray,List.length_append,List.length_take,List.length_drop,Array.length_toList];omega) hroom h3 hA hB
      refine⟨_,_,g',hrun,k1,?_⟩;simp only[VR];rw[List.length_append]at k2;exact k2
   ·cases ha
  ·cases ha
 ·cases ha
theorem R.fM(hR:R C A N g st a w){q m:Nat}{b:List (List AV)}{v:Value}(hv:VR g w (.sl (.own q 0) m b) v) :
 ∃ g',R C A N g' (st.kill [q] []) a w∧0<m∧Fu g' w q 0 m b v∧v.oneCell'=true:=by
 simp only[VR,Cq]at hv;obtain⟨hm,hv⟩:=hv
 let g':Gh:={ g with own:=fun x=>match g.own x with|.row p=>if p=q∧x=g.row q then .inn q 0 else .row p|o=>o,inn:=fun p i=>if p=q then g.row q else g.inn p i }
 have hro:∀ x,x<w.heap.size→BM g x→BM g' x∧w.heap[x]?=w.heap[x]?:=fun x _ ho=>by
  have ho':g.own x=.ro:=ho;exact⟨by simp[g',BM,ho'],rfl⟩
 have hl:Lasts [q] [] g w g' w:=by
  refine⟨hro,fun x p _ hp ho=>⟨?_,rfl⟩,fun _ _=>rfl,fun _ _=>rfl,fun x p i _ _ ho=>⟨by simp[g',ho],rfl⟩,fun p i hp=>?_⟩
  ·have:p≠q:=by simpa using hp
   simp[g',ho,this]
  ·have:p≠q:=by simpa using hp
   simp[g',this]
 refine⟨g',hR.lasts hl (hR.fr.step hl rfl ⟨rfl,by first|exact Nat.le_refl _|exact Nat.le_succ _⟩ rfl (Nat.le_refl _) (fun x _ ho=>⟨by simp[g',ho],rfl⟩) (fun _ _ h=>by cases h)) (fun s cs hs _=>?_),hm,?_,?_⟩
 ·have ho:=(hR.ob s cs hs).1;exact⟨by simp[g',ho],rfl⟩
 ·rcases hv with ⟨rfl,rfl⟩|⟨h0,_⟩|⟨cap,cur,T,rfl,h2,h3,h5,h6,h7,h8⟩
  ·exact .inl ⟨rfl,none,0,rfl,by simp[maxLen]⟩
  ·omega
  ·have hi:g'.inn q 0=g.row q:=by simp[g']
   refine .inr ⟨cap,cur,T,by rw[hi];simp,h2,by omega,?_,by rw[hi];exact h6,by rwa [Nat.zero_add]at h7,?_⟩
   ·rw[hi];simp[g',h5]
   ·rw[hi];have:=PRe.Ca hro b _ m 0 rfl h8;simpa using this
 ·rcases hv with ⟨rfl,_⟩|⟨h0,_⟩|⟨cap,cur,T,rfl,_⟩
  ·rfl
  ·omega
  ·rfl
theorem V8(hR:R C A N g st a w){t e b k len:Nat}{zs:List Value}(ht:Bg P t=some (e,1,b))(hzs:zeroOf P e=some zs){parts:List (Nat × AV)}{pv:List (Nat × Value)}
 (hp1:parts.map (·.1)=pv.map (·.1)) (hp2:VRs g w (parts.map (·.2)) (pv.map (·.2))) {z:AV} {st':St} (ha:Zw k st len parts=some (z,st')) :
 ∃ u w' g',(Instr.buildSlice t len pv.toArray).run P w=.ok u w'∧R C A N g' st' a w'∧VR g' w' z u:=by
 obtain⟨hu,i,zv,hi,hz,hzsz,hsz,hby,hn,hb⟩:=Dr ht;unfold Zw at ha;split at ha
 ·rename_i q m bs;simp only[Option.some.injEq,Prod.mk.injEq]at ha;obtain⟨rfl,rfl⟩:=ha
  match pv,hp1,hp2 with
  |[(p0,v)],hp1,hp2 =>
   simp only[List.map_cons,List.map_nil,List.cons.injEq,and_true]at hp1;subst hp1;simp only[List.map_cons,List.map_nil,VRs,and_true]at hp2;obtain⟨g1,hR1,hm,hin,hone⟩:=hR.fM hp2;have hvc:v.cells = #[v]:=by
    cases v<;>simp_all[Value.cells,Value.oneCell']
   have hzc:zv.cells.size=1:=by omega
   have hfill:Instr.fill (fun i=>some (i,1)) ((Array.range 1).map (zv.cells[·%zv.cells.size]!)) [(0,v)]=some #[v]:=by
    have hr1:Array.range 1 = #[0]:=rfl;simp[Instr.fill,hvc,hr1]
   obtain⟨g',k1,k2⟩:=P7 hR1 (w':=w.alloc (.cells #[v] e)) (r:=q) (r2:=q) (k:=k) (B:=w.heap.size) (cap:=1) (bss:=[]) (bss2:=[bs]) (S:=[q,k]) (cur':=#[v]) (T:=e) hm (by simp) (by simp) (by simp) (.inl rfl) (.inl rfl) rfl ⟨rfl,Nat.le_refl _⟩ rfl (by simp) (fun x hx _=>alloc_old _ _ x hx) (heap_alloc_new _ _) (by simp) (by simp) (by simp[maxLen]) (fun q' b' hq'=>by simp at hq')
    (fun q' b' hq'=>by
     match q',hq' with
     | 0,hq'=>simp at hq';subst hq';exact⟨v,by simp,hin⟩
     | q'+1,hq'=>simp at hq')
   refine⟨.slice (some ⟨w.heap.size,0,none⟩) 1 1,_,g',?_,k1,by simp only[VR];simpa using k2⟩;simp[Instr.buildSlice,run_underlying hu,sizeOf,typeInfo,hi,hsz,zeroValue,hz,hfill,newRow]
  |[],hp1,_=>simp at hp1
  |_::_::_,hp1,_=>simp at hp1
 ·cases ha
end
end Go.Abs
