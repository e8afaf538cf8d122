/- part 3 of the proof -/
import Derived.WideKeyRuns
import Derived.Lib.ConvBytes
import Derived.Test.YteliegkcmjimoaaGreatDoorW02
set_option linter.all false
namespace Go.Abs
def dR(P:Program)(t:TypeId):Option (Bool × List Nat):=match Bp P t,EV P 20 t with
 |some agg,some ks=>some (agg,ks)
 |_,_=>none
def et(P:Program)(t:TypeId):Option (TypeId × Bool × List Nat × TypeId):=match P.underlying t with
 |some (.map k e)=>(dR P k).map λp=>(k,p.1,p.2,e)
 |_=>none
def zeroV(P:Program)(t:TypeId):Option Value:=(P.info? t).bind (·.zero)
def ga(P:Program)(t:TypeId):Option AV:=(zeroV P t).bind λz=>if z.oneCell'=true then some (.v z) else match z with
 |.agg cs=>some (.agg (vals cs.toList))
 |_=>none
def Hs(agg:Bool):AV->Option (List Value)
 |.agg cs=>if agg then FT cs else none
 |.v x=>if agg then none else some [x]
 |_=>none
def Ie(agg:Bool)(ks:List Nat)(us:List Value):List AV->Option (Option (Nat × AV))
 |[]=>some none
 |[_]=>none
 | k::v::l=>match Hs agg k with
  |some pN=>match BT ks us pN with
   |some true=>some (some (0,v))
   |some false=>(Ie agg ks us l).map λr=>r.map λp=>(p.1+1,p.2)
   |none=>none
  |none=>none
def Vw(P:Program)(t:TypeId)(cs:List AV)(k:AV):Option AV:=match et P t with
 |some (_,agg,ks,e)=>match Hs agg k with
  |some us=>if (BT ks us us).isSome then match Ie agg ks us cs with
   |some (some (_,v))=>some v
   |some none=>ga P e
   |none=>none
   else none
  |none=>none
 |none=>none
def HP(P:Program)(t:TypeId)(cs:List AV)(k:AV):Option AV:=match et P t with
 |some (_,agg,ks,e)=>match Hs agg k with
  |some us=>if (BT ks us us).isSome then match Ie agg ks us cs with
   |some (some (_,v))=>some (.BC [v,.v (.bool true)])
   |some none=>(ga P e).map λz=>.BC [z,.v (.bool false)]
   |none=>none
   else none
  |none=>none
 |none=>none
def PH(P:Program)(t:TypeId)(cs:List AV)(k v:AV):Option (List AV):=match et P t with
 |some (_,agg,ks,_)=>match Hs agg k with
  |some us=>if (BT ks us us).isSome then match Ie agg ks us cs with
   |some none=>some (cs++[k,v])
   |_=>none
   else none
  |none=>none
 |none=>none
section
variable {C:Ctx} {A:A0} {N:Nat} {g g':Gh} {st:St} {a:Act} {w w':World} {P:Program}
def Ih{agg:Bool}{k:AV}{us:List Value}{u:Value}(h:Hs agg k=some us)(hv:VR g w k u):u=valOf agg us:=by
 unfold Hs at h;split at h
 ·split at h
  ·rename_i cs ha;subst ha;simp[VR]at hv;obtain⟨vs,rfl,h2⟩:=hv;have:=NI h h2;simp[valOf,<- this]
  grind
 ·split at h
  ·cases h
  ·rename_i x ha;simp at h;subst h;simp[VR]at hv;subst hv;simp[valOf,Bool.eq_false_iff.2 ha]
 grind
def TT{d D:Nat}{em:Bool}(ih:∀ (t:Nat) (ks:List Nat) (agg:Bool) (us:List Value) (r:Bool),EV P d t=some ks->Bp P t=some agg->BT ks us us=some r->(Instr.checkKey em D t (valOf agg us)).run P w=.ok () w) :
 ∀ (fs:List Field) (off:Nat) (ks:List Nat),Jz P d fs off=some ks->∀ (us:List Value) (r:Bool),off<=us.length->BT ks (us.drop off) (us.drop off)=some r ->
  (forIn fs PUnit.unit (λf _=>do
   if f.name≠"_" then do
    Instr.checkKey em D f.type (<- part f.type us.toArray f.offset)
    pure (ForInStep.yield PUnit.unit)
   else pure (ForInStep.yield PUnit.unit)):Sem PUnit).run P w=.ok () w
 |[],off,ks,h,us,r,hu,hr=>by simp
 | f::fs,off,ks,h,us,r,hu,hr=>by
  simp only[Jz,G0]at h;split at h
  ·cases h
  ·rename_i hc;have cg:f.name≠"_":=λe=>hc (.inl e)
   have ba:f.offset=off:=Classical.byContradiction λe=>hc (.inr e)
   split at h
   ·rename_i k1 hn;split at h
    ·rename_i hs;obtain⟨k2,gn,rfl⟩:=Option.map_eq_some_iff.1 h;obtain⟨agg,nM,rR⟩:=ZA hn;have hl:=IS hr;simp only[List.length_drop,List.length_append]at hl;have e1:us.drop off=(us.drop off).take k1.length++us.drop (off+k1.length):=by rw[<- List.drop_drop,List.take_append_drop]
     rw[e1]at hr;obtain⟨r1,r2,m1,m2,rfl⟩:=Hg (by grind) (by grind) hr;have p1:=XB (w:=w) (us:=us) (off:=off) nM hs rR (by omega);have q:=ih f.type k1 agg _ r1 hn nM m1;have rest:=TT ih fs (off+k1.length) k2 gn us r2 (by omega) m2;simp only[List.forIn_cons,ne_eq,cg,not_false_eq_true,if_true,ba,Sem.run_bind,p1,q,Result.andThen_ok,Sem.run_pure];omega
    grind
   grind
def H7(em:Bool):∀ (d D t:Nat) (ks:List Nat) (agg:Bool) (us:List Value) (r:Bool),d<=D->EV P d t=some ks->Bp P t=some agg->BT ks us us=some r->(Instr.checkKey em D t (valOf agg us)).run P w=.ok () w
 | 0,_,_,_,_,_,_,_,h,_,_=>by grind[EV]
 | d+1,0,_,_,_,_,_,hd,_,_,_=>by omega
 | d+1,D+1,t,ks,agg,us,r,hd,h,ha,hr=>by
  simp[EV]at h;split at h<;>rename_i Vp<;>simp only[Bp,Vp,Option.map_some,Option.some.injEq]at ha
  ·simp_all[Instr.checkKey,run_underlying]
  ·simp_all[Instr.checkKey,run_underlying]
  ·simp_all[Instr.checkKey,run_underlying]
  ·rename_i fs;subst ha;split at h
   ·cases h
   ·simp only[valOf,if_true,Instr.checkKey,Sem.run_bind,run_underlying Vp,Result.andThen_ok];rw[<- Array.forIn_toList];have:=TT (em:=em) (λt ks agg us r k1 k2 k3=>H7 em d D t ks agg us r (by omega) k1 k2 k3) fs.toList 0 ks h us r (Nat.zero_le _) (by grind);simp_all
  grind
def HO{t:TypeId}{agg:Bool}{ks:List Nat}(h:dR P t=some (agg,ks)):Bp P t=some agg/\EV P 20 t=some ks:=by
 unfold dR at h;grind
def Tl{t k e:TypeId}{agg:Bool}{ks:List Nat}(h:et P t=some (k,agg,ks,e)):P.underlying t=some (.map k e)/\dR P k=some (agg,ks):=by
 unfold et at h;split at h
 ·rename_i k' e' hu;obtain⟨⟨a',ks'⟩,h1,h2⟩:=Option.map_eq_some_iff.1 h;grind
 grind
def UH{e:TypeId}{x:AV}(h:ga P e=some x):∃ z,(zeroValue e).run P w=.ok z w/\VR g w x z:=by
 unfold ga at h;obtain⟨z,h1,h2⟩:=Option.bind_eq_some_iff.1 h;unfold zeroV at h1;obtain⟨i,hi,hz⟩:=Option.bind_eq_some_iff.1 h1;refine⟨z,by simp[zeroValue,run_typeInfo hi,hz],?_⟩;split at h2
 ·grind[VR]
 ·split at h2
  ·simp at h2;subst h2;simp_all[VR,Kv]
  grind
def PV{kt:TypeId}{agg:Bool}{ks:List Nat}{us vs:List Value}{r:Bool}(hk:dR P kt=some (agg,ks))(h:BT ks us vs=some r):(Op.equal kt (valOf agg us) (valOf agg vs)).run P w=.ok r w:=by
 obtain⟨h1,h2⟩:=HO hk;exact LA 20 10000 kt ks agg us vs r (by omega) h2 h1 h
def HL{kt:TypeId}{agg:Bool}{ks:List Nat}{us:List Value}(hk:dR P kt=some (agg,ks)):∀ (cs:List AV) (es:List MapEntry) (i:Nat) (r:Option (Nat × AV)),Ie agg ks us cs=some r->Bf g w cs (DV es) ->
 (r=none->(Instr.findAsking kt (valOf agg us) es i).run P w=.ok none w) /\
 (∀ j v,r=some (j,v)->∃ e,es[j]?=some e/\(Instr.findAsking kt (valOf agg us) es i).run P w=.ok (some (i+j,e.val)) w/\VR g w v e.val)
 |[],[],i,r,h,_=>by
  simp[Ie]at h;subst h;simp_all[Instr.findAsking]
 |[],_::_,_,_,_,hv=>by grind[DV,Bf]
 |[_],_,_,_,h,_=>by grind[Ie]
 |_::_::_,[],_,_,_,hv=>by grind[DV,Bf]
 | k::v::l,e::es,i,r,h,hv=>by
  simp[DV,Bf]at hv;obtain⟨hv1,W8,hv3⟩:=hv;simp[Ie]at h;split at h
  ·rename_i pN Y6;have Abj:=Ih Y6 hv1;split at h
   ·rename_i he;simp at h;subst h;simp_all[PV,Instr.findAsking]
   ·rename_i he;have q:=PV (w:=w) hk he;obtain⟨r0,h0,rfl⟩:=Option.map_eq_some_iff.1 h;obtain⟨k1,k2⟩:=HL hk l es (i+1) r0 h0 hv3;have step:(Instr.findAsking kt (valOf agg us) (e::es) i).run P w=(Instr.findAsking kt (valOf agg us) es (i+1)).run P w:=by simp_all[Instr.findAsking]
    refine⟨λhn=>?_,λj v' hj=>?_⟩
    ·simp_all
    ·cases r0<;>grind
   grind
  grind
def scal{kt:TypeId}{agg:Bool}{ks:List Nat}{us:List Value}(hk:dR P kt=some (agg,ks)){d:TypeDesc}(hd:P.underlying kt=some d)(hs:∀ pN b,BT ks us pN=some b->Instr.sameNow d (valOf agg us) (valOf agg pN)=some b) :
 ∀ (cs:List AV) (es:List MapEntry) (i:Nat) (r:Option (Nat × AV)),Ie agg ks us cs=some r->Bf g w cs (DV es)->∃ q,Instr.findNow d (valOf agg us) es i=some q/\(Instr.findAsking kt (valOf agg us) es i).run P w=.ok q w
 |[],[],i,r,h,_=>⟨none,rfl,by simp[Instr.findAsking]⟩
 |[],_::_,_,_,_,hv=>by grind[DV,Bf]
 |[_],_,_,_,h,_=>by grind[Ie]
 |_::_::_,[],_,_,_,hv=>by grind[DV,Bf]
 | k::v::l,e::es,i,r,h,hv=>by
  simp[DV,Bf]at hv;obtain⟨hv1,W8,hv3⟩:=hv;simp[Ie]at h;split at h
  ·rename_i pN Y6;have Abj:=Ih Y6 hv1;split at h
   ·simp_all[PV,Instr.findNow,Instr.findAsking]
   ·rename_i he;have q:=PV (w:=w) hk he;obtain⟨r1,h1,rfl⟩:=Option.map_eq_some_iff.1 h;obtain⟨q',m1,m2⟩:=scal hk hd hs l es (i+1) r1 h1 hv3;simp_all[Instr.findNow,Instr.findAsking]
   grind
  grind
def run_findKey{kt:TypeId}{agg:Bool}{ks:List Nat}{us:List Value}(hk:dR P kt=some (agg,ks))(hu:(BT ks us us).isSome):∀ (cs:List AV) (es:List MapEntry) (r:Option (Nat × AV)),Ie agg ks us cs=some r->Bf g w cs (DV es) ->
 (Instr.findKey kt (valOf agg us) es).run P w=(Instr.findAsking kt (valOf agg us) es).run P w:=by
 intro cs es r hr hv;obtain⟨h1,h2⟩:=HO hk;simp[EV]at h2;obtain⟨r0,hu⟩:=Option.isSome_iff_exists.1 hu;have now:∀ (d:TypeDesc),P.underlying kt=some d->(∀ (cs:List AV) (es:List MapEntry) (i:Nat) (r:Option (Nat × AV)),Ie agg ks us cs=some r->Bf g w cs (DV es)->∃ q,Instr.findNow d (valOf agg us) es i=some q/\(Instr.findAsking kt (valOf agg us) es i).run P w=.ok q w) ->
  (Instr.findKey kt (valOf agg us) es).run P w=(Instr.findAsking kt (valOf agg us) es).run P w:=λd hd h=>by
  obtain⟨q,q1,q2⟩:=h cs es 0 r hr hv;rw[q2];simp[Instr.findKey,run_underlying hd,q1]
 split at h2<;>rename_i hd<;>simp only[Bp,hd,Option.map_some,Option.some.injEq]at h1
 ·subst h1;simp at h2;subst h2;refine now _ hd (scal hk hd λpN b hb=>?_);obtain⟨x,y,rfl,rfl,rfl⟩:=j0 hb;simp[valOf,Instr.sameNow]
 ·subst h1;simp at h2;subst h2;refine now _ hd (scal hk hd λpN b hb=>?_);obtain⟨k,x,y,rfl,rfl,rfl⟩:=eq_int hb;simp[valOf,Instr.sameNow]
 ·subst h1;simp at h2;subst h2;refine now _ hd (scal hk hd λpN b hb=>?_);obtain⟨x,y,rfl,rfl,rfl⟩:=YE hb;simp[valOf,Instr.sameNow,beq_toListBytes]
 ·grind[Go.run_findKey_eq]
 grind
def bH{t:TypeId}{cs:List AV}{k x:AV}{uk:Value}{b:Nat}{es:Array MapEntry}{Ys:Nat}(h:Vw P t cs k=some x)(hk:VR g w k uk)(hb:w.heap[b]?=some (.map es Ys))(hv:Bf g w cs (DV es.toList)) :
 ∃ u,(Instr.lookup t (.map (some b)) uk false).run P w=.ok u w/\VR g w x u:=by
 unfold Vw at h;split at h
 ·rename_i kt agg ks e hm;obtain⟨h1,h2⟩:=Tl hm;split at h
  ·rename_i us Y6;split at h
   ·rename_i OJ;obtain rfl:=Ih Y6 hk;obtain⟨r0,hr0⟩:=Option.isSome_iff_exists.1 OJ;have Q7:=H7 (P:=P) (w:=w) es.isEmpty 20 10000 kt ks agg us r0 (by omega) (HO h2).2 (HO h2).1 hr0;split at h
    ·rename_i j v hf;simp at h;subst h;obtain⟨e',m1,m2,m3⟩:=(HL h2 cs es.toList 0 _ hf hv).2 j v rfl;have UM:=run_findKey h2 OJ cs es.toList _ hf hv;rw[m2]at UM;exact⟨e'.val,by simp[Instr.lookup,run_underlying h1,MapKept.run_getObj_map hb,Q7,UM],m3⟩
    ·rename_i hf;have m:=(HL h2 cs es.toList 0 _ hf hv).1 rfl;have UM:=run_findKey h2 OJ cs es.toList _ hf hv;rw[m]at UM;obtain⟨z,z1,z2⟩:=UH (g:=g) (w:=w) h;exact⟨z,by simp[Instr.lookup,run_underlying h1,MapKept.run_getObj_map hb,Q7,UM,z1],z2⟩
    grind
   grind
  grind
 grind
def W2{t:TypeId}{cs:List AV}{k x:AV}{uk:Value}{b:Nat}{es:Array MapEntry}{Ys:Nat}(h:HP P t cs k=some x)(hk:VR g w k uk)(hb:w.heap[b]?=some (.map es Ys))(hv:Bf g w cs (DV es.toList)) :
 ∃ u,(Instr.lookup t (.map (some b)) uk true).run P w=.ok u w/\VR g w x u:=by
 unfold HP at h;split at h
 ·rename_i kt agg ks e hm;obtain⟨h1,h2⟩:=Tl hm;split at h
  ·rename_i us Y6;split at h
   ·rename_i OJ;obtain rfl:=Ih Y6 hk;obtain⟨r0,hr0⟩:=Option.isSome_iff_exists.1 OJ;have Q7:=H7 (P:=P) (w:=w) es.isEmpty 20 10000 kt ks agg us r0 (by omega) (HO h2).2 (HO h2).1 hr0;split at h
    ·rename_i j v hf;simp at h;subst h;obtain⟨e',m1,m2,m3⟩:=(HL h2 cs es.toList 0 _ hf hv).2 j v rfl;have UM:=run_findKey h2 OJ cs es.toList _ hf hv;rw[m2]at UM;exact⟨.tuple #[e'.val,.bool true],by simp[Instr.lookup,run_underlying h1,MapKept.run_getObj_map hb,Q7,UM],by simp_all[VR,Bf]⟩
    ·rename_i hf;have m:=(HL h2 cs es.toList 0 _ hf hv).1 rfl;have UM:=run_findKey h2 OJ cs es.toList _ hf hv;rw[m]at UM;obtain⟨z0,hz0,rfl⟩:=Option.map_eq_some_iff.1 h;obtain⟨z,z1,z2⟩:=UH (g:=g) (w:=w) hz0;exact⟨.tuple #[z,.bool false],by simp[Instr.lookup,run_underlying h1,MapKept.run_getObj_map hb,Q7,UM,z1],by simp_all[VR,Bf]⟩
    grind
   grind
  grind
 grind
theorem RJ:∀ (l m:List MapEntry),DV (l++m)=DV l++DV m
 |[],m=>rfl
 | e::l,m=>by simp[DV,RJ l m]
def bx{t:TypeId}{cs N7:List AV}{k v:AV}{uk uv:Value}{b:Nat}{es:Array MapEntry}{Ys:Nat}(h:PH P t cs k v=some N7)(hk:VR g w k uk)(hb:w.heap[b]?=some (.map es Ys))(hv:Bf g w cs (DV es.toList)) :
 (Instr.mapUpdate t (.map (some b)) uk uv).run P w=.ok () { w with heap:=w.heap.setIfInBounds b (.map (es.push { key:=uk,val:=uv,born:=Ys }) (Ys+1)) }/\N7=cs++[k,v]:=by
 unfold PH at h;split at h
 ·rename_i kt agg ks e hm;obtain⟨h1,h2⟩:=Tl hm;split at h
  ·rename_i us Y6;split at h
   ·rename_i OJ;obtain rfl:=Ih Y6 hk;obtain⟨r0,hr0⟩:=Option.isSome_iff_exists.1 OJ;have Q7:=H7 (P:=P) (w:=w) false 20 10000 kt ks agg us r0 (by omega) (HO h2).2 (HO h2).1 hr0;split at h
    ·rename_i hf;simp at h;have m:=(HL h2 cs es.toList 0 _ hf hv).1 rfl;have UM:=run_findKey h2 OJ cs es.toList _ hf hv;rw[m]at UM;exact⟨by simp[Instr.mapUpdate,run_underlying h1,MapKept.run_getObj_map hb,Q7,UM,MapKept.run_setObj_map _ hb],h.symm⟩
    grind
   grind
  grind
 grind
def R.AbV(h:R C A N g st a w)(s:Nat)(lL:Dm s=true)(hs:s∉A.ext) :
 R C A N (g.DJ w.heap.size s) ⟨(st.kill [] [s]).tmps,(s,[])::(st.kill [] [s]).Aj⟩ a (w.alloc (.map #[] 0)):=by
 have hl:=Nk g w (.map #[] 0) s;have Ig:Fr C A (g.DJ w.heap.size s) (w.alloc (.map #[] 0)):=h.fr.step hl rfl ⟨rfl,by simp⟩ rfl (by simp) (λb hb ho=>⟨by grind[Gh.DJ],At w _ b hb⟩) (λq hq he=>hs (by grind));have h1:=h.lasts hl Ig (λq N7 hq CZ=>by
  have ho:=h.ob q N7 hq;exact⟨by simp[Gh.DJ,Nat.ne_of_lt ho.lt,ho.1],At w _ _ ho.lt⟩)
 refine⟨h1.size,h1.defs,h1.tm,λq N7 hq=>?_,h1.fr⟩;simp[lk]at hq
 by_cases rY:s=q
 ·subst rY;simp only[if_true,Option.some.injEq]at hq;subst hq;refine⟨by simp[Gh.DJ],.inr ⟨lL,#[],0,?_,by simp[DV,Bf]⟩⟩;simp only[Gh.DJ,if_true];grind[heap_alloc_new]
 ·simp[rY]at hq;exact h1.ob q N7 hq
def R.Aci(h:R C A N g st a w){s:Nat}(lL:Dm s=true){cs:List AV}(hs:lk s st.Aj=some cs){es:Array MapEntry}{Ys uW:Nat}(hb:w.heap[g.box s]?=some (.map es Ys)){e:MapEntry}{k v:AV}(hk:VR g w k e.key)(hv:VR g w v e.val)(bc:Bf g w cs (DV es.toList)) :
 R C A N g ⟨st.tmps,H3 s (cs++[k,v]) st.Aj⟩ a { w with heap:=w.heap.setIfInBounds (g.box s) (.map (es.push e) uW) }:=by
 have rT:=(h.ob s cs hs).1;obtain⟨UP,hold⟩:=MapKept.heap_set (o':=.map (es.push e) uW) hb;generalize WI:({ w with heap:=w.heap.setIfInBounds (g.box s) (.map (es.push e) uW) }:World)=w';have hh:w'.heap=w.heap.setIfInBounds (g.box s) (.map (es.push e) uW):=by grind
 rw[<- hh]at UP hold;have hl:Lasts [] [] g w g w':=⟨λq hq ho=>⟨ho,hold q (λe=>by grind)⟩,λq r hq _ ho=>⟨ho,hold q (λe=>by grind)⟩,λ_ _=>rfl,λ_ _=>rfl⟩;have Ig:Fr C A g w':=h.fr.step hl (by rw[<- WI]) ⟨by rw[<- WI],by rw[<- WI];exact Nat.le_refl _⟩ (by rw[<- WI]) (by rw[hh];simp) (λq hq ho=>⟨ho,hold q (λe=>by subst e;rw[rT]at ho;cases ho)⟩) (λ_ _ he=>by cases he);have lift:∀ {ds:List AV} {vs:List Value},Bf g w ds vs->Bf g w' ds vs:=λhd=>by have:=Bf.lasts hl _ _ hd;rwa [Kn]at this
 refine⟨h.size,h.defs,λj y hy=>?_,λq N7 hq=>?_,Ig⟩
 ·obtain⟨u,h1,h2⟩:=h.tm j y hy;exact⟨u,h1,by have:=VR.lasts hl y u h2;grind[OO]⟩
 ·simp[iZ]at hq
  by_cases lM:q=s
  ·subst lM;simp[hs]at hq;subst hq;refine⟨rT,.inr ⟨lL,_,_,UP,?_⟩⟩;grind[RJ,Bf.append,DV,Bf]
  ·simp[lM]at hq;have h1:=(h.ob q N7 hq).1;exact(h.ob q N7 hq).lift rfl h1 (hold _ (λe=>by grind)) (λus h4=>lift h4)
def Er.map{s:Nat}{cs:List AV}(h:Er g w s cs)(hk:Dm s=true):∃ es Ys,w.heap[g.box s]?=some (.map es Ys)/\Bf g w cs (DV es.toList):=by obtain⟨_,⟨h1,_⟩|⟨_,h⟩⟩:=h<;>grind
end
end Go.Abs
namespace Go.Abs
def Yi(P:Program)(t:TypeId):Bool:=match P.underlying t with
 |some .string=>true
 |_=>false
def dO(P:Program)(t:TypeId):Option IntKind:=match P.underlying t with
 |some (.int k)=>some k
 |_=>none
def WU:AV->Option AV
 |.sl _ _ es=>some (.v (.int .i64 es.length))
 |.v (.slice none 0 0)=>some (.v (.int .i64 0))
 |.v (.string s)=>some (.v (.int .i64 s.size))
 |.mem true xs=>some (.v (.int .i64 xs.length))
 |_=>none
def P5(P:Program)(t:TypeId):AV->Bool
 |.v (.string _)=>Yi P t
 |_=>AZ P t
def O0:AV->AV->AV->Option AV
 |.v (.bool p),.v (.bool x),.v (.bool y)=>some (.v (.bool (bif p then x else y)))
 |.v (.bool true),x,_=>some x
 |.v (.bool false),_,y=>some y
 |_,_,_=>none
def Mq:AV->Option AV
 |.ptr s o=>some (.ptr s o)
 |.ep t i cs o=>some (.ep t i cs o)
 |.fn f cs=>some (.fn f cs)
 |_=>none
def V5(P:Program)(src dst:TypeId):AV->Option AV
 |.v (.int _ n)=>match dO P src,dO P dst with
  |some _,some k=>some (.v (.int k (k.wrap n)))
  |_,_=>none
 |_=>none
def placeOf(P:Program)(t:TypeId)(i:Nat):Option (Nat × Nat) :=
 match P.underlying t with
 |some (.struct fs)=>match fs[i]? with
  |some f=>(Cn P f.type).map λn=>(f.offset,n)
  |none=>none
 |some (.array _ e)=>(Cn P e).map λn=>(i*n,n)
 |_=>none
def sized(P:Program)(t:TypeId):Bool:=match P.underlying t with
 |some (.struct fs)=>fs.toList.all λf=>(Cn P f.type).isSome
 |some (.array _ e)=>(Cn P e).isSome
 |_=>false
def Wq(P:Program)(t:TypeId)(i:Nat):AV->Option AV
 |.agg cs=>match P.underlying t with
  |some (.struct fs)=>match fs[i]? with
   |some f=>match Bp P f.type,Cn P f.type with
    |some agg,some n=>if f.offset+n<=cs.length then oE agg ((cs.drop f.offset).take n) else none
    |_,_=>none
   |none=>none
  |_=>none
 |_=>none
def U9(P:Program)(t:TypeId):Option (Nat × Nat × Bool):=match P.underlying t with
 |some (.array len e)=>match Cn P e,Bp P e with
  |some n,some b=>some (len,n,b)
  |_,_=>none
 |_=>none
def E3(P:Program)(t:TypeId)(k:AV):AV->Option AV
 |.agg cs=>match k,U9 P t with
  |.v (.int _ k),some (len,n,b)=>if 0<=k/\k<len/\k.toNat*n+n<=cs.length then oE b ((cs.drop (k.toNat*n)).take n) else none
  |_,_=>none
 |.v (.string s)=>match k with
  |.v (.int _ k)=>if Yi P t=true/\0<=k then (s[k.toNat]?).map λc=>.v (.int .u8 c.toNat) else none
  |_=>none
 |_=>none
def DA(C:Ctx)(st:St):Option Operand->Option (Option Nat)
 |none=>some none
 |some o=>(P6 (ev C st o)).map some
def parts(C:Ctx)(st:St)(ps:Array (Nat × Operand)):List (Nat × AV):=ps.toList.map λp=>(p.1,ev C st p.2)
def nm(d:Nat):Nat:=d*64
def Mr(d:Nat):Dm (nm d)=false:=by simp[Dm,nm]
def jl(d:Nat):Nat:=d*64+62
def sK(d:Nat):Dm (jl d)=true:=by simp[Dm,jl]
def Jg(C:Ctx)(st:St)(t:TypeId)(x:AV)(lo hi mx:Option Operand):Option (AV × St) :=
 match DA C st lo,DA C st hi,DA C st mx with
 |some l,some h,some m=>match AE C.P t with
  |some (_,n)=>match elems n x with
   |some es=>match h,m with
    |some h,some m=>if m=h then K3 n true (l.getD 0) h st x else none
    |some h,none=>K3 n false (l.getD 0) h st x
    |none,none=>K3 n false (l.getD 0) es.length st x
    |none,some _=>none
   |none=>none
  |none=>match x,m with
   |.v (.string s),none=>if Yi C.P t/\l.getD 0<=h.getD s.size/\h.getD s.size<=s.size then some (.v (.string (s.extract (l.getD 0) (h.getD s.size))),st) else none
   |_,_=>none
 |_,_,_=>none
def LV(C:Ctx)(dst:Option Nat)(b:Builtin)(xs:List Operand)(ts:List TypeId)(st:St):Option (AV × St) :=
 match b with
 |.len=>match xs,ts with
  |[x],[t]=>if P5 C.P t (ev C st x)=true then (WU (ev C st x)).map (·,st) else none
  |_,_=>none
 |.append=>match dst,xs,ts with
  |some d,[x,y],[t,t2]=>match Cs C.P t with
   |some (e,n,_)=>if AZ C.P t2=true then Q9 (nm d) n st (ev C st x) (ev C st y) else match zeroOf C.P e with
    |some zs=>Og C.P (nm d) n t2 zs st (ev C st x) (ev C st y)
    |none=>none
   |none=>none
  |_,_,_=>none
 |.copy=>match xs,ts with
  |[x,y],t::_=>cZ C.P t st (ev C st x) (ev C st y)
  |_,_=>none
 |.clear=>match xs,ts with
  |[x],[t]=>V1 C.P t st (ev C st x)
  |_,_=>none
 |.cap=>match xs,ts with
  |[x],[t]=>(qj C.P t (ev C st x)).map (·,st)
  |_,_=>none
 |.max=>match xs with
  |[x,y]=>match ev C st x,ev C st y with
   |.v (.int k a),.v (.int _ b)=>some (.v (.int k (if b > a then b else a)),st)
   |_,_=>none
  |_=>none
 |.min=>match xs with
  |[x,y]=>match ev C st x,ev C st y with
   |.v (.int k a),.v (.int _ b)=>some (.v (.int k (if b<a then b else a)),st)
   |_,_=>none
  |_=>none
 |_=>none
def bG(P:Program)(t:TypeId)(Aj:List (Nat × List AV))(m k:AV):Option AV:=match m with
 |.mp s=>(lk s Aj).bind λcs=>Vw P t cs k
 |_=>none
def PJ(P:Program)(t:TypeId)(Aj:List (Nat × List AV))(m k:AV):Option AV:=match m with
 |.mp s=>(lk s Aj).bind λcs=>HP P t cs k
 |_=>none
def Pk(P:Program)(t:TypeId)(ok:Bool):AV->Option AV
 |.Kb t' y=>if P.concrete t=true/\t'=t then some (if ok=true then .BC [y,.v (.bool true)] else y) else none
 |_=>none
def RT(P:Program)(t:TypeId)(Aj:List (Nat × List AV))(m k v:AV):Option (List (Nat × List AV)):=match m with
 |.mp s=>(lk s Aj).bind λcs=>(PH P t cs k v).map λN7=>H3 s N7 Aj
 |_=>none
def JF(C:Ctx)(o:Oper)(st:St):Option (AV × St) :=
 match o.op with
 |.move x=>some (ev C st x,st)
 |.assign x=>some (ev C st x,st)
 |.pick c a b=>(O0 (ev C st c) (ev C st a) (ev C st b)).map (·,st)
 |.alloc t=>match o.dst,zeroOf C.P t with
  |some d,some zs=>some (.ptr (nm d) 0,⟨(st.kill [] [nm d]).tmps,(nm d,vals zs)::(st.kill [] [nm d]).Aj⟩)
  |_,_=>none
 |.box _ x=>match o.dst with
  |some d=>if DD (ev C st x).cells=true then some (.ptr (nm d) 0,⟨(st.kill [] [nm d]).tmps,(nm d,NQ [] [nm d] (ev C st x).cells)::(st.kill [] [nm d]).Aj⟩) else none
  |none=>none
 |.load t a=>match Bp C.P t,Cn C.P t with
  |some agg,some n=>(NS agg n st.Aj (ev C st a)).map (·,st)
  |_,_=>none
 |.store t a x=>match o.dst,Cn C.P t with
  |none,some n=>(TB n st (ev C st a) (ev C st x)).map (.undef,·)
  |_,_=>none
 |.fieldAddr t x i=>match Bq C.P t i with
  |some off=>(QA off (ev C st x)).map (·,st)
  |none=>none
 |.indexAddr t x i=>match ev C st i with
  |.v (.int _ k)=>match AE C.P t with
   |some (_,n)=>(Ta n k (ev C st x)).map (·,st)
   |none=>match El C.P t with
    |some (len,n)=>(S9 len n k (ev C st x)).map (·,st)
    |none=>none
  |_=>none
 |.nilCheck x=>(Mq (ev C st x)).map (·,st)
 |.binOp op t x y _=>(gD C.P op t (ev C st x) (ev C st y)).map (·,st)
 |.unOp op _ x=>(cL op (ev C st x)).map (·,st)
 |.convert src dst x=>(V5 C.P src dst (ev C st x)).map (·,st)
 |.extract x i=>match ev C st x with
  |.BC cs=>(cs[i]?).map (·,st)
  |_=>none
 |.field t x i=>(Wq C.P t i (ev C st x)).map (·,st)
 |.index t x i=>(E3 C.P t (ev C st i) (ev C st x)).map (·,st)
 |.build t ps=>match zeroOf C.P t,Bp C.P t with
  |some zs,some true=>if sized C.P t=true then (Oy (placeOf C.P t) (vals zs) (parts C st ps)).map (.agg ·,st) else none
  |_,_=>none
 |.buildSlice t len ps=>match o.dst,Cs C.P t with
  |some d,some (e,n,_)=>match zeroOf C.P e with
   |some zs=>sk (nm d) n len zs st (parts C st ps)
   |none=>none
  |_,_=>none
 |.makeSlice t l c=>match o.dst,Cs C.P t,ev C st l,ev C st c with
  |some d,some (e,n,_),.v (.int _ l),.v (.int _ c)=>match zeroOf C.P e with
   |some zs=>Zl (nm d) n zs st l c
   |none=>none
  |_,_,_,_=>none
 |.slice t x lo hi mx=>Jg C st t (ev C st x) lo hi mx
 |.makeFunc fn first CW=>match fn,first.toList,CW.toList with
  |.func f,[],cs=>some (.fn f (cs.map (ev C st)),st)
  |.func f,x::xs,[]=>some (.mv f ((x::xs).map (ev C st)),st)
  |_,_,_=>none
 |.makeInterface t x=>if C.P.concrete t then some (.Kb t (ev C st x),st) else none
 |.call c=>match c.callee with
  |.builtin b=>LV C o.dst b c.args.toList c.argTypes.toList st
  |_=>none
 |.makeMap _ rv=>match o.dst,rv with
  |some d,none=>some (.mp (jl d),⟨(st.kill [] [jl d]).tmps,(jl d,[])::(st.kill [] [jl d]).Aj⟩)
  |_,_=>none
 |.lookup t m k ok=>match ok with
  | false=>(bG C.P t st.Aj (ev C st m) (ev C st k)).map (·,st)
  | true=>(PJ C.P t st.Aj (ev C st m) (ev C st k)).map (·,st)
 |.typeAssert x _ t ok=>(Pk C.P t ok (ev C st x)).map (·,st)
 |.mapUpdate t m k v=>match o.dst with
  |none=>(RT C.P t st.Aj (ev C st m) (ev C st k) (ev C st v)).map λos=>(.undef,⟨st.tmps,os⟩)
  |some _=>none
 |_=>none
section
variable {C:Ctx} {A:A0} {N:Nat} {g g':Gh} {st:St} {a:Act} {w w':World} {P:Program}
def TC{t:TypeId}(h:Yi P t=true):P.underlying t=some .string:=by grind[Yi]
def oi{t:TypeId}{k:IntKind}(h:dO P t=some k):P.underlying t=some (.int k):=by grind[dO]
def LG{t:TypeId}(h:AZ P t=true):∃ e,P.underlying t=some (.slice e):=by grind[AZ]
def Xl{x y z r:AV}{ux uy uz:Value}(hx:VR g w x ux)(hy:VR g w y uy)(hz:VR g w z uz)(h:O0 x y z=some r) :
 ∃ u,(do pure (.value (if <- asBool ux then uy else uz)):Sem Next).run P w=.ok (.value u) w/\VR g w r u:=by
 unfold O0 at h;split at h
 ·rename_i p b c;simp[VR]at hx hy hz;subst hx;subst hy;subst hz;simp at h;subst h;simp_all[asBool,VR]
 ·simp_all[VR,asBool]
 ·simp_all[VR,asBool]
 grind
def Zi{t ty:TypeId}{x r:AV}{ux:Value}(ht:AZ P t=true\/Yi P t=true)(hx:VR g w x ux)(h:WU x=some r)
 (hk:(∃ s,x=.v (.string s))->Yi P t=true) (pG:(¬ ∃ s,x=.v (.string s))->AZ P t=true):∃ u,(Builtin.len_ #[t] ty #[ux]).run P w=.ok u w/\VR g w r u:=by
 unfold WU at h;split at h
 ·rename_i t' n es;simp at h;subst h;obtain⟨e,he⟩:=LG (pG (by grind));have:∃ a cap,ux=.slice a es.length cap:=by
   cases t' with
   | own r lo =>
    simp only[VR,Dr]at hx;grind
   | no=>simp only[VR,PR]at hx;grind
   | full=>simp only[VR,PR]at hx;grind
  obtain⟨a,cap,rfl⟩:=this;simp_all[Builtin.len_,run_underlying,goInt,VR]
 ·simp at h;subst h;simp[VR]at hx;subst hx;obtain⟨e,he⟩:=LG (pG (by grind));simp_all[Builtin.len_,run_underlying,goInt,VR]
 ·simp at h;subst h;simp_all[VR,TC,Builtin.len_,run_underlying,goInt]
 ·rename_i xs;simp at h;subst h;obtain⟨e,he⟩:=LG (pG (by grind));simp only[VR,gw]at hx;obtain⟨ad,vs,_,_,hv,cap,rfl,_,_⟩:=hx;have hl:=Bf.length hv;simp_all[Builtin.len_,run_underlying,goInt,VR]
 grind
def T0{src dst:TypeId}{x r:AV}{ux:Value}(hx:VR g w x ux)(h:V5 P src dst x=some r):∃ u,(convert src dst ux).run P w=.ok u w/\VR g w r u:=by
 unfold V5 at h;split at h
 ·simp[VR]at hx;subst hx;split at h
  ·rename_i k1 k2 h1 h2;simp at h;subst h;simp_all[VR,convert,run_underlying,oi,Conv.intToInt]
  grind
 grind
end
end Go.Abs
namespace Go.Abs
section
variable {C:Ctx} {A:A0} {N:Nat} {g g':Gh} {st:St} {a:Act} {w w':World}
def QT{P:Program}{t:TypeId}{v:Value}{w:World}:(newVar t v).run P w=.ok ⟨w.heap.size,0,none⟩ (w.alloc (.cells v.cells t)):=by simp[newVar,newRow]
theorem Hx(hR:R C A N g st a w)(l:List Operand):Bf g w (l.map (ev C st)) (l.map a.eval):=by
 induction l with
 | nil=>simp[Bf]
 | cons x l ih=>simp[Bf];exact⟨hR.ev x,ih⟩
def ji{x:AV}{n:Nat}{u:Value}(h:P6 x=some n)(hx:VR g w x u):∃ k,u=.int k n:=by
 unfold P6 at h;grind[VR]
def IN(hR:R C A N g st a w){o:Option Operand}{b:Option Nat}(h:DA C st o=some b):(o.map a.eval=none/\b=none)\/(∃ n k,b=some n/\o.map a.eval=some (.int k n)):=by
 unfold DA at h;split at h
 ·grind
 ·rename_i x;obtain⟨n,hn,rfl⟩:=Option.map_eq_some_iff.1 h;obtain⟨k,hk⟩:=ji hn (hR.ev x);grind
def Qh{P:Program}{t e:TypeId}{x:Value}{lo hi mx:Option Value}(h:P.underlying t=some (.slice e)):(Instr.sliceAt t x lo hi mx).run P w=(Instr.slice t x lo hi mx).run P w:=by simp[Instr.sliceAt,run_underlying h]
def XH{P:Program}{t:TypeId}{x:Value}{lo hi mx:Option Value}(h:P.underlying t=some .string):(Instr.sliceAt t x lo hi mx).run P w=(Instr.slice t x lo hi mx).run P w:=by simp[Instr.sliceAt,run_underlying h]
def L0{P:Program}{t e n:Nat}(h:AE P t=some (e,n)):P.underlying t=some (.slice e)/\Cn P e=some n:=by
 unfold AE at h;split at h
 ·rename_i e' he;obtain⟨n',iH,hh⟩:=Option.map_eq_some_iff.1 h;grind
 grind
def Qi(hR:R C A N g st a w){t:TypeId}{x:Operand}{lo hi mx:Option Operand}{z:AV}{st':St}(h:Jg C st t (ev C st x) lo hi mx=some (z,st')) :
 ∃ u w' g',(Instr.sliceAt t (a.eval x) (lo.map a.eval) (hi.map a.eval) (mx.map a.eval)).run C.P w=.ok u w'/\R C A N g' st' a w'/\VR g' w' z u/\(((∀ r lo m es,ev C st x≠.sl (.own r lo) m es)\/mx=none)->g'=g/\w'=w):=by
 unfold Jg at h;split at h
 ·rename_i l hh m hl hhh hm;have bl:=IN hR hl;have bh:=IN hR hhh;have bm:=IN hR hm;split at h
  ·rename_i e n gd;obtain⟨lP,IE⟩:=L0 gd;rw[Qh lP];split at h
   ·rename_i es hes;have hlen:∀ P3,elems n (ev C st x)=some P3->P3.length=es.length:=λP3 h'=>by grind
    have Ug:∃ kl,(lo.map a.eval=none/\l.getD 0=0)\/lo.map a.eval=some (.int kl (l.getD 0:Nat)):=by
     rcases bl with ⟨h1,rfl⟩|⟨n',k,rfl,h1⟩
     ·simp_all
     grind
    obtain⟨kl,Ug⟩:=Ug;split at h
    ·rename_i h0 m0;split at h
     ·rename_i hmh;subst hmh;rcases bh with ⟨_,hc⟩|⟨n',kh,hc,h2⟩
      ·grind
      ·injection hc with hc;subst hc
       rcases bm with ⟨_,hc⟩|⟨n'',km,hc,h3⟩
       ·grind
       ·injection hc with hc;subst hc
        obtain⟨u,g',k1,k2,k3,k4⟩:=Pa (full:=true) (mx:=mx.map a.eval) hR gd (hR.ev x) hlen Ug (.inr h2) (by simp only[if_true];exact h3) (λ_=>h2) h;grind
     grind
    ·rename_i h0;rcases bh with ⟨_,hc⟩|⟨n',kh,hc,h2⟩
     ·grind
     ·injection hc with hc;subst hc
      rcases bm with ⟨h3,_⟩|⟨_,_,hc,_⟩
      ·obtain⟨u,g',k1,k2,k3,k4⟩:=Pa (full:=false) (mx:=mx.map a.eval) (km:=.i64) hR gd (hR.ev x) hlen Ug (.inr h2) (by grind) (λh=>by cases h) h;grind
      grind
    ·rcases bh with ⟨h2,_⟩|⟨_,_,hc,_⟩
     ·rcases bm with ⟨h3,_⟩|⟨_,_,hc,_⟩
      ·obtain⟨u,g',k1,k2,k3,k4⟩:=Pa (full:=false) (mx:=mx.map a.eval) (kh:=.i64) (km:=.i64) hR gd (hR.ev x) hlen Ug (.inl ⟨h2,rfl⟩) (by grind) (λh=>by cases h) h;grind
      grind
     grind
    grind
   grind
  ·split at h
   ·rename_i s zg;split at h
    ·rename_i hc;simp at h;obtain⟨rfl,rfl⟩:=h;obtain⟨hs,h1,h2⟩:=hc;have GR:=TC hs;rw[XH GR];have zh:=hR.ev x;rw[zg]at zh;simp[VR]at zh;rw[zh];have e3:mx.map a.eval=none:=by grind
     rw[e3];refine⟨.string (s.extract (l.getD 0) (hh.getD s.size)),w,g,?_,hR,by grind[VR],λ_=>⟨rfl,rfl⟩⟩;rcases bl with ⟨e1,rfl⟩|⟨n1,k1,rfl,e1⟩<;>rcases bh with ⟨e2,rfl⟩|⟨n2,k2,rfl,e2⟩<;>rw[e1,e2]<;>simp only[Option.getD_none,Option.getD_some]at h1 h2 ⊢
     ·simp[Instr.slice,run_underlying GR,Instr.sliceBounds]
     ·simp_all[run_sliceBound,Instr.slice,run_underlying,Instr.sliceBounds]
     ·simp_all[run_sliceBound,Instr.slice,run_underlying,Instr.sliceBounds]
     simp_all[run_sliceBound,Instr.slice,run_underlying,Instr.sliceBounds]
    grind
   grind
 grind
theorem eo{P:Program}(fs:List Field)(h:∀ f∈fs,(Cn P f.type).isSome):(fs.mapM λf=>(do pure (f.offset,<- sizeOf f.type):Sem (Nat × Nat))).run P w=.ok (fs.map λf=>(f.offset,(Cn P f.type).getD 0)) w:=by
 induction fs with
 | nil=>simp
 | cons f fs ih =>
  have hf:=h f (by simp);obtain⟨n,hn⟩:=Option.isSome_iff_exists.1 hf;simp_all[run_sizeOf]
def QB(p q:Nat->Option (Nat × Nat)):∀ (l:List (Nat × Value)) (cs:Array Value),(∀ x∈l,p x.1=q x.1)->Instr.fill p cs l=Instr.fill q cs l
 |[],_,_=>rfl
 |(i,v)::l,cs,h=>by
  have h0:=h (i,v) (by simp);simp only at h0;simp only[Instr.fill,h0];split
  ·rfl
  ·split
   ·rfl
   ·exact QB p q l _ λx hx=>h x (by simp[hx])
def TN{P:Program}{t:TypeId}{zs:List Value}(hz:zeroOf P t=some zs)(hag:Bp P t=some true)(Hb:sized P t=true){ps:List (Nat × AV)}{pv:List (Nat × Value)}
 (h1:ps.map (·.1)=pv.map (·.1)) (h2:Bf g w (ps.map (·.2)) (pv.map (·.2))) {L:List AV} (hf:Oy (placeOf P t) (vals zs) ps=some L) :
 ∃ u,(Instr.build t pv.toArray).run P w=.ok u w/\VR g w (.agg L) u:=by
 have pK:∃ i z,P.info? t=some i/\i.zero=some z/\zs=z.cells.toList:=by grind[zeroOf,Option.map_eq_some_iff,Option.bind_eq_some_iff]
 obtain⟨i,z,hi,hiz,rfl⟩:=pK;obtain⟨cur,k1,k2⟩:=Nd (placeOf P t) ps pv (vals z.cells.toList) z.cells L h1 h2 (Kv _) hf;refine⟨.agg cur,?_,cur,rfl,k2⟩;unfold sized at Hb;split at Hb
 ·rename_i fs hu;have Ka:∀ f∈fs.toList,(Cn P f.type).isSome:=λf hf=>List.all_eq_true.1 Hb f hf
  have hmm:(fs.mapM λf=>(do pure (f.offset,<- sizeOf f.type):Sem (Nat × Nat))).run P w=.ok (fs.toList.map λf=>(f.offset,(Cn P f.type).getD 0)).toArray w:=by grind[Array.mapM_eq_mapM_toList,Sem.run_map,eo,Result.andThen_ok]
  have hp:∀ i,((fs.toList.map λf=>(f.offset,(Cn P f.type).getD 0)).toArray)[i]?=placeOf P t i:=λi=>by grind[placeOf,Option.isSome_iff_exists]
  have yS:=QB (λi=>((fs.toList.map λf=>(f.offset,(Cn P f.type).getD 0)).toArray)[i]?) (placeOf P t) pv z.cells (λx _=>hp x.1);simp_all[Instr.build,zeroValue,run_typeInfo,run_underlying]
 ·rename_i n e hu;obtain⟨m,hm⟩:=Option.isSome_iff_exists.1 Hb;have hp:∀ i,(some (i*m,m):Option (Nat × Nat))=placeOf P t i:=λi=>by grind[placeOf]
  have yS:=QB (λi=>some (i*m,m)) (placeOf P t) pv z.cells (λx _=>hp x.1);simp_all[Instr.build,zeroValue,run_typeInfo,run_underlying,run_sizeOf]
 grind
def RG{P:Program}{t:TypeId}{i:Nat}{x z:AV}{ux:Value}(hx:VR g w x ux)(h:Wq P t i x=some z):∃ u,(Instr.field t ux i).run P w=.ok u w/\VR g w z u:=by
 unfold Wq at h;split at h
 ·rename_i cs;simp[VR]at hx;obtain⟨us,rfl,hv⟩:=hx;split at h
  ·rename_i fs hu;split at h
   ·rename_i f hf;split at h
    ·rename_i agg n h1 h2;split at h
     ·rename_i hle;have hlen:cs.length=us.toList.length:=Bf.length hv;have GJ:=Bf.take n (Bf.drop f.offset hv);unfold Instr.field;simp only[Sem.run_bind,run_underlying hu,Result.andThen_ok,hf,asAgg,Sem.run_pure,part,Kp h1];cases agg with
      | true =>
       simp[oE]at h;subst h;simp only[if_true,Sem.run_bind,run_sizeOf h2,Result.andThen_ok,Sem.run_pure];refine⟨_,rfl,_,rfl,?_⟩;simp_all
      | false =>
       simp[oE]at h;split at h
       ·rename_i c hc;simp at h;subst h;rw[hc]at GJ
        match Y6:(us.toList.drop f.offset).take n,GJ with
        |[u],GJ =>
         simp only[Bf]at GJ;have h0:us[f.offset]?=some u:=by
          have:((us.toList.drop f.offset).take n)[0]?=some u:=by grind
          grind
         simp_all
        |[],GJ=>grind[Bf]
        |_::_::_,GJ=>grind[Bf]
       grind
     grind
    grind
   grind
  grind
 grind
def WJ{P:Program}{t:TypeId}{k x z:AV}{uk ux:Value}(hk:VR g w k uk)(hx:VR g w x ux)(h:E3 P t k x=some z):∃ u,(Instr.index t ux uk).run P w=.ok u w/\VR g w z u:=by
 unfold E3 at h;split at h
 ·rename_i cs;simp[VR]at hx;obtain⟨us,rfl,hv⟩:=hx;split at h
  ·rename_i kk ki len n b he;simp[VR]at hk;subst hk;split at h
   ·rename_i hle;obtain⟨h0,h1,h2⟩:=hle;unfold U9 at he;split at he
    ·rename_i Afe e hu;split at he
     ·rename_i n' b' hn hb;simp at he;obtain⟨rfl,rfl,rfl⟩:=he;have hlen:cs.length=us.toList.length:=Bf.length hv;have GJ:=Bf.take n' (Bf.drop (ki.toNat*n') hv);unfold Instr.index;simp only[asIntOf,Sem.run_bind,Sem.run_pure,Result.andThen_ok,run_underlying hu,h0,h1,and_self,if_true,run_sizeOf hn,part,Kp hb];cases b' with
      | true =>
       simp[oE]at h;subst h;simp only[if_true,Sem.run_bind,run_sizeOf hn,Result.andThen_ok,Sem.run_pure];refine⟨_,rfl,_,rfl,?_⟩;simp_all
      | false =>
       simp[oE]at h;split at h
       ·rename_i c hc;simp at h;subst h;rw[hc]at GJ
        match Y6:(us.toList.drop (ki.toNat*n')).take n',GJ with
        |[u],GJ =>
         simp only[Bf]at GJ;have h0:us[ki.toNat*n']?=some u:=by
          have:((us.toList.drop (ki.toNat*n')).take n')[0]?=some u:=by grind
          grind
         simp_all
        |[],GJ=>grind[Bf]
        |_::_::_,GJ=>grind[Bf]
       grind
     grind
    grind
   grind
  grind
 ·rename_i s;split at h
  ·rename_i kk ki;simp[VR]at hk hx;subst hk;subst hx;split at h
   ·rename_i hc;obtain⟨hs,h0⟩:=hc;obtain⟨b,hb,rfl⟩:=Option.map_eq_some_iff.1 h;simp_all[Instr.index,asIntOf,run_underlying,TC,VR]
   grind
  grind
 grind
end
end Go.Abs
