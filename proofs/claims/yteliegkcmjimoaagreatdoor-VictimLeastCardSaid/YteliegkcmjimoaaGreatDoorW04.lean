/- part 4 of the proof -/
import Derived.Test.YteliegkcmjimoaaGreatDoorW03
set_option linter.all false
namespace Go.Abs
section
variable {C:Ctx} {A:A0} {N:Nat} {g g':Gh} {st st':St} {a:Act} {w w':World}
def Steps(C:Ctx)(A:A0)(N:Nat)(o:Oper)(a:Act)(w:World)(x:AV)(st':St):Prop :=
 ∃ u w' g',Does C.P o a w u w'/\R C A N g' st' a w'/\VR g' w' x u
def Steps.pure(hR:R C A N g st a w){o:Oper}{x:AV}{s:Sem Value}(ho:execOp a.eval o=(do Pure.pure (Next.value (<- s))))(h:∃ u,s.run C.P w=.ok u w/\VR g w x u):Steps C A N o a w x st:=by
 obtain⟨u,h1,h2⟩:=h;exact⟨u,w,g,Kg ho h1,hR,h2⟩
def Steps.of{o:Oper}{x:AV}{s:Sem Value}(ho:execOp a.eval o=(do Pure.pure (Next.value (<- s))))(h:∃ u w' g',s.run C.P w=.ok u w'/\R C A N g' st' a w'/\VR g' w' x u):Steps C A N o a w x st':=by
 obtain⟨u,w',g',h1,h2,h3⟩:=h;exact⟨u,w',g',Kg ho h1,h2,h3⟩
def DO{α:Type}{m:Option α}{f:α->AV}{st st':St}{x:AV}(h:(m.map λy=>(f y,st))=some (x,st')):∃ y,m=some y/\f y=x/\st'=st:=by cases m<;>grind
def Zv{x r:AV}{ux:Value}(hx:VR g w x ux)(h:Mq x=some r){o:Oper}{y:Operand}(ho:o.op=.nilCheck y)(hy:a.eval y=ux):(execOp a.eval o).run C.P w=.ok (.value ux) w/\VR g w r ux:=by
 unfold Mq at h;split at h
 ·simp at h;subst h;simp_all[VR,execOp]
 ·simp at h;subst h;refine⟨?_,hx⟩;have:∃ ad,ux=.pointer (some ad):=by
   simp[VR]at hx;unfold Ix at hx;grind
  obtain⟨ad,rfl⟩:=this;simp[execOp,ho,hy]
 ·simp at h;subst h;refine⟨?_,hx⟩;simp[VR]at hx;obtain⟨us,hx,_⟩:=hx;simp_all[execOp]
 grind
def Zn(a:Act)(ps:Array (Nat × Operand))(f:Nat × Operand->Nat × Value)(h:∀ i x,f (i,x)=(i,a.eval x)):ps.map f=(ps.toList.map λp=>(p.1,a.eval p.2)).toArray:=by grind
def Wi(ρ:Act){o:Oper}{t:TypeId}{ps:Array (Nat × Operand)}(ho:o.op=.build t ps):execOp ρ.eval o=(do Pure.pure (Next.value (<- Instr.build t (ps.toList.map λp=>(p.1,ρ.eval p.2)).toArray))):=by
 unfold execOp;rw[ho];dsimp only;rw[Zn ρ ps _ (λ_ _=>rfl)]
def NL(ρ:Act){o:Oper}{t:TypeId}{len:Nat}{ps:Array (Nat × Operand)}(ho:o.op=.buildSlice t len ps):execOp ρ.eval o=(do Pure.pure (Next.value (<- Instr.buildSlice t len (ps.toList.map λp=>(p.1,ρ.eval p.2)).toArray))):=by
 unfold execOp;rw[ho];dsimp only;rw[Zn ρ ps _ (λ_ _=>rfl)]
def Pj(hR:R C A N g st a w)(ps:Array (Nat × Operand)):Bf g w ((parts C st ps).map (·.2)) ((ps.toList.map λp=>(p.1,a.eval p.2)).map (·.2)):=by
 have:=Hx hR (ps.toList.map (·.2));grind[parts,Function.comp_def]
def Ul(S T:List Nat):∀ zs:List Value,NQ S T (vals zs)=vals zs
 |[]=>rfl
 | z::zs=>by
  have:=Ul S T zs;simp only[vals,List.map_cons,NQ,F0,AV.Cz]at this ⊢;rw[this]
theorem M5(ρ:Act){o:Oper}{b:Builtin}{xs:Array Operand}{ts:Array TypeId}(ho:o.op=.call { callee:=.builtin b,args:=xs,argTypes:=ts }):∃ consts,execOp ρ.eval o=builtin b ts o.type consts (xs.map ρ.eval):=by
 refine⟨xs.map fun|.const _=>true|_=>false,?_⟩;unfold execOp;rw[ho];rfl
def WV{t ty:TypeId}{x r:AV}{ux:Value}{P:Program}(ht:P5 P t x=true)(hx:VR g w x ux)(h:WU x=some r):∃ u,(Builtin.len_ #[t] ty #[ux]).run P w=.ok u w/\VR g w r u:=by
 by_cases hs:∃ s,x=.v (.string s)
 ·have:Yi P t=true:=by obtain⟨s,rfl⟩:=hs;exact ht
  exact Zi (.inr this) hx h (λ_=>this) (λhn=>(hn hs).elim)
 ·have:AZ P t=true:=by
   simp_all[P5]
  exact Zi (.inl this) hx h (λh=>(hs h).elim) (λ_=>this)
def cH{α:Type}{a:Array α}{x:α}(h:a.toList=[x]):a = #[x]:=by grind
def ag{α:Type}{a:Array α}{x y:α}(h:a.toList=[x,y]):a = #[x,y]:=by grind
def VU(hR:R C A N g st a w){o:Oper}{b:Builtin}{xs:Array Operand}{ts:Array TypeId}{consts:Array Bool}(he:execOp a.eval o=builtin b ts o.type consts (xs.map a.eval)){x:AV}
 (h:LV C o.dst b xs.toList ts.toList st=some (x,st')):Steps C A N o a w x st':=by
 unfold LV at h;split at h
 ·split at h
  ·rename_i y t hy ht;split at h
   ·rename_i CC;obtain⟨r,h1,rfl,rfl⟩:=DO h;refine .pure hR he ?_;rw[cH hy,cH ht];simp;exact WV CC (hR.ev y) h1
   grind
  grind
 ·split at h
  ·rename_i d y z t t2 hd hy ht;split at h
   ·rename_i e n b hr;split at h
    ·rename_i hs;refine .of he ?_;rw[ag hy,ag ht];simp only[List.map_toArray,List.map_cons,List.map_nil];exact af hR hr hs (hR.ev y) (hR.ev z) h
    ·split at h
     ·rename_i zs cm;refine .of he ?_;rw[ag hy,ag ht];simp only[List.map_toArray,List.map_cons,List.map_nil];exact XX hR hr cm (hR.ev y) (hR.ev z) h
     grind
   grind
  grind
 ·split at h
  ·rename_i y z t tl hy ht;refine .of he ?_;rw[ag hy];simp only[List.map_toArray,List.map_cons,List.map_nil];exact gQ hR (by rw[<- Array.getElem?_toList,ht];rfl) (hR.ev y) (hR.ev z) h
  grind
 ·split at h
  ·rename_i y t hy ht;refine .of he ?_;rw[cH hy,cH ht];simp only[List.map_toArray,List.map_cons,List.map_nil];exact cW hR rfl (hR.ev y) h
  grind
 ·split at h
  ·rename_i y t hy ht;obtain⟨r,h1,rfl,rfl⟩:=DO h;refine .pure hR he ?_;rw[cH hy,cH ht];simp;exact mW rfl (hR.ev y) h1
  grind
 ·split at h
  ·rename_i y z hy;split at h
   ·rename_i k p k' q hp hq;have h':=Option.some.inj h;obtain⟨rfl,rfl⟩:=Prod.mk.inj h';have e1:=hR.ev y;have e2:=hR.ev z;rw[hp]at e1;rw[hq]at e2;simp[VR]at e1 e2;refine .pure hR he ⟨_,?_,by simp only[VR];rfl⟩;simp_all[Builtin.max_,Builtin.max2]
   grind
  grind
 ·split at h
  ·rename_i y z hy;split at h
   ·rename_i k p k' q hp hq;have h':=Option.some.inj h;obtain⟨rfl,rfl⟩:=Prod.mk.inj h';have e1:=hR.ev y;have e2:=hR.ev z;rw[hp]at e1;rw[hq]at e2;simp[VR]at e1 e2;refine .pure hR he ⟨_,?_,by simp[VR];rfl⟩;simp_all[Builtin.min_,Builtin.min2]
   grind
  grind
 grind
def V4{P:Program}{t:TypeId}(h:P.concrete t=true):∃ u,P.underlying t=some u/\∀ ms,u≠.interface ms:=by
 unfold Program.concrete at h;cases hd:P.underlying t<;>grind
def Rc{P:Program}{x y:AV}{u:Value}{xt t:TypeId}{ok:Bool}(hx:VR g w x u)(h:Pk P t ok x=some y):∃ v,(Instr.typeAssert u xt t ok).run P w=.ok v w/\VR g w y v:=by
 unfold Pk at h;split at h
 ·rename_i t' z;split at h
  ·rename_i hc;obtain⟨hc,rfl⟩:=hc;have h':=Option.some.inj h;subst h';simp[VR]at hx;obtain⟨v,rfl,hv⟩:=hx;obtain⟨ut,hu,hn⟩:=V4 hc;cases ok<;>simp_all[Instr.typeAssert,run_underlying,VR,Bf]
  grind
 grind
def UE(hR:R C A N g st a w){o:Oper}(JR:∀ d,o.dst=some d->nm d∉A.ext/\jl d∉A.ext){x:AV}(h:JF C o st=some (x,st')):Steps C A N o a w x st':=by
 obtain⟨dst,op,ty,after,x2,x3⟩:=o;simp only at JR;cases op<;>simp only[JF]at h
 case makeMap t rv =>
  split at h
  ·rename_i d;have h':=Option.some.inj h;obtain⟨rfl,rfl⟩:=Prod.mk.inj h';have hb:=hR.AbV (jl d) (sK d) (JR d rfl).2;refine .of (s:=Instr.makeMap t none) rfl ⟨.map (some w.heap.size),_,_,?_,hb,?_⟩
   ·simp[Instr.makeMap,newObj];rfl
   ·simp[VR,Gh.DJ,sK]
  grind
 case lookup t m k ok =>
  split at h
  ·obtain⟨r,h1,rfl,rfl⟩:=DO h;unfold bG at h1;split at h1
   ·rename_i s hm;obtain⟨cs,h2,h3⟩:=Option.bind_eq_some_iff.1 h1;have e1:=hR.ev m;rw[hm]at e1;simp[VR]at e1;obtain⟨m1,m2⟩:=e1;obtain⟨es,Ys,k1,k2⟩:=(hR.ob s cs h2).map m1;obtain⟨u,j1,j2⟩:=bH h3 (hR.ev k) k1 k2;exact .pure hR (s:=Instr.lookup t (a.eval m) (a.eval k) false) rfl ⟨u,by grind,j2⟩
   grind
  ·obtain⟨r,h1,rfl,rfl⟩:=DO h;unfold PJ at h1;split at h1
   ·rename_i s hm;obtain⟨cs,h2,h3⟩:=Option.bind_eq_some_iff.1 h1;have e1:=hR.ev m;rw[hm]at e1;simp[VR]at e1;obtain⟨m1,m2⟩:=e1;obtain⟨es,Ys,k1,k2⟩:=(hR.ob s cs h2).map m1;obtain⟨u,j1,j2⟩:=W2 h3 (hR.ev k) k1 k2;exact .pure hR (s:=Instr.lookup t (a.eval m) (a.eval k) true) rfl ⟨u,by grind,j2⟩
   grind
 case typeAssert y xt t ok =>
  obtain⟨r,h1,rfl,rfl⟩:=DO h;obtain⟨u,j1,j2⟩:=Rc (P:=C.P) (xt:=xt) (hR.ev y) h1;exact .pure hR (s:=Instr.typeAssert (a.eval y) xt t ok) rfl ⟨u,j1,j2⟩
 case mapUpdate t m k v =>
  split at h
  ·obtain⟨r,h1,h4⟩:=Option.map_eq_some_iff.1 h;obtain⟨rfl,rfl⟩:=Prod.mk.inj h4;unfold RT at h1;split at h1
   ·rename_i s hm;obtain⟨cs,h2,h3⟩:=Option.bind_eq_some_iff.1 h1;obtain⟨N7,h5,rfl⟩:=Option.map_eq_some_iff.1 h3;have e1:=hR.ev m;rw[hm]at e1;simp[VR]at e1;obtain⟨m1,m2⟩:=e1;obtain⟨es,Ys,k1,k2⟩:=(hR.ob s cs h2).map m1;obtain⟨j1,rfl⟩:=bx (uv:=a.eval v) h5 (hR.ev k) k1 k2;exact⟨undef,_,g,.inr ⟨by simp only[execOp,m2,Sem.run_bind,j1];rfl,rfl⟩,hR.Aci m1 h2 k1 (e:=⟨a.eval k,a.eval v,Ys⟩) (hR.ev k) (hR.ev v) k2,by simp[VR]⟩
   grind
  grind
 case move y=>simp at h;obtain⟨rfl,rfl⟩:=h;exact⟨_,w,g,.inl rfl,hR,hR.ev y⟩
 case assign y=>simp at h;obtain⟨rfl,rfl⟩:=h;exact⟨_,w,g,.inl rfl,hR,hR.ev y⟩
 case pick c y z =>
  obtain⟨r,h1,rfl,rfl⟩:=DO h;obtain⟨u,k1,k2⟩:=Xl (P:=C.P) (hR.ev c) (hR.ev y) (hR.ev z) h1;exact⟨u,w,g,.inl k1,hR,k2⟩
 case alloc t =>
  split at h
  ·rename_i d zs hz;have h':=Option.some.inj h;obtain⟨rfl,rfl⟩:=Prod.mk.inj h';have pK:∃ z,(zeroValue t).run C.P w=.ok z w/\zs=z.cells.toList:=by
    unfold zeroOf at hz;obtain⟨z,ox,xr⟩:=Option.map_eq_some_iff.1 hz;obtain⟨i,hi,hiz⟩:=Option.bind_eq_some_iff.1 ox;simp_all[zeroValue,run_typeInfo]
   obtain⟨z,ox,rfl⟩:=pK;have hk:NQ [] [nm d] (vals z.cells.toList)=vals z.cells.toList:=Ul [] [nm d] _;have hb:=hR.DJ (nm d) (Mr d) (JR d rfl).1 z.cells t (vals z.cells.toList) (Kv _);rw[hk]at hb;refine .of (s:=Instr.alloc t true (.tuple #[])) rfl ⟨.pointer (some ⟨w.heap.size,0,none⟩),_,_,?_,hb,?_⟩<;>simp_all[Instr.alloc,QT,VR,Gh.DJ,Mr]
  grind
 case box t y =>
  split at h
  ·rename_i d;split at h
   ·rename_i CC;have h':=Option.some.inj h;obtain⟨rfl,rfl⟩:=Prod.mk.inj h';have hb:=hR.DJ (nm d) (Mr d) (JR d rfl).1 (a.eval y).cells t (ev C st y).cells (VR.cells (hR.ev y) CC);refine .of (s:=Instr.box t (a.eval y)) rfl ⟨.pointer (some ⟨w.heap.size,0,none⟩),_,_,?_,hb,?_⟩<;>simp_all[Instr.box,QT,VR,Gh.DJ,Mr]
   grind
  grind
 case load t p =>
  split at h
  ·rename_i agg n h1 h2;obtain⟨r,h3,rfl,rfl⟩:=DO h;exact .pure hR rfl (Nq hR h1 h2 (hR.ev p) h3)
  grind
 case store t p y =>
  split at h
  ·rename_i n hd h2;obtain⟨r,h3,h4⟩:=Option.map_eq_some_iff.1 h;simp at h4;obtain⟨rfl,rfl⟩:=h4;obtain⟨w',g',k1,k2⟩:=fL hR h2 (hR.ev p) (hR.ev y) h3;exact⟨undef,w',g',.inr ⟨by simp[execOp,k1],rfl⟩,k2,by simp[VR]⟩
  grind
 case fieldAddr t p i =>
  split at h
  ·rename_i off h1;obtain⟨r,h3,rfl,rfl⟩:=DO h;exact .pure hR rfl (T5 h1 (hR.ev p) h3)
  grind
 case indexAddr t p i =>
  split at h
  ·rename_i k ki hi;have xd:=hR.ev i;rw[hi]at xd;simp[VR]at xd;split at h
   ·rename_i e n he;obtain⟨r,h3,rfl,rfl⟩:=DO h;exact .pure hR rfl (by rw[xd];exact RS he (hR.ev p) h3)
   ·split at h
    ·rename_i len n he;obtain⟨r,h3,rfl,rfl⟩:=DO h;exact .pure hR rfl (by rw[xd];exact RR he (hR.ev p) h3)
    grind
  grind
 case nilCheck y =>
  obtain⟨r,h1,rfl,rfl⟩:=DO h;have:=Zv (C:=C) (a:=a) (hR.ev y) h1 (o:=⟨dst,.nilCheck y,ty,after,x2,x3⟩) rfl rfl;exact⟨_,w,g,.inl this.1,hR,this.2⟩
 case binOp op t y z _ =>
  obtain⟨r,h1,rfl,rfl⟩:=DO h;exact .pure hR rfl (Yq (hR.ev y) (hR.ev z) h1)
 case unOp op t y =>
  obtain⟨r,h1,rfl,rfl⟩:=DO h;exact .pure hR rfl (fO (hR.ev y) h1)
 case convert s d y =>
  obtain⟨r,h1,rfl,rfl⟩:=DO h;exact .pure hR rfl (T0 (hR.ev y) h1)
 case extract y i =>
  split at h
  ·rename_i cs hc;obtain⟨r,h1,rfl,rfl⟩:=DO h;have hy:=hR.ev y;rw[hc]at hy;simp[VR]at hy;obtain⟨us,hu,hv⟩:=hy;obtain⟨u,h2,h3⟩:=Bf.get hv i _ h1;refine .pure hR (s:=Instr.extract (a.eval y) i) rfl ⟨u,?_,h3⟩;simp_all[Instr.extract]
  grind
 case field t y i =>
  obtain⟨r,h1,rfl,rfl⟩:=DO h;exact .pure hR rfl (RG (hR.ev y) h1)
 case index t y i =>
  obtain⟨r,h1,rfl,rfl⟩:=DO h;exact .pure hR rfl (WJ (hR.ev i) (hR.ev y) h1)
 case build t ps =>
  split at h
  ·rename_i zs hz ha;split at h
   ·rename_i hs;obtain⟨r,h1,rfl,rfl⟩:=DO h;exact .pure hR (Wi a rfl) (TN hz ha hs (by simp[parts]) (Pj hR ps) h1)
   grind
  grind
 case buildSlice t len ps =>
  split at h
  ·rename_i d e n b hd hr;split at h
   ·rename_i zs hz;exact .of (NL a rfl) (ou hR hr hz (by simp[parts]) (Pj hR ps) h)
   grind
  grind
 case makeSlice t l c =>
  split at h
  ·rename_i d e n b kl lv kc cv hd hr hl hc;split at h
   ·rename_i zs hz;have h1:=hR.ev l;have h2:=hR.ev c;rw[hl]at h1;rw[hc]at h2;simp[VR]at h1 h2;refine .of (s:=Instr.makeSlice t (a.eval l) (a.eval c)) rfl ?_;rw[h1,h2];exact jc hR hr hz h
   grind
  grind
 case slice t y lo hi mx =>
  obtain⟨u,w',g',k1,k2,k3,_⟩:=Qi hR h;exact .of rfl ⟨u,w',g',k1,k2,k3⟩
 case makeFunc fn first CW =>
  split at h
  ·rename_i f hf;have h':=Option.some.inj h;obtain⟨rfl,rfl⟩:=Prod.mk.inj h';refine .pure hR (s:=Instr.makeFunc (.func f) (first.map a.eval) (CW.map a.eval)) rfl ⟨_,rfl,?_⟩;have hf0:first = #[]:=by grind
   subst hf0;simp only[VR];refine⟨_,by simp;rfl,?_⟩;have:=Hx hR CW.toList;simp_all
  ·rename_i f y ys hf hc;have h':=Option.some.inj h;obtain⟨rfl,rfl⟩:=Prod.mk.inj h';refine .pure hR (s:=Instr.makeFunc (.func f) (first.map a.eval) (CW.map a.eval)) rfl ⟨_,rfl,?_⟩;have hf0:CW = #[]:=by grind
   subst hf0;simp only[VR];refine⟨_,by simp;rfl,?_⟩;have:=Hx hR first.toList;simp_all
  grind
 case makeInterface t y =>
  split at h
  ·rename_i hc;have h':=Option.some.inj h;obtain⟨rfl,rfl⟩:=Prod.mk.inj h';refine .pure hR rfl ⟨_,run_makeInterface w t _ hc,?_⟩;simp only[VR];exact⟨_,rfl,hR.ev y⟩
  grind
 case call c =>
  split at h
  ·rename_i b hb;obtain⟨callee,args,argTypes⟩:=c;simp only at hb;subst hb;obtain⟨consts,he⟩:=M5 a (o:=⟨dst,.call { callee:=.builtin b,args,argTypes },ty,after,x2,x3⟩) rfl;exact VU hR he h
  grind
 all_goals(cases h)
end
end Go.Abs
namespace Go.Abs
structure Grow(S T U:List Nat)(g:Gh)(w:World)(g':Gh)(w':World):Prop extends Lasts S T g w g' w' where
 os:w'.os=w.os
 tape:Od w w'
 output:w'.output=w.output
 size:w.heap.size<=w'.heap.size
 other:∀ b,b<w.heap.size->g.own b=.other->g'.own b=.other/\w'.heap[b]?=w.heap[b]?
 kept:∀ s,s∉U->s∉T->g.own (g.box s)=.box s->g.box s<w.heap.size->g'.own (g.box s)=.box s/\w'.heap[g.box s]?=w.heap[g.box s]?
def Jp(U:List Nat):List (Nat × List AV)->List (Nat × List AV)
 |[]=>[]
 |(k,x)::l=>if k∈U then Jp U l else (k,x)::Jp U l
def R1(U:List Nat)(k:Nat):∀ l:List (Nat × List AV),lk k (Jp U l)=if k∈U then none else lk k l
 |[]=>by simp[Jp,lk]
 |(j,x)::l=>by
  simp[Jp];split
  ·rename_i hj;rw[R1 U k l];simp only[lk]
   by_cases gl:j=k
   ·subst gl;simp[hj]
   ·simp[gl]
  ·rename_i hj;simp[lk]
   by_cases gl:j=k<;>simp_all[R1]
section
variable {C:Ctx} {A:A0} {N:Nat} {g g':Gh} {st st':St} {a:Act} {w w':World}
def R.grow(h:R C A N g st a w){S T U:List Nat}(hg:Grow S T U g w g' w')(JR:∀ s,s∈A.ext->s∉T):R C A N g' (St.kill S T ⟨st.tmps,Jp U st.Aj⟩) a w':=by
 have h1:R C A N g ⟨st.tmps,Jp U st.Aj⟩ a w:=⟨h.size,h.defs,h.tm,λs cs hs=>by
  rw[R1]at hs;split at hs
  ·grind
  ·exact h.ob s cs hs,h.fr⟩
 refine h1.lasts hg.toLasts (h.fr.step hg.toLasts hg.os hg.tape hg.output hg.size hg.other JR) λs cs hs hT=>?_
 simp only[R1]at hs;split at hs
 ·grind
 ·rename_i hU;have ho:=h.ob s cs hs;exact hg.kept s hU hT ho.1 ho.lt
end
abbrev Ren:=List (Nat × Nat)
def inv(l:Ren):Ren:=l.map λp=>(p.2,p.1)
def Gm(l:Ren):Bool:=l.all λp=>lk p.1 l==some p.2&&lk p.2 (inv l)==some p.1&&Dm p.2==Dm p.1
def LI{α:Type}{k:Nat}{x:α}:∀ {l:List (Nat × α)},lk k l=some x->(k,x)∈l
 |(j,y)::l,h=>by
  simp only[lk]at h;split at h
  ·rename_i hj;injection h with h;subst h;subst hj;simp
  ·exact List.mem_cons_of_mem _ (LI h)
def Gm.fwd{l:Ren}(h:Gm l=true){r r':Nat}(hr:lk r l=some r'):lk r' (inv l)=some r:=by
 have:=List.all_eq_true.1 h _ (LI hr);grind
def Gm.kind{l:Ren}(h:Gm l=true){r r':Nat}(hr:lk r l=some r'):Dm r'=Dm r:=by
 have:=List.all_eq_true.1 h _ (LI hr);grind
def Gm.bwd{l:Ren}(h:Gm l=true){r r':Nat}(hr:lk r' (inv l)=some r):lk r l=some r':=by
 have hm:=LI hr;simp[inv]at hm;obtain⟨a,b,LP,rfl,rfl⟩:=hm;have:=List.all_eq_true.1 h _ LP;grind
structure Rn where
 l:Ren
 m:Ren
 bs:List Nat
def AV.Xw(ρ:Rn):AV->AV
 |.sl (.own r lo) n es=>match lk r ρ.l with
  |some r'=>.sl (.own r' lo) n es
  |none=>if r∈ρ.bs then .sl .no n es else .undef
 |.ptr s off=>match lk s ρ.m with
  |some s'=>.ptr s' off
  |none=>.undef
 |.ep (.own r lo) i cells off=>match lk r ρ.l with
  |some r'=>.ep (.own r' lo) i cells off
  |none=>.undef
 |.mp s=>match lk s ρ.m with
  |some s'=>.mp s'
  |none=>.undef
 | x=>x
def AV.CX(ρ:Rn)(x:AV):AV:=x.Cz (AV.Xw ρ)
def JU(ρ:Rn)(cs:List AV):List AV:=F0 (AV.Xw ρ) cs
def Gh.CX(ρ:Rn)(g base:Gh):Gh where
 own b:=match g.own b with
  |.ro=>.ro
  |.other=>.other
  |.row r=>match lk r ρ.l with
   |some r'=>.row r'
   |none=>if r∈ρ.bs then .ro else .other
  |.box s=>match lk s ρ.m with
   |some s'=>.box s'
   |none=>.other
 row r':=match lk r' (inv ρ.l) with
  |some r=>g.row r
  |none=>base.row r'
 box s':=match lk s' (inv ρ.m) with
  |some s=>g.box s
  |none=>base.box s'
structure Rn.OK(ρ:Rn):Prop where
 l:Gm ρ.l=true
 m:Gm ρ.m=true
section
variable {ρ:Rn} {base g g':Gh} {w:World}
theorem LN{b:Nat}(h:g.own b=.ro):(Gh.CX ρ g base).own b=.ro:=by simp[Gh.CX,h]
theorem HS{b:Nat}(h:g.own b=.other):(Gh.CX ρ g base).own b=.other:=by simp[Gh.CX,h]
def mo{b r r':Nat}(h:g.own b=.row r)(hr:lk r ρ.l=some r'):(Gh.CX ρ g base).own b=.row r':=by grind[Gh.CX]
def x7{b s s':Nat}(h:g.own b=.box s)(hr:lk s ρ.m=some s'):(Gh.CX ρ g base).own b=.box s':=by grind[Gh.CX]
def tk{b r:Nat}(h:g.own b=.row r)(hr:lk r ρ.l=none)(hb:r∈ρ.bs):(Gh.CX ρ g base).own b=.ro:=by grind[Gh.CX]
def th(ho:ρ.OK){r r':Nat}(hr:lk r ρ.l=some r'):(Gh.CX ρ g base).row r'=g.row r:=by simp[Gh.CX,Gm.fwd ho.l hr]
theorem O8(ho:ρ.OK){s s':Nat}(hr:lk s ρ.m=some s'):(Gh.CX ρ g base).box s'=g.box s:=by simp[Gh.CX,Gm.fwd ho.m hr]
def Ut:∀ b,b<w.heap.size->CK g b->CK (Gh.CX ρ g base) b/\w.heap[b]?=w.heap[b]?:=λb _ h=>⟨LN h,rfl⟩
def tp(ho:ρ.OK)(r lo n:Nat)(es:List (List AV))(u:Value)(hu:Dr g w r lo n es u):VR (Gh.CX ρ g base) w (AV.Xw ρ (.sl (.own r lo) n es)) u:=by
 simp[AV.Xw];split
 ·rename_i r' hr;exact hu.map Ut (th ho hr) λ_ h=>⟨mo h hr,rfl⟩
 ·rename_i hr;split
  ·rename_i hb;exact hu.ro Ut λh=>tk h hr hb
  ·simp[VR]
def tj(ho:ρ.OK)(r lo i:Nat)(cells:List AV)(off:Nat)(u:Value)(hu:Ix g w (.own r lo) i cells off u):VR (Gh.CX ρ g base) w (AV.Xw ρ (.ep (.own r lo) i cells off)) u:=by
 simp[AV.Xw];split
 ·rename_i r' hr;exact hu.map Ut (th ho hr) λ_ h=>⟨mo h hr,rfl⟩
 ·simp[VR]
def mn(ho:ρ.OK)(s off:Nat)(u:Value)(hu:VR g w (.ptr s off) u):VR (Gh.CX ρ g base) w (AV.Xw ρ (.ptr s off)) u:=by
 simp[AV.Xw];split
 ·rename_i s' hs;simp[VR]at hu ⊢;rw[O8 ho hs,Gm.kind ho.m hs];omega
 ·simp[VR]
def tn(ho:ρ.OK)(s:Nat)(u:Value)(hu:VR g w (.mp s) u):VR (Gh.CX ρ g base) w (AV.Xw ρ (.mp s)) u:=by
 simp[AV.Xw];split
 ·rename_i s' hs;simp[VR]at hu ⊢;rw[O8 ho hs,Gm.kind ho.m hs];omega
 ·simp[VR]
theorem VR.CX(ho:ρ.OK):∀ (x:AV) (u:Value),VR g w x u->VR (Gh.CX ρ g base) w (x.CX ρ) u:=VR.Cz Ut (tp ho) (mn ho) (tj ho) (tn ho)
theorem Bf.CX(ho:ρ.OK):∀ (cs:List AV) (us:List Value),Bf g w cs us->Bf (Gh.CX ρ g base) w (JU ρ cs) us:=Bf.Cz Ut (tp ho) (mn ho) (tj ho) (tn ho)
theorem Er.CX(ho:ρ.OK){s s':Nat}{cs:List AV}(hs:lk s ρ.m=some s')(h:Er g w s cs):Er (Gh.CX ρ g base) w s' (JU ρ cs):=by exact h.lift (Gm.kind ho.m hs) (by rw[O8 ho hs];exact x7 h.1 hs) (by grind[O8]) (λus hu=>Bf.CX ho _ _ hu)
end
def pQ(c:AV):Prop:=(∃ x,c=.v x)\/c=.undef
mutual
def Flat:AV->Prop
 |.undef=>True
 |.v _=>True
 |.agg cs=>Ob cs
 |.BC cs=>Ob cs
 |.sl (.own _ _) _ es=>∀ e∈es,∀ c∈e,pQ c
 |.sl _ _ es=>es=[]
 |.ptr _ _=>True
 |.ep _ _ _ _=>False
 |.fn _ cs=>Ob cs
 |.mv _ cs=>Ob cs
 |.mp _=>False
 |.Kb _ x=>Flat x
 |.mem _ _=>False
def Ob:List AV->Prop
 |[]=>True
 | c::cs=>Flat c/\Ob cs
end
section
variable {g g':Gh} {w:World} {ro QX:Nat->Prop}
theorem EG.flat:∀ (cs:List AV) (ad:Addr) (j:Nat),(∀ c∈cs,pQ c)->EG ro w cs ad j->EG QX w cs ad j
 |[],_,_,_,_=>by simp[EG]
 | c::cs,ad,j,hf,h=>by
  simp[EG]at h ⊢;obtain⟨⟨u,h1,h2⟩,h3⟩:=h;refine⟨⟨u,h1,?_⟩,EG.flat cs ad _ (λc' hc=>hf c' (by grind)) h3⟩;rcases hf c (by simp) with ⟨x,rfl⟩|rfl<;>simpa [PR]using h2
theorem Ea.flat:∀ (es:List (List AV)) (ad:Addr) (n i:Nat),(∀ e∈es,∀ c∈e,pQ c)->Ea ro w es ad n i->Ea QX w es ad n i
 |[],_,_,_,_,_=>by simp[Ea]
 | e::es,ad,n,i,hf,h=>by
  simp only[Ea]at h ⊢;exact⟨h.1,EG.flat e ad _ (hf e (by simp)) h.2.1,Ea.flat es ad n _ (λe' he=>hf e' (by simp[he])) h.2.2⟩
structure Names(g g':Gh):Prop where
 row:∀ b q,g.own b=.row q->g'.own b=.row q
 box:∀ b s,g.own b=.box s->g'.own b=.box s
 rows:∀ q,g'.row q=g.row q
 boxes:∀ s,g'.box s=g.box s
mutual
theorem VR.flat(hn:Names g g'):∀ (x:AV) (u:Value),Flat x->VR g w x u->VR g' w x u
 |.undef,_,_,_=>by simp[VR]
 |.v x,u,_,hu=>by grind[VR]
 |.agg cs,u,hf,hu=>by
  simp only[Flat,VR]at hf hu ⊢;obtain⟨us,h1,h2⟩:=hu;exact⟨us,h1,Bf.flat hn cs us.toList hf h2⟩
 |.BC cs,u,hf,hu=>by
  simp only[Flat,VR]at hf hu ⊢;obtain⟨us,h1,h2⟩:=hu;exact⟨us,h1,Bf.flat hn cs us.toList hf h2⟩
 |.sl (.own r lo) n es,u,hf,hu=>by
  simp only[Flat,VR,Dr]at hf hu ⊢;refine⟨hu.1,?_⟩;rcases hu.2 with hu|hu|⟨cap,cur,T',h1,h2,h3,h5,h6,h7,h8⟩
  ·grind
  ·grind
  ·rw[hn.rows r];exact .inr (.inr ⟨cap,cur,T',h1,h2,h3,hn.row _ _ h5,h6,h7,Ea.flat es _ n 0 hf h8⟩)
 |.sl .no n es,u,hf,hu=>by simp_all[Flat,VR,PR]
 |.sl .full n es,u,hf,hu=>by simp_all[Flat,VR,PR]
 |.ptr s off,u,_,hu=>by
  simp[VR]at hu ⊢;rw[hn.boxes s];omega
 |.mp _,u,hf,_=>by grind[Flat]
 |.ep t i cells off,u,hf,_=>by grind[Flat]
 |.fn f CW,u,hf,hu=>by
  simp only[Flat,VR]at hf hu ⊢;obtain⟨us,h1,h2⟩:=hu;exact⟨us,h1,Bf.flat hn CW us.toList hf h2⟩
 |.mv f CW,u,hf,hu=>by
  simp only[Flat,VR]at hf hu ⊢;obtain⟨us,h1,h2⟩:=hu;exact⟨us,h1,Bf.flat hn CW us.toList hf h2⟩
 |.Kb t x,u,hf,hu=>by
  simp only[Flat,VR]at hf hu ⊢;obtain⟨y,h1,h2⟩:=hu;exact⟨y,h1,VR.flat hn x y hf h2⟩
 |.mem b xs,u,hf,_=>by grind[Flat]
theorem Bf.flat(hn:Names g g'):∀ (cs:List AV) (us:List Value),Ob cs->Bf g w cs us->Bf g' w cs us
 |[],[],_,_=>by simp[Bf]
 |[],_::_,_,hu=>by grind[Bf]
 |_::_,[],_,hu=>by grind[Bf]
 | c::cs,u::us,hf,hu=>by
  simp only[Ob,Bf]at hf hu ⊢;exact⟨VR.flat hn c u hf.1 hu.1,Bf.flat hn cs us hf.2 hu.2⟩
end
end
end Go.Abs
namespace Go.Abs
def names{α:Type}(o:List (Nat × α)):List Nat:=o.map (·.1)
def Glob(C:Ctx)(g:Gh)(w:World):Prop:=∀ i cs,C.G i=some cs->0<cs.length/\CK g i/\EG (CK g) w cs ⟨i,0,none⟩ 0
def Ad(C:Ctx)(f:Nat)(xs:List AV)(o:List (Nat × List AV))(y:AV)(o':List (Nat × List AV)):Prop :=
 (∃ fn c,C.P.funcs[f]?=some fn/\(fn.name=="runtime.NumGoroutine")=false/\fn.body=some c) /\
 ∀ g w us,Glob C g w->Bf g w xs us->(∀ s cs,lk s o=some cs->Er g w s cs) ->
  Calls C.P f us.toArray w λe w'=>∃ u g',e=.returned u/\Fr C ⟨w,g,names o⟩ g' w'/\VR g' w' y u/\∀ s cs,lk s o'=some cs->Er g' w' s cs
def FnP(C:Ctx)(f:Nat)(xs:List AV)(o:List (Nat × List AV))(S:AV->List (Nat × List AV)->Prop):Prop :=
 (∃ fn c,C.P.funcs[f]?=some fn/\(fn.name=="runtime.NumGoroutine")=false/\fn.body=some c) /\
 ∀ g w us,Glob C g w->Bf g w xs us->(∀ s cs,lk s o=some cs->Er g w s cs) ->
  Calls C.P f us.toArray w λe w'=>∃ y o',S y o'/\∃ u g',e=.returned u/\Fr C ⟨w,g,names o⟩ g' w'/\VR g' w' y u/\∀ s cs,lk s o'=some cs->Er g' w' s cs
def Ad.toP{C:Ctx}{f:Nat}{xs:List AV}{o o':List (Nat × List AV)}{y:AV}(h:Ad C f xs o y o'):FnP C f xs o λy2 o2=>y2=y/\o2=o' :=
 ⟨h.1,λg w us hg hv ho=>Calls.mono (h.2 g w us hg hv ho) λ_ _ hq=>⟨y,o',⟨rfl,rfl⟩,hq⟩⟩
structure Quiet(w w':World):Prop where
 os:w'.os=w.os
 tape:Od w w'
 output:w'.output=w.output
 size:w.heap.size<=w'.heap.size
 old:∀ b,b<w.heap.size->w'.heap[b]?=w.heap[b]?
def VG(C:Ctx)(f n:Nat)(es:List (List AV))(ys:List AV)(P3:List (List AV)):Prop :=
 (∃ fn c,C.P.funcs[f]?=some fn/\(fn.name=="runtime.NumGoroutine")=false/\fn.body=some c) /\
 ∀ g w r u us,Glob C g w->Dr g w r 0 n es u->Bf g w ys us ->
  Calls C.P f (u::us).toArray w λe w'=>e=.returned (.tuple #[])/\((P3=[]/\Quiet w w')\/∃ cur new T,U0 g w r n 0 P3 cur new T/\Quiet (w.setRow (g.row r) new) w')
def rngs(l:Ren):List Nat:=l.map (·.2)
theorem bF{α:Type}{k:Nat}:∀ {l:List (Nat × α)},k∉names l->lk k l=none
 |[],_=>rfl
 |(j,x)::l,h=>by
  simp only[names,List.map_cons,List.mem_cons,not_or]at h;simp only[lk,Ne.symm h.1,if_false];exact bF h.2
def Yd{α:Type}{k:Nat}{x:α}{l:List (Nat × α)}(h:lk k l=some x):k∈names l:=by
 have:=LI h;simp only[names,List.mem_map];grind
theorem oG(l:Ren):names (inv l)=rngs l:=by simp[names,inv,rngs,List.map_map,Function.comp_def]
def FP(ρ:Rn)(o:List (Nat × List AV)):List (Nat × List AV) :=
 o.filterMap λp=>(lk p.1 ρ.m).map λs=>(s,JU ρ p.2)
def Np{ρ:Rn}(ho:ρ.OK){s':Nat}{cs:List AV}:∀ {o:List (Nat × List AV)},lk s' (FP ρ o)=some cs->∃ s cb,lk s ρ.m=some s'/\lk s o=some cb/\cs=JU ρ cb
 |[],h=>by grind[FP,lk]
 |(k,c)::o,h=>by
  simp only[FP,List.filterMap_cons]at h;cases hk:lk k ρ.m with
  |none =>
   simp only[hk,Option.map_none]at h;obtain⟨s,cb,h1,h2,h3⟩:=Np ho (o:=o) h;refine⟨s,cb,h1,?_,h3⟩;have:k≠s:=λe=>by subst e;rw[hk]at h1;cases h1
   simp[lk,this,h2]
  |some k' =>
   simp only[hk,Option.map_some,lk]at h;split at h
   ·rename_i he;injection h with h
    exact⟨k,c,by rw[hk,he],by simp[lk],h.symm⟩
   ·rename_i he;obtain⟨s,cb,h1,h2,h3⟩:=Np ho (o:=o) h;refine⟨s,cb,h1,?_,h3⟩;have:k≠s:=λe=>by subst e;rw[hk]at h1;injection h1 with h1;exact he h1
    simp[lk,this,h2]
structure Way where
 ρ:Rn
 fl:Ren
 fm:Ren
def Way.back(v:Way):Rn:=⟨inv v.ρ.l++v.fl,inv v.ρ.m++v.fm,[]⟩
structure Way.OK(v:Way)(o:List (Nat × List AV)):Prop where
 Yc:v.ρ.OK
 back:v.back.OK
 ext:∀ s',s'∈rngs v.ρ.m->s'∈names o
section
variable {C:Ctx} {A:A0} {N:Nat} {g g1:Gh} {st:St} {a:Act} {w w1:World} {v:Way} {o o':List (Nat × List AV)} {xs:List AV} {y:AV}
theorem inv_inv(l:Ren):inv (inv l)=l:=by simp[inv,List.map_map,Function.comp_def]
theorem IX{α:Type}{k:Nat}{m:List (Nat × α)}:∀ {l:List (Nat × α)},lk k (l++m)=(lk k l).or (lk k m)
 |[]=>by simp[lk]
 |(j,x)::l=>by
  simp only[List.cons_append,lk];split
  ·simp
  ·exact IX
def after(v:Way)(g:Gh)(w:World)(g1:Gh):Gh where
 own b:=if b<w.heap.size then match g.own b with
   |.ro=>.ro
   |.other=>.other
   |.row r=>if (lk r v.ρ.l).isSome then (g1.CX v.back g).own b else .row r
   |.box s=>if (lk s v.ρ.m).isSome then (g1.CX v.back g).own b else .box s
  else (g1.CX v.back g).own b
 row:=(g1.CX v.back g).row
 box:=(g1.CX v.back g).box
def entry(v:Way)(g:Gh):Gh:=g.CX v.ρ g
def KJ(Ig:Fr C ⟨w,entry v g,names o⟩ g1 w1){b:Nat}(hb:b<w.heap.size) :
 (g.own b=.ro->w1.heap[b]?=w.heap[b]?/\g1.own b=.ro)/\(g.own b=.other->w1.heap[b]?=w.heap[b]?/\g1.own b=.other) /\
 (∀ r,g.own b=.row r->lk r v.ρ.l=none->w1.heap[b]?=w.heap[b]?/\g1.own b=(if r∈v.ρ.bs then .ro else .other)) /\
 (∀ s,g.own b=.box s->lk s v.ρ.m=none->w1.heap[b]?=w.heap[b]?/\g1.own b=.other):=by
 have hk:=Ig.FD b hb;refine⟨λh=>?_,λh=>?_,λr h hr=>?_,λs h hs=>?_⟩
 ·have e:(entry v g).own b=.ro:=LN h;have:=hk (.inl e);grind
 ·have e:(entry v g).own b=.other:=HS h;have:=hk (.inr e);grind
 ·have e:(entry v g).own b=(if r∈v.ρ.bs then .ro else .other):=by grind[entry,Gh.CX]
  have hf:A0.fixed ⟨w,entry v g,names o⟩ b:=by
   unfold A0.fixed;grind
  grind
 ·have e:(entry v g).own b=.other:=by grind[entry,Gh.CX]
  have:=hk (.inr e);grind
def Sz(Ig:Fr C ⟨w,entry v g,names o⟩ g1 w1){b q:Nat}(h:(g1.CX v.back g).own b=.row q):(after v g w g1).own b=.row q:=by
 unfold after;simp only;split
 ·rename_i hb;obtain⟨f1,f2,f3,f4⟩:=KJ Ig hb;cases hg:g.own b with
  | ro=>grind[LN]
  | other=>grind[HS]
  | row r =>
   simp only;cases hr:lk r v.ρ.l<;>grind[LN,HS]
  | box s =>
   simp only;cases hs:lk s v.ρ.m<;>grind[HS]
 omega
def Sy(Ig:Fr C ⟨w,entry v g,names o⟩ g1 w1){b q:Nat}(h:(g1.CX v.back g).own b=.box q):(after v g w g1).own b=.box q:=by
 unfold after;simp only;split
 ·rename_i hb;obtain⟨f1,f2,f3,f4⟩:=KJ Ig hb;cases hg:g.own b with
  | ro=>grind[LN]
  | other=>grind[HS]
  | row r =>
   simp only;cases hr:lk r v.ρ.l<;>grind[LN,HS]
  | box s =>
   simp only;cases hs:lk s v.ρ.m<;>grind[HS]
 omega
theorem TI(Ig:Fr C ⟨w,entry v g,names o⟩ g1 w1):Names (g1.CX v.back g) (after v g w g1) :=
 ⟨λ_ _ h=>Sz Ig h,λ_ _ h=>Sy Ig h,λ_=>rfl,λ_=>rfl⟩
def cF(Ig:Fr C ⟨w,entry v g,names o⟩ g1 w1)(XR:v.ρ.bs=[]){b:Nat}(h:(g1.CX v.back g).own b=.ro):(after v g w g1).own b=.ro:=by
 have h1:g1.own b=.ro:=by grind[Gh.CX,Way.back]
 unfold after;simp only;split
 ·rename_i hb;obtain⟨f1,f2,f3,f4⟩:=KJ Ig hb;cases hg:g.own b<;>simp_all
 omega
def VL(hv:v.OK o)(Ig:Fr C ⟨w,entry v g,names o⟩ g1 w1):Grow (rngs v.back.l) (rngs v.fm) (rngs v.back.m) g w (after v g w g1) w1 where
 ro:=λb hb h=>by
  obtain⟨f1,_,_,_⟩:=KJ Ig hb;grind[after]
 row:=λb q hb hq h=>by
  obtain⟨_,_,f3,_⟩:=KJ Ig hb;have hn:lk q v.ρ.l=none:=by
   cases hl:lk q v.ρ.l with
   |none=>rfl
   |some q' =>
    have:=Gm.bwd (l:=inv v.ρ.l) (r:=q') (r':=q) (by
     have:=hv.Yc.l;unfold Gm at this ⊢;rw[inv_inv];simp only[List.all_eq_true,Bool.and_eq_true]at this ⊢;intro p hp;simp only[inv,List.mem_map]at hp;grind) (by grind[inv_inv])
    exact(hq (by
     simp only[Way.back,rngs,List.map_append,List.mem_append,List.mem_map];exact .inl ⟨_,LI this,rfl⟩)).elim
  grind[after]
 rows:=λq hq=>by grind[after,Gh.CX,bF,oG]
 boxes:=λs hs=>by
  simp[after,Gh.CX];cases hl:lk s (inv v.back.m) with
  |none=>rfl
  |some s' =>
   simp only;have h1:=Gm.bwd hv.back.m hl;simp only[Way.back,IX]at h1;cases h2:lk s' (inv v.ρ.m) with
   |none =>
    rw[h2]at h1;simp at h1;exact(hs (by simp only[rngs,List.mem_map];exact⟨_,LI h1,rfl⟩)).elim
   |some s0 =>
    rw[h2]at h1;simp at h1;subst h1;have h3:=Gm.bwd hv.Yc.m h2;have he:s'∈names o:=hv.ext s' (by simp only[rngs,List.mem_map];exact⟨_,LI h3,rfl⟩);rw[Ig.box s' he];exact O8 hv.Yc h3
 os:=Ig.os
 tape:=Ig.tape
 output:=Ig.output
 size:=Ig.size
 other:=λb hb h=>by
  obtain⟨_,f2,_,_⟩:=KJ Ig hb;grind[after]
 kept:=λs hU _ h hb=>by
  obtain⟨_,_,_,f4⟩:=KJ Ig hb;have hn:lk s v.ρ.m=none:=by
   cases hl:lk s v.ρ.m with
   |none=>rfl
   |some q' =>
    have:=Gm.fwd hv.Yc.m hl;exact(hU (by
     simp only[Way.back,rngs,List.map_append,List.mem_append,List.mem_map];exact .inl ⟨_,LI this,rfl⟩)).elim
  grind[after]
def cE(hv:v.OK o)(Ig:Fr C ⟨w,entry v g,names o⟩ g1 w1){x:AV}{u:Value}(hx:VR g1 w1 x u)(hf:v.ρ.bs=[]\/Flat (x.CX v.back)):VR (after v g w g1) w1 (x.CX v.back) u:=by
 have h1:VR (g1.CX v.back g) w1 (x.CX v.back) u:=VR.CX hv.back x u hx;rcases hf with XR|hf
 ·have hl:Lasts [] [] (g1.CX v.back g) w1 (after v g w g1) w1:=⟨λb _ h=>⟨cF Ig XR h,rfl⟩,λb q _ _ h=>⟨Sz Ig h,rfl⟩,λ_ _=>rfl,λ_ _=>rfl⟩;have:=VR.lasts hl _ _ h1;grind[OO]
 grind[VR.flat,TI]
def Yk(hv:v.OK o)(Ig:Fr C ⟨w,entry v g,names o⟩ g1 w1){x:List AV}{u:List Value}(hx:Bf g1 w1 x u)(hf:v.ρ.bs=[]\/Ob (JU v.back x)):Bf (after v g w g1) w1 (JU v.back x) u:=by
 have h1:Bf (g1.CX v.back g) w1 (JU v.back x) u:=Bf.CX hv.back x u hx;rcases hf with XR|hf
 ·have hl:Lasts [] [] (g1.CX v.back g) w1 (after v g w g1) w1:=⟨λb _ h=>⟨cF Ig XR h,rfl⟩,λb q _ _ h=>⟨Sz Ig h,rfl⟩,λ_ _=>rfl,λ_ _=>rfl⟩;have:=Bf.lasts hl _ _ h1;grind[Kn]
 grind[Bf.flat,TI]
end
end Go.Abs
namespace Go.Abs
def yu(C:Ctx)(o:Oper)(r:St)(x:AV)(S T U:List Nat)(H3:List (Nat × List AV)):Prop :=
 ∀ A N g a w,R C A N g r a w->∀ K Q,(∀ u g' w',Grow S T U g w g' w'->VR g' w' x u->(∀ s cs,lk s H3=some cs->Er g' w' s cs)->K (a.put o.dst u) w')->o.wp C.P a w K Q
def St.app(S T U:List Nat)(H3:List (Nat × List AV))(st:St):St:=⟨ON S T st.tmps,H3++JZ S T (Jp U st.Aj)⟩
section
variable {C:Ctx} {A:A0} {N:Nat} {g g':Gh} {st:St} {a:Act} {w w':World}
def R.glob(h:R C A N g st a w):Glob C g w:=λi cs hi=>h.fr.glob i cs hi
def R.app(h:R C A N g st a w){S T U:List Nat}{H3:List (Nat × List AV)}(hg:Grow S T U g w g' w')(JR:∀ s,s∈A.ext->s∉T)(hu:∀ s cs,lk s H3=some cs->Er g' w' s cs) :
 R C A N g' (st.app S T U H3) a w':=by
 have h1:=h.grow hg JR;refine⟨h1.size,h1.defs,h1.tm,λs cs hs=>?_,h1.fr⟩;simp only[St.app,IX]at hs;cases hl:lk s H3 with
 |none=>rw[hl]at hs;exact h1.ob s cs (by grind[St.kill])
 |some c=>grind
def Steps.wp{o:Oper}{x:AV}{st':St}(hs:Steps C A N o a w x st')(hd:∀ k,o.dst=some k->k<N)
 {K:Act->World->Prop} {Q:Exit->Act->World->Prop} (hk:∀ g' a' w',R C A N g' (st'.put o.dst x) a' w'->K a' w'):o.wp C.P a w K Q:=by
 obtain⟨u,w',g',h1,h2,h3⟩:=hs;exact h1.wp (hk g' _ w' (h2.put hd h3))
def Mv{P:Program}{f:FuncId}{fn:Func}{c:Code}(hf:P.funcs[f]?=some fn)(Gj:(fn.name=="runtime.NumGoroutine")=false)(hb:fn.body=some c)(args:Array Value)(w:World):(callFunc f args).run P w=.ok (.enter f args) w:=by simp_all[callFunc]
def nw(ρ:Act){P:Program}{o:Oper}{c:Call}{f:Operand}{FF:FuncId}{us:Array Value}(ho:o.op=.call c)(hc:c.callee=.value f)(hf:ρ.eval f=.func (.func FF) #[] us)(w:World) :
 (execOp ρ.eval o).run P w=(callFunc FF (c.args.map ρ.eval++us)).run P w:=by
 grind[execOp,resolve,Deferred.ofValue,invoke]
def gW(ρ:Act){P:Program}{o:Oper}{c:Call}{f:Operand}{FF:FuncId}{fs us:Array Value}(ho:o.op=.call c)(hc:c.callee=.value f)(hf:ρ.eval f=.func (.func FF) fs us)(w:World) :
 (execOp ρ.eval o).run P w=(callFunc FF (fs++c.args.map ρ.eval++us)).run P w:=by
 grind[execOp,resolve,Deferred.ofValue,invoke]
def cu(x:AV)(FF:Nat)(first CW:List AV):Prop:=(x=.fn FF CW/\first=[])\/(x=.mv FF first/\CW=[])
def cu.read{x:AV}{FF:Nat}{first CW:List AV}{u:Value}(h:cu x FF first CW)(hv:VR g w x u):∃ fs us,u=.func (.func FF) fs us/\Bf g w first fs.toList/\Bf g w CW us.toList:=by
 rcases h with ⟨rfl,rfl⟩|⟨rfl,rfl⟩
 ·simp[VR]at hv;obtain⟨us,rfl,h⟩:=hv;exact⟨#[],us,rfl,by simp[Bf],h⟩
 ·simp[VR]at hv;obtain⟨us,rfl,h⟩:=hv;exact⟨us,#[],rfl,h,by simp[Bf]⟩
def Has(v:Way)(st:St)(ob:List (Nat × List AV)):Prop:=∀ s' cs,lk s' ob=some cs->lk s' (FP v.ρ st.Aj)=some cs
def Lg:List (Nat × List AV)->Prop
 |[]=>True
 | p::l=>Ob p.2/\Lg l
theorem Lg.lk:∀ {l:List (Nat × List AV)} {s:Nat} {cs:List AV},Lg l->lk s l=some cs->Ob cs
 |(j,c)::l,s,cs,hf,h=>by
  simp only[Abs.lk]at h;split at h
  ·injection h with h;subst h;exact hf.1
  ·exact Lg.lk hf.2 h
def Oa(C:Ctx)(o:Oper)(a:Act)(g:Gh)(w:World)(FF:Nat)(xs:List AV):Prop:=∃ us:List Value,Bf g w xs us/\(execOp a.eval o).run C.P w=(callFunc FF us.toArray).run C.P w
def Oa.val{o:Oper}{c:Call}{f:Operand}{FF:Nat}{first CW:List AV}(ho:o.op=.call c)(hc:c.callee=.value f)(hf:cu (ev C st f) FF first CW)(h:R C A N g st a w):Oa C o a g w FF (first++c.args.toList.map (ev C st)++CW):=by
 obtain⟨fs,us,Y6,Su,lR⟩:=hf.read (h.ev f);refine⟨fs.toList++(c.args.toList.map a.eval)++us.toList,Bf.append (Bf.append Su (Hx h _)) lR,?_⟩;rw[gW a ho hc Y6 w];congr 2;grind
def AdY{o:Oper}{FF:Nat}{xs:List AV}(fj:Oa C o a g w FF xs){v:Way}{ob:List (Nat × List AV)}{S:AV->List (Nat × List AV)->Prop}(hv:v.OK ob)
 (CC:FnP C FF (JU v.ρ xs) ob S) (hob:Has v st ob) (Me:∀ y J3,S y J3->v.ρ.bs=[]\/(Flat (y.CX v.back)/\Lg (FP v.back J3))) (h:R C A N g st a w)
 (JR:∀ s,s∈A.ext->s∉rngs v.fm) (hd:∀ k,o.dst=some k->k<N) {K:Act->World->Prop} {Q:Exit->Act->World->Prop}
 (hk:∀ y J3 g' a' w',S y J3->R C A N g' ((st.app (rngs v.back.l) (rngs v.fm) (rngs v.back.m) (FP v.back J3)).put o.dst (y.CX v.back)) a' w'->K a' w'):o.wp C.P a w K Q:=by
 obtain⟨⟨fn,cd,hfn,Gj,hb⟩,KN⟩:=CC;obtain⟨us,Hh,hex⟩:=fj;unfold Oper.wp;rw[hex,Mv hfn Gj hb,Oper.upon_enter];have iC:=Bf.CX (ρ:=v.ρ) (base:=g) hv.Yc _ _ Hh;have WE:Glob C (entry v g) w:=λi cs hi=>by
  obtain⟨h1,h2,h3⟩:=h.glob i cs hi;exact⟨h1,LN h2,EG.mono Ut _ ⟨i,0,none⟩ 0 h2 h3⟩
 have cg:=KN (entry v g) w _ WE iC λs' cs hs=>by
  obtain⟨s,cb,h1,h2,rfl⟩:=Np hv.Yc (hob s' cs hs);exact Er.CX hv.Yc h1 (h.ob s cb h2)
 refine Calls.mono cg λe w' he=>?_
 obtain⟨y,J3,hS,u,g1,rfl,Ig,hy,Abw⟩:=he;have Me:=Me y J3 hS;refine hk y J3 (after v g w g1) _ w' hS ((h.app (VL hv Ig) JR λs cs hs=>?_).put hd (cE hv Ig hy (Me.imp id And.left)));obtain⟨s',cb,h1,h2,rfl⟩:=Np hv.back hs;have XS:=Abw s' cb h2;have AbA:Er (g1.CX v.back g) w' s (JU v.back cb):=Er.CX hv.back h1 XS;have hbx:g1.box s'=(g1.CX v.back g).box s:=(O8 hv.back h1).symm;exact XS.lift (Gm.kind hv.back.m h1) (Sy Ig AbA.1) (by show w'.heap[(g1.CX v.back g).box s]?=_;grind) (λus h=>Yk hv Ig h (Me.imp id λh=>Lg.lk h.2 hs))
def R.quiet(h:R C A N g st a w)(hq:Quiet w w'):R C A N g st a w':=by
 have hl:Lasts [] [] g w g w':=⟨λb hb ho=>⟨ho,hq.old b hb⟩,λb _ hb _ ho=>⟨ho,hq.old b hb⟩,λ_ _=>rfl,λ_ _=>rfl⟩;have:=h.lasts hl (h.fr.step hl hq.os hq.tape hq.output hq.size (λb hb ho=>⟨ho,hq.old b hb⟩) (λ_ _ he=>by grind)) (λs cs hs _=>⟨(h.ob s cs hs).1,hq.old _ (h.ob s cs hs).lt⟩);grind[Q2]
theorem AdZ{o:Oper}{FF r n:Nat}{ys:List AV}{es P3:List (List AV)}(fj:Oa C o a g w FF (.sl (.own r 0) n es::ys))
 (CC:VG C FF n es ys P3) (h:R C A N g st a w) (hd:∀ k,o.dst=some k->k<N) {K:Act->World->Prop} {Q:Exit->Act->World->Prop}
 (hk:∀ g' a' w',R C A N g' ((st.I1 r n 0 P3).put o.dst (.BC [])) a' w'->K a' w'):o.wp C.P a w K Q:=by
 obtain⟨⟨fn,cd,hfn,Gj,hb⟩,KN⟩:=CC;obtain⟨vs,Hh,hex⟩:=fj;unfold Oper.wp;rw[hex,Mv hfn Gj hb,Oper.upon_enter]
 match vs,Hh with
 | u::vs,Hh =>
  simp[Bf,VR]at Hh;refine Calls.mono (KN g w r u vs h.glob Hh.1 Hh.2) λe w' he=>?_
  obtain⟨rfl,hq⟩:=he;have Uh:VR g w' (.BC []) (.tuple #[]):=by simp_all[VR,Bf]
  rcases hq with ⟨rfl,hq⟩|⟨cur,new,T,rW,hq⟩
  ·exact hk g _ w' (((h.PW r n 0).quiet hq).put hd Uh)
  ·exact hk g _ w' (((h.I1 rW).quiet hq).put hd Uh)
 |[],Hh=>grind[Bf]
def AdX{o:Oper}{c:Call}{f:Operand}{FF:Nat}{CW:List AV}(ho:o.op=.call c)(hc:c.callee=.value f)(hf:ev C st f=.fn FF CW){v:Way}{ob J3:List (Nat × List AV)}{y:AV}(hv:v.OK ob)
 (CC:Ad C FF (JU v.ρ (c.args.toList.map (ev C st)++CW)) ob y J3) (hob:Has v st ob) (Me:v.ρ.bs=[]\/(Flat (y.CX v.back)/\Lg (FP v.back J3))) :
 yu C o st (y.CX v.back) (rngs v.back.l) (rngs v.fm) (rngs v.back.m) (FP v.back J3):=by
 intro A N g a w hR K Q hk;obtain⟨⟨fn,cd,hfn,Gj,hb⟩,KN⟩:=CC;have hfv:=hR.ev f;rw[hf]at hfv;simp[VR]at hfv;obtain⟨us,Y6,lR⟩:=hfv;unfold Oper.wp;rw[nw a ho hc Y6 w,Mv hfn Gj hb,Oper.upon_enter];have Hh:Bf g w (c.args.toList.map (ev C st)++CW) ((c.args.toList.map a.eval)++us.toList):=Bf.append (Hx hR _) lR;have iC:=Bf.CX (ρ:=v.ρ) (base:=g) hv.Yc _ _ Hh;have WE:Glob C (entry v g) w:=λi cs hi=>by
  obtain⟨h1,h2,h3⟩:=hR.glob i cs hi;exact⟨h1,LN h2,EG.mono Ut _ ⟨i,0,none⟩ 0 h2 h3⟩
 have cg:=KN (entry v g) w _ WE iC λs' cs hs=>by
  obtain⟨s,cb,h1,h2,rfl⟩:=Np hv.Yc (hob s' cs hs);exact Er.CX hv.Yc h1 (hR.ob s cb h2)
 have e:c.args.map a.eval++us=((c.args.toList.map a.eval)++us.toList).toArray:=by grind
 rw[e];refine Calls.mono cg λe w' he=>?_
 obtain⟨u,g1,rfl,Ig,hy,Abw⟩:=he;refine hk u (after v g w g1) w' (VL hv Ig) (cE hv Ig hy (Me.imp id And.left)) λs cs hs=>?_
 obtain⟨s',cb,h1,h2,rfl⟩:=Np hv.back hs;have XS:=Abw s' cb h2;have AbA:Er (g1.CX v.back g) w' s (JU v.back cb):=Er.CX hv.back h1 XS;have hbx:g1.box s'=(g1.CX v.back g).box s:=(O8 hv.back h1).symm;exact XS.lift (Gm.kind hv.back.m h1) (Sy Ig AbA.1) (by show w'.heap[(g1.CX v.back g).box s]?=_;grind) (λus h=>Yk hv Ig h (Me.imp id λh=>Lg.lk h.2 hs))
end
end Go.Abs
