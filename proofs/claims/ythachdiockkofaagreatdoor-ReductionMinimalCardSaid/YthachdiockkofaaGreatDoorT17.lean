/- part 17 of the proof -/
import Derived.Test.YthachdiockkofaaGreatDoorT16
set_option linter.all false
open Go Go.Abs Go.Proofs
set_option maxRecDepth 100000
namespace Go.Rd
set_option maxHeartbeats 8000000
open List (length_take take_add_one)
open Option (getD_some isSome_some)
open Tryz
theorem YZ{α:Type}(a:List α)(z v:α)(k:Nat):(a++List.replicate (k+1) z).set a.length v=(a++[v])++List.replicate k z:=by
 rw[List.set_append_right _ _ (Nat.le_refl _)]
 simp[List.replicate_succ]
theorem f161_ok(s:WS)(p:Proc)(h:Few s)(hv:AB s=true)(n:Need)(hf:(s.needs.find? fun n=>decide (n.proc=p))=some n):Ac C0 161 [.agg s.c,.agg p.c] [] (G5 (Er s n)) []:=by
 have hl:=Ci n.expr
 have hp:n.proc=p:=by have:=List.find?_some hf;simpa using this
 have hg:Er s n=(Ag n.expr).map fun a=>!Gx s.queues p a.name:=by
  unfold Er
  rw[hp]
  exact List.map_congr_left fun a _=>by rw[TO hv]
 rw[hg]
 refine Ac.go f161 ?_
 unfold f161
 refine gO ?_
 refine Aa (f92_ok s p h) ?_
 simp(disch:=omega)only[go_sem,hf,isSome_some,getD_some]
 refine Aa (f56_ok s h) ?_
 simp(disch:=omega)only[go_sem,hv]
 refine Ae (f93_ok n.expr) (by simp(disch:=omega)only[go_sem,Expr.Cb]) rfl ?_
 refine gO ?_
 generalize Ag n.expr=A at hl
 refine Ab (α:=Nat) (fun i=>⟨[(9,I i),(7,Be A),(2,.ptr 128 0),(3,.ptr 192 0),(8,.sl (.own 1792 0) 1 (((A.take i).map fun a=>[B (!Gx s.queues p a.name)])++List.replicate (A.length-i) [B false]))],[(128,s.c),(192,p.c)]⟩) (fun i=>i≤(A).length∧True) (fun i=>(A).length-i) 0 ⟨by omega,trivial⟩ ?_ ?_
 ·exact Bu
 rintro i ⟨hi,hP⟩ J hJ
 refine gO ?_
 refine ⟨fun hlt=>?_,fun hge=>?_⟩
 rotate_left
 have hil:i=(A).length:=by simp at hge;omega
 rotate_left
 obtain⟨b,hb⟩:∃ b,(A)[i]?=some b:=⟨_,gE (by simp at hlt;omega)⟩
 have hbm:=mG hb
 have hlt2:i<(A).length:=by simp at hlt;omega
 refine Aj 11 [([],[8]),([],[9]),([],[2]),([],[3]),([],[7]),([],[9]),([],[39,40]),([],[41]),([],[42]),([],[37,38,43]),([9],[44])] fol ?_
 simp(disch:=omega)only[go_sem,gm,hb]
 ·have hlen:min i A.length+(A.length-i)=A.length:=by omega
  first|(refine Aa (f52_ok s p b.name h) ?_)|(refine Ai (f52_ok s p b.name h) ?_)
  have hget:(((A.take i).map fun a=>[B (!Gx s.queues p a.name)])++List.replicate (A.length-i) [B false])[i]?=some [B false]:=by
   rw[List.getElem?_append_right (by simp;omega),List.getElem?_replicate]
   simp;omega
  simp(disch:=omega)only[go_sem,hget,List.length_append,List.length_replicate,List.length_map,length_take,hlen]
  refine hJ _ (i+1) ⟨by simp at hlt;omega,trivial⟩ (by simp at hlt;omega) (Imp.weak ?_ ?_)
  rotate_left
  ·exact gI
  refine gO ?_
  refine .sl ?_
  have e1:A.length-i=(A.length-(i+1))+1:=by omega
  have e2:=YZ ((A.take i).map fun a=>[B (!Gx s.queues p a.name)]) [B false] [B (!Gx s.queues p b.name)] (A.length-(i+1))
  simp only[List.length_map,length_take,Nat.min_eq_left hi]at e2
  rw[e1,e2,take_add_one,hb]
  simp
 ·subst hil
  refine B3 ⟨[],[],[1792]⟩ _ ?_
  simp(disch:=omega)only[go_sem,List.take_length,Nat.sub_self,List.replicate_zero,List.append_nil]
  exact .sl (by simp)
theorem f108_ok(s:WS)(p:Proc)(h:Few s)(hv:AB s=true):Ac C0 108 [.agg s.c,.agg p.c] [] (B (Ce s p)) []:=by
 refine Ac.go f108 ?_
 unfold f108
 refine gO ?_
 refine Aa (f92_ok s p h) ?_
 cases hf:s.needs.find? fun n=>decide (n.proc=p) with
 |none =>
  have e:Ce s p=true:=by unfold Ce;rw[hf]
  simp(disch:=omega)only[go_sem,Option.isSome_none,e]
  refine Aj 8 [([],[6]),([],[13]),([],[14]),([],[5,15]),([],[16,15]),([],[2,15]),([],[3,15]),([],[18,19,15])] fol ?_
  refine gO ?_
  exact Av _
 |some n =>
  have hm:=List.mem_of_find?_eq_some hf
  have he:AQ n.expr=true:=I8 hv n hm
  have e:Ce s p=D2 n.expr (Er s n):=by unfold Ce;rw[hf]
  simp(disch:=omega)only[go_sem,isSome_some,e,getD_some]
  refine Aj 8 [([],[6]),([],[13]),([],[14]),([],[5,15]),([],[16,15]),([],[2,15]),([],[3,15]),([],[18,19,15])] fol ?_
  refine gO ?_
  first|(refine Aa (f161_ok s p h hv n hf) ?_)|(refine Ai (f161_ok s p h hv n hf) ?_)
  refine gO ?_
  first
   |(refine Ae (f160_ok n.expr (Er s n) he) (by simp(disch:=omega)only[go_sem,Expr.Cb]) rfl ?_)
   |(refine An ⟨⟨[],[],[]⟩,[],[]⟩ (f160_ok n.expr (Er s n) he) (by simp(disch:=omega)only[go_sem,Expr.Cb]) rfl rfl trivial (.inl rfl) ?_)
  refine gO ?_
  exact Av _
theorem f57_ok(s:WS)(h:Few s):Ac C0 57 [.agg s.c] [] (Aq (Hr s)) []:=by
 have hl:=CW h
 refine Ac.go f57 ?_
 unfold f57
 refine gO ?_
 refine Aa (f56_ok s h) ?_
 cases hv:AB s
 ·have e:Hr s=[]:=by simp[Hr,hv]
  simp(disch:=omega)only[go_sem,e]
  exact Av _
 have e:Hr s=Bg s:=by simp[Hr,hv]
 rw[e]
 refine gO ?_
 refine Aa (f34_ok s h) ?_
 refine gO ?_
 refine Ab (α:=Nat) (fun i=>⟨[(5,I i),(4,Aq (Ah s)),(1,.ptr 64 0),(3,.sl (.own 1856 0) 3 ((((Ah s).take i).filter fun p=>Ce s p).map Proc.c))],[(64,s.c)]⟩) (fun i=>i≤((Ah s)).length∧True) (fun i=>((Ah s)).length-i) 0 ⟨by omega,trivial⟩ ?_ ?_
 ·exact Bu
 rintro i ⟨hi,hP⟩ J hJ
 refine gO ?_
 refine ⟨fun hlt=>?_,fun hge=>?_⟩
 rotate_left
 have hil:i=((Ah s)).length:=by simp at hge;omega
 rotate_left
 obtain⟨b,hb⟩:∃ b,((Ah s))[i]?=some b:=⟨_,gE (by simp at hlt;omega)⟩
 have hbm:=mG hb
 have hlt2:i<((Ah s)).length:=by simp at hlt;omega
 refine Aj 5 [([],[1]),([],[4]),([],[5]),([],[18,19]),([],[20])] fol ?_
 simp(disch:=omega)only[go_sem,gm,hb]
 ·have hbd:(((Ah s).take i).filter fun p=>Ce s p).length+1≤4294967296:=by
   have:(((Ah s).take i).filter fun p=>Ce s p).length≤((Ah s).take i).length:=List.length_filter_le _ _
   rw[length_take]at this;omega
  first|(refine Aa (f108_ok s b h hv) ?_)|(refine Ai (f108_ok s b h hv) ?_)
  cases hh:Ce s b
  ·simp(disch:=omega)only[go_sem]
   refine hJ _ (i+1) ⟨by simp at hlt;omega,trivial⟩ (by simp at hlt;omega) (Imp.weak ?_ ?_)
   all_goals(try simp(disch:=omega)only[go_sem])
   all_goals(try(repeat'(with_reducible apply And.intro)))
   all_goals(first|exact .AA (by omega)|exact .Au (by omega)|exact .sl (by simp[take_add_one,hb,hh,Proc.c])|exact .int (by simp[take_add_one,hb,hh,Proc.c])|exact .eq (by simp[take_add_one,hb,hh,Proc.c]))
  ·simp(disch:=omega)only[go_sem,gm,hb]
   refine hJ _ (i+1) ⟨by simp at hlt;omega,trivial⟩ (by simp at hlt;omega) (Imp.weak ?_ ?_)
   all_goals(try simp(disch:=omega)only[go_sem])
   all_goals(try(repeat'(with_reducible apply And.intro)))
   all_goals(first|exact .AA (by omega)|exact .Au (by omega)|exact .sl (by simp[take_add_one,hb,hh,Proc.c])|exact .int (by simp[take_add_one,hb,hh,Proc.c])|exact .eq (by simp[take_add_one,hb,hh,Proc.c]))
 ·subst hil
  simp(disch:=omega)only[go_sem,List.take_length]
  refine B3 ⟨[],[],[1856]⟩ _ ?_
  simp(disch:=omega)only[go_sem,Bg]
end Go.Rd
namespace Go.Abs
def TT(x y:AV):Prop:=x=y∨(x=.v (.slice none 0 0)∧∃ n,y=.sl .no (n+1) [])
def ID:List AV→List AV→Prop
 |[],[]=>True
 | x::xs,y::ys=>TT x y∧ID xs ys
 |_,_=>False
def FF:List (List AV)→List (List AV)→Prop
 |[],[]=>True
 | x::xs,y::ys=>ID x y∧FF xs ys
 |_,_=>False
theorem ID.len:∀ {xs ys:List AV},ID xs ys→xs.length=ys.length
 |[],[],_=>rfl
 |_::_,_::_,h=>by simp[ID.len h.2]
 |[],_::_,h=>h.elim
 |_::_,[],h=>h.elim
theorem FF.len:∀ {xs ys:List (List AV)},FF xs ys→xs.length=ys.length
 |[],[],_=>rfl
 |_::_,_::_,h=>by simp[FF.len h.2]
 |[],_::_,h=>h.elim
 |_::_,[],h=>h.elim
theorem ID.refl:∀ xs:List AV,ID xs xs
 |[]=>trivial
 |_::xs=>⟨.inl rfl,ID.refl xs⟩
theorem FF.refl:∀ xs:List (List AV),FF xs xs
 |[]=>trivial
 | x::xs=>⟨ID.refl x,FF.refl xs⟩
theorem FF.set{L L':List AV}(h:ID L L'):∀ (xs:List (List AV)) (i:Nat),FF (xs.set i L) (xs.set i L')
 |[],_=>trivial
 |_::xs,0=>⟨h,FF.refl xs⟩
 | x::xs,i+1=>⟨ID.refl x,FF.set h xs i⟩
theorem FF.append{a b:List (List AV)}(c:List (List AV))(h:FF a b):FF (c++a) (c++b):=by
 induction c with
 | nil=>exact h
 | cons x c ih=>exact⟨ID.refl x,ih⟩
section
variable {ro:Nat→Prop} {w:World}
theorem TT.PR{x y:AV}{u:Value}(h:TT x y)(hu:PR ro w x u):PR ro w y u:=by
 rcases h with rfl|⟨rfl,n,rfl⟩
 ·exact hu
 ·simp only[Abs.PR]at hu ⊢
  obtain⟨rfl,_⟩:=hu
  exact⟨(fun _ _ h=>by cases h),none,0,rfl,Nat.le_refl _,by simp[maxLen],(fun h=>by cases h),by omega,.inl trivial⟩
theorem ID.PRc:∀ {xs ys:List AV} {ad:Addr} {j:Nat},ID xs ys→PRc ro w xs ad j→PRc ro w ys ad j
 |[],[],_,_,_,_=>trivial
 |_::_,_::_,_,_,h,⟨⟨u,h1,h2⟩,h3⟩=>⟨⟨u,h1,h.1.PR h2⟩,ID.PRc h.2 h3⟩
 |[],_::_,_,_,h,_=>h.elim
 |_::_,[],_,_,h,_=>h.elim
theorem FF.PRe:∀ {xs ys:List (List AV)} {ad:Addr} {n i:Nat},FF xs ys→PRe ro w xs ad n i→PRe ro w ys ad n i
 |[],[],_,_,_,_,_=>trivial
 |_::_,_::_,_,_,_,h,⟨h1,h2,h3⟩=>⟨h.1.len▸h1,h.1.PRc h2,FF.PRe h.2 h3⟩
 |[],_::_,_,_,_,h,_=>h.elim
 |_::_,[],_,_,_,h,_=>h.elim
end
theorem FF.nil{a b:List (List AV)}(h:FF a b)(ha:a=[]):b=[]:=by
 subst ha
 cases b with
 | nil=>rfl
 | cons=>exact h.elim
theorem Bz.YJ{t:Tag}{n:Nat}{a b:List (List AV)}(h:FF a b):Bz (.sl t n a) (.sl t n b):=fun g w u hu=>by
 have hl:=h.len
 match t with
 |.own r lo =>
  simp only[VR,B4]at hu ⊢
  refine⟨hu.1,?_⟩
  rcases hu.2 with ⟨h1,h2⟩|⟨h0,h2,h3⟩|⟨cap,cur,T,h1,h2,h3,h5,h6,h7,h8⟩
  ·exact .inl ⟨h1,h.nil h2⟩
  ·exact .inr (.inl ⟨h0,h.nil h2,h3⟩)
  ·exact .inr (.inr ⟨cap,cur,T,hl▸h1,hl▸h2,h3,h5,h6,h7,h.PRe h8⟩)
 |.no =>
  simp only[VR,PR]at hu ⊢
  obtain⟨h0,c,cap,h1,h2,h3,h4,h5,h6⟩:=hu
  exact⟨h0,c,cap,hl▸h1,hl▸h2,h3,hl▸h4,h5,h6.imp (fun e=>h.nil e) fun⟨ad,k1,k2,k3⟩=>⟨ad,k1,k2,h.PRe k3⟩⟩
 |.full =>
  simp only[VR,PR]at hu ⊢
  obtain⟨h0,c,cap,h1,h2,h3,h4,h5,h6⟩:=hu
  exact⟨h0,c,cap,hl▸h1,hl▸h2,h3,hl▸h4,h5,h6.imp (fun e=>h.nil e) fun⟨ad,k1,k2,k3⟩=>⟨ad,k1,k2,h.PRe k3⟩⟩
end Go.Abs
namespace Go.Abs
def neut(X:Env)(ops:Array Oper)(st:St):List Nat→Prop
 |[]=>True
 | f::F=>AR X ops (Ll ops f) (fun st'=>H2 st' st.tmps∧Ff st' st.objs) st∧neut X ops st F
def UH(X:Env)(ops:Array Oper)(F:List Nat)(K:St→Prop):List Oper→St→Prop
 |[],st=>neut X ops st F∧K st
 | o::os,st=>neut X ops st F∧AR X ops [o] (UH X ops F K os) st
def Dj(ops:Array Oper)(k:Nat):Array Oper:=(ops.toList.take k).toArray
def UA(ops:Array Oper)(k:Nat)(tab:List (List Nat × List Nat))(F:List Nat):Bool :=
 decide (k≤ops.size)&&(List.range ops.size).all (fun i=>(Bb ops i).all (fun e=>decide (e<i)) &&
  (CV tab i).all (fun p=>(Bb ops i).any fun e=>p==e||(CV tab e).contains p) &&
  (decide (i<k)||(List.range i).all fun j=>F.contains j||(CV tab i).contains j)) &&
 ((List.range k).all fun i=>(List.range i).all fun j=>(CV tab i).contains j||!(clash ops tab i j))&&F.all (fun f=>decide (f<k))&&ops.toList.all fun o=>o.guard.isNone
section
variable {X:Env} {A:A0} {N:Nat} {g:Gh} {st0:St} {a:Act} {w:World} {ops:Array Oper} {k:Nat} {tab:List (List Nat × List Nat)} {res:Nat→Res} {D:Nat→Bool} {F:List Nat}
theorem N1{i:Nat}(h:i<k):(Dj ops k)[i]?=ops[i]?:=by
 simp[Dj,List.getElem?_take,h]
theorem Kg{i:Nat}(h:i<k):Bb (Dj ops k) i=Bb ops i:=by unfold Bb;rw[N1 h]
theorem N0{i:Nat}(h:i<k):Dk (Dj ops k) i=Dk ops i:=by unfold Dk;rw[N1 h]
structure PE(ops:Array Oper)(k:Nat)(tab:List (List Nat × List Nat))(F:List Nat):Prop where
 le:k≤ops.size
 edge:∀ i,i<ops.size→∀ e∈Bb ops i,e<i
 pred:∀ i,i<ops.size→∀ p∈CV tab i,∃ e∈Bb ops i,p=e∨p∈CV tab e
 tail:∀ i,i<ops.size→k≤i→∀ j,j<i→j∈F∨j∈CV tab i
 apart:∀ i j,i<k→j<i→j∈CV tab i∨clash ops tab i j=false
 small:∀ f∈F,f<k
 guard:∀ o∈ops,o.guard=none
theorem UA.spec(h:UA ops k tab F=true):PE ops k tab F:=by
 simp only[UA,Bool.and_eq_true,decide_eq_true_eq,List.all_eq_true,List.mem_range,Bool.or_eq_true,List.any_eq_true,List.contains_iff_mem,beq_iff_eq,Bool.not_eq_true',Option.isNone_iff_eq_none]at h
 obtain⟨⟨⟨⟨h1,h2⟩,h3⟩,h4⟩,h5⟩:=h
 exact⟨h1,fun i hi=>(h2 i hi).1.1,fun i hi=>(h2 i hi).1.2,fun i hi hk j hj=>((h2 i hi).2.resolve_left (by omega)) j hj,fun i j hi hj=>h3 i hi j hj,h4,fun o ho=>h5 o (by simpa using ho)⟩
theorem PE.cut(h:PE ops k tab F):HZ (Dj ops k) k tab:=by
 have hs:(Dj ops k).size=k:=by have:=h.le;simp[Dj];omega
 have hk:=h.le
 refine⟨by omega,fun i hi=>?_,fun i hi=>?_,fun i hi hk'=>by omega,fun i j hi hj=>?_⟩
 ·rw[Kg (by omega)];exact h.edge i (by omega)
 ·rw[Kg (by omega)];exact h.pred i (by omega)
 ·have:=h.apart i j hi hj
  unfold clash at this ⊢
  rw[N0 hi,N0 (by omega)]
  exact this
theorem PE.closed(h:PE ops k tab F)(hc:Closed ops D):∀ i,i<ops.size→(∀ e∈Bb ops i,D e=true)→∀ p∈CV tab i,D p=true:=by
 intro i
 induction i using Nat.strongRecOn with
 |_ i ih =>
  intro hi hd p hp
  obtain⟨e,he,h'|h'⟩:=h.pred i hi p hp
  ·subst h';exact hd _ he
  ·have hlt:=h.edge i hi e he
   exact ih e hlt (by omega) (hc e (by omega) (hd e he)) p h'
theorem TQ(h:PE ops k tab F){Q:Exit→Act→World→Prop}{i:Nat}(hi:i<k){K:Act→World→Prop}(hw:wpOp X.C.P (Dj ops k) Q i K a w):wpOp X.C.P ops Q i K a w:=by
 unfold wpOp at hw ⊢
 rw[N1 hi]at hw
 cases ho:ops[i]? with
 |none=>rw[ho]at hw;exact hw
 |some o =>
  rw[ho]at hw
  have hg:=h.guard o (Array.mem_of_getElem? ho)
  simp only[Region.wanted,hg,if_true]at hw ⊢
  exact hw
theorem J4(h:PE ops k tab F){listed:Array Bool}(hs:listed.size=ops.size):∀ n j,j<ops.size→dOf listed j=false→j≤n→∃ i,i≤j∧i∈Region.ready .any ops listed:=by
 intro n
 induction n with
 | zero =>
  intro j hj hd hjn
  have:j=0:=by omega
  subst this
  exact⟨0,by omega,(Bd hs).2 ⟨by omega,hd,fun e he=>by have:=h.edge 0 (by omega) e he;omega⟩⟩
 | succ n ihn =>
  intro j hj hd hjn
  by_cases hed:∀ e∈Bb ops j,dOf listed e=true
  ·exact⟨j,by omega,(Bd hs).2 ⟨by omega,hd,hed⟩⟩
  ·have:∃ e,e∈Bb ops j∧dOf listed e=false:=by
    apply Classical.byContradiction
    intro hno
    refine hed fun e he=>?_
    cases hde:dOf listed e with
    | true=>rfl
    | false=>exact(hno ⟨e,he,hde⟩).elim
   obtain⟨e,he,hde⟩:=this
   have:=h.edge j (by omega) e he
   obtain⟨i,h1,h2⟩:=ihn e (by omega) hde (by omega)
   exact⟨i,by omega,h2⟩
theorem Tg{st:St}{f:Nat}:∀ {F:List Nat},neut X ops st F→f∈F→AR X ops (Ll ops f) (fun st'=>H2 st' st.tmps∧Ff st' st.objs) st
 |_::_,h,hm=>by
  rcases List.mem_cons.1 hm with rfl|hm
  ·exact h.1
  ·exact Tg h.2 hm
theorem UI(hA:A.ext=X.ext)(hX:∀ s∈X.ext,s%64=63)(hN:∀ o∈ops,Hp N o=true)(hr:PE ops k tab F){Q:Exit→Act→World→Prop}{K:St→Prop}(hQ:∀ g st a w,R X.C A N g st a w→K st→Q .normal a w) :
 ∀ (fuel i:Nat) (listed:Array Bool) (g:Gh) (st:St) (a:Act) (w:World),listed.size=ops.size→unl listed≤fuel→Closed ops (dOf listed)→k≤i→i≤ops.size→(∀ j,j<ops.size→j∉F→dOf listed j=decide (j<i)) →
 UH X ops F K (ops.toList.drop i) st→R X.C A N g st a w→wpAny X.C.P .any ops Q fuel listed a w:=by
 intro fuel
 induction fuel with
 | zero =>
  intro i listed g st a w hs hu hc hk hi hd h hR
  have hin:i=ops.size:=by
   rcases Nat.lt_or_ge i ops.size with hlt|hge
   ·have:=Gl (by omega) (by omega:i<listed.size)
    rw[hd i hlt (fun hf=>by have:=hr.small i hf;omega)]at this
    simp at this
   ·omega
  subst hin
  rw[List.drop_eq_nil_of_le (by simp)]at h
  refine⟨?_,hQ g st a w hR h.2⟩
  cases hrd:Region.ready .any ops listed with
  | nil=>rfl
  | cons j l =>
   have hj:j∈Region.ready .any ops listed:=by rw[hrd];simp
   have h1:=(Bd hs).1 hj
   have:=Gl (by omega) (by omega:j<listed.size)
   rw[h1.2.1]at this;cases this
 | succ fuel ih =>
  intro i listed g st a w hs hu hc hk hi hd h hR
  have hne:neut X ops st F:=by
   cases hdr:ops.toList.drop i with
   | nil=>rw[hdr]at h;exact h.1
   | cons o l=>rw[hdr]at h;exact h.1
  constructor
  ·intro h0
   have hall:∀ j,j<ops.size→dOf listed j=true:=fun j hj=>by
    cases hdj:dOf listed j with
    | true=>rfl
    | false =>
     obtain⟨i',_,h2⟩:=J4 hr hs j j hj hdj (Nat.le_refl _)
     rw[h0]at h2;cases h2
   have hin:i=ops.size:=by
    rcases Nat.lt_or_ge i ops.size with hlt|hge
    ·have h1:=hall i hlt
     rw[hd i hlt (fun hf=>by have:=hr.small i hf;omega)]at h1
     simp at h1
    ·omega
   subst hin
   rw[List.drop_eq_nil_of_le (by simp)]at h
   exact hQ g st a w hR h.2
  ·intro j hj
   obtain⟨h1,h2,h3⟩:=(Bd hs).1 hj
   have ho:ops[j]?=some ops[j]:=Array.getElem?_eq_getElem h1
   have hunl:=GP (by omega:j<listed.size) h2
   have hc':Closed ops (dOf (listed.setIfInBounds j true)):=by rw[DG (by omega)];exact IJ hc h3
   by_cases hjF:j∈F
   ·have hop:=Tg hne hjF
    simp only[Ll,ho,AR]at hop
    refine L5 hA hX ho (fun g' st' a' w' hR' hK'=>?_) (hN _ (Array.getElem_mem h1)) hop hR
    refine ih i _ g' st a' w' (by simp[hs]) (by omega) hc' hk hi (fun q hq hqF=>?_) h (hR'.weak hK'.1 hK'.2)
    rw[DG (by omega)]
    have:q≠j:=fun e=>hqF (e▸hjF)
    simp only[Gp,this,if_false]
    exact hd q hq hqF
   ·have hji:j=i:=by
     rw[hd j h1 hjF]at h2
     have hge:i≤j:=by simpa using h2
     rcases Nat.lt_or_ge i j with hlt|hle
     ·have hiF:i∉F:=fun hf=>by have:=hr.small i hf;omega
      have:=(hr.tail j h1 (by omega) i hlt).resolve_left hiF
      have:=hr.closed hc j h1 h3 i this
      rw[hd i (by omega) hiF]at this
      simp at this
     ·omega
    subst hji
    rw[List.drop_eq_getElem_cons (by simpa using h1)]at h
    have hop:=h.2
    have e:ops.toList[j]'(by simpa using h1)=ops[j]:=by simp
    rw[e]at hop
    simp only[AR]at hop
    refine L5 hA hX ho (fun g' st' a' w' hR' hK'=>?_) (hN _ (Array.getElem_mem h1)) hop hR
    refine ih (j+1) _ g' st' a' w' (by simp[hs]) (by omega) hc' (by omega) (by omega) (fun q hq hqF=>?_) hK' hR'
    rw[DG (by omega)]
    simp only[Gp]
    split
    ·rename_i e;subst e;simp
    ·rename_i e;rw[hd q hq hqF];congr 1;simp;omega
theorem Qt{all all':Array Oper}{objs:List (Nat × List AV)}{K:St→Prop}:∀ (os:List Oper) (tb:List (List Nat × List Nat)) (i:Nat) (cr:List (Nat × List Nat × List Nat)) (st:St),(∀ o∈os,o.guard=none)→Ep X all objs os tb i cr K st→Ep X all' objs os tb i cr K st
 |[],_,_,_,_,_,h=>h
 |_::_,[],_,_,_,_,h=>h
 | o::os,(p,ts)::tb,i,cr,st,hg,h=>by
  simp only[Ep,hg o (by simp)]at h ⊢
  exact h.mono fun e he=>⟨he.1,Qt os tb (i+1) _ _ (fun o' ho'=>hg o' (by simp[ho'])) he.2⟩
theorem VN(hA:A.ext=X.ext)(hX:∀ s∈X.ext,s%64=63)(hN:∀ o∈ops,Hp N o=true)(hr:PE ops k tab F)(hv:Valid X (Dj ops k) tab st0 res k)(hdst:∀ j,j<k→(Dk (Dj ops k) j).isSome=true){Q:Exit→Act→World→Prop}{K:St→Prop}(hQ:∀ g st a w,R X.C A N g st a w→K st→Q .normal a w)
 {keep:List Nat} (hkeep:∀ t∈keep,t∉F.filterMap (Dk ops)) (htail:UH X ops F K (ops.toList.drop k) ⟨restr (canon (Dj ops k) res st0 k) keep,st0.objs⟩):∀ (fuel:Nat) (listed:Array Bool) (g:Gh) (a:Act) (w:World),listed.size=ops.size→unl listed≤fuel→Closed ops (dOf listed)→(∀ j,j<ops.size→dOf listed j=true→j<k) →
 R X.C A N g (stD (Dj ops k) res st0 (dOf listed) k) a w→wpAny X.C.P .any ops Q fuel listed a w:=by
 have hk:=hr.le
 have hN':∀ o∈Dj ops k,∀ d,o.dst=some d→d<N:=fun o ho d hd=>by
  have:=hN o (by simp only[Dj,List.mem_toArray]at ho;simpa using List.mem_of_mem_take ho)
  simpa [Hp,hd]using this
 have low:∀ (fuel:Nat) (listed:Array Bool) (g:Gh) (a:Act) (w:World),listed.size=ops.size→unl listed≤fuel→Closed ops (dOf listed)→(∀ j,j<ops.size→dOf listed j=true→j<k)→(∀ j,j<k→j∉F→dOf listed j=true)→R X.C A N g (stD (Dj ops k) res st0 (dOf listed) k) a w→wpAny X.C.P .any ops Q fuel listed a w:=by
  intro fuel listed g a w hs hu hc hlt hall hR
  refine UI hA hX hN hr hQ fuel k listed g _ a w hs hu hc (Nat.le_refl _) hk (fun j hj hjF=>?_) htail (hR.le' (fun t x hx=>?_) fun s cs hs=>MY hv hs k (Nat.le_refl _))
  ·cases hd:dOf listed j with
   | true=>simp[hlt j hj hd]
   | false =>
    have:¬ j<k:=fun h=>by rw[hall j h hjF]at hd;cases hd
    simp[this]
  ·obtain⟨h1,h2⟩:=JS hx
   replace h1:=hkeep _ h1
   simp only[stD,canon]at h2 ⊢
   rw[← h2]
   refine O7 k fun j hj hdj=>?_
   refine hall j hj fun hjF=>h1 ?_
   rw[List.mem_filterMap]
   exact⟨j,hjF,by rw[← N0 hj];exact hdj⟩
 intro fuel
 induction fuel with
 | zero =>
  intro listed g a w hs hu hc hlt hR
  exact low 0 listed g a w hs hu hc hlt (fun j hj _=>Gl (by omega) (by omega)) hR
 | succ fuel ih =>
  intro listed g a w hs hu hc hlt hR
  by_cases hall:∀ j,j<k→j∉F→dOf listed j=true
  ·exact low _ listed g a w hs hu hc hlt hall hR
  ·have hc2:Closed (Dj ops k) (dOf listed):=fun i hi hD e he=>by
    have hik:i<k:=by have:(Dj ops k).size=k:=by simp[Dj];omega
                     omega
    rw[Kg hik]at he
    exact hc i (by omega) hD e he
   have step:∀ i∈Region.ready .any ops listed,wpOp X.C.P ops Q i (wpAny X.C.P .any ops Q fuel (listed.setIfInBounds i true)) a w:=fun i hi=>by
    obtain⟨h1,h2,h3⟩:=(Bd hs).1 hi
    have hp:=hr.closed hc i h1 h3
    have hik:i<k:=by
     rcases Nat.lt_or_ge i k with h|h
     ·exact h
     ·exact(hall fun j hj hjF=>hp j ((hr.tail i h1 h j (by omega)).resolve_left hjF)).elim
    refine TQ hr hik (MH hA hX hN' hr.cut hv hdst hc2 hik h2 hp hR fun g' a' w' hR'=>?_)
    rw[← DG (by omega)]at hR'
    refine ih _ g' a' w' (by simp[hs]) (by have:=GP (by omega:i<listed.size) h2;omega) (by rw[DG (by omega)];exact IJ hc h3) (fun j hj hD=>?_) hR'
    rw[DG (by omega)]at hD
    simp only[Gp]at hD
    split at hD
    ·rename_i e;omega
    ·exact hlt j hj hD
   refine⟨fun h0=>?_,step⟩
   have hex:∃ j,j<k∧dOf listed j=false:=by
    apply Classical.byContradiction
    intro hno
    refine hall fun j hj _=>?_
    cases hd:dOf listed j with
    | true=>rfl
    | false=>exact(hno ⟨j,hj,hd⟩).elim
   obtain⟨j,hj,hd⟩:=hex
   obtain⟨i,_,hi⟩:=J4 hr hs j j (by omega) hd (Nat.le_refl _)
   rw[h0]at hi;cases hi
end
theorem OH{X:Env}{ops:List Oper}{K:St→Prop}{st:St}(k:Nat)(tab:List (List Nat × List Nat))(F keep:List Nat)(hm:X.C.P.follows .mixedOrders=true)(hok:(UA ops.toArray k tab F&&keep.all fun t=>!(F.filterMap (Dk ops.toArray)).contains t)=true)
 (h:AM X ops.toArray st.objs (ops.take k) tab 0 (fun stf=>UH X ops.toArray F K (ops.drop k) ⟨restr stf keep,st.objs⟩) [] st):JB X ops.toArray K st:=by
 intro A N g a w hA hN hX hR id Q hQ
 rw[Bool.and_eq_true]at hok
 have hr:=UA.spec hok.1
 have hkeep:∀ t∈keep,t∉F.filterMap (Dk ops.toArray):=fun t ht=>by
  have:=List.all_eq_true.1 hok.2 t ht
  simpa using this
 have hk:=hr.le
 have hsz:ops.toArray.size=ops.length:=by simp
 have hlen:(ops.take k).length=k:=by simp;omega
 have hN2:∀ o∈ops.toArray,Hp N o=true:=fun o ho=>by
  unfold Hp
  cases hd:o.dst with
  |none=>rfl
  |some d=>simp;exact hN o ho d hd
 have hf:=Qt (all':=Dj ops.toArray k) _ _ _ _ _ (fun o ho=>hr.guard o (by simpa using List.mem_of_mem_take ho)) (F9 _ _ _ _ _ h)
 obtain⟨res,hv,hK⟩:=JM (X:=X) (st0:=st) (ops:=Dj ops.toArray k) (tab:=tab) (ops.take k) tab 0 [] (fun _=>⟨.undef,[],[],[]⟩) (fun j o hj=>by simpa [Dj]using hj) (fun j q hj=>by simpa using hj) ⟨fun i hi=>by omega,fun i hi=>by omega,fun i hi=>by omega,fun i hi=>by omega,fun i j _ hj=>by omega⟩ (fun i hi=>by omega) hf
 rw[hlen,Nat.zero_add]at hv hK
 have hdst:∀ j,j<k→(Dk (Dj ops.toArray k) j).isSome=true:=fun j hj=>by
  obtain⟨o,ho,hd,_⟩:=hv.op j hj
  simpa [Dk,ho]using hd
 refine wp_region_any hm (VN hA hX hN2 hr hv hdst hQ hkeep (by simpa using hK) ops.toArray.size (Array.replicate ops.toArray.size false) g a _ (by simp) (by simp[unl]) ?_ ?_ ?_)
 ·intro i hi hD
  have:i<ops.length:=by simpa using hi
  simp[dOf,Array.getD,this]at hD
 ·intro j hj hD
  have:j<ops.length:=by simpa using hj
  simp[dOf,Array.getD,this]at hD
 ·have e:stD (Dj ops.toArray k) res st (dOf (Array.replicate ops.toArray.size false)) k=st:=by
   have hf:∀ j,j<k→dOf (Array.replicate ops.toArray.size false) j=false:=fun j hj=>by
    have:j<ops.length:=by omega
    simp[dOf,Array.getD,this]
   have h1:tmD (Dk (Dj ops.toArray k)) res (dOf (Array.replicate ops.toArray.size false)) st.tmps k=st.tmps:=by
    rw[Mm (i:=0) k (by omega) fun j _ hj=>hf j hj];rfl
   have h2:∀ n,n≤k→obD res (dOf (Array.replicate ops.toArray.size false)) st.objs n=st.objs:=fun n=>by
    induction n with
    | zero=>intro _;rfl
    | succ n ih=>intro hn;simp only[obD,hf n (by omega),Bool.false_eq_true,if_false];exact ih (by omega)
   simp only[stD,h1,h2 k (Nat.le_refl _)]
  rw[e]
  exact hR.drew
theorem XP(X:Env)(ops:Array Oper)(F:List Nat)(K:St→Prop)(st:St):UH X ops F K [] st=(neut X ops st F∧K st):=nd rfl
theorem Wp(X:Env)(ops:Array Oper)(F:List Nat)(K:St→Prop)(o:Oper)(os:List Oper)(st:St):UH X ops F K (o::os) st=(neut X ops st F∧AR X ops [o] (UH X ops F K os) st):=nd rfl
theorem Xr(X:Env)(ops:Array Oper)(st:St):neut X ops st []=True:=nd rfl
theorem Wc(X:Env)(ops:Array Oper)(st:St)(f:Nat)(F:List Nat):neut X ops st (f::F)=(AR X ops (Ll ops f) (fun st'=>H2 st' st.tmps∧Ff st' st.objs) st∧neut X ops st F):=nd rfl
attribute [go_sem] XP Wp Xr Wc
end Go.Abs
namespace Go.Abs
def Q7:List Nat→List (List Nat)
 |[]=>[[]]
 | f::F=>Q7 F++(Q7 F).map (f::·)
theorem Nw(p:Nat→Bool):∀ F:List Nat,F.filter p∈Q7 F
 |[]=>by simp[Q7]
 | f::F=>by
  have ih:=Nw p F
  simp only[List.filter_cons,Q7,List.mem_append,List.mem_map]
  split
  ·exact .inr ⟨_,ih,rfl⟩
  ·exact .inl ih
def WR(k:Nat)(F G:List Nat):List Nat:=(List.range k).filter fun j=>!F.contains j||G.contains j
def HL(o:Oper):Bool:=match o.op with
 |.move _=>true
 |.extract _ _=>true
 |.nilCheck _=>true
 |.fieldAddr _ _ _=>true
 |.load _ _=>true
 |_=>false
def Vo(ops:Array Oper)(F:List Nat):Bool:=F.all fun f=>match ops[f]? with
 |some o=>HL o
 |none=>false
def OR(X:Env)(objs:List (Nat × List AV)):List Oper→List (List Nat × List Nat)→Nat→List (Nat × List Nat × List Nat)→(St→Prop)→St→Prop
 |[],_,_,_,K,st=>K st
 |_::_,[],_,_,_,_=>False
 | o::os,(p,ts)::tab,i,cr,K,st=>IN X o ⟨restr st ts,objs⟩ st p cr fun e=>(HL o=true→e.upd=[])∧o.dst.isSome=true∧OR X objs os tab (i+1) (Gq i e cr) K ⟨(St.put o.dst e.x st).tmps,e.upd++st.objs⟩
theorem XI(d:Option Nat)(x:AV)(st:St):(St.put d x st).objs=st.objs:=by cases d<;>rfl
theorem T9{X:Env}{o:Oper}{objs:List (Nat × List AV)}{r st:St}{p:List Nat}{i:Nat}{cr:List (Nat × List Nat × List Nat)}{K:List (Nat × List Nat × List Nat)→St→Prop}(hs:HL o=true)(h:Gu X o objs r p i cr K st) :
 Gu X o objs r p i cr (fun c s=>K c s∧s.objs.length=st.objs.length) st:=by
 have key:∀ v:Option AV,DP v p cr o.dst (K cr) st→DP v p cr o.dst ((fun c s=>K c s∧s.objs.length=st.objs.length) cr) st:=fun v hv=>by
  cases v with
  |none=>exact hv
  |some x=>exact⟨hv.1,hv.2,by rw[XI]⟩
 unfold HL at hs
 unfold Gu at h ⊢
 split at hs
 ·rename_i a ho
  rw[ho]at h ⊢
  exact key _ h
 ·rename_i a b ho
  rw[ho]at h ⊢
  exact key _ h
 ·rename_i a ho
  rw[ho]at h ⊢
  exact key _ h
 ·rename_i a b c ho
  rw[ho]at h ⊢
  exact key _ h
 ·rename_i a b ho
  rw[ho]at h ⊢
  exact key _ h
 ·cases hs
theorem Ry{X:Env}{all:Array Oper}{objs:List (Nat × List AV)}{K:St→Prop}:∀ (os:List Oper) (tab:List (List Nat × List Nat)) (i:Nat) (cr:List (Nat × List Nat × List Nat)) (st:St),(∀ o∈os,o.guard=none)→AM X all objs os tab i K cr st→OR X objs os tab i cr K st
 |[],_,_,_,_,_,h=>h
 |_::_,[],_,_,_,_,h=>h
 | o::os,(p,ts)::tab,i,cr,st,hg,h=>by
  simp only[AM,hg o (by simp)]at h
  obtain⟨hd,h⟩:=h
  simp only[OR]
  cases hs:HL o
  ·exact(MF rfl hd h).mono fun e he=>⟨(fun e=>by cases e),he.1,Ry os tab (i+1) _ _ (fun o' ho'=>hg o' (by simp[ho'])) he.2⟩
  ·refine(MF rfl hd (T9 hs h)).mono fun e he=>⟨fun _=>?_,he.1,Ry os tab (i+1) _ _ (fun o' ho'=>hg o' (by simp[ho'])) he.2.1⟩
   have:=he.2.2
   simp only[List.length_append]at this
   exact List.eq_nil_of_length_eq_zero (by omega)
def closedIn(ops:Array Oper)(F G:List Nat):Bool:=G.all fun g=>(Bb ops g).all fun e=>!F.contains e||G.contains e
def Uu(ops:Array Oper)(k:Nat)(F:List Nat)(ss:List (List Nat × List Nat × OT)):Bool :=
 Kj ops&&Vo ops F&&(Q7 F).all fun G=>!closedIn ops F G||ss.any fun s=>s.1==G&&okT ops (WR k F G) s.2.2&&s.2.1.all fun t=>!((F.filter fun f=>!G.contains f).filterMap (Dk ops)).contains t
def wpS(X:Env)(ops:Array Oper)(K:St→Prop):List (List Nat × List Nat × OT)→St→Prop
 |[],_=>True
 |(_,keep,t)::ss,st=>wpT X ops K t ⟨restr st keep,st.objs⟩∧wpS X ops K ss st
theorem Vi{X:Env}{ops:Array Oper}{K:St→Prop}{st:St}{s:List Nat × List Nat × OT}:∀ {ss:List (List Nat × List Nat × OT)},wpS X ops K ss st→s∈ss→wpT X ops K s.2.2 ⟨restr st s.2.1,st.objs⟩
 |(G,keep,t)::ss,h,hm=>by
  simp only[wpS]at h
  rcases List.mem_cons.1 hm with rfl|hm
  ·exact h.1
  ·exact Vi h.2 hm
section
variable {X:Env} {A:A0} {N:Nat} {g:Gh} {st0:St} {a:Act} {w:World} {ops:Array Oper} {k:Nat} {tab:List (List Nat × List Nat)} {res:Nat→Res} {D:Nat→Bool} {F:List Nat}
theorem Ti{base:List (Nat × List AV)}:∀ n,(∀ j,j<n→D j=true∨(res j).upd=[])→obD res D base n=obD res (fun _=>true) base n
 | 0,_=>rfl
 | n+1,h=>by
  have ih:=Ti (base:=base) n fun j hj=>h j (by omega)
  simp only[obD,ih,if_true]
  rcases h n (by omega) with h1|h1
  ·rw[h1];rfl
  ·rw[h1];split<;>rfl
theorem NA{K:St→Prop}:∀ (os:List Oper) (tb:List (List Nat × List Nat)) (n:Nat) (cr:List (Nat × List Nat × List Nat)) (res:Nat→Res),(∀ j o,os[j]?=some o→ops[n+j]?=some o)→(∀ j q,tb[j]?=some q→tab[n+j]?=some q)→(∀ o∈os,o.guard=none) →
 Valid X ops tab st0 res n→R2 res n cr→(∀ j o,j<n→ops[j]?=some o→HL o=true→(res j).upd=[])→OR X st0.objs os tb n cr K (canon ops res st0 n) →
 ∃ res',Valid X ops tab st0 res' (n+os.length)∧(∀ j o,j<n+os.length→ops[j]?=some o→HL o=true→(res' j).upd=[])∧K (canon ops res' st0 (n+os.length))
 |[],tb,n,cr,res,_,_,_,hv,_,hs,h=>⟨res,hv,hs,by simp only[OR]at h;simpa using h⟩
 |_::_,[],_,_,_,_,_,_,_,_,_,h=>by simp[OR]at h
 | o::os,(p,ts)::tb,n,cr,res,ho,ht,hg,hv,hc,hs,h=>by
  have ho0:ops[n]?=some o:=ho 0 o rfl
  have ht0:tab[n]?=some (p,ts):=ht 0 (p,ts) rfl
  have hp:CV tab n=p:=by simp[CV,List.getD,ht0]
  have hr:GC tab n=ts:=by simp[GC,List.getD,ht0]
  have hos:∀ j o',os[j]?=some o'→ops[n+1+j]?=some o':=fun j o' hj=>by
   have:=ho (j+1) o' (by simpa using hj)
   rwa [show n+(j+1)=n+1+j by omega]at this
  have htb:∀ j q,tb[j]?=some q→tab[n+1+j]?=some q:=fun j q hj=>by
   have:=ht (j+1) q (by simpa using hj)
   rwa [show n+(j+1)=n+1+j by omega]at this
  have hlen:n+(o::os).length=n+1+os.length:=by simp;omega
  rw[hlen]
  simp only[OR]at h
  obtain⟨e,h1,h2,h3,h4,h5,h6,hu,hd,hf⟩:=h
  refine NA os tb (n+1) _ _ hos htb (fun o' ho'=>hg o' (by simp[ho'])) (hv.snoc e ho0 hd (.inl ⟨.inl (hg o (by simp)),by rw[hr];exact h1⟩) h2 h3 ⟨h4,h5⟩ (by rw[hp];exact hc.away h6)) (hc.snoc e) (fun j o' hj hjo hjs=>?_) (by rw[Ot ho0 hd];exact hf)
  unfold D5
  split
  ·rename_i hjn
   subst hjn
   rw[ho0]at hjo
   have:=Option.some.inj hjo
   subst this
   exact hu hjs
  ·exact hs j o' (by omega) hjo hjs
theorem VO(hA:A.ext=X.ext)(hX:∀ s∈X.ext,s%64=63)(hN:Vl N ops)(hr:PE ops k tab F)(hv:Valid X (Dj ops k) tab st0 res k)(hdst:∀ j,j<k→(Dk (Dj ops k) j).isSome=true){Q:Exit→Act→World→Prop}{K:St→Prop}(hQ:∀ g st a w,R X.C A N g st a w→K st→Q .normal a w)
 {ss:List (List Nat × List Nat × OT)} (hok:Uu ops k F ss=true) (hupd:∀ j o,j<k→(Dj ops k)[j]?=some o→HL o=true→(res j).upd=[]) (htail:wpS X ops K ss (canon (Dj ops k) res st0 k)):∀ (fuel:Nat) (listed:Array Bool) (g:Gh) (a:Act) (w:World),listed.size=ops.size→unl listed≤fuel→Closed ops (dOf listed)→(∀ j,j<ops.size→dOf listed j=true→j<k) →
 R X.C A N g (stD (Dj ops k) res st0 (dOf listed) k) a w→wpAny X.C.P .any ops Q fuel listed a w:=by
 have hk:=hr.le
 have hN':∀ o∈Dj ops k,∀ d,o.dst=some d→d<N:=fun o ho d hd=>by
  have:=hN.1 o (by simp only[Dj,List.mem_toArray]at ho;simpa using List.mem_of_mem_take ho)
  simpa [Hp,hd]using this
 have low:∀ (fuel:Nat) (listed:Array Bool) (g:Gh) (a:Act) (w:World),listed.size=ops.size→unl listed≤fuel→Closed ops (dOf listed)→(∀ j,j<ops.size→dOf listed j=true→j<k)→(∀ j,j<k→j∉F→dOf listed j=true)→R X.C A N g (stD (Dj ops k) res st0 (dOf listed) k) a w→wpAny X.C.P .any ops Q fuel listed a w:=by
  intro fuel listed g a w hs hu hc hlt hall hR
  simp only[Uu,Bool.and_eq_true,List.all_eq_true]at hok
  have h1:=hok.2 (F.filter (dOf listed)) (Nw _ F)
  have hcl:closedIn ops F (F.filter (dOf listed))=true:=by
   unfold closedIn
   rw[List.all_eq_true]
   intro g hg
   rw[List.all_eq_true]
   intro e he
   rw[List.mem_filter]at hg
   by_cases hF:e∈F
   ·have h5:=hc g (by have:=hr.small g hg.1;omega) hg.2 e he
    simp[hF,h5]
   ·simp[hF]
  rw[hcl,Bool.not_true,Bool.false_or]at h1
  simp only[List.any_eq_true,Bool.and_eq_true,List.all_eq_true,beq_iff_eq,Bool.not_eq_true']at h1
  obtain⟨s,hsm,⟨hs1,hs2⟩,hs3⟩:=h1
  have hw:=Vi htail hsm
  have hobj:(canon (Dj ops k) res st0 k).objs=(stD (Dj ops k) res st0 (dOf listed) k).objs:=by
   refine(Ti k fun j hj=>?_).symm
   by_cases hjF:j∈F
   ·right
    have hm:=List.all_eq_true.1 hok.1.2 j hjF
    cases ho:ops[j]? with
    |none=>rw[ho]at hm;cases hm
    |some o=>rw[ho]at hm;exact hupd j o hj (by rw[N1 hj];exact ho) hm
   ·exact .inl (hall j hj hjF)
  refine KZ hA hX hN hQ s.2.2 fuel (WR k F (F.filter (dOf listed))) listed g _ a w hs hu (fun j hj=>?_) hs2 hw (hR.le' (fun t x hx=>?_) fun s cs hs=>hobj▸hs)
  ·rw[Bool.eq_iff_iff]
   simp only[WR,List.contains_iff_mem,List.mem_filter,List.mem_range,Bool.or_eq_true,Bool.not_eq_true',← Bool.not_eq_true]
   constructor
   ·intro hd
    refine⟨hlt j hj hd,?_⟩
    by_cases hjF:j∈F
    ·exact .inr ⟨hjF,hd⟩
    ·exact .inl hjF
   ·rintro⟨h1,h2|h2⟩
    ·exact hall j h1 h2
    ·exact h2.2
  ·obtain⟨h1,h2⟩:=JS hx
   have h3:=hs3 t h1
   simp only[stD,canon]at h2 ⊢
   rw[← h2]
   refine O7 k fun j hj hdj=>?_
   cases hd:dOf listed j with
   | true=>rfl
   | false =>
    exfalso
    have hjF:j∈F:=by
     apply Classical.byContradiction
     intro hjF
     rw[hall j hj hjF]at hd;cases hd
    have hm:t∈(F.filter fun f=>!(F.filter (dOf listed)).contains f).filterMap (Dk ops):=by
     rw[List.mem_filterMap]
     refine⟨j,?_,by rw[← N0 hj];exact hdj⟩
     rw[List.mem_filter]
     refine⟨hjF,?_⟩
     simp[hd]
    have h4:((F.filter fun f=>!(F.filter (dOf listed)).contains f).filterMap (Dk ops)).contains t=true:=by simpa using hm
    rw[h4]at h3;cases h3
 intro fuel
 induction fuel with
 | zero =>
  intro listed g a w hs hu hc hlt hR
  exact low 0 listed g a w hs hu hc hlt (fun j hj _=>Gl (by omega) (by omega)) hR
 | succ fuel ih =>
  intro listed g a w hs hu hc hlt hR
  by_cases hall:∀ j,j<k→j∉F→dOf listed j=true
  ·exact low _ listed g a w hs hu hc hlt hall hR
  ·have hc2:Closed (Dj ops k) (dOf listed):=fun i hi hD e he=>by
    have hik:i<k:=by have:(Dj ops k).size=k:=by simp[Dj];omega
                     omega
    rw[Kg hik]at he
    exact hc i (by omega) hD e he
   have step:∀ i∈Region.ready .any ops listed,wpOp X.C.P ops Q i (wpAny X.C.P .any ops Q fuel (listed.setIfInBounds i true)) a w:=fun i hi=>by
    obtain⟨h1,h2,h3⟩:=(Bd hs).1 hi
    have hp:=hr.closed hc i h1 h3
    have hik:i<k:=by
     rcases Nat.lt_or_ge i k with h|h
     ·exact h
     ·exact(hall fun j hj hjF=>hp j ((hr.tail i h1 h j (by omega)).resolve_left hjF)).elim
    refine TQ hr hik (MH hA hX hN' hr.cut hv hdst hc2 hik h2 hp hR fun g' a' w' hR'=>?_)
    rw[← DG (by omega)]at hR'
    refine ih _ g' a' w' (by simp[hs]) (by have:=GP (by omega:i<listed.size) h2;omega) (by rw[DG (by omega)];exact IJ hc h3) (fun j hj hD=>?_) hR'
    rw[DG (by omega)]at hD
    simp only[Gp]at hD
    split at hD
    ·rename_i e;omega
    ·exact hlt j hj hD
   refine⟨fun h0=>?_,step⟩
   have hex:∃ j,j<k∧dOf listed j=false:=by
    apply Classical.byContradiction
    intro hno
    refine hall fun j hj _=>?_
    cases hd:dOf listed j with
    | true=>rfl
    | false=>exact(hno ⟨j,hj,hd⟩).elim
   obtain⟨j,hj,hd⟩:=hex
   obtain⟨i,_,hi⟩:=J4 hr hs j j (by omega) hd (Nat.le_refl _)
   rw[h0]at hi;cases hi
end
theorem H6{X:Env}{ops:List Oper}{K:St→Prop}{st:St}(k:Nat)(tab:List (List Nat × List Nat))(F:List Nat)(ss:List (List Nat × List Nat × OT))(hm:X.C.P.follows .mixedOrders=true)(hok:(UA ops.toArray k tab F&&Uu ops.toArray k F ss)=true)
 (h:AM X ops.toArray st.objs (ops.take k) tab 0 (wpS X ops.toArray K ss) [] st):JB X ops.toArray K st:=by
 intro A N g a w hA hN hX hR id Q hQ
 rw[Bool.and_eq_true]at hok
 have hr:=UA.spec hok.1
 have hk:=hr.le
 have hsz:ops.toArray.size=ops.length:=by simp
 have hlen:(ops.take k).length=k:=by simp;omega
 have hN2:Vl N ops.toArray:=by
  refine⟨fun o ho=>?_,fun i hi e he=>?_⟩
  ·unfold Hp
   cases hd:o.dst with
   |none=>rfl
   |some d=>simp;exact hN o ho d hd
  ·have:=hr.edge i hi e he
   omega
 have hf:=Ry _ _ _ _ _ (fun o ho=>hr.guard o (by simpa using List.mem_of_mem_take ho)) h
 obtain⟨res,hv,hup,hK⟩:=NA (X:=X) (st0:=st) (ops:=Dj ops.toArray k) (tab:=tab) (ops.take k) tab 0 [] (fun _=>⟨.undef,[],[],[]⟩) (fun j o hj=>by simpa [Dj]using hj) (fun j q hj=>by simpa using hj) (fun o ho=>hr.guard o (by simpa using List.mem_of_mem_take ho)) ⟨fun i hi=>by omega,fun i hi=>by omega,fun i hi=>by omega,fun i hi=>by omega,fun i j _ hj=>by omega⟩ (fun i hi=>by omega) (fun j o hj=>by omega) hf
 rw[hlen,Nat.zero_add]at hup
 rw[hlen,Nat.zero_add]at hv hK
 have hdst:∀ j,j<k→(Dk (Dj ops.toArray k) j).isSome=true:=fun j hj=>by
  obtain⟨o,ho,hd,_⟩:=hv.op j hj
  simpa [Dk,ho]using hd
 refine wp_region_any hm (VO hA hX hN2 hr hv hdst hQ hok.2 hup hK ops.toArray.size (Array.replicate ops.toArray.size false) g a _ (by simp) (by simp[unl]) ?_ ?_ ?_)
 ·intro i hi hD
  have:i<ops.length:=by simpa using hi
  simp[dOf,Array.getD,this]at hD
 ·intro j hj hD
  have:j<ops.length:=by simpa using hj
  simp[dOf,Array.getD,this]at hD
 ·have e:stD (Dj ops.toArray k) res st (dOf (Array.replicate ops.toArray.size false)) k=st:=by
   have hf:∀ j,j<k→dOf (Array.replicate ops.toArray.size false) j=false:=fun j hj=>by
    have:j<ops.length:=by omega
    simp[dOf,Array.getD,this]
   have h1:tmD (Dk (Dj ops.toArray k)) res (dOf (Array.replicate ops.toArray.size false)) st.tmps k=st.tmps:=by
    rw[Mm (i:=0) k (by omega) fun j _ hj=>hf j hj];rfl
   have h2:∀ n,n≤k→obD res (dOf (Array.replicate ops.toArray.size false)) st.objs n=st.objs:=fun n=>by
    induction n with
    | zero=>intro _;rfl
    | succ n ih=>intro hn;simp only[obD,hf n (by omega),Bool.false_eq_true,if_false];exact ih (by omega)
   simp only[stD,h1,h2 k (Nat.le_refl _)]
  rw[e]
  exact hR.drew
theorem Y2(X:Env)(ops:Array Oper)(K:St→Prop)(st:St):wpS X ops K [] st=True:=nd rfl
theorem X5(X:Env)(ops:Array Oper)(K:St→Prop)(G keep:List Nat)(t:OT)(ss:List (List Nat × List Nat × OT))(st:St):wpS X ops K ((G,keep,t)::ss) st=(wpT X ops K t ⟨restr st keep,st.objs⟩∧wpS X ops K ss st):=nd rfl
attribute [go_sem] Y2 X5
end Go.Abs
open Go Go.Abs Go.Proofs
set_option maxRecDepth 100000
namespace Go.Rd
set_option maxHeartbeats 8000000
open List (length_take map_nil take_add_one take_length)
open Option (toList_some)
open Tryz
@[reducible] def Ho:AV:=.v (.slice none 0 0)
theorem f58_ok(s:WS)(p:Proc)(h:Few s)(hg:BX s):Ac C0 58 [.agg s.c,.agg p.c] [] (.agg (A3 s p).c) []:=by
 have hn1:=h.nq
 have hn2:=h.nn
 refine Ac.go f58 ?_
 unfold f58
 refine gO ?_
 refine Ab (α:=Nat) (fun i=>⟨[(6,I i),(2,.ptr 128 0),(3,.ptr 192 0),(5,.ptr 320 0),(4,.ptr 256 0)],[(128,s.c),(192,p.c),(256,[Ho,Ho]),(320,[.sl (.own 2688 0) 8 (((s.queues.take i).map fun q=>BV q p).map Queue.c),Ho])]⟩) (fun i=>i≤(s.queues).length∧True) (fun i=>(s.queues).length-i) 0 ⟨by omega,trivial⟩ ?_ ?_
 ·exact Bu
 rintro i ⟨hi,hP⟩ J hJ
 refine gO ?_
 refine ⟨fun hlt=>?_,fun hge=>?_⟩
 rotate_left
 have hil:i=(s.queues).length:=by simp at hge;omega
 rotate_left
 obtain⟨b,hb⟩:∃ b,(s.queues)[i]?=some b:=⟨_,gE (by simp at hlt;omega)⟩
 have hbm:=mG hb
 have hlt2:i<(s.queues).length:=by simp at hlt;omega
 simp(disch:=omega)only[go_sem,gm,hb]
 ·have ha:=h.aq b hbm
  have hvb:=hg b hbm
  have hbd:i+1≤4294967296:=by simp at hlt;omega
  have hbd':min i s.queues.length+1≤4294967296:=by omega
  have fin:∀ q,BV b p=q→∀ st',Imp ⟨C0,[],[]⟩ st' ⟨[(6,I (i+1:Nat)),(2,.ptr 128 0),(3,.ptr 192 0),(5,.ptr 320 0),(4,.ptr 256 0)],[(128,s.c),(192,p.c),(256,[Ho,Ho]),(320,[.sl (.own 2688 0) 8 (((s.queues.take i).map fun q=>BV q p).map Queue.c++[q.c]),Ho])]⟩→J st':=fun q hq st' h=>by
   refine hJ st' (i+1) ⟨by simp at hlt;omega,trivial⟩ (by simp at hlt;omega) ?_
   have e:((s.queues.take (i+1)).map fun q=>BV q p).map Queue.c=((s.queues.take i).map fun q=>BV q p).map Queue.c++[q.c]:=by
    rw[take_add_one,hb];simp[hq]
   rw[e];exact h
  clear hJ
  refine Aa (f109_ok b p (by omega)) ?_
  rw[Zk hvb p]
  cases hp:AK (Bm b) p
  ·simp(disch:=omega)only[go_sem,List.length_map,length_take]
   refine fin b (by simp[BV,hp]) _ (Imp.weak (by simp(disch:=omega)only[go_sem]) ?_)
   simp(disch:=omega)only[go_sem]
  refine gO ?_
  refine Aa (f110_ok b p ha) ?_
  have e:Ez b p=(EH (BF b p),(BD (BF b p)).2,0):=by simp[Ez,hvb,hp]
  simp(disch:=omega)only[go_sem,e,List.length_map,length_take]
  refine fin { EH (BF b p) with gen:=b.gen } (by simp[BV,hvb,hp]) _ (Imp.weak (by simp(disch:=omega)only[go_sem]) ?_)
  simp(disch:=omega)only[go_sem]
 subst hil
 rw[take_length]
 clear hJ
 refine Ab (α:=Nat) (fun i=>⟨[(11,I i),(2,.ptr 128 0),(3,.ptr 192 0),(5,.ptr 320 0),(4,.ptr 256 0)],[(128,s.c),(192,p.c),(256,[Ho,Ho]),(320,[.sl (.own 2688 0) 8 ((s.queues.map fun q=>BV q p).map Queue.c),.sl (.own 4288 0) 9 ((Iq (s.needs.take i) p).map Need.c)])]⟩) (fun i=>i≤(s.needs).length∧True) (fun i=>(s.needs).length-i) 0 ⟨by omega,trivial⟩ ?_ ?_
 ·exact Bu
 rintro i ⟨hi,hP⟩ J hJ
 refine gO ?_
 refine ⟨fun hlt=>?_,fun hge=>?_⟩
 rotate_left
 have hil:i=(s.needs).length:=by simp at hge;omega
 rotate_left
 obtain⟨b,hb⟩:∃ b,(s.needs)[i]?=some b:=⟨_,gE (by simp at hlt;omega)⟩
 have hbm:=mG hb
 have hlt2:i<(s.needs).length:=by simp at hlt;omega
 refine Aj 7 [([],[2]),([],[51]),([],[11]),([],[52,53]),([],[54]),([],[55]),([],[3])] fol ?_
 simp(disch:=omega)only[go_sem,gm,hb]
 ·have hbd:(Iq (s.needs.take i) p).length+1≤4294967296:=by
   have:(Iq (s.needs.take i) p).length≤(s.needs.take i).length:=List.length_filter_le _ _
   rw[length_take]at this;omega
  have e1:Iq (s.needs.take (i+1)) p=if b.proc=p then Iq (s.needs.take i) p else Iq (s.needs.take i) p++[b]:=by
   simp only[Iq,take_add_one,hb,toList_some,List.filter_append,List.filter_cons,List.filter_nil]
   by_cases h:b.proc=p<;>simp[h]
  by_cases hne:b.proc=p
  ·rw[if_pos hne]at e1
   simp(disch:=omega)only[go_sem,hne,decide_true]
   refine hJ _ (i+1) ⟨by simp at hlt;omega,trivial⟩ (by simp at hlt;omega) (Imp.weak (by simp(disch:=omega)only[go_sem]) ?_)
   rw[e1]
   simp(disch:=omega)only[go_sem]
  ·rw[if_neg hne]at e1
   simp(disch:=omega)only[go_sem,hne,decide_false]
   refine OG (let o0:OT:=.done;let o1:OT:=.pick [(10,o0)];let o2:OT:=.pick [(9,o1)];let o3:OT:=.pick [(8,o2)];let o4:OT:=.pick [(7,o3)];let o5:OT:=.pick [(6,o4)];let o6:OT:=.pick [(5,o5)];let o7:OT:=.pick [(4,o6)];let o8:OT:=.pick [(3,o6)];let o9:OT:=.pick [(3,o7),(4,o8)];let o10:OT:=.pick [(2,o8)];let o11:OT:=.pick [(2,o9),(4,o10)];let o12:OT:=.pick [(1,o3)];let o13:OT:=.pick [(1,o4),(7,o12)];let o14:OT:=.pick [(1,o5),(6,o13)];let o15:OT:=.pick [(1,o6),(5,o14)];let o16:OT:=.pick [(1,o7),(4,o15)];let o17:OT:=.pick [(1,o8),(3,o15)];let o18:OT:=.pick [(1,o9),(3,o16),(4,o17)];let o19:OT:=.pick [(1,o10),(2,o17)];let o20:OT:=.pick [(1,o11),(2,o18),(4,o19)];let o21:OT:=.pick [(0,o12)];let o22:OT:=.pick [(0,o13),(7,o21)];let o23:OT:=.pick [(0,o14),(6,o22)];let o24:OT:=.pick [(0,o15),(5,o23)];let o25:OT:=.pick [(0,o16),(4,o24)];let o26:OT:=.pick [(0,o17),(3,o24)];let o27:OT:=.pick [(0,o18),(3,o25),(4,o26)];let o28:OT:=.pick [(0,o19),(2,o26)];let o29:OT:=.pick [(0,o20),(2,o27),(4,o28)];o29) fol (by kernel_rfl) ?_
   simp(disch:=omega)only[go_sem,gm,hb]
   have step:∀ st',Imp ⟨C0,[],[]⟩ st' ⟨[(11,I (i+1:Nat)),(2,.ptr 128 0),(3,.ptr 192 0),(5,.ptr 320 0),(4,.ptr 256 0)],[(128,s.c),(192,p.c),(256,[Ho,Ho]),(320,[.sl (.own 2688 0) 8 ((s.queues.map fun q=>BV q p).map Queue.c),.sl (.own 4288 0) 9 ((Iq (s.needs.take i) p).map Need.c++[b.c])])]⟩→J st':=fun st' h=>by
    refine hJ st' (i+1) ⟨by simp at hlt;omega,trivial⟩ (by simp at hlt;omega) ?_
    rw[e1,List.map_append]
    exact h
   clear hJ
   repeat'(with_reducible refine And.intro ?_ ?_)
   all_goals(refine step _ (Imp.weak ?_ ?_))
   all_goals(simp(disch:=omega)only[go_sem])
 ·subst hil
  simp(disch:=omega)only[go_sem,take_length]
  refine B3 ⟨[],[],[2688,4288]⟩ _ ?_
  simp(disch:=omega)only[go_sem,A3]
  exact .eq (by simp)
theorem M8{s:WS}(hv:AB s=true):Hr s=Bg s:=by simp[Hr,hv]
theorem HP{s:WS}(hv:AB s=true):By s=Cv s:=by simp[By,hv]
theorem f20_ok(s:WS)(h:Few s):Ac C0 20 [.agg s.c] [] (.tup [Aq (By s).1,Aq (By s).2]) []:=by
 refine Ac.go f20 ?_
 unfold f20
 refine gO ?_
 refine Aa (f56_ok s h) ?_
 cases hv:AB s
 ·have e:By s=([],[]):=by simp[By,hv]
  simp(disch:=omega)only[go_sem,e]
  exact DR _
 rw[HP hv]
 refine gO ?_
 refine Aa (f57_ok s h) ?_
 rw[M8 hv]
 refine gO ?_
 refine Ab (α:=WS × List Proc) (fun x=>⟨[(5,Aq (Bg x.1)),(4,.sl (.own 1344 0) 3 (x.2.map Proc.c)),(1,.ptr 64 0)],[(64,x.1.c)]⟩) (fun x=>Few x.1∧AB x.1=true∧x.2.length+(Ah x.1).length≤1000000∧x.2++(Cv x.1).1=(Cv s).1∧(Cv x.1).2=(Cv s).2) (fun x=>(Ah x.1).length) (s,[]) ⟨h,hv,by have:=CW h;simp;omega,rfl,rfl⟩ ?_ ?_
 ·exact Imp.weak (by simp(disch:=omega)only[go_sem]) (by simp(disch:=omega)only[go_sem])
 rintro⟨t,gs⟩ ⟨i1,i2,i3,i4,i5⟩ J hJ
 replace i1:Few t:=i1
 replace i2:AB t=true:=i2
 replace i3:gs.length+(Ah t).length≤1000000:=i3
 replace i4:gs++(Cv t).1=(Cv s).1:=i4
 replace i5:(Cv t).2=(Cv s).2:=i5
 have ig:=AS i2
 rw[Mb ig]at i4 i5
 cases hf:Bg t with
 | nil =>
  rw[hf]at i4 i5
  have e0:(0<((0:Nat):Int))=False:=by simp
  simp(disch:=omega)only[go_sem,hf,map_nil,List.length_nil,e0,decide_false]
  refine Aa (f34_ok t i1) ?_
  refine gO ?_
  refine B3 ⟨[],[],[1344]⟩ _ ?_
  refine gO ?_
  simp only[List.append_nil]at i4 i5
  exact .eq (by rw[← i4,← i5])
 | cons p l =>
  simp only[hf]at i4 i5
  have hm:p∈Ah t:=G9 (by rw[hf];simp)
  have hd:=DZ ig hm
  have e0:(0<(l.length:Int)+1)=True:=eq_true (by omega)
  have hbd:gs.length+1≤4294967296:=by omega
  simp(disch:=omega)only[go_sem,hf,Aq,e0]
  refine Aj 4 [([],[1]),([],[5]),([],[23]),([],[24])] fol ?_
  refine gO ?_
  first|(refine Aa (f58_ok t p i1 ig) ?_)|(refine Ai (f58_ok t p i1 ig) ?_)
  refine gO ?_
  have hfew:=GJ i1 p
  have hval:=Hm i2 p
  refine Aa (f57_ok (A3 t p) hfew) ?_
  rw[M8 hval]
  refine gO ?_
  refine hJ _ (A3 t p,gs++[p]) ⟨hfew,hval,by simp;omega,by rw[← i4];simp,i5⟩ hd (Imp.weak ?_ ?_)
  ·simp(disch:=omega)only[go_sem]
   exact .sl (by simp[Proc.c])
  ·exact gI
theorem f31_ok(s:WS)(p:Proc)(h:Few s):Ac C0 31 [.agg s.c,.agg p.c] [] (B (HY s p)) []:=by
 have hl:=IE h
 refine Ac.go f31 ?_
 unfold f31
 refine gO ?_
 refine Aa (f20_ok s h) ?_
 refine gO ?_
 refine Aa (f29_ok (By s).2 p (by omega)) ?_
 refine gO ?_
 refine Ak _ ?_
 exact wb rfl
theorem f64_ok(s:WS)(l:List Proc)(h:Few s)(hl:l.length≤1000000):Ac C0 64 [.agg s.c,Aq l] [] (.tup [.agg (Bw s l).1.c,I (Bw s l).2]) []:=by
 have hpl:=CW h
 refine Ac.go f64 ?_
 unfold f64
 refine gO ?_
 refine Aa (f56_ok s h) ?_
 cases hv:AB s
 ·have e:Bw s l=(wsE,2):=by simp[Bw,hv]
  simp(disch:=omega)only[go_sem,e,wsE]
  refine Ak _ ?_
  refine .tup (Af.AD ?_)
  simp(disch:=omega)only[go_sem]
  repeat'(with_reducible apply And.intro)
  all_goals(first|exact .Au (by omega)|exact .agg (Af.AD (by simp(disch:=omega)only[go_sem])))
 have e:Bw s l=(Ca s l,0):=by simp[Bw,hv]
 rw[e]
 refine gO ?_
 refine Aa (f34_ok s h) ?_
 refine gO ?_
 refine Ab (α:=Nat) (fun i=>⟨[(7,I i),(6,Aq (Ah s)),(2,.ptr 128 0),(1,Aq l),(4,.ptr 256 0)],[(128,(((Ah s).take i).foldl (fun x p=>if AK l p then x else A3 x p) s).c),(256,[Ho,Ho])]⟩) (fun i=>i≤((Ah s)).length∧Few (((Ah s).take i).foldl (fun x p=>if AK l p then x else A3 x p) s)∧BX (((Ah s).take i).foldl (fun x p=>if AK l p then x else A3 x p) s)) (fun i=>((Ah s)).length-i) 0 ⟨by omega,⟨h,AS hv⟩⟩ ?_ ?_
 ·exact Bu
 rintro i ⟨hi,hP⟩ J hJ
 refine gO ?_
 refine ⟨fun hlt=>?_,fun hge=>?_⟩
 rotate_left
 have hil:i=((Ah s)).length:=by simp at hge;omega
 rotate_left
 obtain⟨b,hb⟩:∃ b,((Ah s))[i]?=some b:=⟨_,gE (by simp at hlt;omega)⟩
 have hbm:=mG hb
 have hlt2:i<((Ah s)).length:=by simp at hlt;omega
 simp(disch:=omega)only[go_sem,gm,hb]
 ·have e:((Ah s).take (i+1)).foldl (fun x p=>if AK l p then x else A3 x p) s=if AK l b then ((Ah s).take i).foldl (fun x p=>if AK l p then x else A3 x p) s else A3 (((Ah s).take i).foldl (fun x p=>if AK l p then x else A3 x p) s) b:=by
   rw[take_add_one,hb,toList_some,List.foldl_append];rfl
  generalize ((Ah s).take i).foldl (fun x p=>if AK l p then x else A3 x p) s=t at hP e
  refine Aa (f29_ok l b hl) ?_
  cases hh:AK l b
  ·rw[if_neg (by simp[hh])]at e
   simp(disch:=omega)only[go_sem,Bool.not_false]
   refine Aj 5 [([],[2]),([],[6]),([],[7]),([],[28,29]),([],[30])] fol ?_
   simp(disch:=omega)only[go_sem,gm,hb]
   first|(refine Aa (f58_ok t b hP.1 hP.2) ?_)|(refine Ai (f58_ok t b hP.1 hP.2) ?_)
   refine gO ?_
   refine hJ _ (i+1) ⟨by simp at hlt;omega,by rw[e];exact⟨GJ hP.1 b,Cg hP.2 b⟩⟩ (by simp at hlt;omega) (Imp.weak (by simp(disch:=omega)only[go_sem]) ?_)
   rw[e];simp(disch:=omega)only[go_sem]
  ·rw[if_pos hh]at e
   simp(disch:=omega)only[go_sem,Bool.not_true]
   refine hJ _ (i+1) ⟨by simp at hlt;omega,by rw[e];exact hP⟩ (by simp at hlt;omega) (Imp.weak (by simp(disch:=omega)only[go_sem]) ?_)
   rw[e];simp(disch:=omega)only[go_sem]
 ·subst hil
  rw[take_length]at hP ⊢
  refine Ak _ ?_
  simp(disch:=omega)only[go_sem,Ca]
theorem f24_ok(l m:List Proc)(hl:l.length≤1000000)(hm:m.length≤1000000):Ac C0 24 [Aq l,Aq m] [] (B (decide (l=m))) []:=by
 refine Ac.go f24 ?_
 unfold f24
 by_cases hn:l.length=m.length
 rotate_left
 ·have e1:((l.length:Int) !=m.length)=true:=by simp only[bne_iff_ne,ne_eq];omega
  have e2:l≠m:=fun h=>hn (by rw[h])
  simp(disch:=omega)only[go_sem,e1]
  refine Ak _ ?_
  exact wb (by simp[e2])
 have e1:((l.length:Int) !=m.length)=false:=by simp[hn]
 simp(disch:=omega)only[go_sem,e1]
 refine Ab (α:=Nat) (fun i=>⟨[(5,I i),(0,Aq l),(1,Aq m)],[]⟩) (fun i=>i≤(l).length∧l.take i=m.take i) (fun i=>(l).length-i) 0 ⟨by omega,rfl⟩ ?_ ?_
 ·exact Bu
 rintro i ⟨hi,hP⟩ J hJ
 refine gO ?_
 refine ⟨fun hlt=>?_,fun hge=>?_⟩
 rotate_left
 have hil:i=(l).length:=by simp at hge;omega
 rotate_left
 obtain⟨b,hb⟩:∃ b,(l)[i]?=some b:=⟨_,gE (by simp at hlt;omega)⟩
 have hbm:=mG hb
 have hlt2:i<(l).length:=by simp at hlt;omega
 refine Aj 8 [([],[0]),([],[5]),([],[17,18]),([],[19]),([],[1]),([],[5]),([],[21,22]),([],[23])] fol ?_
 simp(disch:=omega)only[go_sem,gm,hb]
 ·obtain⟨c,hc⟩:∃ c,m[i]?=some c:=⟨_,gE (by omega)⟩
  simp(disch:=omega)only[go_sem,gm,hb,hc]
  by_cases hbc:b=c
  ·simp(disch:=omega)only[go_sem,hbc,decide_true]
   refine hJ _ (i+1) ⟨by simp at hlt;omega,(by rw[take_add_one,take_add_one,hb,hc,hP,hbc])⟩ (by simp at hlt;omega) AE
  ·simp(disch:=omega)only[go_sem,hbc,decide_false]
   refine Ak _ ?_
   refine wb ?_
   have:l≠m:=fun h=>hbc (by rw[h,hc]at hb;simpa using hb.symm)
   simp[this]
 ·subst hil
  rw[take_length,hn,take_length]at hP
  refine Ak _ ?_
  exact wb (by simp[hP])
theorem f23_ok(s:WS)(p:Proc)(h:Few s):Ac C0 23 [.agg s.c,.agg p.c] [] (.tup [Aq (DA s p).1,I (DA s p).2]) []:=by
 refine Ac.go f23 ?_
 unfold f23
 refine gO ?_
 refine Aa (f56_ok s h) ?_
 cases hv:AB s
 ·have e:DA s p=([],2):=by simp[DA,hv]
  simp(disch:=omega)only[go_sem,e]
  exact DR _
 have hg:=AS hv
 have hrl:=I1 h hg
 refine gO ?_
 refine Aa (f20_ok s h) ?_
 rw[HP hv]
 refine gO ?_
 refine Aa (f29_ok (Cv s).2 p (by omega)) ?_
 cases hp:AK (Cv s).2 p
 ·have e:DA s p=([],14):=by simp[DA,hv,hp]
  simp(disch:=omega)only[go_sem,e]
  exact DR _
 have e:DA s p=((Cv s).2.foldl (AJ s p) (Cv s).2,0):=by simp[DA,hv,hp]
 rw[e]
 generalize (Cv s).2=all at hrl ⊢
 have hbd0:all.length≤4294967296:=by omega
 refine gO ?_
 refine Ab (α:=Nat) (fun i=>⟨[(9,I i),(8,.sl (.own 1920 0) 3 (all.map Proc.c)),(7,Aq ((all.take i).foldl (AJ s p) all)),(2,.ptr 128 0),(3,.ptr 192 0)],[(128,s.c),(192,p.c)]⟩) (fun i=>i≤(all).length∧((all.take i).foldl (AJ s p) all).length≤20000) (fun i=>(all).length-i) 0 ⟨by omega,hrl⟩ ?_ ?_
 ·exact Bu
 rintro i ⟨hi,hP⟩ J hJ
 refine gO ?_
 refine ⟨fun hlt=>?_,fun hge=>?_⟩
 rotate_left
 have hil:i=(all).length:=by simp at hge;omega
 rotate_left
 obtain⟨b,hb⟩:∃ b,(all)[i]?=some b:=⟨_,gE (by simp at hlt;omega)⟩
 have hbm:=mG hb
 have hlt2:i<(all).length:=by simp at hlt;omega
 refine Aj 12 [([],[8]),([],[9]),([],[37,38]),([],[39]),([],[3]),([],[40,41]),([],[42]),([],[7,43]),([],[8,43]),([],[9,43]),([],[45,46,43]),([],[47,43])] fol ?_
 simp(disch:=omega)only[go_sem,gm,hb]
 ·have e1:(all.take (i+1)).foldl (AJ s p) all=AJ s p ((all.take i).foldl (AJ s p) all) b:=by
   rw[take_add_one,hb,toList_some,List.foldl_append];rfl
  generalize (all.take i).foldl (AJ s p) all=set at hP e1
  have step:∀ set',AJ s p set b=set'→set'.length≤20000→∀ st',Imp ⟨C0,[],[]⟩ st' ⟨[(9,I (i+1:Nat)),(8,.sl (.own 1920 0) 3 (all.map Proc.c)),(7,Aq set'),(2,.ptr 128 0),(3,.ptr 192 0)],[(128,s.c),(192,p.c)]⟩→J st':=fun set' h1 h2 st' h3=>by
   refine hJ st' (i+1) ⟨by simp at hlt;omega,by rw[e1,h1];exact h2⟩ (by simp at hlt;omega) ?_
   rw[e1,h1];exact h3
  clear hJ
  by_cases hbp:b=p
  ·simp(disch:=omega)only[go_sem,hbp,decide_true]
   exact step set (by simp[AJ,hbp]) hP _ AE
  simp(disch:=omega)only[go_sem,hbp,decide_false,gm,hb]
  first|(refine Aa (f29_ok set b (by omega)) ?_)|(refine Ai (f29_ok set b (by omega)) ?_)
  cases hs:AK set b
  ·simp(disch:=omega)only[go_sem]
   exact step set (by simp[AJ,hs]) hP _ AE
  refine gO ?_
  have hdl:∀ k,(BK (set.take k) b).length≤20000:=fun k=>by
   have h1:(BK (set.take k) b).length≤(set.take k).length:=List.length_filter_le _ _
   rw[length_take]at h1
   omega
  have hll:=hlt2
  refine Ab (α:=Nat) (fun k=>⟨[(11,I k),(10,.sl (.own 4672 0) 3 ((BK (set.take k) b).map Proc.c)),(9,I i),(8,.sl (.own 1920 0) 3 (all.map Proc.c)),(7,Aq set),(2,.ptr 128 0),(3,.ptr 192 0)],[(128,s.c),(192,p.c)]⟩) (fun k=>k≤set.length) (fun k=>set.length-k) 0 (by omega) ?_ ?_
  ·refine Imp.weak ?_ ?_
   ·simp(disch:=omega)only[go_sem,List.take_zero,BK,List.filter_nil,map_nil]
   ·exact gI
  rintro k hk K hK
  refine gO ?_
  refine And.intro (fun hlt'=>?_) (fun hge'=>?_)
  ·obtain⟨c,hc⟩:∃ c,set[k]?=some c:=⟨_,gE (by simp at hlt';omega)⟩
   have e2:BK (set.take (k+1)) b=if c=b then BK (set.take k) b else BK (set.take k) b++[c]:=by
    rw[take_add_one,hc]
    by_cases h:c=b<;>simp[BK,List.filter_append,h]
   have hdk:=hdl k
   refine Aj 8 [([],[7]),([],[11]),([],[58,59]),([],[60]),([],[8]),([],[9]),([],[62,63]),([],[64])] fol ?_
   simp(disch:=omega)only[go_sem,gm,hb,hc]
   by_cases hcb:c=b
   ·rw[if_pos hcb]at e2
    simp(disch:=omega)only[go_sem,hcb,decide_true]
    refine hK _ (k+1) (by simp at hlt';omega) (by simp at hlt';omega) (Imp.weak ?_ (by simp(disch:=omega)only[go_sem]))
    rw[e2]
    simp(disch:=omega)only[go_sem]
   ·rw[if_neg hcb]at e2
    simp(disch:=omega)only[go_sem,hcb,decide_false,gm,hc]
    refine hK _ (k+1) (by simp at hlt';omega) (by simp at hlt';omega) (Imp.weak ?_ (by simp(disch:=omega)only[go_sem]))
    rw[e2]
    refine gO ?_
    exact .sl (by simp[Proc.c])
  ·have hkl:k=set.length:=by simp at hge';omega
   subst hkl
   clear hK
   have hdk:=hdl set.length
   rw[take_length]at hdk ⊢
   have hv2:=I9 hv (BK set b)
   have hf:=IL h (BK set b)
   have hrl2:=I1 hf (AS hv2)
   refine EU [4672] (f64_ok s (BK set b) h (by omega)) (by simp(disch:=omega)only[go_sem]) rfl ?_
   have er:Bw s (BK set b)=(Ca s (BK set b),0):=by simp[Bw,hv]
   rw[er]
   refine gO ?_
   refine Aa (f20_ok (Ca s (BK set b)) hf) ?_
   rw[HP hv2]
   refine gO ?_
   refine Aa (f29_ok (Cv (Ca s (BK set b))).2 p (by omega)) ?_
   cases hq:AK (Cv (Ca s (BK set b))).2 p
   ·simp(disch:=omega)only[go_sem]
    exact step set (by simp[AJ,hs,hbp,hq]) hP _ AE
   ·simp(disch:=omega)only[go_sem]
    exact step (Cv (Ca s (BK set b))).2 (by simp[AJ,hs,hbp,hq]) hrl2 _ AE
 ·subst hil
  simp(disch:=omega)only[go_sem,take_length]
  exact Av _
end Go.Rd
