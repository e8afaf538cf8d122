/- part 18 of the proof -/
import Derived.Test.YteliegkcmjimoaaGreatDoorV17
set_option linter.all false
open Go Go.Abs Go.Proofs
set_option maxRecDepth 100000
namespace Go.Rd
set_option maxHeartbeats 8000000
open List (length_take pairwise_cons take_add_one)
open Bool (and_eq_true)
open Option (getD_some isSome_some)
open Tryz
def Kr:∀ x:Bs,Op.bytesLess x x=false
 |[]=>rfl
 | a::x=>by
  simp only[Op.bytesLess,Kr x,Bool.and_false,Bool.or_false];simp
def LP:∀ x y z:Bs,Op.bytesLess x y=true->Op.bytesLess y z=true->Op.bytesLess x z=true
 |_,_,[],_,h=>by cases ‹Bs›<;>simp[Op.bytesLess]at h
 |[],_,_::_,_,_=>rfl
 | a::x,[],c::z,h,_=>by simp[Op.bytesLess]at h
 | a::x,b::y,c::z,h1,h2=>by
  simp only[Op.bytesLess,Bool.or_eq_true,and_eq_true,decide_eq_true_eq,beq_iff_eq]at h1 h2 ⊢;rcases h1 with h1|⟨rfl,h1⟩
  ·rcases h2 with h2|⟨rfl,h2⟩
   ·exact .inl (UInt8.lt_trans h1 h2)
   ·exact .inl h1
  ·rcases h2 with h2|⟨rfl,h2⟩
   ·exact .inl h2
   ·exact .inr ⟨rfl,LP x y z h1 h2⟩
def LF{α:Type}{r:α->α->Prop}(ht:∀ a b c,r a b->r b c->r a c):∀ (l:List α),(∀ i a b,l[i]?=some a->l[i+1]?=some b->r a b)->l.Pairwise r
 |[],_=>.nil
 | a::l,h=>by
  have ih:=LF ht l λi x y hx hy=>h (i+1) x y (by simpa using hx) (by simpa using hy)
  refine pairwise_cons.2 ⟨?_,ih⟩;cases l with
  | nil=>simp
  | cons b l =>
   have LS:=h 0 a b rfl rfl;intro c hc;rcases List.mem_cons.1 hc with rfl|hc
   ·exact LS
   ·exact ht a b c LS ((pairwise_cons.1 ih).1 c hc)
def Ql{α:Type}{r:α->α->Prop}{l:List α}(h:l.Pairwise r){i:Nat}{a b:α}(ha:l[i]?=some a)(hb:l[i+1]?=some b):r a b:=by
 have h1:=Ay ha;have h2:=Ay hb;have:=List.pairwise_iff_getElem.1 h i (i+1) h1 h2 (by omega)
 rwa [get_eq ha,get_eq hb]at this
def F1(l:List Queue):CC l=true↔l.length<=8/\(∀ q∈l,valid q=true)/\l.Pairwise λa b=>DJ a.res.name b.res.name=true:=by
 unfold CC;rw[and_eq_true,decide_eq_true_eq,FV];refine and_congr Iff.rfl ⟨λh=>⟨λq hq=>?_,LF (r:=λa b:Queue=>DJ a.res.name b.res.name=true) (λa b c=>LP _ _ _) l λi a b ha hb=>?_⟩,fun⟨h1,h2⟩ i b hb=>?_⟩
 ·obtain⟨i,hi⟩:=List.mem_iff_getElem?.1 hq;have:=h i q hi;simp only[Cq,and_eq_true]at this;exact this.1
 ·have:=h (i+1) b hb;simp only[Cq,and_eq_true]at this;have h2:=this.2;simpa [List.getD,ha]using h2
 ·simp only[Cq,and_eq_true];refine⟨h1 b (mG hb),?_⟩;cases i with
  | zero=>simp
  | succ i =>
   obtain⟨a,ha⟩:∃ a,l[i]?=some a:=⟨_,gE (by have:=Ay hb;omega)⟩;have:=Ql h2 ha hb;simpa [List.getD,ha]using this
def Ic(l:List Need):FY l=true↔l.length<=8/\(∀ n∈l,n.proc.ok=true/\0<=n.gen/\n.gen<=1073741824/\BA n.expr=true)/\l.Pairwise λa b=>Bw a.proc b.proc<0:=by
 unfold FY;rw[and_eq_true,decide_eq_true_eq,FV];refine and_congr Iff.rfl ⟨λh=>⟨λq hq=>?_,LF (r:=λa b:Need=>Bw a.proc b.proc<0) (λa b c=>DP) l λi a b ha hb=>?_⟩,fun⟨h1,h2⟩ i b hb=>?_⟩
 ·obtain⟨i,hi⟩:=List.mem_iff_getElem?.1 hq;have:=h i q hi;simp only[Cn,and_eq_true,decide_eq_true_eq]at this;exact⟨this.1.1.1.1,this.1.1.1.2,this.1.1.2,this.1.2⟩
 ·have:=h (i+1) b hb;simp only[Cn,and_eq_true]at this;have h2:=this.2;simpa [List.getD,ha]using h2
 ·have h3:=h1 b (mG hb);simp only[Cn,and_eq_true,decide_eq_true_eq];refine⟨⟨⟨⟨h3.1,h3.2.1⟩,h3.2.2.1⟩,h3.2.2.2⟩,?_⟩;cases i with
  | zero=>simp
  | succ i =>
   obtain⟨a,ha⟩:∃ a,l[i]?=some a:=⟨_,gE (by have:=Ay hb;omega)⟩;have:=Ql h2 ha hb;simpa [List.getD,ha]using this
def GJ(s:WS):A7 s=true↔CC s.Aa=true/\FY s.AB=true/\(Am s).length<=8:=by
 simp only[A7,and_eq_true,decide_eq_true_eq,and_assoc]
def OY{s:WS}(h:A7 s=true)(p:Ad):A7 (BU s p)=true:=by
 have hg:=Dq h;obtain⟨h1,h2,h3⟩:=(GJ s).1 h;obtain⟨a1,a2,a3⟩:=(F1 _).1 h1;obtain⟨b1,b2,b3⟩:=(Ic _).1 h2;refine(GJ _).2 ⟨(F1 _).2 ⟨?_,?_,?_⟩,(Ic _).2 ⟨?_,?_,?_⟩,?_⟩
 ·simpa [BU]using a1
 ·exact DC hg p
 ·simp only[BU,List.pairwise_map,WB];exact a3
 ·exact Nat.le_trans (List.length_filter_le _ _) b1
 ·exact λn hn=>b2 n (List.mem_filter.1 hn).1
 ·exact b3.filter _
 ·rw[NH hg];exact Nat.le_trans (List.length_filter_le _ _) h3
def cW{s:WS}(h:A7 s=true)(l:List Ad):A7 (GW s l)=true:=Yf (P:=λx=>A7 x=true) (λ_ p h=>OY h p) l h
def WW(p:Ad)(name:Bs):∀ (l:List Queue),(l.Pairwise λa b=>a.res.name≠b.res.name)->∀ w:Bool,l.foldl (λw q=>if q.res.name==name then (Ar q p).isSome else w) w=match l.find? (λq=>q.res.name==name) with
  |some q=>(Ar q p).isSome
  |none=>w
 |[],_,w=>rfl
 | q::l,h,w=>by
  rw[pairwise_cons]at h;rw[List.foldl_cons,WW p name l h.2,List.find?_cons];cases hq:(q.res.name==name)
  ·simp
  ·have hn:l.find? (λq=>q.res.name==name)=none:=by
    rw[List.find?_eq_none];intro x hx;have:=h.1 x hx;simp at hq ⊢;rw[<- hq];exact λh=>this h.symm
   rw[hn];simp
def cY(l:List Queue)(h:l.Pairwise λa b=>a.res.name≠b.res.name)(p:Ad)(name:Bs):D1 l p name=Iy l p name:=WW p name l h false
def aR{s:WS}(h:A7 s=true)(p:Ad)(name:Bs):D1 s.Aa p name=Iy s.Aa p name:=by
 obtain⟨h1,-,-⟩:=(GJ s).1 h;obtain⟨-,-,a3⟩:=(F1 _).1 h1;refine cY _ (a3.imp λ{a b} LS he=>?_) p name;unfold DJ at LS;rw[he,Kr]at LS;simp at LS
def qG{α:Type}(a:List α)(z v:α)(k:Nat):(a++List.replicate (k+1) z).set a.length v=(a++[v])++List.replicate k z:=by
 rw[List.set_append_right _ _ (Nat.le_refl _)];simp[List.replicate_succ]
def dw(s:WS)(p:Ad)(h:Iq s)(hv:A7 s=true)(n:Need)(hf:(s.AB.find? λn=>decide (n.proc=p))=some n):Ac C0 158 [.agg s.c,.agg p.c] [] (Jb (FI s n)) []:=by
 have hl:=C3 n.expr;have hp:n.proc=p:=by have:=List.find?_some hf;simpa using this
 have hg:FI s n=(Al n.expr).map λa=>!Iy s.Aa p a.name:=by
  unfold FI;rw[hp];exact List.map_congr_left λa _=>by rw[aR hv]
 rw[hg];refine Ac.go f158 ?_;unfold f158;refine gO ?_;refine Ab (dv s p h) ?_;simp(disch:=omega)only[go_sem,hf,isSome_some,getD_some];refine Ab (XD s h) ?_;simp(disch:=omega)only[go_sem,hv];refine Ag (Nt n.expr) (by simp(disch:=omega)only[go_sem,Expr.Cf]) rfl ?_;refine gO ?_;generalize Al n.expr=A at hl;refine AH (A) (λi=>⟨[(9,I i),(7,BN A),(2,.ptr 128 0),(3,.ptr 192 0),(8,.sl (.own 1792 0) 1 (((A.take i).map λa=>[B (!Iy s.Aa p a.name)])++List.replicate (A.length-i) [B false]))],[(128,s.c),(192,p.c)]⟩) (λi=>True) trivial ?_ ?_
 ·exact B9
 rintro i ⟨hi,hP⟩ J hJ;refine gO ?_;refine Bp hi (λAu b hb Cc AR=>?_) λBf=>?_
 refine Av 11 [([],[8]),([],[9]),([],[2]),([],[3]),([],[7]),([],[9]),([],[39,40]),([],[41]),([],[42]),([],[37,38,43]),([9],[44])] B7 ?_;simp(disch:=omega)only[go_sem,gm,hb]
 ·have hlen:min i A.length+(A.length-i)=A.length:=by omega
  first|(refine Ab (dJ s p b.name h) ?_)|(refine Aq (dJ s p b.name h) ?_)
  have Jw:(((A.take i).map λa=>[B (!Iy s.Aa p a.name)])++List.replicate (A.length-i) [B false])[i]?=some [B false]:=by
   rw[List.getElem?_append_right (by simp;omega),List.getElem?_replicate];simp;omega
  simp(disch:=omega)only[go_sem,Jw,List.length_append,List.length_replicate,List.length_map,length_take,hlen];refine hJ _ (i+1) ⟨by omega,trivial⟩ (by omega) (AQ.An ?_ ?_);rotate_left
  ·exact gI
  refine gO ?_;refine .sl ?_;have e1:A.length-i=(A.length-(i+1))+1:=by omega
  have e2:=qG ((A.take i).map λa=>[B (!Iy s.Aa p a.name)]) [B false] [B (!Iy s.Aa p b.name)] (A.length-(i+1));simp only[List.length_map,length_take,Nat.min_eq_left hi]at e2;rw[e1,e2,take_add_one,hb];simp
 ·subst Bf;refine CK ⟨[],[],[1792]⟩ _ ?_;simp(disch:=omega)only[go_sem,List.take_length,Nat.sub_self,List.replicate_zero,List.append_nil];exact .sl (by simp)
def df(s:WS)(p:Ad)(h:Iq s)(hv:A7 s=true):Ac C0 108 [.agg s.c,.agg p.c] [] (B (CX s p)) []:=by
 refine Ac.go f108 ?_;unfold f108;refine gO ?_;refine Ab (dv s p h) ?_;cases hf:s.AB.find? λn=>decide (n.proc=p) with
 |none =>
  have e:CX s p=true:=by unfold CX;rw[hf]
  simp(disch:=omega)only[go_sem,Option.isSome_none,e];refine Av 8 [([],[6]),([],[13]),([],[14]),([],[5,15]),([],[16,15]),([],[2,15]),([],[3,15]),([],[18,19,15])] B7 ?_;refine gO ?_;exact AM _
 |some n =>
  have hm:=List.mem_of_find?_eq_some hf;have he:BA n.expr=true:=IT hv n hm;have e:CX s p=Ff n.expr (FI s n):=by unfold CX;rw[hf]
  simp(disch:=omega)only[go_sem,isSome_some,e,getD_some];refine Av 8 [([],[6]),([],[13]),([],[14]),([],[5,15]),([],[16,15]),([],[2,15]),([],[3,15]),([],[18,19,15])] B7 ?_;refine gO ?_
  first|(refine Ab (dw s p h hv n hf) ?_)|(refine Aq (dw s p h hv n hf) ?_)
  refine gO ?_
  first
   |(refine Ag (Nr n.expr (FI s n) he) (by simp(disch:=omega)only[go_sem,Expr.Cf]) rfl ?_)
   |(refine AF ⟨⟨[],[],[]⟩,[],[]⟩ (Nr n.expr (FI s n) he) (by simp(disch:=omega)only[go_sem,Expr.Cf]) rfl rfl trivial (.inl rfl) ?_)
  refine gO ?_;exact AM _
def tj(s:WS)(h:Iq s):Ac C0 62 [.agg s.c] [] (AA (Kj s)) []:=by
 have hl:=Da h;refine Ac.go f62 ?_;unfold f62;refine gO ?_;refine Ab (XD s h) ?_;cases hv:A7 s
 ·have e:Kj s=[]:=by simp[Kj,hv]
  simp(disch:=omega)only[go_sem,e];exact AM _
 have e:Kj s=BH s:=by simp[Kj,hv]
 rw[e];refine gO ?_;refine Ab (TE s h) ?_;refine gO ?_;refine AH ((Am s)) (λi=>⟨[(5,I i),(4,AA (Am s)),(1,.ptr 64 0),(3,.sl (.own 1856 0) 3 ((((Am s).take i).filter λp=>CX s p).map Ad.c))],[(64,s.c)]⟩) (λi=>True) trivial ?_ ?_
 ·exact B9
 rintro i ⟨hi,hP⟩ J hJ;refine gO ?_;refine Bp hi (λAu b hb Cc AR=>?_) λBf=>?_
 refine Av 5 [([],[1]),([],[4]),([],[5]),([],[18,19]),([],[20])] B7 ?_;simp(disch:=omega)only[go_sem,gm,hb]
 ·have IY:(((Am s).take i).filter λp=>CX s p).length+1<=4294967296:=by
   have:(((Am s).take i).filter λp=>CX s p).length<=((Am s).take i).length:=List.length_filter_le _ _;rw[length_take]at this;omega
  first|(refine Ab (df s b h hv) ?_)|(refine Aq (df s b h hv) ?_)
  cases hh:CX s b
  ·simp(disch:=omega)only[go_sem];refine hJ _ (i+1) ⟨by omega,trivial⟩ (by omega) (AQ.An ?_ ?_)
   all_goals(try simp(disch:=omega)only[go_sem])
   all_goals(try(repeat'(with_reducible apply And.intro)))
   all_goals(first|exact .AU (by omega)|exact .AD (by omega)|exact .sl (by simp[take_add_one,hb,hh,Ad.c])|exact .int (by simp[take_add_one,hb,hh,Ad.c])|exact .eq (by simp[take_add_one,hb,hh,Ad.c]))
  ·simp(disch:=omega)only[go_sem,gm,hb];refine hJ _ (i+1) ⟨by omega,trivial⟩ (by omega) (AQ.An ?_ ?_)
   all_goals(try simp(disch:=omega)only[go_sem])
   all_goals(try(repeat'(with_reducible apply And.intro)))
   all_goals(first|exact .AU (by omega)|exact .AD (by omega)|exact .sl (by simp[take_add_one,hb,hh,Ad.c])|exact .int (by simp[take_add_one,hb,hh,Ad.c])|exact .eq (by simp[take_add_one,hb,hh,Ad.c]))
 ·subst Bf;simp(disch:=omega)only[go_sem,List.take_length];refine CK ⟨[],[],[1856]⟩ _ ?_;simp(disch:=omega)only[go_sem,BH]
end Go.Rd
namespace Go.Abs
def bc(x y:AV):Prop:=x=y\/(x=.v (.slice none 0 0)/\∃ n,y=.sl .no (n+1) [])
def K9:List AV->List AV->Prop
 |[],[]=>True
 | x::xs,y::ys=>bc x y/\K9 xs ys
 |_,_=>False
def Hy:List (List AV)->List (List AV)->Prop
 |[],[]=>True
 | x::xs,y::ys=>K9 x y/\Hy xs ys
 |_,_=>False
def K9.len:∀ {xs ys:List AV},K9 xs ys->xs.length=ys.length
 |[],[],_=>rfl
 |_::_,_::_,h=>by simp[K9.len h.2]
 |[],_::_,h=>h.elim
 |_::_,[],h=>h.elim
def Hy.len:∀ {xs ys:List (List AV)},Hy xs ys->xs.length=ys.length
 |[],[],_=>rfl
 |_::_,_::_,h=>by simp[Hy.len h.2]
 |[],_::_,h=>h.elim
 |_::_,[],h=>h.elim
def K9.refl:∀ xs:List AV,K9 xs xs
 |[]=>trivial
 |_::xs=>⟨.inl rfl,K9.refl xs⟩
def Hy.refl:∀ xs:List (List AV),Hy xs xs
 |[]=>trivial
 | x::xs=>⟨K9.refl x,Hy.refl xs⟩
def Hy.set{L L':List AV}(h:K9 L L'):∀ (xs:List (List AV)) (i:Nat),Hy (xs.set i L) (xs.set i L')
 |[],_=>trivial
 |_::xs,0=>⟨h,Hy.refl xs⟩
 | x::xs,i+1=>⟨K9.refl x,Hy.set h xs i⟩
def Hy.append{a b:List (List AV)}(c:List (List AV))(h:Hy a b):Hy (c++a) (c++b):=by
 induction c with
 | nil=>exact h
 | cons x c ih=>exact⟨K9.refl x,ih⟩
section
variable {ro:Nat->Prop} {w:World}
def bc.PR{x y:AV}{u:Value}(h:bc x y)(hu:PR ro w x u):PR ro w y u:=by
 rcases h with rfl|⟨rfl,n,rfl⟩
 ·exact hu
 ·simp only[Abs.PR]at hu ⊢;obtain⟨rfl,_⟩:=hu;exact⟨(λ_ _ h=>by cases h),none,0,rfl,Nat.le_refl _,by simp[maxLen],(λh=>by cases h),by omega,.inl trivial⟩
def K9.Cu:∀ {xs ys:List AV} {ad:Addr} {j:Nat},K9 xs ys->Cu ro w xs ad j->Cu ro w ys ad j
 |[],[],_,_,_,_=>trivial
 |_::_,_::_,_,_,h,⟨⟨u,h1,h2⟩,h3⟩=>⟨⟨u,h1,h.1.PR h2⟩,K9.Cu h.2 h3⟩
 |[],_::_,_,_,h,_=>h.elim
 |_::_,[],_,_,h,_=>h.elim
def Hy.CH:∀ {xs ys:List (List AV)} {ad:Addr} {n i:Nat},Hy xs ys->CH ro w xs ad n i->CH ro w ys ad n i
 |[],[],_,_,_,_,_=>trivial
 |_::_,_::_,_,_,_,h,⟨h1,h2,h3⟩=>⟨h.1.len▸h1,h.1.Cu h2,Hy.CH h.2 h3⟩
 |[],_::_,_,_,_,h,_=>h.elim
 |_::_,[],_,_,_,h,_=>h.elim
end
def Hy.nil{a b:List (List AV)}(h:Hy a b)(ha:a=[]):b=[]:=by
 subst ha;cases b with
 | nil=>rfl
 | cons=>exact h.elim
def B8.qj{t:Tag}{n:Nat}{a b:List (List AV)}(h:Hy a b):B8 (.sl t n a) (.sl t n b):=λg w u hu=>by
 have hl:=h.len
 match t with
 |.own r lo =>
  simp only[VR,CM]at hu ⊢;refine⟨hu.1,?_⟩;rcases hu.2 with ⟨h1,h2⟩|⟨h0,h2,h3⟩|⟨cap,cur,T,h1,h2,h3,h5,h6,h7,h8⟩
  ·exact .inl ⟨h1,h.nil h2⟩
  ·exact .inr (.inl ⟨h0,h.nil h2,h3⟩)
  ·exact .inr (.inr ⟨cap,cur,T,hl▸h1,hl▸h2,h3,h5,h6,h7,h.CH h8⟩)
 |.no =>
  simp only[VR,PR]at hu ⊢;obtain⟨h0,c,cap,h1,h2,h3,h4,h5,h6⟩:=hu;exact⟨h0,c,cap,hl▸h1,hl▸h2,h3,hl▸h4,h5,h6.imp (λe=>h.nil e) fun⟨ad,k1,k2,k3⟩=>⟨ad,k1,k2,h.CH k3⟩⟩
 |.full =>
  simp only[VR,PR]at hu ⊢;obtain⟨h0,c,cap,h1,h2,h3,h4,h5,h6⟩:=hu;exact⟨h0,c,cap,hl▸h1,hl▸h2,h3,hl▸h4,h5,h6.imp (λe=>h.nil e) fun⟨ad,k1,k2,k3⟩=>⟨ad,k1,k2,h.CH k3⟩⟩
end Go.Abs
namespace Go.Abs
def neut(X:Env)(ops:Array Oper)(st:St):List Nat->Prop
 |[]=>True
 | f::F=>Bg X ops (L6 ops f) (λst'=>H2 st' st.tmps/\GZ st' st.Ah) st/\neut X ops st F
def cR(X:Env)(ops:Array Oper)(F:List Nat)(K:St->Prop):List Oper->St->Prop
 |[],st=>neut X ops st F/\K st
 | o::os,st=>neut X ops st F/\Bg X ops [o] (cR X ops F K os) st
def Ej(ops:Array Oper)(k:Nat):Array Oper:=(ops.toList.take k).toArray
def cK(ops:Array Oper)(k:Nat)(tab:List (List Nat × List Nat))(F:List Nat):Bool :=
 decide (k<=ops.size)&&(List.range ops.size).all (λi=>(Bq ops i).all (λe=>decide (e<i)) &&
  (DX tab i).all (λp=>(Bq ops i).any λe=>p==e||(DX tab e).contains p) &&
  (decide (i<k)||(List.range i).all λj=>F.contains j||(DX tab i).contains j)) &&
 ((List.range k).all λi=>(List.range i).all λj=>(DX tab i).contains j||!(clash ops tab i j))&&F.all (λf=>decide (f<k))&&ops.toList.all λo=>o.guard.isNone
section
variable {X:Env} {A:A0} {N:Nat} {g:Gh} {st0:St} {a:Act} {w:World} {ops:Array Oper} {k:Nat} {tab:List (List Nat × List Nat)} {res:Nat->Bo} {D:Nat->Bool} {F:List Nat}
def Sx{i:Nat}(h:i<k):(Ej ops k)[i]?=ops[i]?:=by
 simp[Ej,List.getElem?_take,h]
def Nd{i:Nat}(h:i<k):Bq (Ej ops k) i=Bq ops i:=by unfold Bq;rw[Sx h]
def Sw{i:Nat}(h:i<k):Ek (Ej ops k) i=Ek ops i:=by unfold Ek;rw[Sx h]
structure UT(ops:Array Oper)(k:Nat)(tab:List (List Nat × List Nat))(F:List Nat):Prop where
 le:k<=ops.size
 Se:∀ i,i<ops.size->∀ e∈Bq ops i,e<i
 pred:∀ i,i<ops.size->∀ p∈DX tab i,∃ e∈Bq ops i,p=e\/p∈DX tab e
 tail:∀ i,i<ops.size->k<=i->∀ j,j<i->j∈F\/j∈DX tab i
 apart:∀ i j,i<k->j<i->j∈DX tab i\/clash ops tab i j=false
 small:∀ f∈F,f<k
 guard:∀ o∈ops,o.guard=none
def cK.spec(h:cK ops k tab F=true):UT ops k tab F:=by
 simp only[cK,Bool.and_eq_true,decide_eq_true_eq,List.all_eq_true,List.mem_range,Bool.or_eq_true,List.any_eq_true,List.contains_iff_mem,beq_iff_eq,Bool.not_eq_true',Option.isNone_iff_eq_none]at h;obtain⟨⟨⟨⟨h1,h2⟩,h3⟩,h4⟩,h5⟩:=h;exact⟨h1,λi hi=>(h2 i hi).1.1,λi hi=>(h2 i hi).1.2,λi hi hk j hj=>((h2 i hi).2.resolve_left (by omega)) j hj,λi j hi hj=>h3 i hi j hj,h4,λo ho=>h5 o (by simpa using ho)⟩
def UT.cut(h:UT ops k tab F):Kl (Ej ops k) k tab:=by
 have hs:(Ej ops k).size=k:=by have:=h.le;simp[Ej];omega
 have hk:=h.le;refine⟨by omega,λi hi=>?_,λi hi=>?_,λi hi a7=>by omega,λi j hi hj=>?_⟩
 ·rw[Nd (by omega)];exact h.Se i (by omega)
 ·rw[Nd (by omega)];exact h.pred i (by omega)
 ·have:=h.apart i j hi hj;unfold clash at this ⊢;rw[Sw hi,Sw (by omega)];exact this
def UT.closed(h:UT ops k tab F)(hc:Closed ops D):∀ i,i<ops.size->(∀ e∈Bq ops i,D e=true)->∀ p∈DX tab i,D p=true:=by
 intro i
 induction i using Nat.strongRecOn with
 |_ i ih =>
  intro hi hd p hp;obtain⟨e,he,h'|h'⟩:=h.pred i hi p hp
  ·subst h';exact hd _ he
  ·have Au:=h.Se i hi e he;exact ih e Au (by omega) (hc e (by omega) (hd e he)) p h'
def aU(h:UT ops k tab F){Q:Exit->Act->World->Prop}{i:Nat}(hi:i<k){K:Act->World->Prop}(hw:wpOp X.C.P (Ej ops k) Q i K a w):wpOp X.C.P ops Q i K a w:=by
 unfold wpOp at hw ⊢;rw[Sx hi]at hw;cases ho:ops[i]? with
 |none=>rw[ho]at hw;exact hw
 |some o =>
  rw[ho]at hw;have hg:=h.guard o (Array.mem_of_getElem? ho);simp only[Region.wanted,hg,if_true]at hw ⊢;exact hw
def MZ(h:UT ops k tab F){Ae:Array Bool}(hs:Ae.size=ops.size):∀ n j,j<ops.size->DE Ae j=false->j<=n->∃ i,i<=j/\i∈Region.ready .any ops Ae:=by
 intro n
 induction n with
 | zero =>
  intro j hj hd xW;have:j=0:=by omega
  subst this;exact⟨0,by omega,(BI hs).2 ⟨by omega,hd,λe he=>by have:=h.Se 0 (by omega) e he;omega⟩⟩
 | succ n ihn =>
  intro j hj hd xW
  by_cases tR:∀ e∈Bq ops j,DE Ae e=true
  ·exact⟨j,by omega,(BI hs).2 ⟨by omega,hd,tR⟩⟩
  ·have:∃ e,e∈Bq ops j/\DE Ae e=false:=by
    apply Classical.byContradiction;intro Qr;refine tR λe he=>?_
    cases tQ:DE Ae e with
    | true=>rfl
    | false=>exact(Qr ⟨e,he,tQ⟩).elim
   obtain⟨e,he,tQ⟩:=this;have:=h.Se j (by omega) e he;obtain⟨i,h1,h2⟩:=ihn e (by omega) tQ (by omega);exact⟨i,by omega,h2⟩
def Z2{st:St}{f:Nat}:∀ {F:List Nat},neut X ops st F->f∈F->Bg X ops (L6 ops f) (λst'=>H2 st' st.tmps/\GZ st' st.Ah) st
 |_::_,h,hm=>by
  rcases List.mem_cons.1 hm with rfl|hm
  ·exact h.1
  ·exact Z2 h.2 hm
def cS(hA:A.ext=X.ext)(hX:∀ s∈X.ext,s%32=31)(hN:∀ o∈ops,Jn N o=true)(hr:UT ops k tab F){Q:Exit->Act->World->Prop}{K:St->Prop}(hQ:∀ g st a w,R X.C A N g st a w->K st->Q .normal a w) :
 ∀ (fuel i:Nat) (Ae:Array Bool) (g:Gh) (st:St) (a:Act) (w:World),Ae.size=ops.size->UR Ae<=fuel->Closed ops (DE Ae)->k<=i->i<=ops.size->(∀ j,j<ops.size->j∉F->DE Ae j=decide (j<i)) ->
 cR X ops F K (ops.toList.drop i) st->R X.C A N g st a w->wpAny X.C.P .any ops Q fuel Ae a w:=by
 intro fuel
 induction fuel with
 | zero =>
  intro i Ae g st a w hs hu hc hk hi hd h hR;have HT:i=ops.size:=by
   rcases Nat.lt_or_ge i ops.size with Au|G9
   ·have:=Ho (by omega) (by omega:i<Ae.size);rw[hd i Au (λhf=>by have:=hr.small i hf;omega)]at this;simp at this
   ·omega
  subst HT;rw[List.drop_eq_nil_of_le (by simp)]at h;refine⟨?_,hQ g st a w hR h.2⟩;cases pJ:Region.ready .any ops Ae with
  | nil=>rfl
  | cons j l =>
   have hj:j∈Region.ready .any ops Ae:=by rw[pJ];simp
   have h1:=(BI hs).1 hj;have:=Ho (by omega) (by omega:j<Ae.size);rw[h1.2.1]at this;cases this
 | succ fuel ih =>
  intro i Ae g st a w hs hu hc hk hi hd h hR;have Ca:neut X ops st F:=by
   cases XN:ops.toList.drop i with
   | nil=>rw[XN]at h;exact h.1
   | cons o l=>rw[XN]at h;exact h.1
  constructor
  ·intro h0;have Fw:∀ j,j<ops.size->DE Ae j=true:=λj hj=>by
    cases ry:DE Ae j with
    | true=>rfl
    | false =>
     obtain⟨i',_,h2⟩:=MZ hr hs j j hj ry (Nat.le_refl _);rw[h0]at h2;cases h2
   have HT:i=ops.size:=by
    rcases Nat.lt_or_ge i ops.size with Au|G9
    ·have h1:=Fw i Au;rw[hd i Au (λhf=>by have:=hr.small i hf;omega)]at h1;simp at h1
    ·omega
   subst HT;rw[List.drop_eq_nil_of_le (by simp)]at h;exact hQ g st a w hR h.2
  ·intro j hj;obtain⟨h1,h2,h3⟩:=(BI hs).1 hj;have ho:ops[j]?=some ops[j]:=Array.getElem?_eq_getElem h1;have AeX:=HY (by omega:j<Ae.size) h2;have XM:Closed ops (DE (Ae.setIfInBounds j true)):=by rw[En (by omega)];exact Lg hc h3
   by_cases Va:j∈F
   ·have ZA:=Z2 Ca Va;simp only[L6,ho,Bg]at ZA;refine MT hA hX ho (λg' st' a' w' SP mL=>?_) (hN _ (Array.getElem_mem h1)) ZA hR;refine ih i _ g' st a' w' (by simp[hs]) (by omega) XM hk hi (λq hq zJ=>?_) h (SP.An mL.1 mL.2);rw[En (by omega)];have:q≠j:=λe=>zJ (e▸Va)
    simp only[H3,this,if_false];exact hd q hq zJ
   ·have Vb:j=i:=by
     rw[hd j h1 Va]at h2;have G9:i<=j:=by simpa using h2
     rcases Nat.lt_or_ge i j with Au|hle
     ·have hiF:i∉F:=λhf=>by have:=hr.small i hf;omega
      have:=(hr.tail j h1 (by omega) i Au).resolve_left hiF;have:=hr.closed hc j h1 h3 i this;rw[hd i (by omega) hiF]at this;simp at this
     ·omega
    subst Vb;rw[List.drop_eq_getElem_cons (by simpa using h1)]at h;have ZA:=h.2;have e:ops.toList[j]'(by simpa using h1)=ops[j]:=by simp
    rw[e]at ZA;simp only[Bg]at ZA;refine MT hA hX ho (λg' st' a' w' SP mL=>?_) (hN _ (Array.getElem_mem h1)) ZA hR;refine ih (j+1) _ g' st' a' w' (by simp[hs]) (by omega) XM (by omega) (by omega) (λq hq zJ=>?_) mL SP;rw[En (by omega)];simp only[H3];split
    ·rename_i e;subst e;simp
    ·rename_i e;rw[hd q hq zJ];congr 1;simp;omega
def VV{all all':Array Oper}{Ah:List (Nat × List AV)}{K:St->Prop}:∀ (os:List Oper) (tb:List (List Nat × List Nat)) (i:Nat) (cr:List (Nat × List Nat × List Nat)) (st:St),(∀ o∈os,o.guard=none)->FG X all Ah os tb i cr K st->FG X all' Ah os tb i cr K st
 |[],_,_,_,_,_,h=>h
 |_::_,[],_,_,_,_,h=>h
 | o::os,(p,ts)::tb,i,cr,st,hg,h=>by
  simp only[FG,hg o (by simp)]at h ⊢;exact h.mono λe he=>⟨he.1,VV os tb (i+1) _ _ (λo' Yt=>hg o' (by simp[Yt])) he.2⟩
def fZ(hA:A.ext=X.ext)(hX:∀ s∈X.ext,s%32=31)(hN:∀ o∈ops,Jn N o=true)(hr:UT ops k tab F)(hv:Valid X (Ej ops k) tab st0 res k)(KB:∀ j,j<k->(Ek (Ej ops k) j).isSome=true){Q:Exit->Act->World->Prop}{K:St->Prop}(hQ:∀ g st a w,R X.C A N g st a w->K st->Q .normal a w)
 {EE:List Nat} (kC:∀ t∈EE,t∉F.filterMap (Ek ops)) (ZB:cR X ops F K (ops.toList.drop k) ⟨restr (canon (Ej ops k) res st0 k) EE,st0.Ah⟩):∀ (fuel:Nat) (Ae:Array Bool) (g:Gh) (a:Act) (w:World),Ae.size=ops.size->UR Ae<=fuel->Closed ops (DE Ae)->(∀ j,j<ops.size->DE Ae j=true->j<k) ->
 R X.C A N g (OU (Ej ops k) res st0 (DE Ae) k) a w->wpAny X.C.P .any ops Q fuel Ae a w:=by
 have hk:=hr.le;have hN':∀ o∈Ej ops k,∀ d,o.dst=some d->d<N:=λo ho d hd=>by
  have:=hN o (by simp only[Ej,List.mem_toArray]at ho;simpa using List.mem_of_mem_take ho);simpa [Jn,hd]using this
 have low:∀ (fuel:Nat) (Ae:Array Bool) (g:Gh) (a:Act) (w:World),Ae.size=ops.size->UR Ae<=fuel->Closed ops (DE Ae)->(∀ j,j<ops.size->DE Ae j=true->j<k)->(∀ j,j<k->j∉F->DE Ae j=true)->R X.C A N g (OU (Ej ops k) res st0 (DE Ae) k) a w->wpAny X.C.P .any ops Q fuel Ae a w:=by
  intro fuel Ae g a w hs hu hc Au Fw hR;refine cS hA hX hN hr hQ fuel k Ae g _ a w hs hu hc (Nat.le_refl _) hk (λj hj Va=>?_) ZB (hR.zP (λt x hx=>?_) λs cs hs=>Ra hv hs k (Nat.le_refl _))
  ·cases hd:DE Ae j with
   | true=>simp[Au j hj hd]
   | false =>
    have:¬ j<k:=λh=>by rw[Fw j h Va]at hd;cases hd
    simp[this]
  ·obtain⟨h1,h2⟩:=MK hx
   replace h1:=kC _ h1
   simp only[OU,canon]at h2 ⊢;rw[<- h2];refine Uf k λj hj ry=>?_
   refine Fw j hj λVa=>h1 ?_
   rw[List.mem_filterMap];exact⟨j,Va,by rw[<- Sw hj];exact ry⟩
 intro fuel
 induction fuel with
 | zero =>
  intro Ae g a w hs hu hc Au hR;exact low 0 Ae g a w hs hu hc Au (λj hj _=>Ho (by omega) (by omega)) hR
 | succ fuel ih =>
  intro Ae g a w hs hu hc Au hR
  by_cases Fw:∀ j,j<k->j∉F->DE Ae j=true
  ·exact low _ Ae g a w hs hu hc Au Fw hR
  ·have aZ:Closed (Ej ops k) (DE Ae):=λi hi hD e he=>by
    have SS:(Ej ops k).size=k:=by simp[Ej];omega
    have bU:i<k:=by omega
    rw[Nd bU]at he;exact hc i (by omega) hD e he
   have step:∀ i∈Region.ready .any ops Ae,wpOp X.C.P ops Q i (wpAny X.C.P .any ops Q fuel (Ae.setIfInBounds i true)) a w:=λi hi=>by
    obtain⟨h1,h2,h3⟩:=(BI hs).1 hi;have hp:=hr.closed hc i h1 h3;have bU:i<k:=by
     rcases Nat.lt_or_ge i k with h|h
     ·exact h
     ·exact(Fw λj hj Va=>hp j ((hr.tail i h1 h j (by omega)).resolve_left Va)).elim
    refine aU hr bU (QN hA hX hN' hr.cut hv KB aZ bU h2 hp hR λg' a' w' SP=>?_);rw[<- En (by omega)]at SP;refine ih _ g' a' w' (by simp[hs]) (by have:=HY (by omega:i<Ae.size) h2;omega) (by rw[En (by omega)];exact Lg hc h3) (λj hj hD=>?_) SP;rw[En (by omega)]at hD;simp only[H3]at hD;split at hD
    ·rename_i e;omega
    ·exact Au j hj hD
   refine⟨λh0=>?_,step⟩;have hex:∃ j,j<k/\DE Ae j=false:=by
    apply Classical.byContradiction;intro Qr;refine Fw λj hj _=>?_
    cases hd:DE Ae j with
    | true=>rfl
    | false=>exact(Qr ⟨j,hj,hd⟩).elim
   obtain⟨j,hj,hd⟩:=hex;obtain⟨i,_,hi⟩:=MZ hr hs j j (by omega) hd (Nat.le_refl _);rw[h0]at hi;cases hi
end
def Tw{X:Env}{ops:List Oper}{K:St->Prop}{st:St}(k:Nat)(tab:List (List Nat × List Nat))(F EE:List Nat)(hm:X.C.P.follows .mixedOrders=true)(Ce:(cK ops.toArray k tab F&&EE.all λt=>!(F.filterMap (Ek ops.toArray)).contains t)=true)
 (h:Bj X ops.toArray st.Ah (ops.take k) tab 0 (λstf=>cR X ops.toArray F K (ops.drop k) ⟨restr stf EE,st.Ah⟩) [] st):JG X ops.toArray K st:=by
 intro A N g a w hA hN hX hR id Q hQ;rw[Bool.and_eq_true]at Ce;have hr:=cK.spec Ce.1;have kC:∀ t∈EE,t∉F.filterMap (Ek ops.toArray):=λt ht=>by
  have:=List.all_eq_true.1 Ce.2 t ht;simpa using this
 have hk:=hr.le;have Ec:ops.toArray.size=ops.length:=by simp
 have hlen:(ops.take k).length=k:=by simp;omega
 have hN2:∀ o∈ops.toArray,Jn N o=true:=λo ho=>by
  unfold Jn;cases hd:o.dst with
  |none=>rfl
  |some d=>simp;exact hN o ho d hd
 have hf:=VV (all':=Ej ops.toArray k) _ _ _ _ _ (λo ho=>hr.guard o (by simpa using List.mem_of_mem_take ho)) (GN _ _ _ _ _ h);obtain⟨res,hv,hK⟩:=MC (X:=X) (st0:=st) (ops:=Ej ops.toArray k) (tab:=tab) (ops.take k) tab 0 [] (λ_=>⟨.undef,[],[],[]⟩) (λj o hj=>by simpa [Ej]using hj) (λj q hj=>by simpa using hj) ⟨λi hi=>by omega,λi hi=>by omega,λi hi=>by omega,λi hi=>by omega,λi j _ hj=>by omega⟩ (λi hi=>by omega) hf;rw[hlen,Nat.zero_add]at hv hK;have KB:∀ j,j<k->(Ek (Ej ops.toArray k) j).isSome=true:=λj hj=>by
  obtain⟨o,ho,hd,_⟩:=hv.op j hj;simpa [Ek,ho]using hd
 refine wp_region_any hm (fZ hA hX hN2 hr hv KB hQ kC (by simpa using hK) ops.toArray.size (Array.replicate ops.toArray.size false) g a _ (by simp) (by simp[UR]) ?_ ?_ ?_)
 ·intro i hi hD;have:i<ops.length:=by simpa using hi
  simp[DE,Array.getD,this]at hD
 ·intro j hj hD;have:j<ops.length:=by simpa using hj
  simp[DE,Array.getD,this]at hD
 ·have e:OU (Ej ops.toArray k) res st (DE (Array.replicate ops.toArray.size false)) k=st:=by
   have hf:∀ j,j<k->DE (Array.replicate ops.toArray.size false) j=false:=λj hj=>by
    have:j<ops.length:=by omega
    simp[DE,Array.getD,this]
   have h1:NR (Ek (Ej ops.toArray k)) res (DE (Array.replicate ops.toArray.size false)) st.tmps k=st.tmps:=by
    rw[Qn (i:=0) k (by omega) λj _ hj=>hf j hj];rfl
   have h2:∀ n,n<=k->OZ res (DE (Array.replicate ops.toArray.size false)) st.Ah n=st.Ah:=λn=>by
    induction n with
    | zero=>intro _;rfl
    | succ n ih=>intro hn;simp only[OZ,hf n (by omega),Bool.false_eq_true,if_false];exact ih (by omega)
   simp only[OU,h1,h2 k (Nat.le_refl _)]
  rw[e];exact hR.drew
theorem me(X:Env)(ops:Array Oper)(F:List Nat)(K:St->Prop)(st:St):cR X ops F K [] st=(neut X ops st F/\K st):=nd rfl
theorem iw(X:Env)(ops:Array Oper)(F:List Nat)(K:St->Prop)(o:Oper)(os:List Oper)(st:St):cR X ops F K (o::os) st=(neut X ops st F/\Bg X ops [o] (cR X ops F K os) st):=nd rfl
theorem lE(X:Env)(ops:Array Oper)(st:St):neut X ops st []=True:=nd rfl
theorem hM(X:Env)(ops:Array Oper)(st:St)(f:Nat)(F:List Nat):neut X ops st (f::F)=(Bg X ops (L6 ops f) (λst'=>H2 st' st.tmps/\GZ st' st.Ah) st/\neut X ops st F):=nd rfl
attribute [go_sem] me iw lE hM
end Go.Abs
open Go Go.Abs Go.Proofs
set_option maxRecDepth 100000
namespace Go.Rd
set_option maxHeartbeats 8000000
open List (filter_sublist mem_cons pairwise_cons)
def lZ{α:Type}{R:α->α->Prop}(irr:∀ a,¬ R a a)(asy:∀ a b,R a b->¬ R b a):∀ {l m:List α},l.Pairwise R->m.Pairwise R->(∀ x,x∈l↔x∈m)->l=m
 |[],[],_,_,_=>rfl
 |[],b::m,_,_,h=>by have:=(h b).2 (by simp);cases this
 | a::l,[],_,_,h=>by have:=(h a).1 (by simp);cases this
 | a::l,b::m,hl,hm,h=>by
  obtain⟨l1,l2⟩:=pairwise_cons.1 hl;obtain⟨m1,m2⟩:=pairwise_cons.1 hm;have LS:a=b:=by
   rcases mem_cons.1 ((h a).1 (by simp)) with e|e
   ·exact e
   ·rcases mem_cons.1 ((h b).2 (by simp)) with f|f
    ·exact f.symm
    ·exact absurd (m1 a e) (asy _ _ (l1 b f))
  subst LS;rw[lZ irr asy l2 m2 λx=>?_];constructor
  ·intro hx;rcases mem_cons.1 ((h x).1 (by simp[hx])) with e|e
   ·subst e;exact absurd (l1 x hx) (irr x)
   ·exact e
  ·intro hx;rcases mem_cons.1 ((h x).2 (by simp[hx])) with e|e
   ·subst e;exact absurd (m1 x hx) (irr x)
   ·exact e
def YL{l m:List AX}(hl:On l)(hm:On m)(h:∀ x,x∈l↔x∈m):l=m :=
 lZ (λa h=>by have:=DN a.proc;omega) (λa b h k=>by have:=Ds a.proc b.proc;omega) hl hm h
def Vu{p:Ad}{a:BO}:∀ {d:List AX},On d->(∀ h∈d,h.proc≠p)->On (d.take (CG d p)++⟨p,a⟩::d.drop (CG d p))
 |[],_,_=>by simp[CG,On]
 | x::d,h,hn=>by
  obtain⟨h1,h2⟩:=pairwise_cons.1 h;have hx:x.proc≠p:=hn x (by simp);cases hk:after' p x
  ·have e:CG (x::d) p=CG d p+1:=by
    unfold CG;rw[List.findIdx?_cons,hk];cases d.findIdx? (after' p)<;>simp
   rw[e];refine pairwise_cons.2 ⟨λy hy=>?_,Vu h2 λy hy=>hn y (by simp[hy])⟩;have eT:Bw x.proc p<0:=by
    simp only[after',decide_eq_false_iff_not]at hk;have:Bw x.proc p≠0:=λe=>hx (FX e)
    omega
   rcases List.mem_append.1 hy with hy|hy
   ·exact h1 y (List.mem_of_mem_take hy)
   ·rcases mem_cons.1 hy with hy|hy
    ·subst hy;exact eT
    ·exact h1 y (List.mem_of_mem_drop hy)
  ·have e:CG (x::d) p=0:=by
    unfold CG;rw[List.findIdx?_cons,hk];rfl
   rw[e];have hpx:Bw p x.proc<0:=by
    simp only[after',decide_eq_true_eq]at hk;have:=Ds x.proc p;omega
   refine pairwise_cons.2 ⟨λy hy=>?_,h⟩;rcases mem_cons.1 hy with hy|hy
   ·subst hy;exact hpx
   ·exact DP hpx (h1 y hy)
def nc{l:List AX}{p:Ad}{a:BO}(h:On l)(ha:a.zero=false):On (Cs l p a):=by
 unfold Cs;rw[ha];exact Vu (h.sublist filter_sublist) λy hy=>(KJ.1 hy).2
def QV{r:Bo}{l:List AX}(h:BG r l=true):On l:=((D6 r l).1 h).2.2.2.1
def Gz(q:Queue)(p:Ad):B2 q p = { q with holds:=AG q.holds p,Ak:=Bt q.Ak p,waits:=Bt q.waits p }:=by simp[B2,GU]
def TV{q:Queue}{w:Ba}(hh:BE q=some w):(∃ l,q.Ak=w::l/\CS q w = { q with holds:=Cs q.holds w.proc w.AN,Ak:=l })\/(∃ l,q.Ak=[]/\q.waits=w::l/\CS q w = { q with holds:=Cs q.holds w.proc w.AN,waits:=l }):=by
 cases hc:q.Ak with
 | cons w' l =>
  have PN:w'=w:=by simp[BE,hc]at hh;exact hh
  subst PN;exact .inl ⟨l,rfl,by unfold CS;simp only[hc]⟩
 | nil =>
  cases hw:q.waits with
  | nil=>simp[BE,hc,hw]at hh
  | cons w' l =>
   have PN:w'=w:=by simp[BE,hc,hw]at hh;exact hh
   subst PN;exact .inr ⟨l,rfl,rfl,by unfold CS;simp only[hc,hw];rfl⟩
def np{q:Queue}{w:Ba}(h:Sound q)(hh:BE q=some w)(hr:E3 q.res q.holds w.proc w.AN=true)(x:Ad):(B0 (B2 (CS q w) x)).1=(B0 (B2 q x)).1:=by
 obtain⟨r1,r2,r3⟩:=NI hr;have hz:=IN r1;have ha:=QV r3
 by_cases e:w.proc=x
 ·have hd:AG (Cs q.holds w.proc w.AN) x=AG q.holds x:=by
   refine YL (ha.sublist filter_sublist) ((QV h.holds).sublist filter_sublist) λy=>?_
   simp only[KJ,Uo hz];constructor
   ·rintro⟨(⟨h1,h2⟩|h1),h3⟩
    ·exact⟨h1,h3⟩
    ·subst h1;exact absurd e h3
   ·rintro⟨h1,h2⟩;exact⟨.inl ⟨h1,e▸h2⟩,h2⟩
  have rn:∀ l,Bt (w::l) x=Bt l x:=λl=>by simp[Bt,e]
  have:B2 (CS q w) x=B2 q x:=by
   rcases TV hh with ⟨l,h1,h2⟩|⟨l,h1,h3,h2⟩
   ·rw[h2,Gz,Gz,h1,rn,hd]
   ·rw[h2,Gz,Gz,h3,rn,hd]
  rw[this]
 ·have hd:AG (Cs q.holds w.proc w.AN) x=Cs (AG q.holds x) w.proc w.AN:=by
   have rk:On (AG (Cs q.holds w.proc w.AN) x):=ha.sublist filter_sublist;refine YL rk (nc ((QV h.holds).sublist filter_sublist) hz) λy=>?_
   simp only[KJ,Uo hz];constructor
   ·rintro⟨(⟨h1,h2⟩|h1),h3⟩
    ·exact .inl ⟨⟨h1,h3⟩,h2⟩
    ·exact .inr h1
   ·rintro(⟨⟨h1,h3⟩,h2⟩|h1)
    ·exact⟨.inl ⟨h1,h2⟩,h3⟩
    ·subst h1;exact⟨.inr rfl,e⟩
  have pI:E3 (B2 q x).res (B2 q x).holds w.proc w.AN=true:=by
   rw[Gz];simp only[E3,Bool.and_eq_true,<- hd];exact⟨⟨⟨JM filter_sublist h.holds,r2⟩,r1⟩,JM filter_sublist r3⟩
  have rn:∀ l,Bt (w::l) x=w::Bt l x:=λl=>by simp[Bt,e]
  have key:BE (B2 q x)=some w/\CS (B2 q x) w=B2 (CS q w) x:=by
   rcases TV hh with ⟨l,h1,h2⟩|⟨l,h1,h3,h2⟩
   ·rw[h2,Gz,Gz,h1,rn,hd];exact⟨rfl,rfl⟩
   ·rw[h2,Gz,Gz,h1,h3,rn,hd];exact⟨rfl,rfl⟩
  rw[I8 (B2 q x),key.1];simp only[pI,if_true,key.2]
def Me{q:Queue}(h:Sound q)(x:Ad):(B0 (B2 (B0 q).1 x)).1=(B0 (B2 q x)).1 :=
 (HQ (P:=λy=>Sound y/\(B0 (B2 y x)).1=(B0 (B2 q x)).1) (λ_ _ hy hh hr=>⟨K0 hy.1 hh hr,(np hy.1 hh hr x).trans hy.2⟩) _ q rfl ⟨h,rfl⟩).1.2
def jw(q:Queue)(p r:Ad):B2 (B2 q p) r=B2 (B2 q r) p:=by
 simp only[Gz,AG,Bt,List.filter_filter,Bool.and_comm]
theorem F2{q:Queue}(hv:valid q=true)(p:Ad):Cm q p=(B0 (B2 q p)).1:=by
 by_cases hp:BL (B6 q) p=true
 ·have e:Cm q p = { DA (B2 q p) with gen:=q.gen }:=by simp[Cm,hv,hp]
  rw[e];have h1:(B0 (B2 q p)).1.gen=q.gen:=(Ss _).2;show ({ (B0 (B2 q p)).1 with gen:=q.gen }:Queue)=_;rw[<- h1]
 ·have e:Cm q p=q:=by simp[Cm,hp]
  have hn:¬ Kc q p:=by rw[<- ES];simpa [BL]using hp
  have e2:B2 q p=q:=by
   have k1:AG q.holds p=q.holds:=List.filter_eq_self.2 λy hy=>decide_eq_true λe=>hn (.inl ⟨y,hy,e⟩)
   have k2:Bt q.Ak p=q.Ak:=List.filter_eq_self.2 λy hy=>decide_eq_true λe=>hn (.inr (.inl ⟨y,hy,e⟩))
   have k3:Bt q.waits p=q.waits:=List.filter_eq_self.2 λy hy=>decide_eq_true λe=>hn (.inr (.inr ⟨y,hy,e⟩))
   rw[Gz,k1,k2,k3]
  rw[e,e2,I8];have hs:=((Ck q).1 hv).2;cases hh:BE q with
  |none=>rfl
  |some w=>simp only[hs w hh];rfl
def cL{q:Queue}(hv:valid q=true)(p r:Ad):Cm (Cm q p) r=Cm (Cm q r) p:=by
 have hs:=((Ck q).1 hv).1;rw[F2 (Rm hv p),F2 (Rm hv r),F2 hv,F2 hv,Me (KZ hs p),Me (KZ hs r),jw]
def UC{s:WS}(h:CL s)(p r:Ad):BU (BU s p) r=BU (BU s r) p:=by
 simp only[BU,List.map_map,Hs,List.filter_filter,WS.mk.injEq];exact⟨List.map_congr_left λq hq=>cL (h q hq) p r,by simp only[Bool.and_comm]⟩
def mD{q:Queue}{p:Ad}:(Ar q p).isSome=true↔∃ w∈q.Ak++q.waits,w.proc=p:=by
 simp only[Ar,Option.isSome_map,List.find?_isSome,decide_eq_true_eq]
def mE{q:Queue}(hv:valid q=true){p x:Ad}(h:(Ar (Cm q p) x).isSome=true):(Ar q x).isSome=true:=by
 rw[F2 hv]at h;rw[mD]at *;obtain⟨w,hw,rfl⟩:=h;have:=(HQ (P:=λy=>∀ v∈y.Ak++y.waits,v∈q.Ak++q.waits) (λy w hy hh _ v hv=>hy v (by
  rcases TV hh with ⟨l,h1,h2⟩|⟨l,h1,h3,h2⟩
  ·rw[h2]at hv;rw[h1];exact List.mem_cons_of_mem _ hv
  ·rw[h2,h1]at hv;rw[h1,h3];exact List.mem_cons_of_mem _ hv)) _ (B2 q p) rfl (λv hv=>by
  simp only[Gz,Bt,List.mem_append,List.mem_filter]at hv ⊢;rcases hv with hv|hv
  ·exact .inl hv.1
  ·exact .inr hv.1)).1
 exact⟨w,this w hw,rfl⟩
def Yp{x:Ad}{name:Bs}{f:Queue->Queue}(l:List Queue)(hf:∀ q∈l,(f q).res=q.res/\((Ar (f q) x).isSome=true->(Ar q x).isSome=true))(h:D1 (l.map f) x name=true):D1 l x name=true:=by
 unfold D1 at *;have gen:∀ (l:List Queue),(∀ q∈l,(f q).res=q.res/\((Ar (f q) x).isSome=true->(Ar q x).isSome=true))->∀ a b:Bool,(a=true->b=true)->(l.map f).foldl (λw q=>if q.res.name==name then (Ar q x).isSome else w) a=true->l.foldl (λw q=>if q.res.name==name then (Ar q x).isSome else w) b=true:=by
  intro l
  induction l with
  | nil=>intro _ a b LS h;exact LS h
  | cons q l ih =>
   intro hl a b LS h;obtain⟨h1,h2⟩:=hl q (by simp);simp only[List.map_cons,List.foldl_cons]at h ⊢;refine ih (λq hq=>hl q (by simp[hq])) _ _ ?_ h;rw[h1];split
   ·exact h2
   ·exact LS
 exact gen l hf false false id h
mutual
def TA{f g:Atom->Bool}(h:∀ a,f a=true->g a=true):∀ e:Expr,EX f e=true->EX g e=true
 |.mk k a kids=>by
  unfold EX;split
  ·exact h a
  ·intro hk;have:=RF h kids;simp only[decide_eq_true_eq]at hk ⊢;omega
def RF{f g:Atom->Bool}(h:∀ a,f a=true->g a=true):∀ l:List Expr,CV f l<=CV g l
 |[]=>by simp[CV]
 | e::l=>by
  have h1:=TA h e;have h2:=RF h l;simp only[CV];cases he:EX f e
  ·simp only[Bool.false_eq_true,if_false];split<;>omega
  ·rw[h1 he];simp only[if_true];omega
end
def gv{l:List Atom}{s t:List Bool}(h:∀ k,s.getD k false=true->t.getD k false=true)(a:Atom)(ha:Ed l s a=true):Ed l t a=true:=by
 unfold Ed at *;split
 ·next i hi=>rw[hi]at ha;exact h i ha
 ·next hi=>rw[hi]at ha;exact ha
def Vi{α:Type}{f g:α->Bool}(l:List α)(h:∀ a∈l,f a=true->g a=true)(k:Nat)(hk:(l.map f).getD k false=true):(l.map g).getD k false=true:=by
 simp only[List.getD_eq_getElem?_getD,gm]at *;cases ha:l[k]? with
 |none=>rw[ha]at hk;simp at hk
 |some a=>rw[ha]at hk;simp only[Option.map_some,Option.getD_some]at hk ⊢;exact h a (mG ha) hk
def Zz{e:Expr}{s t:List Bool}(h:∀ k,s.getD k false=true->t.getD k false=true)(hs:Ff e s=true):Ff e t=true:=by
 simp only[Ff,Bool.and_eq_true]at *;exact⟨hs.1,TA (gv h) e hs.2⟩
def kq{s:WS}(h:CL s){x p:Ad}(Ca:x≠p)(hf:CX s x=true):CX (BU s p) x=true:=by
 unfold CX at *;have e:(BU s p).AB.find? (λn=>decide (n.proc=x))=s.AB.find? λn=>decide (n.proc=x):=H5 (λn hn=>by simp only[decide_eq_true_eq]at hn ⊢;rw[hn];exact Ca) _
 rw[e];cases hn:s.AB.find? (λn=>decide (n.proc=x)) with
 |none=>rfl
 |some n =>
  rw[hn]at hf;simp only at hf ⊢;refine Zz (Vi _ λa _=>?_) hf;intro h1;cases hw:D1 (BU s p).Aa n.proc a.name
  ·rfl
  ·have:=Yp s.Aa (λq hq=>⟨WB q p,mE (h q hq)⟩) hw;rw[this]at h1;cases h1
def KL{s:WS}{x:Ad}:x∈BH s↔x∈Am s/\CX s x=true:=List.mem_filter
def QM{s:WS}(h:CL s){x p:Ad}(Ca:x≠p)(hf:x∈BH s):x∈BH (BU s p):=by
 rw[KL]at *;exact⟨(ND h p x).2 ⟨hf.1,Ca⟩,kq h Ca hf.2⟩
def FE(s:WS):List Ad:=(C2 s).2
def Zc{s:WS}(h:CL s)(hf:BH s=[]):FE s=Am s:=by
 unfold FE;rw[Uz h,hf]
def VD{s:WS}(h:CL s){p:Ad}{l:List Ad}(hf:BH s=p::l):FE s=FE (BU s p):=by
 unfold FE;rw[Uz h,hf]
def P5{s:WS}(h:(Am s).length<=0):Am s=[]:=List.eq_nil_of_length_eq_zero (by omega)
def jB:∀ (n:Nat) (s:WS),CL s->(Am s).length<=n->∀ x∈FE s,x∈Am s:=by
 intro n
 induction n with
 | zero =>
  intro s h hn x hx;have:BH s=[]:=by unfold BH;rw[P5 hn];rfl
  rwa [Zc h this]at hx
 | succ n ih =>
  intro s h hn x hx;cases hf:BH s with
  | nil=>rwa [Zc h hf]at hx
  | cons p l =>
   rw[VD h hf]at hx;have hp:p∈Am s:=(KL.1 (hf▸List.mem_cons_self)).1;have:=EA h hp;exact((ND h p x).1 (ih _ (DC h p) (by omega) x hx)).1
def VC:∀ (n:Nat) (s:WS),CL s->(Am s).length<=n->∀ f∈BH s,FE s=FE (BU s f):=by
 intro n
 induction n with
 | zero =>
  intro s h hn f hf;have:=(KL.1 hf).1;rw[P5 hn]at this;cases this
 | succ n ih =>
  intro s h hn f hf;cases hs:BH s with
  | nil=>rw[hs]at hf;cases hf
  | cons g l =>
   rw[VD h hs]
   by_cases e:f=g
   ·rw[e]
   ·have hg:g∈BH s:=hs▸List.mem_cons_self;have d1:=EA h (KL.1 hg).1;have d2:=EA h (KL.1 hf).1;rw[ih _ (DC h g) (by omega) f (QM h e hf),ih _ (DC h f) (by omega) g (QM h (Ne.symm e) hg),UC h]
end Go.Rd
namespace Go.Abs
def WT:List Nat->List (List Nat)
 |[]=>[[]]
 | f::F=>WT F++(WT F).map (f::·)
def RL(p:Nat->Bool):∀ F:List Nat,F.filter p∈WT F
 |[]=>by simp[WT]
 | f::F=>by
  have ih:=RL p F;simp only[List.filter_cons,WT,List.mem_append,List.mem_map];split
  ·exact .inr ⟨_,ih,rfl⟩
  ·exact .inl ih
def jD(k:Nat)(F G:List Nat):List Nat:=(List.range k).filter λj=>!F.contains j||G.contains j
def JV(o:Oper):Bool:=match o.op with
 |.move _=>true
 |.extract _ _=>true
 |.nilCheck _=>true
 |.fieldAddr _ _ _=>true
 |.load _ _=>true
 |_=>false
def fC(ops:Array Oper)(F:List Nat):Bool:=F.all λf=>match ops[f]? with
 |some o=>JV o
 |none=>false
def TP(X:Env)(Ah:List (Nat × List AV)):List Oper->List (List Nat × List Nat)->Nat->List (Nat × List Nat × List Nat)->(St->Prop)->St->Prop
 |[],_,_,_,K,st=>K st
 |_::_,[],_,_,_,_=>False
 | o::os,(p,ts)::tab,i,cr,K,st=>Ls X o ⟨restr st ts,Ah⟩ st p cr λe=>(JV o=true->e.GY=[])/\o.dst.isSome=true/\TP X Ah os tab (i+1) (Ir i e cr) K ⟨(St.put o.dst e.x st).tmps,e.GY++st.Ah⟩
theorem lX(d:Option Nat)(x:AV)(st:St):(St.put d x st).Ah=st.Ah:=by cases d<;>rfl
def bN{X:Env}{o:Oper}{Ah:List (Nat × List AV)}{r st:St}{p:List Nat}{i:Nat}{cr:List (Nat × List Nat × List Nat)}{K:List (Nat × List Nat × List Nat)->St->Prop}(hs:JV o=true)(h:Iu X o Ah r p i cr K st) :
 Iu X o Ah r p i cr (λc s=>K c s/\s.Ah.length=st.Ah.length) st:=by
 have key:∀ v:Option AV,EI v p cr o.dst (K cr) st->EI v p cr o.dst ((λc s=>K c s/\s.Ah.length=st.Ah.length) cr) st:=λv hv=>by
  cases v with
  |none=>exact hv
  |some x=>exact⟨hv.1,hv.2,by rw[lX]⟩
 unfold JV at hs;unfold Iu at h ⊢;split at hs
 ·rename_i a ho;rw[ho]at h ⊢;exact key _ h
 ·rename_i a b ho;rw[ho]at h ⊢;exact key _ h
 ·rename_i a ho;rw[ho]at h ⊢;exact key _ h
 ·rename_i a b c ho;rw[ho]at h ⊢;exact key _ h
 ·rename_i a b ho;rw[ho]at h ⊢;exact key _ h
 ·cases hs
def XK{X:Env}{all:Array Oper}{Ah:List (Nat × List AV)}{K:St->Prop}:∀ (os:List Oper) (tab:List (List Nat × List Nat)) (i:Nat) (cr:List (Nat × List Nat × List Nat)) (st:St),(∀ o∈os,o.guard=none)->Bj X all Ah os tab i K cr st->TP X Ah os tab i cr K st
 |[],_,_,_,_,_,h=>h
 |_::_,[],_,_,_,_,h=>h
 | o::os,(p,ts)::tab,i,cr,st,hg,h=>by
  simp only[Bj,hg o (by simp)]at h;obtain⟨hd,h⟩:=h;simp only[TP];cases hs:JV o
  ·exact(QL rfl hd h).mono λe he=>⟨(λe=>by cases e),he.1,XK os tab (i+1) _ _ (λo' Yt=>hg o' (by simp[Yt])) he.2⟩
  ·refine(QL rfl hd (bN hs h)).mono λe he=>⟨λ_=>?_,he.1,XK os tab (i+1) _ _ (λo' Yt=>hg o' (by simp[Yt])) he.2.1⟩
   have:=he.2.2;simp only[List.length_append]at this;exact List.eq_nil_of_length_eq_zero (by omega)
def closedIn(ops:Array Oper)(F G:List Nat):Bool:=G.all λg=>(Bq ops g).all λe=>!F.contains e||G.contains e
def cF(ops:Array Oper)(k:Nat)(F:List Nat)(ss:List (List Nat × List Nat × OT)):Bool :=
 IJ ops&&fC ops F&&(WT F).all λG=>!closedIn ops F G||ss.any λs=>s.1==G&&wt ops (jD k F G) s.2.2&&s.2.1.all λt=>!((F.filter λf=>!G.contains f).filterMap (Ek ops)).contains t
def wpS(X:Env)(ops:Array Oper)(K:St->Prop):List (List Nat × List Nat × OT)->St->Prop
 |[],_=>True
 |(_,EE,t)::ss,st=>aV X ops K t ⟨restr st EE,st.Ah⟩/\wpS X ops K ss st
def fu{X:Env}{ops:Array Oper}{K:St->Prop}{st:St}{s:List Nat × List Nat × OT}:∀ {ss:List (List Nat × List Nat × OT)},wpS X ops K ss st->s∈ss->aV X ops K s.2.2 ⟨restr st s.2.1,st.Ah⟩
 |(G,EE,t)::ss,h,hm=>by
  simp only[wpS]at h;rcases List.mem_cons.1 hm with rfl|hm
  ·exact h.1
  ·exact fu h.2 hm
section
variable {X:Env} {A:A0} {N:Nat} {g:Gh} {st0:St} {a:Act} {w:World} {ops:Array Oper} {k:Nat} {tab:List (List Nat × List Nat)} {res:Nat->Bo} {D:Nat->Bool} {F:List Nat}
theorem Z4{base:List (Nat × List AV)}:∀ n,(∀ j,j<n->D j=true\/(res j).GY=[])->OZ res D base n=OZ res (λ_=>true) base n
 | 0,_=>rfl
 | n+1,h=>by
  have ih:=Z4 (base:=base) n λj hj=>h j (by omega)
  simp only[OZ,ih,if_true];rcases h n (by omega) with h1|h1
  ·rw[h1];rfl
  ·rw[h1];split<;>rfl
def RP{K:St->Prop}:∀ (os:List Oper) (tb:List (List Nat × List Nat)) (n:Nat) (cr:List (Nat × List Nat × List Nat)) (res:Nat->Bo),(∀ j o,os[j]?=some o->ops[n+j]?=some o)->(∀ j q,tb[j]?=some q->tab[n+j]?=some q)->(∀ o∈os,o.guard=none) ->
 Valid X ops tab st0 res n->Yv res n cr->(∀ j o,j<n->ops[j]?=some o->JV o=true->(res j).GY=[])->TP X st0.Ah os tb n cr K (canon ops res st0 n) ->
 ∃ res',Valid X ops tab st0 res' (n+os.length)/\(∀ j o,j<n+os.length->ops[j]?=some o->JV o=true->(res' j).GY=[])/\K (canon ops res' st0 (n+os.length))
 |[],tb,n,cr,res,_,_,_,hv,_,hs,h=>⟨res,hv,hs,by simp only[TP]at h;simpa using h⟩
 |_::_,[],_,_,_,_,_,_,_,_,_,h=>by simp[TP]at h
 | o::os,(p,ts)::tb,n,cr,res,ho,ht,hg,hv,hc,hs,h=>by
  have rH:ops[n]?=some o:=ho 0 o rfl;have yk:tab[n]?=some (p,ts):=ht 0 (p,ts) rfl;have hp:DX tab n=p:=by simp[DX,List.getD,yk]
  have hr:IE tab n=ts:=by simp[IE,List.getD,yk]
  have gK:∀ j o',os[j]?=some o'->ops[n+1+j]?=some o':=λj o' hj=>by
   have:=ho (j+1) o' (by simpa using hj)
   rwa [show n+(j+1)=n+1+j by omega]at this
  have v7:∀ j q,tb[j]?=some q->tab[n+1+j]?=some q:=λj q hj=>by
   have:=ht (j+1) q (by simpa using hj)
   rwa [show n+(j+1)=n+1+j by omega]at this
  have hlen:n+(o::os).length=n+1+os.length:=by simp;omega
  rw[hlen];simp only[TP]at h;obtain⟨e,h1,h2,h3,h4,h5,h6,hu,hd,hf⟩:=h;refine RP os tb (n+1) _ _ gK v7 (λo' Yt=>hg o' (by simp[Yt])) (hv.snoc e rH hd (.inl ⟨.inl (hg o (by simp)),by rw[hr];exact h1⟩) h2 h3 ⟨h4,h5⟩ (by rw[hp];exact hc.away h6)) (hc.snoc e) (λj o' hj hjo hjs=>?_) (by rw[Tj rH hd];exact hf);unfold Fi;split
  ·rename_i xW;subst xW;rw[rH]at hjo;have:=Option.some.inj hjo;subst this;exact hu hjs
  ·exact hs j o' (by omega) hjo hjs
def ga(hA:A.ext=X.ext)(hX:∀ s∈X.ext,s%32=31)(hN:bf N ops)(hr:UT ops k tab F)(hv:Valid X (Ej ops k) tab st0 res k)(KB:∀ j,j<k->(Ek (Ej ops k) j).isSome=true){Q:Exit->Act->World->Prop}{K:St->Prop}(hQ:∀ g st a w,R X.C A N g st a w->K st->Q .normal a w)
 {ss:List (List Nat × List Nat × OT)} (Ce:cF ops k F ss=true) (AbA:∀ j o,j<k->(Ej ops k)[j]?=some o->JV o=true->(res j).GY=[]) (ZB:wpS X ops K ss (canon (Ej ops k) res st0 k)):∀ (fuel:Nat) (Ae:Array Bool) (g:Gh) (a:Act) (w:World),Ae.size=ops.size->UR Ae<=fuel->Closed ops (DE Ae)->(∀ j,j<ops.size->DE Ae j=true->j<k) ->
 R X.C A N g (OU (Ej ops k) res st0 (DE Ae) k) a w->wpAny X.C.P .any ops Q fuel Ae a w:=by
 have hk:=hr.le;have hN':∀ o∈Ej ops k,∀ d,o.dst=some d->d<N:=λo ho d hd=>by
  have:=hN.1 o (by simp only[Ej,List.mem_toArray]at ho;simpa using List.mem_of_mem_take ho);simpa [Jn,hd]using this
 have low:∀ (fuel:Nat) (Ae:Array Bool) (g:Gh) (a:Act) (w:World),Ae.size=ops.size->UR Ae<=fuel->Closed ops (DE Ae)->(∀ j,j<ops.size->DE Ae j=true->j<k)->(∀ j,j<k->j∉F->DE Ae j=true)->R X.C A N g (OU (Ej ops k) res st0 (DE Ae) k) a w->wpAny X.C.P .any ops Q fuel Ae a w:=by
  intro fuel Ae g a w hs hu hc Au Fw hR;simp only[cF,Bool.and_eq_true,List.all_eq_true]at Ce;have h1:=Ce.2 (F.filter (DE Ae)) (RL _ F);have NN:closedIn ops F (F.filter (DE Ae))=true:=by
   unfold closedIn;rw[List.all_eq_true];intro g hg;rw[List.all_eq_true];intro e he;rw[List.mem_filter]at hg
   by_cases hF:e∈F
   ·have h5:=hc g (by have:=hr.small g hg.1;omega) hg.2 e he;simp[hF,h5]
   ·simp[hF]
  rw[NN,Bool.not_true,Bool.false_or]at h1;simp only[List.any_eq_true,Bool.and_eq_true,List.all_eq_true,beq_iff_eq,Bool.not_eq_true']at h1;obtain⟨s,vZ,⟨gM,NZ⟩,hs3⟩:=h1;have hw:=fu ZB vZ;have Abh:(canon (Ej ops k) res st0 k).Ah=(OU (Ej ops k) res st0 (DE Ae) k).Ah:=by
   refine(Z4 k λj hj=>?_).symm
   by_cases Va:j∈F
   ·right;have hm:=List.all_eq_true.1 Ce.1.2 j Va;cases ho:ops[j]? with
    |none=>rw[ho]at hm;cases hm
    |some o=>rw[ho]at hm;exact AbA j o hj (by rw[Sx hj];exact ho) hm
   ·exact .inl (Fw j hj Va)
  refine Ol hA hX hN hQ s.2.2 fuel (jD k F (F.filter (DE Ae))) Ae g _ a w hs hu (λj hj=>?_) NZ hw (hR.zP (λt x hx=>?_) λs cs hs=>Abh▸hs)
  ·rw[Bool.eq_iff_iff];simp only[jD,List.contains_iff_mem,List.mem_filter,List.mem_range,Bool.or_eq_true,Bool.not_eq_true',<- Bool.not_eq_true];constructor
   ·intro hd;refine⟨Au j hj hd,?_⟩
    by_cases Va:j∈F
    ·exact .inr ⟨Va,hd⟩
    ·exact .inl Va
   ·rintro⟨h1,h2|h2⟩
    ·exact Fw j h1 h2
    ·exact h2.2
  ·obtain⟨h1,h2⟩:=MK hx;have h3:=hs3 t h1;simp only[OU,canon]at h2 ⊢;rw[<- h2];refine Uf k λj hj ry=>?_
   cases hd:DE Ae j with
   | true=>rfl
   | false =>
    exfalso;have Va:j∈F:=by
     apply Classical.byContradiction;intro Va;rw[Fw j hj Va]at hd;cases hd
    have hm:t∈(F.filter λf=>!(F.filter (DE Ae)).contains f).filterMap (Ek ops):=by
     rw[List.mem_filterMap];refine⟨j,?_,by rw[<- Sw hj];exact ry⟩;rw[List.mem_filter];refine⟨Va,?_⟩;simp[hd]
    have h4:((F.filter λf=>!(F.filter (DE Ae)).contains f).filterMap (Ek ops)).contains t=true:=by simpa using hm
    rw[h4]at h3;cases h3
 intro fuel
 induction fuel with
 | zero =>
  intro Ae g a w hs hu hc Au hR;exact low 0 Ae g a w hs hu hc Au (λj hj _=>Ho (by omega) (by omega)) hR
 | succ fuel ih =>
  intro Ae g a w hs hu hc Au hR
  by_cases Fw:∀ j,j<k->j∉F->DE Ae j=true
  ·exact low _ Ae g a w hs hu hc Au Fw hR
  ·have aZ:Closed (Ej ops k) (DE Ae):=λi hi hD e he=>by
    have SS:(Ej ops k).size=k:=by simp[Ej];omega
    have bU:i<k:=by omega
    rw[Nd bU]at he;exact hc i (by omega) hD e he
   have step:∀ i∈Region.ready .any ops Ae,wpOp X.C.P ops Q i (wpAny X.C.P .any ops Q fuel (Ae.setIfInBounds i true)) a w:=λi hi=>by
    obtain⟨h1,h2,h3⟩:=(BI hs).1 hi;have hp:=hr.closed hc i h1 h3;have bU:i<k:=by
     rcases Nat.lt_or_ge i k with h|h
     ·exact h
     ·exact(Fw λj hj Va=>hp j ((hr.tail i h1 h j (by omega)).resolve_left Va)).elim
    refine aU hr bU (QN hA hX hN' hr.cut hv KB aZ bU h2 hp hR λg' a' w' SP=>?_);rw[<- En (by omega)]at SP;refine ih _ g' a' w' (by simp[hs]) (by have:=HY (by omega:i<Ae.size) h2;omega) (by rw[En (by omega)];exact Lg hc h3) (λj hj hD=>?_) SP;rw[En (by omega)]at hD;simp only[H3]at hD;split at hD
    ·rename_i e;omega
    ·exact Au j hj hD
   refine⟨λh0=>?_,step⟩;have hex:∃ j,j<k/\DE Ae j=false:=by
    apply Classical.byContradiction;intro Qr;refine Fw λj hj _=>?_
    cases hd:DE Ae j with
    | true=>rfl
    | false=>exact(Qr ⟨j,hj,hd⟩).elim
   obtain⟨j,hj,hd⟩:=hex;obtain⟨i,_,hi⟩:=MZ hr hs j j (by omega) hd (Nat.le_refl _);rw[h0]at hi;cases hi
end
def IW{X:Env}{ops:List Oper}{K:St->Prop}{st:St}(k:Nat)(tab:List (List Nat × List Nat))(F:List Nat)(ss:List (List Nat × List Nat × OT))(hm:X.C.P.follows .mixedOrders=true)(Ce:(cK ops.toArray k tab F&&cF ops.toArray k F ss)=true)
 (h:Bj X ops.toArray st.Ah (ops.take k) tab 0 (wpS X ops.toArray K ss) [] st):JG X ops.toArray K st:=by
 intro A N g a w hA hN hX hR id Q hQ;rw[Bool.and_eq_true]at Ce;have hr:=cK.spec Ce.1;have hk:=hr.le;have Ec:ops.toArray.size=ops.length:=by simp
 have hlen:(ops.take k).length=k:=by simp;omega
 have hN2:bf N ops.toArray:=by
  refine⟨λo ho=>?_,λi hi e he=>?_⟩
  ·unfold Jn;cases hd:o.dst with
   |none=>rfl
   |some d=>simp;exact hN o ho d hd
  ·have:=hr.Se i hi e he;omega
 have hf:=XK _ _ _ _ _ (λo ho=>hr.guard o (by simpa using List.mem_of_mem_take ho)) h;obtain⟨res,hv,hup,hK⟩:=RP (X:=X) (st0:=st) (ops:=Ej ops.toArray k) (tab:=tab) (ops.take k) tab 0 [] (λ_=>⟨.undef,[],[],[]⟩) (λj o hj=>by simpa [Ej]using hj) (λj q hj=>by simpa using hj) (λo ho=>hr.guard o (by simpa using List.mem_of_mem_take ho)) ⟨λi hi=>by omega,λi hi=>by omega,λi hi=>by omega,λi hi=>by omega,λi j _ hj=>by omega⟩ (λi hi=>by omega) (λj o hj=>by omega) hf;rw[hlen,Nat.zero_add]at hup;rw[hlen,Nat.zero_add]at hv hK;have KB:∀ j,j<k->(Ek (Ej ops.toArray k) j).isSome=true:=λj hj=>by
  obtain⟨o,ho,hd,_⟩:=hv.op j hj;simpa [Ek,ho]using hd
 refine wp_region_any hm (ga hA hX hN2 hr hv KB hQ Ce.2 hup hK ops.toArray.size (Array.replicate ops.toArray.size false) g a _ (by simp) (by simp[UR]) ?_ ?_ ?_)
 ·intro i hi hD;have:i<ops.length:=by simpa using hi
  simp[DE,Array.getD,this]at hD
 ·intro j hj hD;have:j<ops.length:=by simpa using hj
  simp[DE,Array.getD,this]at hD
 ·have e:OU (Ej ops.toArray k) res st (DE (Array.replicate ops.toArray.size false)) k=st:=by
   have hf:∀ j,j<k->DE (Array.replicate ops.toArray.size false) j=false:=λj hj=>by
    have:j<ops.length:=by omega
    simp[DE,Array.getD,this]
   have h1:NR (Ek (Ej ops.toArray k)) res (DE (Array.replicate ops.toArray.size false)) st.tmps k=st.tmps:=by
    rw[Qn (i:=0) k (by omega) λj _ hj=>hf j hj];rfl
   have h2:∀ n,n<=k->OZ res (DE (Array.replicate ops.toArray.size false)) st.Ah n=st.Ah:=λn=>by
    induction n with
    | zero=>intro _;rfl
    | succ n ih=>intro hn;simp only[OZ,hf n (by omega),Bool.false_eq_true,if_false];exact ih (by omega)
   simp only[OU,h1,h2 k (Nat.le_refl _)]
  rw[e];exact hR.drew
theorem qN(X:Env)(ops:Array Oper)(K:St->Prop)(st:St):wpS X ops K [] st=True:=nd rfl
theorem mF(X:Env)(ops:Array Oper)(K:St->Prop)(G EE:List Nat)(t:OT)(ss:List (List Nat × List Nat × OT))(st:St):wpS X ops K ((G,EE,t)::ss) st=(aV X ops K t ⟨restr st EE,st.Ah⟩/\wpS X ops K ss st):=nd rfl
attribute [go_sem] qN mF
end Go.Abs
