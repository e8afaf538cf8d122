/- part 17 of the proof -/
import Derived.Test.YteliegkcmjimoaaGreatDoorW16
set_option linter.all false
open Go Go.Abs Go.Proofs
set_option maxRecDepth 100000
namespace Go.Rd
set_option maxHeartbeats 8000000
open List (length_take pairwise_cons take_add_one)
open Bool (and_eq_true)
open Option (getD_some isSome_some)
open Tryz
def LW:∀ x:Bs,Op.bytesLess x x=false
 |[]=>rfl
 | a::x=>by
  simp only[Op.bytesLess,LW x,Bool.and_false,Bool.or_false];simp
def NK:∀ x y z:Bs,Op.bytesLess x y=true->Op.bytesLess y z=true->Op.bytesLess x z=true
 |_,_,[],_,h=>by cases ‹Bs›<;>simp[Op.bytesLess]at h
 |[],_,_::_,_,_=>rfl
 | a::x,[],c::z,h,_=>by simp[Op.bytesLess]at h
 | a::x,b::y,c::z,h1,h2=>by
  simp only[Op.bytesLess,Bool.or_eq_true,and_eq_true,decide_eq_true_eq,beq_iff_eq]at h1 h2 ⊢;rcases h1 with h1|⟨rfl,h1⟩
  ·rcases h2 with h2|⟨rfl,h2⟩
   ·exact .inl (UInt8.lt_trans h1 h2)
   ·exact .inl h1
  ·rcases h2 with h2|⟨rfl,h2⟩
   ·exact .inl h2
   ·exact .inr ⟨rfl,NK x y z h1 h2⟩
def Nx{α:Type}{r:α->α->Prop}(ht:∀ a b c,r a b->r b c->r a c):∀ (l:List α),(∀ i a b,l[i]?=some a->l[i+1]?=some b->r a b)->l.Pairwise r
 |[],_=>.nil
 | a::l,h=>by
  have ih:=Nx ht l λi x y hx hy=>h (i+1) x y (by simpa using hx) (by simpa using hy)
  refine pairwise_cons.2 ⟨?_,ih⟩;cases l with
  | nil=>simp
  | cons b l =>
   have LP:=h 0 a b rfl rfl;intro c hc;rcases List.mem_cons.1 hc with rfl|hc
   ·exact LP
   ·exact ht a b c LP ((pairwise_cons.1 ih).1 c hc)
def Sk{α:Type}{r:α->α->Prop}{l:List α}(h:l.Pairwise r){i:Nat}{a b:α}(ha:l[i]?=some a)(hb:l[i+1]?=some b):r a b:=by
 have h1:=Au ha;have h2:=Au hb;have:=List.pairwise_iff_getElem.1 h i (i+1) h1 h2 (by omega)
 rwa [get_eq ha,get_eq hb]at this
def G1(l:List Queue):C5 l=true↔l.length<=8/\(∀ q∈l,valid q=true)/\l.Pairwise λa b=>BD a.res.name b.res.name=true:=by
 unfold C5;rw[and_eq_true,decide_eq_true_eq,CY];refine and_congr Iff.rfl ⟨λh=>⟨λq hq=>?_,Nx (r:=λa b:Queue=>BD a.res.name b.res.name=true) (λa b c=>NK _ _ _) l λi a b ha hb=>?_⟩,fun⟨h1,h2⟩ i b hb=>?_⟩
 ·obtain⟨i,hi⟩:=List.mem_iff_getElem?.1 hq;have:=h i q hi;simp only[CQ,and_eq_true]at this;exact this.1
 ·have:=h (i+1) b hb;simp only[CQ,and_eq_true]at this;have h2:=this.2;simpa [List.getD,ha]using h2
 ·simp only[CQ,and_eq_true];refine⟨h1 b (mG hb),?_⟩;cases i with
  | zero=>simp
  | succ i =>
   obtain⟨a,ha⟩:∃ a,l[i]?=some a:=⟨_,gE (by have:=Au hb;omega)⟩;have:=Sk h2 ha hb;simpa [List.getD,ha]using this
def HR(l:List Need):GZ l=true↔l.length<=8/\(∀ n∈l,n.proc.ok=true/\0<=n.gen/\n.gen<=1073741824/\BM n.expr=true)/\l.Pairwise λa b=>BF a.proc b.proc<0:=by
 unfold GZ;rw[and_eq_true,decide_eq_true_eq,CY];refine and_congr Iff.rfl ⟨λh=>⟨λq hq=>?_,Nx (r:=λa b:Need=>BF a.proc b.proc<0) (λa b c=>DQ) l λi a b ha hb=>?_⟩,fun⟨h1,h2⟩ i b hb=>?_⟩
 ·obtain⟨i,hi⟩:=List.mem_iff_getElem?.1 hq;have:=h i q hi;simp only[CM,and_eq_true,decide_eq_true_eq]at this;exact⟨this.1.1.1.1,this.1.1.1.2,this.1.1.2,this.1.2⟩
 ·have:=h (i+1) b hb;simp only[CM,and_eq_true]at this;have h2:=this.2;simpa [List.getD,ha]using h2
 ·have h3:=h1 b (mG hb);simp only[CM,and_eq_true,decide_eq_true_eq];refine⟨⟨⟨⟨h3.1,h3.2.1⟩,h3.2.2.1⟩,h3.2.2.2⟩,?_⟩;cases i with
  | zero=>simp
  | succ i =>
   obtain⟨a,ha⟩:∃ a,l[i]?=some a:=⟨_,gE (by have:=Au hb;omega)⟩;have:=Sk h2 ha hb;simpa [List.getD,ha]using this
def GQ(s:WS):AI s=true↔C5 s.Aa=true/\GZ s.Aw=true/\(Ag s).length<=8:=by simp only[AI,and_eq_true,decide_eq_true_eq,and_assoc]
def NH{s:WS}(h:AI s=true)(p:Ac):AI (BW s p)=true:=by
 have hg:=Be h;obtain⟨h1,h2,h3⟩:=(GQ s).1 h;obtain⟨a1,a2,a3⟩:=(G1 _).1 h1;obtain⟨b1,b2,b3⟩:=(HR _).1 h2;refine(GQ _).2 ⟨(G1 _).2 ⟨?_,?_,?_⟩,(HR _).2 ⟨?_,?_,?_⟩,?_⟩
 ·simpa [BW]using a1
 ·exact Cv hg p
 ·simp only[BW,List.pairwise_map,ZF];exact a3
 ·exact Nat.le_trans (List.length_filter_le _ _) b1
 ·exact λn hn=>b2 n (List.mem_filter.1 hn).1
 ·exact b3.filter _
 ·rw[PS hg];exact Nat.le_trans (List.length_filter_le _ _) h3
def jJ{s:WS}(h:AI s=true)(l:List Ac):AI (Fw s l)=true:=bS (P:=λx=>AI x=true) (λ_ p h=>NH h p) l h
def ZY(p:Ac)(name:Bs):∀ (l:List Queue),(l.Pairwise λa b=>a.res.name≠b.res.name)->∀ w:Bool,l.foldl (λw q=>if q.res.name==name then (Ar q p).isSome else w) w=match l.find? (λq=>q.res.name==name) with
  |some q=>(Ar q p).isSome
  |none=>w
 |[],_,w=>rfl
 | q::l,h,w=>by
  rw[pairwise_cons]at h;rw[List.foldl_cons,ZY p name l h.2,List.find?_cons];cases hq:(q.res.name==name)
  ·simp
  ·have hn:l.find? (λq=>q.res.name==name)=none:=by
    rw[List.find?_eq_none];intro x hx;have:=h.1 x hx;simp at hq ⊢;rw[<- hq];exact λh=>this h.symm
   rw[hn];simp
def jM(l:List Queue)(h:l.Pairwise λa b=>a.res.name≠b.res.name)(p:Ac)(name:Bs):DX l p name=JW l p name:=ZY p name l h false
def fR{s:WS}(h:AI s=true)(p:Ac)(name:Bs):DX s.Aa p name=JW s.Aa p name:=by
 obtain⟨h1,-,-⟩:=(GQ s).1 h;obtain⟨-,-,a3⟩:=(G1 _).1 h1;refine jM _ (a3.imp λ{a b} LP he=>?_) p name;unfold BD at LP;rw[he,LW]at LP;simp at LP
def yc{α:Type}(a:List α)(z v:α)(k:Nat):(a++List.replicate (k+1) z).set a.length v=(a++[v])++List.replicate k z:=by
 rw[List.set_append_right _ _ (Nat.le_refl _)];simp[List.replicate_succ]
def kv(s:WS)(p:Ac)(h:Iy s)(hv:AI s=true)(n:Need)(hf:(s.Aw.find? λn=>decide (n.proc=p))=some n):Ad C0 158 [.agg s.c,.agg p.c] [] (KA (ET s n)) []:=by
 have hl:=Dt n.expr;have hp:n.proc=p:=by have:=List.find?_some hf;simpa using this
 have hg:ET s n=(Ah n.expr).map λa=>!JW s.Aa p a.name:=by
  unfold ET;rw[hp];exact List.map_congr_left λa _=>by rw[fR hv]
 rw[hg];refine Ad.go f158 ?_;unfold f158;refine gO ?_;refine Ab (ku s p h) ?_;simp(disch:=omega)only[go_sem,hf,isSome_some,getD_some];refine Ab (SO s h) ?_;simp(disch:=omega)only[go_sem,hv];refine Ai (M7 n.expr) (by simp(disch:=omega)only[go_sem,Expr.Dg]) rfl ?_;refine gO ?_;generalize Ah n.expr=A at hl;refine AF (A) (λi=>⟨[(9,I i),(7,BG A),(2,.ptr 128 0),(3,.ptr 192 0),(8,.sl (.own 1792 0) 1 (((A.take i).map λa=>[B (!JW s.Aa p a.name)])++List.replicate (A.length-i) [B false]))],[(128,s.c),(192,p.c)]⟩) (λi=>True) trivial ?_ ?_
 ·exact Ce
 rintro i ⟨hi,hP⟩ J hJ;refine gO ?_;refine Bo hi (λAP b hb Cg AX=>?_) λBa=>?_
 refine Ay 11 [([],[8]),([],[9]),([],[2]),([],[3]),([],[7]),([],[9]),([],[39,40]),([],[41]),([],[42]),([],[37,38,43]),([9],[44])] B6 ?_;simp(disch:=omega)only[go_sem,gm,hb]
 ·have hlen:min i A.length+(A.length-i)=A.length:=by omega
  first|(refine Ab (kL s p b.name h) ?_)|(refine Ax (kL s p b.name h) ?_)
  have S5:(((A.take i).map λa=>[B (!JW s.Aa p a.name)])++List.replicate (A.length-i) [B false])[i]?=some [B false]:=by
   rw[List.getElem?_append_right (by simp;omega),List.getElem?_replicate];simp;omega
  simp(disch:=omega)only[go_sem,S5,List.length_append,List.length_replicate,List.length_map,length_take,hlen];refine hJ _ (i+1) ⟨by omega,trivial⟩ (by omega) (AT.Aq ?_ ?_);rotate_left
  ·exact gI
  refine gO ?_;refine .sl ?_;have e1:A.length-i=(A.length-(i+1))+1:=by omega
  have e2:=yc ((A.take i).map λa=>[B (!JW s.Aa p a.name)]) [B false] [B (!JW s.Aa p b.name)] (A.length-(i+1));simp only[List.length_map,length_take,Nat.min_eq_left hi]at e2;rw[e1,e2,take_add_one,hb];simp
 ·subst Ba;refine CU ⟨[],[],[1792]⟩ _ ?_;simp(disch:=omega)only[go_sem,List.take_length,Nat.sub_self,List.replicate_zero,List.append_nil];exact .sl (by simp)
def j6(s:WS)(p:Ac)(h:Iy s)(hv:AI s=true):Ad C0 108 [.agg s.c,.agg p.c] [] (B (Dz s p)) []:=by
 refine Ad.go f108 ?_;unfold f108;refine gO ?_;refine Ab (ku s p h) ?_;cases hf:s.Aw.find? λn=>decide (n.proc=p) with
 |none =>
  have e:Dz s p=true:=by unfold Dz;rw[hf]
  simp(disch:=omega)only[go_sem,Option.isSome_none,e];refine Ay 8 [([],[6]),([],[13]),([],[14]),([],[5,15]),([],[16,15]),([],[2,15]),([],[3,15]),([],[18,19,15])] B6 ?_;refine gO ?_;exact AQ _
 |some n =>
  have hm:=List.mem_of_find?_eq_some hf;have he:BM n.expr=true:=Kf hv n hm;have e:Dz s p=Gc n.expr (ET s n):=by unfold Dz;rw[hf]
  simp(disch:=omega)only[go_sem,isSome_some,e,getD_some];refine Ay 8 [([],[6]),([],[13]),([],[14]),([],[5,15]),([],[16,15]),([],[2,15]),([],[3,15]),([],[18,19,15])] B6 ?_;refine gO ?_
  first|(refine Ab (kv s p h hv n hf) ?_)|(refine Ax (kv s p h hv n hf) ?_)
  refine gO ?_
  first
   |(refine Ai (Py n.expr (ET s n) he) (by simp(disch:=omega)only[go_sem,Expr.Dg]) rfl ?_)
   |(refine AO ⟨⟨[],[],[]⟩,[],[]⟩ (Py n.expr (ET s n) he) (by simp(disch:=omega)only[go_sem,Expr.Dg]) rfl rfl trivial (.inl rfl) ?_)
  refine gO ?_;exact AQ _
def ie(s:WS)(h:Iy s):Ad C0 62 [.agg s.c] [] (AL (LQ s)) []:=by
 have hl:=De h;refine Ad.go f62 ?_;unfold f62;refine gO ?_;refine Ab (SO s h) ?_;cases hv:AI s
 ·have e:LQ s=[]:=by simp[LQ,hv]
  simp(disch:=omega)only[go_sem,e];exact AQ _
 have e:LQ s=BJ s:=by simp[LQ,hv]
 rw[e];refine gO ?_;refine Ab (Ow s h) ?_;refine gO ?_;refine AF ((Ag s)) (λi=>⟨[(5,I i),(4,AL (Ag s)),(1,.ptr 64 0),(3,.sl (.own 1856 0) 3 ((((Ag s).take i).filter λp=>Dz s p).map Ac.c))],[(64,s.c)]⟩) (λi=>True) trivial ?_ ?_
 ·exact Ce
 rintro i ⟨hi,hP⟩ J hJ;refine gO ?_;refine Bo hi (λAP b hb Cg AX=>?_) λBa=>?_
 refine Ay 5 [([],[1]),([],[4]),([],[5]),([],[18,19]),([],[20])] B6 ?_;simp(disch:=omega)only[go_sem,gm,hb]
 ·have ID:(((Ag s).take i).filter λp=>Dz s p).length+1<=4294967296:=by
   have:(((Ag s).take i).filter λp=>Dz s p).length<=((Ag s).take i).length:=List.length_filter_le _ _;rw[length_take]at this;omega
  first|(refine Ab (j6 s b h hv) ?_)|(refine Ax (j6 s b h hv) ?_)
  cases hh:Dz s b
  ·simp(disch:=omega)only[go_sem];refine hJ _ (i+1) ⟨by omega,trivial⟩ (by omega) (AT.Aq ?_ ?_)
   all_goals(try simp(disch:=omega)only[go_sem])
   all_goals(try(repeat'(with_reducible apply And.intro)))
   all_goals(first|exact .Cr (by omega)|exact .A8 (by omega)|exact .sl (by simp[take_add_one,hb,hh,Ac.c])|exact .int (by simp[take_add_one,hb,hh,Ac.c])|exact .eq (by simp[take_add_one,hb,hh,Ac.c]))
  ·simp(disch:=omega)only[go_sem,gm,hb];refine hJ _ (i+1) ⟨by omega,trivial⟩ (by omega) (AT.Aq ?_ ?_)
   all_goals(try simp(disch:=omega)only[go_sem])
   all_goals(try(repeat'(with_reducible apply And.intro)))
   all_goals(first|exact .Cr (by omega)|exact .A8 (by omega)|exact .sl (by simp[take_add_one,hb,hh,Ac.c])|exact .int (by simp[take_add_one,hb,hh,Ac.c])|exact .eq (by simp[take_add_one,hb,hh,Ac.c]))
 ·subst Ba;simp(disch:=omega)only[go_sem,List.take_length];refine CU ⟨[],[],[1856]⟩ _ ?_;simp(disch:=omega)only[go_sem,BJ]
end Go.Rd
namespace Go.Abs
def gx(x y:AV):Prop:=x=y\/(x=.v (.slice none 0 0)/\∃ n,y=.sl .no (n+1) [])
def MU:List AV->List AV->Prop
 |[],[]=>True
 | x::xs,y::ys=>gx x y/\MU xs ys
 |_,_=>False
def II:List (List AV)->List (List AV)->Prop
 |[],[]=>True
 | x::xs,y::ys=>MU x y/\II xs ys
 |_,_=>False
def MU.len:∀ {xs ys:List AV},MU xs ys->xs.length=ys.length
 |[],[],_=>rfl
 |_::_,_::_,h=>by simp[MU.len h.2]
 |[],_::_,h=>h.elim
 |_::_,[],h=>h.elim
def II.len:∀ {xs ys:List (List AV)},II xs ys->xs.length=ys.length
 |[],[],_=>rfl
 |_::_,_::_,h=>by simp[II.len h.2]
 |[],_::_,h=>h.elim
 |_::_,[],h=>h.elim
def MU.refl:∀ xs:List AV,MU xs xs
 |[]=>trivial
 |_::xs=>⟨.inl rfl,MU.refl xs⟩
def II.refl:∀ xs:List (List AV),II xs xs
 |[]=>trivial
 | x::xs=>⟨MU.refl x,II.refl xs⟩
def II.set{L L':List AV}(h:MU L L'):∀ (xs:List (List AV)) (i:Nat),II (xs.set i L) (xs.set i L')
 |[],_=>trivial
 |_::xs,0=>⟨h,II.refl xs⟩
 | x::xs,i+1=>⟨MU.refl x,II.set h xs i⟩
theorem II.append{a b:List (List AV)}(c:List (List AV))(h:II a b):II (c++a) (c++b):=by
 induction c with
 | nil=>exact h
 | cons x c ih=>exact⟨MU.refl x,ih⟩
section
variable {ro:Nat->Prop} {w:World}
theorem gx.PR{x y:AV}{u:Value}(h:gx x y)(hu:PR ro w x u):PR ro w y u:=by
 rcases h with rfl|⟨rfl,n,rfl⟩
 ·omega
 ·simp only[Abs.PR]at hu ⊢;grind
theorem MU.EG:∀ {xs ys:List AV} {ad:Addr} {j:Nat},MU xs ys->EG ro w xs ad j->EG ro w ys ad j
 |[],[],_,_,_,_=>trivial
 |_::_,_::_,_,_,h,⟨⟨u,h1,h2⟩,h3⟩=>⟨⟨u,h1,h.1.PR h2⟩,MU.EG h.2 h3⟩
 |[],_::_,_,_,h,_=>h.elim
 |_::_,[],_,_,h,_=>h.elim
theorem II.Ea:∀ {xs ys:List (List AV)} {ad:Addr} {n i:Nat},II xs ys->Ea ro w xs ad n i->Ea ro w ys ad n i
 |[],[],_,_,_,_,_=>trivial
 |_::_,_::_,_,_,_,h,⟨h1,h2,h3⟩=>⟨h.1.len▸h1,h.1.EG h2,II.Ea h.2 h3⟩
 |[],_::_,_,_,_,h,_=>h.elim
 |_::_,[],_,_,_,h,_=>h.elim
end
def II.nil{a b:List (List AV)}(h:II a b)(ha:a=[]):b=[]:=by
 subst ha;cases b with
 | nil=>rfl
 | cons=>exact h.elim
def Ci.xL{t:Tag}{n:Nat}{a b:List (List AV)}(h:II a b):Ci (.sl t n a) (.sl t n b):=λg w u hu=>by
 have hl:=h.len
 match t with
 |.own r lo =>
  simp only[VR,Dr]at hu ⊢;refine⟨hu.1,?_⟩;rcases hu.2 with ⟨h1,h2⟩|⟨h0,h2,h3⟩|⟨cap,cur,T,h1,h2,h3,h5,h6,h7,h8⟩
  ·grind
  ·grind
  ·exact .inr (.inr ⟨cap,cur,T,hl▸h1,hl▸h2,h3,h5,h6,h7,h.Ea h8⟩)
 |.no =>
  simp only[VR,PR]at hu ⊢;obtain⟨h0,c,cap,h1,h2,h3,h4,h5,h6⟩:=hu;exact⟨h0,c,cap,hl▸h1,hl▸h2,h3,hl▸h4,h5,h6.imp (λe=>h.nil e) fun⟨ad,k1,k2,k3⟩=>⟨ad,k1,k2,h.Ea k3⟩⟩
 |.full =>
  simp only[VR,PR]at hu ⊢;obtain⟨h0,c,cap,h1,h2,h3,h4,h5,h6⟩:=hu;exact⟨h0,c,cap,hl▸h1,hl▸h2,h3,hl▸h4,h5,h6.imp (λe=>h.nil e) fun⟨ad,k1,k2,k3⟩=>⟨ad,k1,k2,h.Ea k3⟩⟩
end Go.Abs
namespace Go.Abs
def neut(X:Env)(ops:Array Oper)(st:St):List Nat->Prop
 |[]=>True
 | f::F=>Bw X ops (N3 ops f) (λst'=>IB st' st.tmps/\HI st' st.Aj) st/\neut X ops st F
def jB(X:Env)(ops:Array Oper)(F:List Nat)(K:St->Prop):List Oper->St->Prop
 |[],st=>neut X ops st F/\K st
 | o::os,st=>neut X ops st F/\Bw X ops [o] (jB X ops F K os) st
def Fb(ops:Array Oper)(k:Nat):Array Oper:=(ops.toList.take k).toArray
def jt(ops:Array Oper)(k:Nat)(tab:List (List Nat × List Nat))(F:List Nat):Bool :=
 decide (k<=ops.size)&&(List.range ops.size).all (λi=>(BL ops i).all (λe=>decide (e<i)) &&
  (Ey tab i).all (λp=>(BL ops i).any λe=>p==e||(Ey tab e).contains p) &&
  (decide (i<k)||(List.range i).all λj=>F.contains j||(Ey tab i).contains j)) &&
 ((List.range k).all λi=>(List.range i).all λj=>(Ey tab i).contains j||!(clash ops tab i j))&&F.all (λf=>decide (f<k))&&ops.toList.all λo=>o.guard.isNone
section
variable {X:Env} {A:A0} {N:Nat} {g:Gh} {st0:St} {a:Act} {w:World} {ops:Array Oper} {k:Nat} {tab:List (List Nat × List Nat)} {res:Nat->BE} {D:Nat->Bool} {F:List Nat}
theorem U7{i:Nat}(h:i<k):(Fb ops k)[i]?=ops[i]?:=by simp[Fb,h]
def Pm{i:Nat}(h:i<k):BL (Fb ops k) i=BL ops i:=by grind[BL,U7]
theorem ay{i:Nat}(h:i<k):FC (Fb ops k) i=FC ops i:=by grind[FC,U7]
structure XW(ops:Array Oper)(k:Nat)(tab:List (List Nat × List Nat))(F:List Nat):Prop where
 le:k<=ops.size
 UJ:∀ i,i<ops.size->∀ e∈BL ops i,e<i
 pred:∀ i,i<ops.size->∀ p∈Ey tab i,∃ e∈BL ops i,p=e\/p∈Ey tab e
 tail:∀ i,i<ops.size->k<=i->∀ j,j<i->j∈F\/j∈Ey tab i
 apart:∀ i j,i<k->j<i->j∈Ey tab i\/clash ops tab i j=false
 small:∀ f∈F,f<k
 guard:∀ o∈ops,o.guard=none
def jt.spec(h:jt ops k tab F=true):XW ops k tab F:=by
 simp only[jt,Bool.and_eq_true,decide_eq_true_eq,List.all_eq_true,List.mem_range,Bool.or_eq_true,List.any_eq_true,List.contains_iff_mem,beq_iff_eq,Bool.not_eq_true',Option.isNone_iff_eq_none]at h;obtain⟨⟨⟨⟨h1,h2⟩,h3⟩,h4⟩,h5⟩:=h;exact⟨h1,λi hi=>(h2 i hi).1.1,λi hi=>(h2 i hi).1.2,λi hi hk j hj=>((h2 i hi).2.resolve_left (by omega)) j hj,λi j hi hj=>h3 i hi j hj,h4,λo ho=>h5 o (by grind)⟩
theorem XW.cut(h:XW ops k tab F):LR (Fb ops k) k tab:=by
 have hs:(Fb ops k).size=k:=by have:=h.le;grind[Fb]
 have hk:=h.le;refine⟨by omega,λi hi=>?_,λi hi=>?_,λi hi pG=>by omega,λi j hi hj=>?_⟩
 ·rw[Pm (by omega)];exact h.UJ i (by omega)
 ·rw[Pm (by omega)];exact h.pred i (by omega)
 ·have:=h.apart i j hi hj;grind[clash,ay]
def XW.closed(h:XW ops k tab F)(hc:Closed ops D):∀ i,i<ops.size->(∀ e∈BL ops i,D e=true)->∀ p∈Ey tab i,D p=true:=by
 intro i
 induction i using Nat.strongRecOn with
 |_ i ih =>
  intro hi hd p hp;obtain⟨e,he,h'|h'⟩:=h.pred i hi p hp
  ·grind
  ·have AP:=h.UJ i hi e he;exact ih e AP (by omega) (hc e (by omega) (hd e he)) p h'
def fY(h:XW ops k tab F){Q:Exit->Act->World->Prop}{i:Nat}(hi:i<k){K:Act->World->Prop}(hw:wpOp X.C.P (Fb ops k) Q i K a w):wpOp X.C.P ops Q i K a w:=by
 unfold wpOp at hw ⊢;rw[U7 hi]at hw;cases ho:ops[i]? with
 |none=>grind
 |some o =>
  rw[ho]at hw;have hg:=h.guard o (Array.mem_of_getElem? ho);simp_all[Region.wanted]
def O6(h:XW ops k tab F){Af:Array Bool}(hs:Af.size=ops.size):∀ n j,j<ops.size->ES Af j=false->j<=n->∃ i,i<=j/\i∈Region.ready .any ops Af:=by
 intro n
 induction n with
 | zero =>
  intro j hj hd hjn;have:j=0:=by omega
  subst this;exact⟨0,by omega,(Cj hs).2 ⟨by omega,hd,λe he=>by have:=h.UJ 0 (by omega) e he;omega⟩⟩
 | succ n ihn =>
  intro j hj hd hjn
  by_cases hed:∀ e∈BL ops j,ES Af e=true
  ·exact⟨j,by omega,(Cj hs).2 ⟨by omega,hd,hed⟩⟩
  ·have:∃ e,e∈BL ops j/\ES Af e=false:=by
    grind
   obtain⟨e,he,hde⟩:=this;have:=h.UJ j (by omega) e he;grind
def eM{st:St}{f:Nat}:∀ {F:List Nat},neut X ops st F->f∈F->Bw X ops (N3 ops f) (λst'=>IB st' st.tmps/\HI st' st.Aj) st
 |_::_,h,hm=>by
  rcases List.mem_cons.1 hm with rfl|hm
  ·exact h.1
  ·exact eM h.2 hm
def jC(hA:A.ext=X.ext)(hX:∀ s∈X.ext,s%32=31)(hN:∀ o∈ops,KS N o=true)(hr:XW ops k tab F){Q:Exit->Act->World->Prop}{K:St->Prop}(hQ:∀ g st a w,R X.C A N g st a w->K st->Q .normal a w) :
 ∀ (fuel i:Nat) (Af:Array Bool) (g:Gh) (st:St) (a:Act) (w:World),Af.size=ops.size->XU Af<=fuel->Closed ops (ES Af)->k<=i->i<=ops.size->(∀ j,j<ops.size->j∉F->ES Af j=decide (j<i)) ->
 jB X ops F K (ops.toList.drop i) st->R X.C A N g st a w->wpAny X.C.P .any ops Q fuel Af a w:=by
 intro fuel
 induction fuel with
 | zero =>
  intro i Af g st a w hs hu hc hk hi hd h hR;have Hf:i=ops.size:=by
   rcases Nat.lt_or_ge i ops.size with AP|JX
   ·have:=Iv (by omega) (by omega:i<Af.size);rw[hd i AP (λhf=>by have:=hr.small i hf;omega)]at this;grind
   ·omega
  subst Hf;rw[List.drop_eq_nil_of_le (by simp)]at h;refine⟨?_,hQ g st a w hR h.2⟩;cases hrd:Region.ready .any ops Af with
  | nil=>rfl
  | cons j l =>
   have hj:j∈Region.ready .any ops Af:=by grind
   grind[Cj,Iv]
 | succ fuel ih =>
  intro i Af g st a w hs hu hc hk hi hd h hR;have CZ:neut X ops st F:=by
   cases bf:ops.toList.drop i with
   | nil=>rw[bf]at h;exact h.1
   | cons o l=>rw[bf]at h;exact h.1
  constructor
  ·intro h0;have Ka:∀ j,j<ops.size->ES Af j=true:=λj hj=>by
    cases hdj:ES Af j with
    | true=>rfl
    | false =>
     obtain⟨i',_,h2⟩:=O6 hr hs j j hj hdj (Nat.le_refl _);grind
   have Hf:i=ops.size:=by
    rcases Nat.lt_or_ge i ops.size with AP|JX
    ·have h1:=Ka i AP;rw[hd i AP (λhf=>by have:=hr.small i hf;omega)]at h1;grind
    ·omega
   subst Hf;rw[List.drop_eq_nil_of_le (by simp)]at h;exact hQ g st a w hR h.2
  ·intro j hj;obtain⟨h1,h2,h3⟩:=(Cj hs).1 hj;have ho:ops[j]?=some ops[j]:=Array.getElem?_eq_getElem h1;have Al6:=Jh (by omega:j<Af.size) h2;have X6:Closed ops (ES (Af.setIfInBounds j true)):=by grind[Ff,M1]
   by_cases rI:j∈F
   ·have bp:=eM CZ rI;simp[N3,ho,Bw]at bp;refine OZ hA hX ho (λg' st' a' w' WC um=>?_) (hN _ (Array.getElem_mem h1)) bp hR;refine ih i _ g' st a' w' (by grind) (by omega) X6 hk hi (λq hq hqF=>?_) h (WC.Aq um.1 um.2);rw[Ff (by omega)];have:q≠j:=λe=>hqF (e▸rI)
    simp_all[Jk]
   ·have gh:j=i:=by
     rw[hd j h1 rI]at h2;have JX:i<=j:=by grind
     rcases Nat.lt_or_ge i j with AP|hle
     ·have hiF:i∉F:=λhf=>by have:=hr.small i hf;omega
      have:=(hr.tail j h1 (by omega) i AP).resolve_left hiF;have:=hr.closed hc j h1 h3 i this;grind
     ·omega
    subst gh;rw[List.drop_eq_getElem_cons (by omega)]at h;have bp:=h.2;have e:ops.toList[j]'(by omega)=ops[j]:=by simp
    rw[e]at bp;simp[Bw]at bp;refine OZ hA hX ho (λg' st' a' w' WC um=>?_) (hN _ (Array.getElem_mem h1)) bp hR;refine ih (j+1) _ g' st' a' w' (by grind) (by omega) X6 (by omega) (by omega) (λq hq hqF=>?_) um WC;rw[Ff (by omega)];grind[Jk]
def YV{all all':Array Oper}{Aj:List (Nat × List AV)}{K:St->Prop}:∀ (os:List Oper) (tb:List (List Nat × List Nat)) (i:Nat) (cr:List (Nat × List Nat × List Nat)) (st:St),(∀ o∈os,o.guard=none)->GH X all Aj os tb i cr K st->GH X all' Aj os tb i cr K st
 |[],_,_,_,_,_,h=>h
 |_::_,[],_,_,_,_,h=>h
 | o::os,(p,ts)::tb,i,cr,st,hg,h=>by
  simp only[GH,hg o (by simp)]at h ⊢;exact h.mono λe he=>⟨he.1,YV os tb (i+1) _ _ (λo' y7=>hg o' (by simp[y7])) he.2⟩
def nz(hA:A.ext=X.ext)(hX:∀ s∈X.ext,s%32=31)(hN:∀ o∈ops,KS N o=true)(hr:XW ops k tab F)(hv:Valid X (Fb ops k) tab st0 res k)(N0:∀ j,j<k->(FC (Fb ops k) j).isSome=true){Q:Exit->Act->World->Prop}{K:St->Prop}(hQ:∀ g st a w,R X.C A N g st a w->K st->Q .normal a w)
 {FD:List Nat} (yV:∀ t∈FD,t∉F.filterMap (FC ops)) (dH:jB X ops F K (ops.toList.drop k) ⟨restr (canon (Fb ops k) res st0 k) FD,st0.Aj⟩):∀ (fuel:Nat) (Af:Array Bool) (g:Gh) (a:Act) (w:World),Af.size=ops.size->XU Af<=fuel->Closed ops (ES Af)->(∀ j,j<ops.size->ES Af j=true->j<k) ->
 R X.C A N g (Q1 (Fb ops k) res st0 (ES Af) k) a w->wpAny X.C.P .any ops Q fuel Af a w:=by
 have hk:=hr.le;have hN':∀ o∈Fb ops k,∀ d,o.dst=some d->d<N:=λo ho d hd=>by
  have:=hN o (by grind[Fb]);grind[KS]
 have low:∀ (fuel:Nat) (Af:Array Bool) (g:Gh) (a:Act) (w:World),Af.size=ops.size->XU Af<=fuel->Closed ops (ES Af)->(∀ j,j<ops.size->ES Af j=true->j<k)->(∀ j,j<k->j∉F->ES Af j=true)->R X.C A N g (Q1 (Fb ops k) res st0 (ES Af) k) a w->wpAny X.C.P .any ops Q fuel Af a w:=by
  intro fuel Af g a w hs hu hc AP Ka hR;refine jC hA hX hN hr hQ fuel k Af g _ a w hs hu hc (Nat.le_refl _) hk (λj hj rI=>?_) dH (hR.le' (λt x hx=>?_) λs cs hs=>Tp hv hs k (Nat.le_refl _))
  ·grind
  ·obtain⟨h1,h2⟩:=OQ hx;grind[Q1,canon,W0,ay]
 intro fuel
 induction fuel with
 | zero =>
  grind[Iv]
 | succ fuel ih =>
  intro Af g a w hs hu hc AP hR
  by_cases Ka:∀ j,j<k->j∉F->ES Af j=true
  ·grind
  ·have ba:Closed (Fb ops k) (ES Af):=λi hi hD e he=>by
    have gn:(Fb ops k).size=k:=by grind[Fb]
    have iG:i<k:=by omega
    rw[Pm iG]at he;exact hc i (by omega) hD e he
   have step:∀ i∈Region.ready .any ops Af,wpOp X.C.P ops Q i (wpAny X.C.P .any ops Q fuel (Af.setIfInBounds i true)) a w:=λi hi=>by
    obtain⟨h1,h2,h3⟩:=(Cj hs).1 hi;have hp:=hr.closed hc i h1 h3;have iG:i<k:=by
     rcases Nat.lt_or_ge i k with h|h
     ·exact h
     ·exact(Ka λj hj rI=>hp j ((hr.tail i h1 h j (by omega)).resolve_left rI)).elim
    refine fY hr iG (SU hA hX hN' hr.cut hv N0 ba iG h2 hp hR λg' a' w' WC=>?_);rw[<- Ff (by omega)]at WC;refine ih _ g' a' w' (by grind) (by grind[Jh]) (by grind[Ff,M1]) (λj hj hD=>?_) WC;rw[Ff (by omega)]at hD;grind[Jk]
   refine⟨λh0=>?_,step⟩;have hex:∃ j,j<k/\ES Af j=false:=by grind
   obtain⟨j,hj,hd⟩:=hex;obtain⟨i,_,hi⟩:=O6 hr hs j j (by omega) hd (Nat.le_refl _);grind
end
def Wd{X:Env}{ops:List Oper}{K:St->Prop}{st:St}(k:Nat)(tab:List (List Nat × List Nat))(F FD:List Nat)(hm:X.C.P.follows .mixedOrders=true)(CC:(jt ops.toArray k tab F&&FD.all λt=>!(F.filterMap (FC ops.toArray)).contains t)=true)
 (h:BB X ops.toArray st.Aj (ops.take k) tab 0 (λstf=>jB X ops.toArray F K (ops.drop k) ⟨restr stf FD,st.Aj⟩) [] st):Lj X ops.toArray K st:=by
 intro A N g a w hA hN hX hR id Q hQ;rw[Bool.and_eq_true]at CC;have hr:=jt.spec CC.1;have yV:∀ t∈FD,t∉F.filterMap (FC ops.toArray):=λt ht=>by grind
 have hk:=hr.le;have Hb:ops.toArray.size=ops.length:=by simp
 have hlen:(ops.take k).length=k:=by grind
 have hN2:∀ o∈ops.toArray,KS N o=true:=λo ho=>by grind[KS]
 have hf:=YV (all':=Fb ops.toArray k) _ _ _ _ _ (λo ho=>hr.guard o (by grind)) (HM _ _ _ _ _ h);obtain⟨res,hv,hK⟩:=OF (X:=X) (st0:=st) (ops:=Fb ops.toArray k) (tab:=tab) (ops.take k) tab 0 [] (λ_=>⟨.undef,[],[],[]⟩) (λj o hj=>by grind[Fb]) (λj q hj=>by grind) ⟨λi hi=>by omega,λi hi=>by omega,λi hi=>by omega,λi hi=>by omega,λi j _ hj=>by omega⟩ (λi hi=>by omega) hf;rw[hlen,Nat.zero_add]at hv hK;have N0:∀ j,j<k->(FC (Fb ops.toArray k) j).isSome=true:=λj hj=>by
  obtain⟨o,ho,hd,_⟩:=hv.op j hj;grind[FC]
 refine wp_region_any hm (nz hA hX hN2 hr hv N0 hQ yV (by omega) ops.toArray.size (Array.replicate ops.toArray.size false) g a _ (by simp) (by simp[XU]) ?_ ?_ ?_)
 ·intro i hi hD;simp_all[ES]
 ·simp_all[ES]
 ·have e:Q1 (Fb ops.toArray k) res st (ES (Array.replicate ops.toArray.size false)) k=st:=by
   have hf:∀ j,j<k->ES (Array.replicate ops.toArray.size false) j=false:=λj hj=>by simp_all[ES,Array.getD]
   have h1:P2 (FC (Fb ops.toArray k)) res (ES (Array.replicate ops.toArray.size false)) st.tmps k=st.tmps:=by rw[Sm (i:=0) k (by omega) λj _ hj=>hf j hj];rfl
   have h2:∀ n,n<=k->R5 res (ES (Array.replicate ops.toArray.size false)) st.Aj n=st.Aj:=λn=>by
    induction n with
    | zero=>intro _;rfl
    | succ n ih=>intro hn;simp only[R5,hf n (by omega),Bool.false_eq_true,if_false];grind
   simp_all[Q1]
  rw[e];exact hR.drew
theorem tB(X:Env)(ops:Array Oper)(F:List Nat)(K:St->Prop)(st:St):jB X ops F K [] st=(neut X ops st F/\K st):=nd rfl
theorem pd(X:Env)(ops:Array Oper)(F:List Nat)(K:St->Prop)(o:Oper)(os:List Oper)(st:St):jB X ops F K (o::os) st=(neut X ops st F/\Bw X ops [o] (jB X ops F K os) st):=nd rfl
theorem sH(X:Env)(ops:Array Oper)(st:St):neut X ops st []=True:=nd rfl
theorem oI(X:Env)(ops:Array Oper)(st:St)(f:Nat)(F:List Nat):neut X ops st (f::F)=(Bw X ops (N3 ops f) (λst'=>IB st' st.tmps/\HI st' st.Aj) st/\neut X ops st F):=nd rfl
attribute [go_sem] tB pd sH oI
end Go.Abs
open Go Go.Abs Go.Proofs
set_option maxRecDepth 100000
namespace Go.Rd
set_option maxHeartbeats 8000000
open List (filter_sublist mem_cons mem_cons_self pairwise_cons)
open Nat (le_refl)
def js{α:Type}{R:α->α->Prop}(irr:∀ a,¬ R a a)(asy:∀ a b,R a b->¬ R b a):∀ {l m:List α},l.Pairwise R->m.Pairwise R->(∀ x,x∈l↔x∈m)->l=m
 |[],[],_,_,_=>rfl
 |[],b::m,_,_,h=>by have:=(h b).2 (by simp);cases this
 | a::l,[],_,_,h=>by have:=(h a).1 (by simp);cases this
 | a::l,b::m,hl,hm,h=>by
  obtain⟨l1,l2⟩:=pairwise_cons.1 hl;obtain⟨m1,m2⟩:=pairwise_cons.1 hm;have LP:a=b:=by
   rcases mem_cons.1 ((h a).1 (by simp)) with e|e
   ·exact e
   ·rcases mem_cons.1 ((h b).2 (by simp)) with f|f
    ·exact f.symm
    ·exact absurd (m1 a e) (asy _ _ (l1 b f))
  subst LP;rw[js irr asy l2 m2 λx=>?_];constructor
  ·intro hx;rcases mem_cons.1 ((h x).1 (by simp[hx])) with e|e
   ·subst e;exact absurd (l1 x hx) (irr x)
   ·exact e
  ·intro hx;rcases mem_cons.1 ((h x).2 (by simp[hx])) with e|e
   ·subst e;exact absurd (m1 x hx) (irr x)
   ·exact e
def cI{l m:List A9}(hl:Qp l)(hm:Qp m)(h:∀ x,x∈l↔x∈m):l=m :=
 js (λa h=>by grind[CJ]) (λa b h k=>by grind[DP]) hl hm h
def Ym{p:Ac}{a:BR}:∀ {d:List A9},Qp d->(∀ h∈d,h.proc≠p)->Qp (d.take (Dd d p)++⟨p,a⟩::d.drop (Dd d p))
 |[],_,_=>by simp[Dd,Qp]
 | x::d,h,hn=>by
  obtain⟨h1,h2⟩:=pairwise_cons.1 h;have hx:x.proc≠p:=hn x (by simp);cases hk:after' p x
  ·have e:Dd (x::d) p=Dd d p+1:=by
    unfold Dd;rw[List.findIdx?_cons,hk];simp
   rw[e];refine pairwise_cons.2 ⟨λy hy=>?_,Ym h2 λy hy=>hn y (by grind)⟩;have oh:BF x.proc p<0:=by grind[after',FL]
   rcases List.mem_append.1 hy with hy|hy
   ·exact h1 y (List.mem_of_mem_take hy)
   ·rcases mem_cons.1 hy with hy|hy
    ·subst hy;exact oh
    ·exact h1 y (List.mem_of_mem_drop hy)
  ·have e:Dd (x::d) p=0:=by
    grind[Dd]
   rw[e];have hpx:BF p x.proc<0:=by
    simp[after']at hk;grind[DP]
   refine pairwise_cons.2 ⟨λy hy=>?_,h⟩;rcases mem_cons.1 hy with hy|hy
   ·grind
   ·exact DQ hpx (h1 y hy)
def uS{l:List A9}{p:Ac}{a:BR}(h:Qp l)(ha:a.zero=false):Qp (CO l p a):=by
 unfold CO;rw[ha];exact Ym (h.sublist filter_sublist) λy hy=>(Mm.1 hy).2
def S6{r:BE}{l:List A9}(h:BV r l=true):Qp l:=((Dk r l).1 h).2.2.2.1
theorem HB(q:Queue)(p:Ac):B8 q p = { q with holds:=AR q.holds p,As:=Bv q.As p,waits:=Bv q.waits p }:=by simp[B8,HU]
theorem WD{q:Queue}{w:Bh}(hh:BZ q=some w):(∃ l,q.As=w::l/\DH q w = { q with holds:=CO q.holds w.proc w.AH,As:=l })\/(∃ l,q.As=[]/\q.waits=w::l/\DH q w = { q with holds:=CO q.holds w.proc w.AH,waits:=l }):=by
 cases hc:q.As with
 | cons w' l =>
  simp_all[BZ,DH]
 | nil =>
  cases hw:q.waits<;>simp_all[BZ,DH]
def u4{q:Queue}{w:Bh}(h:Sound q)(hh:BZ q=some w)(hr:F3 q.res q.holds w.proc w.AH=true)(x:Ac):(Co (B8 (DH q w) x)).1=(Co (B8 q x)).1:=by
 obtain⟨r1,r2,r3⟩:=PU hr;have hz:=Jb r1;have ha:=S6 r3
 by_cases e:w.proc=x
 ·have hd:AR (CO q.holds w.proc w.AH) x=AR q.holds x:=by
   refine cI (ha.sublist filter_sublist) ((S6 h.holds).sublist filter_sublist) λy=>?_
   grind[Mm,Xc]
  have eI:∀ l,Bv (w::l) x=Bv l x:=λl=>by simp[Bv,e]
  have:B8 (DH q w) x=B8 q x:=by grind[WD,HB]
  rw[this]
 ·have hd:AR (CO q.holds w.proc w.AH) x=CO (AR q.holds x) w.proc w.AH:=by
   have ur:Qp (AR (CO q.holds w.proc w.AH) x):=ha.sublist filter_sublist;refine cI ur (uS ((S6 h.holds).sublist filter_sublist) hz) λy=>?_
   simp only[Mm,Xc hz];grind
  have hr2:F3 (B8 q x).res (B8 q x).holds w.proc w.AH=true:=by
   rw[HB];simp[F3,Bool.and_eq_true,<- hd];exact⟨⟨⟨Lq filter_sublist h.holds,r2⟩,r1⟩,Lq filter_sublist r3⟩
  have eI:∀ l,Bv (w::l) x=w::Bv l x:=λl=>by simp[Bv,e]
  have key:BZ (B8 q x)=some w/\DH (B8 q x) w=B8 (DH q w) x:=by
   rcases WD hh with ⟨l,h1,h2⟩|⟨l,h1,h3,h2⟩
   ·rw[h2,HB,HB,h1,eI,hd];exact⟨rfl,rfl⟩
   ·rw[h2,HB,HB,h1,h3,eI,hd];exact⟨rfl,rfl⟩
  rw[Kx (B8 q x),key.1];simp[hr2,if_true,key.2]
theorem TH{q:Queue}(h:Sound q)(x:Ac):(Co (B8 (Co q).1 x)).1=(Co (B8 q x)).1 :=
 (I8 (P:=λy=>Sound y/\(Co (B8 y x)).1=(Co (B8 q x)).1) (λ_ _ hy hh hr=>⟨ME hy.1 hh hr,(u4 hy.1 hh hr x).trans hy.2⟩) _ q rfl ⟨h,rfl⟩).1.2
theorem qq(q:Queue)(p r:Ac):B8 (B8 q p) r=B8 (B8 q r) p:=by simp[HB,AR,Bv,List.filter_filter,Bool.and_comm]
theorem Ko{q:Queue}(hv:valid q=true)(p:Ac):Cd q p=(Co (B8 q p)).1:=by
 by_cases hp:Br (BU q) p=true
 ·have e:Cd q p = { Ee (B8 q p) with gen:=q.gen }:=by grind[Cd]
  rw[e];have h1:(Co (B8 q p)).1.gen=q.gen:=(U2 _).2;show ({ (Co (B8 q p)).1 with gen:=q.gen }:Queue)=_;rw[<- h1]
 ·have e:Cd q p=q:=by simp[Cd,hp]
  have hn:¬ JY q p:=by grind[Ew,Br]
  have e2:B8 q p=q:=by
   have k1:AR q.holds p=q.holds:=List.filter_eq_self.2 λy hy=>decide_eq_true λe=>hn (.inl ⟨y,hy,e⟩)
   have k2:Bv q.As p=q.As:=List.filter_eq_self.2 λy hy=>decide_eq_true λe=>hn (.inr (.inl ⟨y,hy,e⟩))
   have k3:Bv q.waits p=q.waits:=List.filter_eq_self.2 λy hy=>decide_eq_true λe=>hn (.inr (.inr ⟨y,hy,e⟩))
   rw[HB,k1,k2,k3]
  rw[e,e2,Kx];have hs:=((BN q).1 hv).2;cases hh:BZ q with
  |none=>rfl
  |some w=>simp only[hs w hh];rfl
def Xv{q:Queue}(hv:valid q=true)(p r:Ac):Cd (Cd q p) r=Cd (Cd q r) p:=by grind[BN,Ko,I6,TH,MD,qq]
def Sd{s:WS}(h:BO s)(p r:Ac):BW (BW s p) r=BW (BW s r) p:=by
 simp only[BW,List.map_map,E7,List.filter_filter,WS.mk.injEq];exact⟨List.map_congr_left λq hq=>Xv (h q hq) p r,by grind⟩
theorem MQ{q:Queue}{p:Ac}:(Ar q p).isSome=true↔∃ w∈q.As++q.waits,w.proc=p:=by simp only[Ar,Option.isSome_map,List.find?_isSome,decide_eq_true_eq]
def tY{q:Queue}(hv:valid q=true){p x:Ac}(h:(Ar (Cd q p) x).isSome=true):(Ar q x).isSome=true:=by
 rw[Ko hv]at h;rw[MQ]at *;obtain⟨w,hw,rfl⟩:=h;have:=(I8 (P:=λy=>∀ v∈y.As++y.waits,v∈q.As++q.waits) (λy w hy hh _ v hv=>hy v (by
  grind[WD])) _ (B8 q p) rfl (λv hv=>by
  grind[HB,Bv])).1
 exact⟨w,this w hw,rfl⟩
def bZ{x:Ac}{name:Bs}{f:Queue->Queue}(l:List Queue)(hf:∀ q∈l,(f q).res=q.res/\((Ar (f q) x).isSome=true->(Ar q x).isSome=true))(h:DX (l.map f) x name=true):DX l x name=true:=by
 unfold DX at *;have gen:∀ (l:List Queue),(∀ q∈l,(f q).res=q.res/\((Ar (f q) x).isSome=true->(Ar q x).isSome=true))->∀ a b:Bool,(a=true->b=true)->(l.map f).foldl (λw q=>if q.res.name==name then (Ar q x).isSome else w) a=true->l.foldl (λw q=>if q.res.name==name then (Ar q x).isSome else w) b=true:=by
  intro l
  induction l with
  | nil=>grind
  | cons q l ih =>
   intro hl a b LP h;obtain⟨h1,h2⟩:=hl q (by simp);simp only[List.map_cons,List.foldl_cons]at h ⊢;refine ih (λq hq=>hl q (by grind)) _ _ ?_ h;rw[h1];grind
 exact gen l hf false false id h
mutual
theorem Wh{f g:Atom->Bool}(h:∀ a,f a=true->g a=true):∀ e:Expr,FW f e=true->FW g e=true
 |.mk k a kids=>by
  unfold FW;split
  ·grind
  ·intro hk;have:=T1 h kids;simp only[decide_eq_true_eq]at hk ⊢;omega
theorem T1{f g:Atom->Bool}(h:∀ a,f a=true->g a=true):∀ l:List Expr,DR f l<=DR g l
 |[]=>by simp[DR]
 | e::l=>by
  have h1:=Wh h e;have h2:=T1 h l;simp only[DR];cases he:FW f e
  ·simp only[Bool.false_eq_true,if_false];split<;>omega
  ·rw[h1 he];simp only[if_true];omega
end
theorem nN{l:List Atom}{s t:List Bool}(h:∀ k,s.getD k false=true->t.getD k false=true)(a:Atom)(ha:E1 l s a=true):E1 l t a=true:=by grind[E1]
def Ye{α:Type}{f g:α->Bool}(l:List α)(h:∀ a∈l,f a=true->g a=true)(k:Nat)(hk:(l.map f).getD k false=true):(l.map g).getD k false=true:=by grind
def dE{e:Expr}{s t:List Bool}(h:∀ k,s.getD k false=true->t.getD k false=true)(hs:Gc e s=true):Gc e t=true:=by
 simp only[Gc,Bool.and_eq_true]at *;grind[Wh,nN]
theorem rr{s:WS}(h:BO s){x p:Ac}(CZ:x≠p)(hf:Dz s x=true):Dz (BW s p) x=true:=by
 unfold Dz at *;have e:(BW s p).Aw.find? (λn=>decide (n.proc=x))=s.Aw.find? λn=>decide (n.proc=x):=Oz (λn hn=>by grind) _
 rw[e];cases hn:s.Aw.find? (λn=>decide (n.proc=x)) with
 |none=>rfl
 |some n =>
  rw[hn]at hf;simp only at hf ⊢;refine dE (Ye _ λa _=>?_) hf;intro h1;cases hw:DX (BW s p).Aa n.proc a.name
  ·rfl
  ·have:=bZ s.Aa (λq hq=>⟨ZF q p,tY (h q hq)⟩) hw;rw[this]at h1;cases h1
theorem I0{s:WS}{x:Ac}:x∈BJ s↔x∈Ag s/\Dz s x=true:=List.mem_filter
def PE{s:WS}(h:BO s){x p:Ac}(CZ:x≠p)(hf:x∈BJ s):x∈BJ (BW s p):=by grind[I0,Jc,rr]
def Bl(s:WS):List Ac:=(Ca s).2
theorem Jn{s:WS}(h:BO s)(hf:BJ s=[]):Bl s=Ag s:=by grind[Bl,Sc]
def LY{s:WS}(h:BO s){p:Ac}{l:List Ac}(hf:BJ s=p::l):Bl s=Bl (BW s p):=by grind[Bl,Sc]
def Xf{s:WS}(h:(Ag s).length<=0):Ag s=[]:=List.eq_nil_of_length_eq_zero (by omega)
def Jo:∀ (n:Nat) (s:WS),BO s->(Ag s).length<=n->∀ x∈Bl s,x∈Ag s:=by
 intro n
 induction n with
 | zero =>
  grind[BJ,Jn]
 | succ n ih =>
  intro s h hn x hx;cases hf:BJ s with
  | nil=>grind[Jn]
  | cons p l =>
   rw[LY h hf]at hx;have hp:p∈Ag s:=(I0.1 (hf▸mem_cons_self)).1;have:=D9 h hp;exact((Jc h p x).1 (ih _ (Cv h p) (by omega) x hx)).1
def Pn:∀ (n:Nat) (s:WS),BO s->(Ag s).length<=n->∀ f∈BJ s,Bl s=Bl (BW s f):=by
 intro n
 induction n with
 | zero =>
  grind[I0]
 | succ n ih =>
  intro s h hn f hf;cases hs:BJ s with
  | nil=>grind
  | cons g l =>
   rw[LY h hs]
   by_cases e:f=g
   ·rw[e]
   ·have hg:g∈BJ s:=hs▸mem_cons_self;have d1:=D9 h (I0.1 hg).1;have d2:=D9 h (I0.1 hf).1;rw[ih _ (Cv h g) (by omega) f (PE h e hf),ih _ (Cv h f) (by omega) g (PE h (Ne.symm e) hg),Sd h]
def gU:∀ (n:Nat) (s:WS),BO s->(Ag s).length<=n->∀ p,∀ x∈Bl (BW s p),x∈Bl s:=by
 intro n
 induction n with
 | zero =>
  intro s h hn p x hx;have hx:=Jo _ _ (Cv h p) (le_refl _) x hx;have:=((Jc h p x).1 hx).1;rw[Xf hn]at this;cases this
 | succ n ih =>
  intro s h hn p x hx;cases hs:BJ s with
  | nil =>
   rw[Jn h hs];exact((Jc h p x).1 (Jo _ _ (Cv h p) (le_refl _) x hx)).1
  | cons g l =>
   rw[LY h hs]
   by_cases e:g=p
   ·grind
   ·have hg:g∈BJ s:=hs▸mem_cons_self;have d1:=D9 h (I0.1 hg).1;refine ih _ (Cv h g) (by omega) p x ?_;rw[Sd h,<- Pn _ _ (Cv h p) (le_refl _) g (PE h e hg)];omega
def Yy(l:List Ac)(ms:List Ac):∀ s:WS,BO s->BO (ms.foldl (λx p=>if Br l p then x else BW x p) s)/\∀ x∈Bl (ms.foldl (λx p=>if Br l p then x else BW x p) s),x∈Bl s:=by
 induction ms with
 | nil=>grind
 | cons m ms ih =>
  intro s h;simp;split
  ·grind
  ·have:=ih _ (Cv h m);exact⟨this.1,λx hx=>gU _ s h (le_refl _) m x (this.2 x hx)⟩
def Mb{s:WS}(h:BO s)(l:List Ac):BO (Fw s l):=(Yy l _ s h).1
end Go.Rd
