/- part 18 of the proof -/
import Derived.Test.YthachdiockkofaaGreatDoorW17
set_option linter.all false
open Go Go.Abs Go.Proofs
set_option maxRecDepth 100000
namespace Go.Rd
set_option maxHeartbeats 8000000
open List (length_take pairwise_cons take_add_one)
open Bool (and_eq_true)
open Option (getD_some isSome_some)
open Tryz
theorem IU:∀ x:Bs,Op.bytesLess x x=false
 |[]=>rfl
 | a::x=>by
  simp only[Op.bytesLess,IU x,Bool.and_false,Bool.or_false];simp
theorem J1:∀ x y z:Bs,Op.bytesLess x y=true→Op.bytesLess y z=true→Op.bytesLess x z=true
 |_,_,[],_,h=>by cases ‹Bs›<;>simp[Op.bytesLess]at h
 |[],_,_::_,_,_=>rfl
 | a::x,[],c::z,h,_=>by simp[Op.bytesLess]at h
 | a::x,b::y,c::z,h1,h2=>by
  simp only[Op.bytesLess,Bool.or_eq_true,and_eq_true,decide_eq_true_eq,beq_iff_eq]at h1 h2 ⊢;rcases h1 with h1|⟨rfl,h1⟩
  ·rcases h2 with h2|⟨rfl,h2⟩
   ·exact .inl (UInt8.lt_trans h1 h2)
   ·exact .inl h1
  ·rcases h2 with h2|⟨rfl,h2⟩
   ·exact .inl h2
   ·exact .inr ⟨rfl,J1 x y z h1 h2⟩
theorem JS{α:Type}{r:α→α→Prop}(ht:∀ a b c,r a b→r b c→r a c):∀ (l:List α),(∀ i a b,l[i]?=some a→l[i+1]?=some b→r a b)→l.Pairwise r
 |[],_=>.nil
 | a::l,h=>by
  have ih:=JS ht l fun i x y hx hy=>h (i+1) x y (by simpa using hx) (by simpa using hy)
  refine pairwise_cons.2 ⟨?_,ih⟩;cases l with
  | nil=>simp
  | cons b l =>
   have hab:=h 0 a b rfl rfl;intro c hc;rcases List.mem_cons.1 hc with rfl|hc
   ·exact hab
   ·exact ht a b c hab ((pairwise_cons.1 ih).1 c hc)
theorem ND{α:Type}{r:α→α→Prop}{l:List α}(h:l.Pairwise r){i:Nat}{a b:α}(ha:l[i]?=some a)(hb:l[i+1]?=some b):r a b:=by
 have h1:=At ha;have h2:=At hb;have:=List.pairwise_iff_getElem.1 h i (i+1) h1 h2 (by omega)
 rwa [get_eq ha,get_eq hb]at this
theorem DO(l:List Queue):Ch l=true↔l.length≤8∧(∀ q∈l,valid q=true)∧l.Pairwise fun a b=>DM a.res.name b.res.name=true:=by
 unfold Ch;rw[and_eq_true,decide_eq_true_eq,EB];refine and_congr Iff.rfl ⟨fun h=>⟨fun q hq=>?_,JS (r:=fun a b:Queue=>DM a.res.name b.res.name=true) (fun a b c=>J1 _ _ _) l fun i a b ha hb=>?_⟩,fun⟨h1,h2⟩ i b hb=>?_⟩
 ·obtain⟨i,hi⟩:=List.mem_iff_getElem?.1 hq;have:=h i q hi;simp only[B6,and_eq_true]at this;exact this.1
 ·have:=h (i+1) b hb;simp only[B6,and_eq_true]at this;have h2:=this.2;simpa [List.getD,ha]using h2
 ·simp only[B6,and_eq_true];refine⟨h1 b (mG hb),?_⟩;cases i with
  | zero=>simp
  | succ i =>
   obtain⟨a,ha⟩:∃ a,l[i]?=some a:=⟨_,gE (by have:=At hb;omega)⟩;have:=ND h2 ha hb;simpa [List.getD,ha]using this
theorem FO(l:List Need):Fi l=true↔l.length≤8∧(∀ n∈l,n.proc.ok=true∧0≤n.gen∧n.gen≤1073741824∧A4 n.expr=true)∧l.Pairwise fun a b=>Bo a.proc b.proc<0:=by
 unfold Fi;rw[and_eq_true,decide_eq_true_eq,EB];refine and_congr Iff.rfl ⟨fun h=>⟨fun q hq=>?_,JS (r:=fun a b:Need=>Bo a.proc b.proc<0) (fun a b c=>Dt) l fun i a b ha hb=>?_⟩,fun⟨h1,h2⟩ i b hb=>?_⟩
 ·obtain⟨i,hi⟩:=List.mem_iff_getElem?.1 hq;have:=h i q hi;simp only[BZ,and_eq_true,decide_eq_true_eq]at this;exact⟨this.1.1.1.1,this.1.1.1.2,this.1.1.2,this.1.2⟩
 ·have:=h (i+1) b hb;simp only[BZ,and_eq_true]at this;have h2:=this.2;simpa [List.getD,ha]using h2
 ·have h3:=h1 b (mG hb);simp only[BZ,and_eq_true,decide_eq_true_eq];refine⟨⟨⟨⟨h3.1,h3.2.1⟩,h3.2.2.1⟩,h3.2.2.2⟩,?_⟩;cases i with
  | zero=>simp
  | succ i =>
   obtain⟨a,ha⟩:∃ a,l[i]?=some a:=⟨_,gE (by have:=At hb;omega)⟩;have:=ND h2 ha hb;simpa [List.getD,ha]using this
theorem CK(s:WS):AD s=true↔Ch s.Aa=true∧Fi s.Ao=true∧(Ah s).length≤8:=by
 simp only[AD,and_eq_true,decide_eq_true_eq,and_assoc]
theorem Mw{s:WS}(h:AD s=true)(p:Ae):AD (BP s p)=true:=by
 have hg:=Bh h;obtain⟨h1,h2,h3⟩:=(CK s).1 h;obtain⟨a1,a2,a3⟩:=(DO _).1 h1;obtain⟨b1,b2,b3⟩:=(FO _).1 h2;refine(CK _).2 ⟨(DO _).2 ⟨?_,?_,?_⟩,(FO _).2 ⟨?_,?_,?_⟩,?_⟩
 ·simpa [BP]using a1
 ·exact CE hg p
 ·simp only[BP,List.pairwise_map,Oo];exact a3
 ·exact Nat.le_trans (List.length_filter_le _ _) b1
 ·exact fun n hn=>b2 n (List.mem_filter.1 hn).1
 ·exact b3.filter _
 ·rw[LC hg];exact Nat.le_trans (List.length_filter_le _ _) h3
theorem H7{s:WS}(h:AD s=true)(l:List Ae):AD (BY s l)=true:=PB (P:=fun x=>AD x=true) (fun _ p h=>Mw h p) l h
theorem SC(p:Ae)(name:Bs):∀ (l:List Queue),(l.Pairwise fun a b=>a.res.name≠b.res.name)→∀ w:Bool,l.foldl (fun w q=>if q.res.name==name then (As q p).isSome else w) w=match l.find? (fun q=>q.res.name==name) with
  |some q=>(As q p).isSome
  |none=>w
 |[],_,w=>rfl
 | q::l,h,w=>by
  rw[pairwise_cons]at h;rw[List.foldl_cons,SC p name l h.2,List.find?_cons];cases hq:(q.res.name==name)
  ·simp
  ·have hn:l.find? (fun q=>q.res.name==name)=none:=by
    rw[List.find?_eq_none];intro x hx;have:=h.1 x hx;simp at hq ⊢;rw[← hq];exact fun h=>this h.symm
   rw[hn];simp
theorem WD(l:List Queue)(h:l.Pairwise fun a b=>a.res.name≠b.res.name)(p:Ae)(name:Bs):CR l p name=CC l p name:=SC p name l h false
theorem Lb{s:WS}(h:AD s=true)(p:Ae)(name:Bs):CR s.Aa p name=CC s.Aa p name:=by
 obtain⟨h1,-,-⟩:=(CK s).1 h;obtain⟨-,-,a3⟩:=(DO _).1 h1;refine WD _ (a3.imp fun {a b} hab he=>?_) p name;unfold DM at hab;rw[he,IU]at hab;simp at hab
theorem bK{α:Type}(a:List α)(z v:α)(k:Nat):(a++List.replicate (k+1) z).set a.length v=(a++[v])++List.replicate k z:=by
 rw[List.set_append_right _ _ (Nat.le_refl _)];simp[List.replicate_succ]
theorem f161_ok(s:WS)(p:Ae)(h:Few s)(hv:AD s=true)(n:Need)(hf:(s.Ao.find? fun n=>decide (n.proc=p))=some n):Ad C0 161 [.agg s.c,.agg p.c] [] (GN (CU s n)) []:=by
 have hl:=Cj n.expr;have hp:n.proc=p:=by have:=List.find?_some hf;simpa using this
 have hg:CU s n=(Ag n.expr).map fun a=>!CC s.Aa p a.name:=by
  unfold CU;rw[hp];exact List.map_congr_left fun a _=>by rw[Lb hv]
 rw[hg];refine Ad.go f161 ?_;unfold f161;refine gO ?_;refine Ac (f92_ok s p h) ?_;simp(disch:=omega)only[go_sem,hf,isSome_some,getD_some];refine Ac (f56_ok s h) ?_;simp(disch:=omega)only[go_sem,hv];refine Ai (f93_ok n.expr) (by simp(disch:=omega)only[go_sem,Expr.By]) rfl ?_;refine gO ?_;generalize Ag n.expr=A at hl;refine Ab (α:=Nat) (fun i=>⟨[(9,I i),(7,Bv A),(2,.ptr 128 0),(3,.ptr 192 0),(8,.sl (.own 1792 0) 1 (((A.take i).map fun a=>[B (!CC s.Aa p a.name)])++List.replicate (A.length-i) [B false]))],[(128,s.c),(192,p.c)]⟩) (fun i=>i≤(A).length∧True) (fun i=>(A).length-i) 0 ⟨by omega,trivial⟩ ?_ ?_
 ·exact BB
 rintro i ⟨hi,hP⟩ J hJ;refine gO ?_;refine ⟨fun hlt=>?_,fun hge=>?_⟩;rotate_left;have hil:i=(A).length:=by simp at hge;omega
 rotate_left;obtain⟨b,hb⟩:∃ b,(A)[i]?=some b:=⟨_,gE (by simp at hlt;omega)⟩;have hbm:=mG hb;have hlt2:i<(A).length:=by simp at hlt;omega
 refine Aq 11 [([],[8]),([],[9]),([],[2]),([],[3]),([],[7]),([],[9]),([],[39,40]),([],[41]),([],[42]),([],[37,38,43]),([9],[44])] fol ?_;simp(disch:=omega)only[go_sem,gm,hb]
 ·have hlen:min i A.length+(A.length-i)=A.length:=by omega
  first|(refine Ac (f52_ok s p b.name h) ?_)|(refine Ar (f52_ok s p b.name h) ?_)
  have hget:(((A.take i).map fun a=>[B (!CC s.Aa p a.name)])++List.replicate (A.length-i) [B false])[i]?=some [B false]:=by
   rw[List.getElem?_append_right (by simp;omega),List.getElem?_replicate];simp;omega
  simp(disch:=omega)only[go_sem,hget,List.length_append,List.length_replicate,List.length_map,length_take,hlen];refine hJ _ (i+1) ⟨by simp at hlt;omega,trivial⟩ (by simp at hlt;omega) (Imp.Am ?_ ?_);rotate_left
  ·exact gI
  refine gO ?_;refine .sl ?_;have e1:A.length-i=(A.length-(i+1))+1:=by omega
  have e2:=bK ((A.take i).map fun a=>[B (!CC s.Aa p a.name)]) [B false] [B (!CC s.Aa p b.name)] (A.length-(i+1));simp only[List.length_map,length_take,Nat.min_eq_left hi]at e2;rw[e1,e2,take_add_one,hb];simp
 ·subst hil;refine Cf ⟨[],[],[1792]⟩ _ ?_;simp(disch:=omega)only[go_sem,List.take_length,Nat.sub_self,List.replicate_zero,List.append_nil];exact .sl (by simp)
theorem f108_ok(s:WS)(p:Ae)(h:Few s)(hv:AD s=true):Ad C0 108 [.agg s.c,.agg p.c] [] (B (BH s p)) []:=by
 refine Ad.go f108 ?_;unfold f108;refine gO ?_;refine Ac (f92_ok s p h) ?_;cases hf:s.Ao.find? fun n=>decide (n.proc=p) with
 |none =>
  have e:BH s p=true:=by unfold BH;rw[hf]
  simp(disch:=omega)only[go_sem,Option.isSome_none,e];refine Aq 8 [([],[6]),([],[13]),([],[14]),([],[5,15]),([],[16,15]),([],[2,15]),([],[3,15]),([],[18,19,15])] fol ?_;refine gO ?_;exact AE _
 |some n =>
  have hm:=List.mem_of_find?_eq_some hf;have he:A4 n.expr=true:=JZ hv n hm;have e:BH s p=DR n.expr (CU s n):=by unfold BH;rw[hf]
  simp(disch:=omega)only[go_sem,isSome_some,e,getD_some];refine Aq 8 [([],[6]),([],[13]),([],[14]),([],[5,15]),([],[16,15]),([],[2,15]),([],[3,15]),([],[18,19,15])] fol ?_;simp(disch:=omega)only[go_sem]
  first|(refine Ac (f161_ok s p h hv n hf) ?_)|(refine Ar (f161_ok s p h hv n hf) ?_)
  simp(disch:=omega)only[go_sem]
  first
   |(refine Ai (f160_ok n.expr (CU s n) he) (by simp(disch:=omega)only[go_sem,Expr.By]) rfl ?_)
   |(refine Aw ⟨⟨[],[],[]⟩,[],[]⟩ (f160_ok n.expr (CU s n) he) (by simp(disch:=omega)only[go_sem,Expr.By]) rfl rfl trivial (.inl rfl) ?_)
  refine gO ?_;exact AE _
theorem f57_ok(s:WS)(h:Few s):Ad C0 57 [.agg s.c] [] (Ax (D5 s)) []:=by
 have hl:=Dy h;refine Ad.go f57 ?_;unfold f57;refine gO ?_;refine Ac (f56_ok s h) ?_;cases hv:AD s
 ·have e:D5 s=[]:=by simp[D5,hv]
  simp(disch:=omega)only[go_sem,e];exact AE _
 have e:D5 s=BT s:=by simp[D5,hv]
 rw[e];refine gO ?_;refine Ac (f34_ok s h) ?_;refine gO ?_;refine Ab (α:=Nat) (fun i=>⟨[(5,I i),(4,Ax (Ah s)),(1,.ptr 64 0),(3,.sl (.own 1856 0) 3 ((((Ah s).take i).filter fun p=>BH s p).map Ae.c))],[(64,s.c)]⟩) (fun i=>i≤((Ah s)).length∧True) (fun i=>((Ah s)).length-i) 0 ⟨by omega,trivial⟩ ?_ ?_
 ·exact BB
 rintro i ⟨hi,hP⟩ J hJ;refine gO ?_;refine ⟨fun hlt=>?_,fun hge=>?_⟩;rotate_left;have hil:i=((Ah s)).length:=by simp at hge;omega
 rotate_left;obtain⟨b,hb⟩:∃ b,((Ah s))[i]?=some b:=⟨_,gE (by simp at hlt;omega)⟩;have hbm:=mG hb;have hlt2:i<((Ah s)).length:=by simp at hlt;omega
 refine Aq 5 [([],[1]),([],[4]),([],[5]),([],[18,19]),([],[20])] fol ?_;simp(disch:=omega)only[go_sem,gm,hb]
 ·have hbd:(((Ah s).take i).filter fun p=>BH s p).length+1≤4294967296:=by
   have:(((Ah s).take i).filter fun p=>BH s p).length≤((Ah s).take i).length:=List.length_filter_le _ _;rw[length_take]at this;omega
  first|(refine Ac (f108_ok s b h hv) ?_)|(refine Ar (f108_ok s b h hv) ?_)
  cases hh:BH s b
  ·simp(disch:=omega)only[go_sem];refine hJ _ (i+1) ⟨by simp at hlt;omega,trivial⟩ (by simp at hlt;omega) (Imp.Am ?_ ?_)
   all_goals(try simp(disch:=omega)only[go_sem])
   all_goals(try(repeat'(with_reducible apply And.intro)))
   all_goals(first|exact .AG (by omega)|exact .Az (by omega)|exact .sl (by simp[take_add_one,hb,hh,Ae.c])|exact .int (by simp[take_add_one,hb,hh,Ae.c])|exact .eq (by simp[take_add_one,hb,hh,Ae.c]))
  ·simp(disch:=omega)only[go_sem,gm,hb];refine hJ _ (i+1) ⟨by simp at hlt;omega,trivial⟩ (by simp at hlt;omega) (Imp.Am ?_ ?_)
   all_goals(try simp(disch:=omega)only[go_sem])
   all_goals(try(repeat'(with_reducible apply And.intro)))
   all_goals(first|exact .AG (by omega)|exact .Az (by omega)|exact .sl (by simp[take_add_one,hb,hh,Ae.c])|exact .int (by simp[take_add_one,hb,hh,Ae.c])|exact .eq (by simp[take_add_one,hb,hh,Ae.c]))
 ·subst hil;simp(disch:=omega)only[go_sem,List.take_length];refine Cf ⟨[],[],[1856]⟩ _ ?_;simp(disch:=omega)only[go_sem,BT]
end Go.Rd
namespace Go.Abs
def Vy(x y:AV):Prop:=x=y∨(x=.v (.slice none 0 0)∧∃ n,y=.sl .no (n+1) [])
def Jr:List AV→List AV→Prop
 |[],[]=>True
 | x::xs,y::ys=>Vy x y∧Jr xs ys
 |_,_=>False
def Gl:List (List AV)→List (List AV)→Prop
 |[],[]=>True
 | x::xs,y::ys=>Jr x y∧Gl xs ys
 |_,_=>False
theorem Jr.len:∀ {xs ys:List AV},Jr xs ys→xs.length=ys.length
 |[],[],_=>rfl
 |_::_,_::_,h=>by simp[Jr.len h.2]
 |[],_::_,h=>h.elim
 |_::_,[],h=>h.elim
theorem Gl.len:∀ {xs ys:List (List AV)},Gl xs ys→xs.length=ys.length
 |[],[],_=>rfl
 |_::_,_::_,h=>by simp[Gl.len h.2]
 |[],_::_,h=>h.elim
 |_::_,[],h=>h.elim
theorem Jr.refl:∀ xs:List AV,Jr xs xs
 |[]=>trivial
 |_::xs=>⟨.inl rfl,Jr.refl xs⟩
theorem Gl.refl:∀ xs:List (List AV),Gl xs xs
 |[]=>trivial
 | x::xs=>⟨Jr.refl x,Gl.refl xs⟩
theorem Gl.set{L L':List AV}(h:Jr L L'):∀ (xs:List (List AV)) (i:Nat),Gl (xs.set i L) (xs.set i L')
 |[],_=>trivial
 |_::xs,0=>⟨h,Gl.refl xs⟩
 | x::xs,i+1=>⟨Jr.refl x,Gl.set h xs i⟩
theorem Gl.append{a b:List (List AV)}(c:List (List AV))(h:Gl a b):Gl (c++a) (c++b):=by
 induction c with
 | nil=>exact h
 | cons x c ih=>exact⟨Jr.refl x,ih⟩
section
variable {ro:Nat→Prop} {w:World}
theorem Vy.PR{x y:AV}{u:Value}(h:Vy x y)(hu:PR ro w x u):PR ro w y u:=by
 rcases h with rfl|⟨rfl,n,rfl⟩
 ·exact hu
 ·simp only[Abs.PR]at hu ⊢;obtain⟨rfl,_⟩:=hu;exact⟨(fun _ _ h=>by cases h),none,0,rfl,Nat.le_refl _,by simp[maxLen],(fun h=>by cases h),by omega,.inl trivial⟩
theorem Jr.PRc:∀ {xs ys:List AV} {ad:Addr} {j:Nat},Jr xs ys→PRc ro w xs ad j→PRc ro w ys ad j
 |[],[],_,_,_,_=>trivial
 |_::_,_::_,_,_,h,⟨⟨u,h1,h2⟩,h3⟩=>⟨⟨u,h1,h.1.PR h2⟩,Jr.PRc h.2 h3⟩
 |[],_::_,_,_,h,_=>h.elim
 |_::_,[],_,_,h,_=>h.elim
theorem Gl.PRe:∀ {xs ys:List (List AV)} {ad:Addr} {n i:Nat},Gl xs ys→PRe ro w xs ad n i→PRe ro w ys ad n i
 |[],[],_,_,_,_,_=>trivial
 |_::_,_::_,_,_,_,h,⟨h1,h2,h3⟩=>⟨h.1.len▸h1,h.1.PRc h2,Gl.PRe h.2 h3⟩
 |[],_::_,_,_,_,h,_=>h.elim
 |_::_,[],_,_,_,h,_=>h.elim
end
theorem Gl.nil{a b:List (List AV)}(h:Gl a b)(ha:a=[]):b=[]:=by
 subst ha;cases b with
 | nil=>rfl
 | cons=>exact h.elim
theorem BW.br{t:Tag}{n:Nat}{a b:List (List AV)}(h:Gl a b):BW (.sl t n a) (.sl t n b):=fun g w u hu=>by
 have hl:=h.len
 match t with
 |.own r lo =>
  simp only[VR,Cq]at hu ⊢;refine⟨hu.1,?_⟩;rcases hu.2 with ⟨h1,h2⟩|⟨h0,h2,h3⟩|⟨cap,cur,T,h1,h2,h3,h5,h6,h7,h8⟩
  ·exact .inl ⟨h1,h.nil h2⟩
  ·exact .inr (.inl ⟨h0,h.nil h2,h3⟩)
  ·exact .inr (.inr ⟨cap,cur,T,hl▸h1,hl▸h2,h3,h5,h6,h7,h.PRe h8⟩)
 |.no =>
  simp only[VR,PR]at hu ⊢;obtain⟨h0,c,cap,h1,h2,h3,h4,h5,h6⟩:=hu;exact⟨h0,c,cap,hl▸h1,hl▸h2,h3,hl▸h4,h5,h6.imp (fun e=>h.nil e) fun⟨ad,k1,k2,k3⟩=>⟨ad,k1,k2,h.PRe k3⟩⟩
 |.full =>
  simp only[VR,PR]at hu ⊢;obtain⟨h0,c,cap,h1,h2,h3,h4,h5,h6⟩:=hu;exact⟨h0,c,cap,hl▸h1,hl▸h2,h3,hl▸h4,h5,h6.imp (fun e=>h.nil e) fun⟨ad,k1,k2,k3⟩=>⟨ad,k1,k2,h.PRe k3⟩⟩
end Go.Abs
namespace Go.Abs
def neut(X:Env)(ops:Array Oper)(st:St):List Nat→Prop
 |[]=>True
 | f::F=>A9 X ops (Mq ops f) (fun st'=>IS st' st.tmps∧FR st' st.Al) st∧neut X ops st F
def Wz(X:Env)(ops:Array Oper)(F:List Nat)(K:St→Prop):List Oper→St→Prop
 |[],st=>neut X ops st F∧K st
 | o::os,st=>neut X ops st F∧A9 X ops [o] (Wz X ops F K os) st
def D0(ops:Array Oper)(k:Nat):Array Oper:=(ops.toList.take k).toArray
def Ws(ops:Array Oper)(k:Nat)(tab:List (List Nat × List Nat))(F:List Nat):Bool :=
 decide (k≤ops.size)&&(List.range ops.size).all (fun i=>(BA ops i).all (fun e=>decide (e<i)) &&
  (Dx tab i).all (fun p=>(BA ops i).any fun e=>p==e||(Dx tab e).contains p) &&
  (decide (i<k)||(List.range i).all fun j=>F.contains j||(Dx tab i).contains j)) &&
 ((List.range k).all fun i=>(List.range i).all fun j=>(Dx tab i).contains j||!(clash ops tab i j))&&F.all (fun f=>decide (f<k))&&ops.toList.all fun o=>o.guard.isNone
section
variable {X:Env} {A:A0} {N:Nat} {g:Gh} {st0:St} {a:Act} {w:World} {ops:Array Oper} {k:Nat} {tab:List (List Nat × List Nat)} {res:Nat→Res} {D:Nat→Bool} {F:List Nat}
theorem Ps{i:Nat}(h:i<k):(D0 ops k)[i]?=ops[i]?:=by
 simp[D0,List.getElem?_take,h]
theorem Lf{i:Nat}(h:i<k):BA (D0 ops k) i=BA ops i:=by unfold BA;rw[Ps h]
theorem Pr{i:Nat}(h:i<k):D1 (D0 ops k) i=D1 ops i:=by unfold D1;rw[Ps h]
structure Q5(ops:Array Oper)(k:Nat)(tab:List (List Nat × List Nat))(F:List Nat):Prop where
 le:k≤ops.size
 edge:∀ i,i<ops.size→∀ e∈BA ops i,e<i
 pred:∀ i,i<ops.size→∀ p∈Dx tab i,∃ e∈BA ops i,p=e∨p∈Dx tab e
 tail:∀ i,i<ops.size→k≤i→∀ j,j<i→j∈F∨j∈Dx tab i
 apart:∀ i j,i<k→j<i→j∈Dx tab i∨clash ops tab i j=false
 small:∀ f∈F,f<k
 guard:∀ o∈ops,o.guard=none
theorem Ws.spec(h:Ws ops k tab F=true):Q5 ops k tab F:=by
 simp only[Ws,Bool.and_eq_true,decide_eq_true_eq,List.all_eq_true,List.mem_range,Bool.or_eq_true,List.any_eq_true,List.contains_iff_mem,beq_iff_eq,Bool.not_eq_true',Option.isNone_iff_eq_none]at h;obtain⟨⟨⟨⟨h1,h2⟩,h3⟩,h4⟩,h5⟩:=h;exact⟨h1,fun i hi=>(h2 i hi).1.1,fun i hi=>(h2 i hi).1.2,fun i hi hk j hj=>((h2 i hi).2.resolve_left (by omega)) j hj,fun i j hi hj=>h3 i hi j hj,h4,fun o ho=>h5 o (by simpa using ho)⟩
theorem Q5.cut(h:Q5 ops k tab F):IP (D0 ops k) k tab:=by
 have hs:(D0 ops k).size=k:=by have:=h.le;simp[D0];omega
 have hk:=h.le;refine⟨by omega,fun i hi=>?_,fun i hi=>?_,fun i hi hk'=>by omega,fun i j hi hj=>?_⟩
 ·rw[Lf (by omega)];exact h.edge i (by omega)
 ·rw[Lf (by omega)];exact h.pred i (by omega)
 ·have:=h.apart i j hi hj;unfold clash at this ⊢;rw[Pr hi,Pr (by omega)];exact this
theorem Q5.closed(h:Q5 ops k tab F)(hc:Closed ops D):∀ i,i<ops.size→(∀ e∈BA ops i,D e=true)→∀ p∈Dx tab i,D p=true:=by
 intro i
 induction i using Nat.strongRecOn with
 |_ i ih =>
  intro hi hd p hp;obtain⟨e,he,h'|h'⟩:=h.pred i hi p hp
  ·subst h';exact hd _ he
  ·have hlt:=h.edge i hi e he;exact ih e hlt (by omega) (hc e (by omega) (hd e he)) p h'
theorem Vu(h:Q5 ops k tab F){Q:Exit→Act→World→Prop}{i:Nat}(hi:i<k){K:Act→World→Prop}(hw:wpOp X.C.P (D0 ops k) Q i K a w):wpOp X.C.P ops Q i K a w:=by
 unfold wpOp at hw ⊢;rw[Ps hi]at hw;cases ho:ops[i]? with
 |none=>rw[ho]at hw;exact hw
 |some o =>
  rw[ho]at hw;have hg:=h.guard o (Array.mem_of_getElem? ho);simp only[Region.wanted,hg,if_true]at hw ⊢;exact hw
theorem K3(h:Q5 ops k tab F){Af:Array Bool}(hs:Af.size=ops.size):∀ n j,j<ops.size→dOf Af j=false→j≤n→∃ i,i≤j∧i∈Region.ready .any ops Af:=by
 intro n
 induction n with
 | zero =>
  intro j hj hd hjn;have:j=0:=by omega
  subst this;exact⟨0,by omega,(BE hs).2 ⟨by omega,hd,fun e he=>by have:=h.edge 0 (by omega) e he;omega⟩⟩
 | succ n ihn =>
  intro j hj hd hjn
  by_cases hed:∀ e∈BA ops j,dOf Af e=true
  ·exact⟨j,by omega,(BE hs).2 ⟨by omega,hd,hed⟩⟩
  ·have:∃ e,e∈BA ops j∧dOf Af e=false:=by
    apply Classical.byContradiction;intro hno;refine hed fun e he=>?_
    cases hde:dOf Af e with
    | true=>rfl
    | false=>exact(hno ⟨e,he,hde⟩).elim
   obtain⟨e,he,hde⟩:=this;have:=h.edge j (by omega) e he;obtain⟨i,h1,h2⟩:=ihn e (by omega) hde (by omega);exact⟨i,by omega,h2⟩
theorem UR{st:St}{f:Nat}:∀ {F:List Nat},neut X ops st F→f∈F→A9 X ops (Mq ops f) (fun st'=>IS st' st.tmps∧FR st' st.Al) st
 |_::_,h,hm=>by
  rcases List.mem_cons.1 hm with rfl|hm
  ·exact h.1
  ·exact UR h.2 hm
theorem WA(hA:A.ext=X.ext)(hX:∀ s∈X.ext,s%64=63)(hN:∀ o∈ops,Ic N o=true)(hr:Q5 ops k tab F){Q:Exit→Act→World→Prop}{K:St→Prop}(hQ:∀ g st a w,R X.C A N g st a w→K st→Q .normal a w) :
 ∀ (fuel i:Nat) (Af:Array Bool) (g:Gh) (st:St) (a:Act) (w:World),Af.size=ops.size→unl Af≤fuel→Closed ops (dOf Af)→k≤i→i≤ops.size→(∀ j,j<ops.size→j∉F→dOf Af j=decide (j<i)) →
 Wz X ops F K (ops.toList.drop i) st→R X.C A N g st a w→wpAny X.C.P .any ops Q fuel Af a w:=by
 intro fuel
 induction fuel with
 | zero =>
  intro i Af g st a w hs hu hc hk hi hd h hR;have hin:i=ops.size:=by
   rcases Nat.lt_or_ge i ops.size with hlt|hge
   ·have:=G4 (by omega) (by omega:i<Af.size);rw[hd i hlt (fun hf=>by have:=hr.small i hf;omega)]at this;simp at this
   ·omega
  subst hin;rw[List.drop_eq_nil_of_le (by simp)]at h;refine⟨?_,hQ g st a w hR h.2⟩;cases hrd:Region.ready .any ops Af with
  | nil=>rfl
  | cons j l =>
   have hj:j∈Region.ready .any ops Af:=by rw[hrd];simp
   have h1:=(BE hs).1 hj;have:=G4 (by omega) (by omega:j<Af.size);rw[h1.2.1]at this;cases this
 | succ fuel ih =>
  intro i Af g st a w hs hu hc hk hi hd h hR;have hne:neut X ops st F:=by
   cases hdr:ops.toList.drop i with
   | nil=>rw[hdr]at h;exact h.1
   | cons o l=>rw[hdr]at h;exact h.1
  constructor
  ·intro h0;have hall:∀ j,j<ops.size→dOf Af j=true:=fun j hj=>by
    cases hdj:dOf Af j with
    | true=>rfl
    | false =>
     obtain⟨i',_,h2⟩:=K3 hr hs j j hj hdj (Nat.le_refl _);rw[h0]at h2;cases h2
   have hin:i=ops.size:=by
    rcases Nat.lt_or_ge i ops.size with hlt|hge
    ·have h1:=hall i hlt;rw[hd i hlt (fun hf=>by have:=hr.small i hf;omega)]at h1;simp at h1
    ·omega
   subst hin;rw[List.drop_eq_nil_of_le (by simp)]at h;exact hQ g st a w hR h.2
  ·intro j hj;obtain⟨h1,h2,h3⟩:=(BE hs).1 hj;have ho:ops[j]?=some ops[j]:=Array.getElem?_eq_getElem h1;have hunl:=Hz (by omega:j<Af.size) h2;have hc':Closed ops (dOf (Af.setIfInBounds j true)):=by rw[Em (by omega)];exact Jy hc h3
   by_cases hjF:j∈F
   ·have hop:=UR hne hjF;simp only[Mq,ho,A9]at hop;refine Nk hA hX ho (fun g' st' a' w' hR' hK'=>?_) (hN _ (Array.getElem_mem h1)) hop hR;refine ih i _ g' st a' w' (by simp[hs]) (by omega) hc' hk hi (fun q hq hqF=>?_) h (hR'.Am hK'.1 hK'.2);rw[Em (by omega)];have:q≠j:=fun e=>hqF (e▸hjF)
    simp only[G7,this,if_false];exact hd q hq hqF
   ·have hji:j=i:=by
     rw[hd j h1 hjF]at h2;have hge:i≤j:=by simpa using h2
     rcases Nat.lt_or_ge i j with hlt|hle
     ·have hiF:i∉F:=fun hf=>by have:=hr.small i hf;omega
      have:=(hr.tail j h1 (by omega) i hlt).resolve_left hiF;have:=hr.closed hc j h1 h3 i this;rw[hd i (by omega) hiF]at this;simp at this
     ·omega
    subst hji;rw[List.drop_eq_getElem_cons (by simpa using h1)]at h;have hop:=h.2;have e:ops.toList[j]'(by simpa using h1)=ops[j]:=by simp
    rw[e]at hop;simp only[A9]at hop;refine Nk hA hX ho (fun g' st' a' w' hR' hK'=>?_) (hN _ (Array.getElem_mem h1)) hop hR;refine ih (j+1) _ g' st' a' w' (by simp[hs]) (by omega) hc' (by omega) (by omega) (fun q hq hqF=>?_) hK' hR';rw[Em (by omega)];simp only[G7];split
    ·rename_i e;subst e;simp
    ·rename_i e;rw[hd q hq hqF];congr 1;simp;omega
theorem RW{all all':Array Oper}{Al:List (Nat × List AV)}{K:St→Prop}:∀ (os:List Oper) (tb:List (List Nat × List Nat)) (i:Nat) (cr:List (Nat × List Nat × List Nat)) (st:St),(∀ o∈os,o.guard=none)→E4 X all Al os tb i cr K st→E4 X all' Al os tb i cr K st
 |[],_,_,_,_,_,h=>h
 |_::_,[],_,_,_,_,h=>h
 | o::os,(p,ts)::tb,i,cr,st,hg,h=>by
  simp only[E4,hg o (by simp)]at h ⊢;exact h.mono fun e he=>⟨he.1,RW os tb (i+1) _ _ (fun o' ho'=>hg o' (by simp[ho'])) he.2⟩
theorem XM(hA:A.ext=X.ext)(hX:∀ s∈X.ext,s%64=63)(hN:∀ o∈ops,Ic N o=true)(hr:Q5 ops k tab F)(hv:Valid X (D0 ops k) tab st0 res k)(hdst:∀ j,j<k→(D1 (D0 ops k) j).isSome=true){Q:Exit→Act→World→Prop}{K:St→Prop}(hQ:∀ g st a w,R X.C A N g st a w→K st→Q .normal a w)
 {keep:List Nat} (hkeep:∀ t∈keep,t∉F.filterMap (D1 ops)) (htail:Wz X ops F K (ops.toList.drop k) ⟨restr (canon (D0 ops k) res st0 k) keep,st0.Al⟩):∀ (fuel:Nat) (Af:Array Bool) (g:Gh) (a:Act) (w:World),Af.size=ops.size→unl Af≤fuel→Closed ops (dOf Af)→(∀ j,j<ops.size→dOf Af j=true→j<k) →
 R X.C A N g (stD (D0 ops k) res st0 (dOf Af) k) a w→wpAny X.C.P .any ops Q fuel Af a w:=by
 have hk:=hr.le;have hN':∀ o∈D0 ops k,∀ d,o.dst=some d→d<N:=fun o ho d hd=>by
  have:=hN o (by simp only[D0,List.mem_toArray]at ho;simpa using List.mem_of_mem_take ho);simpa [Ic,hd]using this
 have low:∀ (fuel:Nat) (Af:Array Bool) (g:Gh) (a:Act) (w:World),Af.size=ops.size→unl Af≤fuel→Closed ops (dOf Af)→(∀ j,j<ops.size→dOf Af j=true→j<k)→(∀ j,j<k→j∉F→dOf Af j=true)→R X.C A N g (stD (D0 ops k) res st0 (dOf Af) k) a w→wpAny X.C.P .any ops Q fuel Af a w:=by
  intro fuel Af g a w hs hu hc hlt hall hR;refine WA hA hX hN hr hQ fuel k Af g _ a w hs hu hc (Nat.le_refl _) hk (fun j hj hjF=>?_) htail (hR.le' (fun t x hx=>?_) fun s cs hs=>Oj hv hs k (Nat.le_refl _))
  ·cases hd:dOf Af j with
   | true=>simp[hlt j hj hd]
   | false =>
    have:¬ j<k:=fun h=>by rw[hall j h hjF]at hd;cases hd
    simp[this]
  ·obtain⟨h1,h2⟩:=KO hx
   replace h1:=hkeep _ h1
   simp only[stD,canon]at h2 ⊢;rw[← h2];refine Qy k fun j hj hdj=>?_
   refine hall j hj fun hjF=>h1 ?_
   rw[List.mem_filterMap];exact⟨j,hjF,by rw[← Pr hj];exact hdj⟩
 intro fuel
 induction fuel with
 | zero =>
  intro Af g a w hs hu hc hlt hR;exact low 0 Af g a w hs hu hc hlt (fun j hj _=>G4 (by omega) (by omega)) hR
 | succ fuel ih =>
  intro Af g a w hs hu hc hlt hR
  by_cases hall:∀ j,j<k→j∉F→dOf Af j=true
  ·exact low _ Af g a w hs hu hc hlt hall hR
  ·have hc2:Closed (D0 ops k) (dOf Af):=fun i hi hD e he=>by
    have hik:i<k:=by have:(D0 ops k).size=k:=by simp[D0];omega
                     omega
    rw[Lf hik]at he;exact hc i (by omega) hD e he
   have step:∀ i∈Region.ready .any ops Af,wpOp X.C.P ops Q i (wpAny X.C.P .any ops Q fuel (Af.setIfInBounds i true)) a w:=fun i hi=>by
    obtain⟨h1,h2,h3⟩:=(BE hs).1 hi;have hp:=hr.closed hc i h1 h3;have hik:i<k:=by
     rcases Nat.lt_or_ge i k with h|h
     ·exact h
     ·exact(hall fun j hj hjF=>hp j ((hr.tail i h1 h j (by omega)).resolve_left hjF)).elim
    refine Vu hr hik (N2 hA hX hN' hr.cut hv hdst hc2 hik h2 hp hR fun g' a' w' hR'=>?_);rw[← Em (by omega)]at hR';refine ih _ g' a' w' (by simp[hs]) (by have:=Hz (by omega:i<Af.size) h2;omega) (by rw[Em (by omega)];exact Jy hc h3) (fun j hj hD=>?_) hR';rw[Em (by omega)]at hD;simp only[G7]at hD;split at hD
    ·rename_i e;omega
    ·exact hlt j hj hD
   refine⟨fun h0=>?_,step⟩;have hex:∃ j,j<k∧dOf Af j=false:=by
    apply Classical.byContradiction;intro hno;refine hall fun j hj _=>?_
    cases hd:dOf Af j with
    | true=>rfl
    | false=>exact(hno ⟨j,hj,hd⟩).elim
   obtain⟨j,hj,hd⟩:=hex;obtain⟨i,_,hi⟩:=K3 hr hs j j (by omega) hd (Nat.le_refl _);rw[h0]at hi;cases hi
end
theorem P8{X:Env}{ops:List Oper}{K:St→Prop}{st:St}(k:Nat)(tab:List (List Nat × List Nat))(F keep:List Nat)(hm:X.C.P.follows .mixedOrders=true)(hok:(Ws ops.toArray k tab F&&keep.all fun t=>!(F.filterMap (D1 ops.toArray)).contains t)=true)
 (h:A8 X ops.toArray st.Al (ops.take k) tab 0 (fun stf=>Wz X ops.toArray F K (ops.drop k) ⟨restr stf keep,st.Al⟩) [] st):IX X ops.toArray K st:=by
 intro A N g a w hA hN hX hR id Q hQ;rw[Bool.and_eq_true]at hok;have hr:=Ws.spec hok.1;have hkeep:∀ t∈keep,t∉F.filterMap (D1 ops.toArray):=fun t ht=>by
  have:=List.all_eq_true.1 hok.2 t ht;simpa using this
 have hk:=hr.le;have hsz:ops.toArray.size=ops.length:=by simp
 have hlen:(ops.take k).length=k:=by simp;omega
 have hN2:∀ o∈ops.toArray,Ic N o=true:=fun o ho=>by
  unfold Ic;cases hd:o.dst with
  |none=>rfl
  |some d=>simp;exact hN o ho d hd
 have hf:=RW (all':=D0 ops.toArray k) _ _ _ _ _ (fun o ho=>hr.guard o (by simpa using List.mem_of_mem_take ho)) (GS _ _ _ _ _ h);obtain⟨res,hv,hK⟩:=KG (X:=X) (st0:=st) (ops:=D0 ops.toArray k) (tab:=tab) (ops.take k) tab 0 [] (fun _=>⟨.undef,[],[],[]⟩) (fun j o hj=>by simpa [D0]using hj) (fun j q hj=>by simpa using hj) ⟨fun i hi=>by omega,fun i hi=>by omega,fun i hi=>by omega,fun i hi=>by omega,fun i j _ hj=>by omega⟩ (fun i hi=>by omega) hf;rw[hlen,Nat.zero_add]at hv hK;have hdst:∀ j,j<k→(D1 (D0 ops.toArray k) j).isSome=true:=fun j hj=>by
  obtain⟨o,ho,hd,_⟩:=hv.op j hj;simpa [D1,ho]using hd
 refine wp_region_any hm (XM hA hX hN2 hr hv hdst hQ hkeep (by simpa using hK) ops.toArray.size (Array.replicate ops.toArray.size false) g a _ (by simp) (by simp[unl]) ?_ ?_ ?_)
 ·intro i hi hD;have:i<ops.length:=by simpa using hi
  simp[dOf,Array.getD,this]at hD
 ·intro j hj hD;have:j<ops.length:=by simpa using hj
  simp[dOf,Array.getD,this]at hD
 ·have e:stD (D0 ops.toArray k) res st (dOf (Array.replicate ops.toArray.size false)) k=st:=by
   have hf:∀ j,j<k→dOf (Array.replicate ops.toArray.size false) j=false:=fun j hj=>by
    have:j<ops.length:=by omega
    simp[dOf,Array.getD,this]
   have h1:tmD (D1 (D0 ops.toArray k)) res (dOf (Array.replicate ops.toArray.size false)) st.tmps k=st.tmps:=by
    rw[NF (i:=0) k (by omega) fun j _ hj=>hf j hj];rfl
   have h2:∀ n,n≤k→obD res (dOf (Array.replicate ops.toArray.size false)) st.Al n=st.Al:=fun n=>by
    induction n with
    | zero=>intro _;rfl
    | succ n ih=>intro hn;simp only[obD,hf n (by omega),Bool.false_eq_true,if_false];exact ih (by omega)
   simp only[stD,h1,h2 k (Nat.le_refl _)]
  rw[e];exact hR.drew
theorem Z8(X:Env)(ops:Array Oper)(F:List Nat)(K:St→Prop)(st:St):Wz X ops F K [] st=(neut X ops st F∧K st):=nd rfl
theorem Yr(X:Env)(ops:Array Oper)(F:List Nat)(K:St→Prop)(o:Oper)(os:List Oper)(st:St):Wz X ops F K (o::os) st=(neut X ops st F∧A9 X ops [o] (Wz X ops F K os) st):=nd rfl
theorem ZJ(X:Env)(ops:Array Oper)(st:St):neut X ops st []=True:=nd rfl
theorem Ye(X:Env)(ops:Array Oper)(st:St)(f:Nat)(F:List Nat):neut X ops st (f::F)=(A9 X ops (Mq ops f) (fun st'=>IS st' st.tmps∧FR st' st.Al) st∧neut X ops st F):=nd rfl
attribute [go_sem] Z8 Yr ZJ Ye
end Go.Abs
namespace Go.Abs
def Sz:List Nat→List (List Nat)
 |[]=>[[]]
 | f::F=>Sz F++(Sz F).map (f::·)
theorem OU(p:Nat→Bool):∀ F:List Nat,F.filter p∈Sz F
 |[]=>by simp[Sz]
 | f::F=>by
  have ih:=OU p F;simp only[List.filter_cons,Sz,List.mem_append,List.mem_map];split
  ·exact .inr ⟨_,ih,rfl⟩
  ·exact .inl ih
def Y1(k:Nat)(F G:List Nat):List Nat:=(List.range k).filter fun j=>!F.contains j||G.contains j
def Iz(o:Oper):Bool:=match o.op with
 |.move _=>true
 |.extract _ _=>true
 |.nilCheck _=>true
 |.fieldAddr _ _ _=>true
 |.load _ _=>true
 |_=>false
def Xo(ops:Array Oper)(F:List Nat):Bool:=F.all fun f=>match ops[f]? with
 |some o=>Iz o
 |none=>false
def Qj(X:Env)(Al:List (Nat × List AV)):List Oper→List (List Nat × List Nat)→Nat→List (Nat × List Nat × List Nat)→(St→Prop)→St→Prop
 |[],_,_,_,K,st=>K st
 |_::_,[],_,_,_,_=>False
 | o::os,(p,ts)::tab,i,cr,K,st=>JF X o ⟨restr st ts,Al⟩ st p cr fun e=>(Iz o=true→e.FL=[])∧o.dst.isSome=true∧Qj X Al os tab (i+1) (G8 i e cr) K ⟨(St.put o.dst e.x st).tmps,e.FL++st.Al⟩
theorem ZZ(d:Option Nat)(x:AV)(st:St):(St.put d x st).Al=st.Al:=by cases d<;>rfl
theorem VW{X:Env}{o:Oper}{Al:List (Nat × List AV)}{r st:St}{p:List Nat}{i:Nat}{cr:List (Nat × List Nat × List Nat)}{K:List (Nat × List Nat × List Nat)→St→Prop}(hs:Iz o=true)(h:Hb X o Al r p i cr K st) :
 Hb X o Al r p i cr (fun c s=>K c s∧s.Al.length=st.Al.length) st:=by
 have key:∀ v:Option AV,Et v p cr o.dst (K cr) st→Et v p cr o.dst ((fun c s=>K c s∧s.Al.length=st.Al.length) cr) st:=fun v hv=>by
  cases v with
  |none=>exact hv
  |some x=>exact⟨hv.1,hv.2,by rw[ZZ]⟩
 unfold Iz at hs;unfold Hb at h ⊢;split at hs
 ·rename_i a ho;rw[ho]at h ⊢;exact key _ h
 ·rename_i a b ho;rw[ho]at h ⊢;exact key _ h
 ·rename_i a ho;rw[ho]at h ⊢;exact key _ h
 ·rename_i a b c ho;rw[ho]at h ⊢;exact key _ h
 ·rename_i a b ho;rw[ho]at h ⊢;exact key _ h
 ·cases hs
theorem S4{X:Env}{all:Array Oper}{Al:List (Nat × List AV)}{K:St→Prop}:∀ (os:List Oper) (tab:List (List Nat × List Nat)) (i:Nat) (cr:List (Nat × List Nat × List Nat)) (st:St),(∀ o∈os,o.guard=none)→A8 X all Al os tab i K cr st→Qj X Al os tab i cr K st
 |[],_,_,_,_,_,h=>h
 |_::_,[],_,_,_,_,h=>h
 | o::os,(p,ts)::tab,i,cr,st,hg,h=>by
  simp only[A8,hg o (by simp)]at h;obtain⟨hd,h⟩:=h;simp only[Qj];cases hs:Iz o
  ·exact(N0 rfl hd h).mono fun e he=>⟨(fun e=>by cases e),he.1,S4 os tab (i+1) _ _ (fun o' ho'=>hg o' (by simp[ho'])) he.2⟩
  ·refine(N0 rfl hd (VW hs h)).mono fun e he=>⟨fun _=>?_,he.1,S4 os tab (i+1) _ _ (fun o' ho'=>hg o' (by simp[ho'])) he.2.1⟩
   have:=he.2.2;simp only[List.length_append]at this;exact List.eq_nil_of_length_eq_zero (by omega)
def closedIn(ops:Array Oper)(F G:List Nat):Bool:=G.all fun g=>(BA ops g).all fun e=>!F.contains e||G.contains e
def Wk(ops:Array Oper)(k:Nat)(F:List Nat)(ss:List (List Nat × List Nat × OT)):Bool :=
 Lj ops&&Xo ops F&&(Sz F).all fun G=>!closedIn ops F G||ss.any fun s=>s.1==G&&okT ops (Y1 k F G) s.2.2&&s.2.1.all fun t=>!((F.filter fun f=>!G.contains f).filterMap (D1 ops)).contains t
def wpS(X:Env)(ops:Array Oper)(K:St→Prop):List (List Nat × List Nat × OT)→St→Prop
 |[],_=>True
 |(_,keep,t)::ss,st=>wpT X ops K t ⟨restr st keep,st.Al⟩∧wpS X ops K ss st
theorem Xh{X:Env}{ops:Array Oper}{K:St→Prop}{st:St}{s:List Nat × List Nat × OT}:∀ {ss:List (List Nat × List Nat × OT)},wpS X ops K ss st→s∈ss→wpT X ops K s.2.2 ⟨restr st s.2.1,st.Al⟩
 |(G,keep,t)::ss,h,hm=>by
  simp only[wpS]at h;rcases List.mem_cons.1 hm with rfl|hm
  ·exact h.1
  ·exact Xh h.2 hm
section
variable {X:Env} {A:A0} {N:Nat} {g:Gh} {st0:St} {a:Act} {w:World} {ops:Array Oper} {k:Nat} {tab:List (List Nat × List Nat)} {res:Nat→Res} {D:Nat→Bool} {F:List Nat}
theorem UT{base:List (Nat × List AV)}:∀ n,(∀ j,j<n→D j=true∨(res j).FL=[])→obD res D base n=obD res (fun _=>true) base n
 | 0,_=>rfl
 | n+1,h=>by
  have ih:=UT (base:=base) n fun j hj=>h j (by omega)
  simp only[obD,ih,if_true];rcases h n (by omega) with h1|h1
  ·rw[h1];rfl
  ·rw[h1];split<;>rfl
theorem OY{K:St→Prop}:∀ (os:List Oper) (tb:List (List Nat × List Nat)) (n:Nat) (cr:List (Nat × List Nat × List Nat)) (res:Nat→Res),(∀ j o,os[j]?=some o→ops[n+j]?=some o)→(∀ j q,tb[j]?=some q→tab[n+j]?=some q)→(∀ o∈os,o.guard=none) →
 Valid X ops tab st0 res n→TB res n cr→(∀ j o,j<n→ops[j]?=some o→Iz o=true→(res j).FL=[])→Qj X st0.Al os tb n cr K (canon ops res st0 n) →
 ∃ res',Valid X ops tab st0 res' (n+os.length)∧(∀ j o,j<n+os.length→ops[j]?=some o→Iz o=true→(res' j).FL=[])∧K (canon ops res' st0 (n+os.length))
 |[],tb,n,cr,res,_,_,_,hv,_,hs,h=>⟨res,hv,hs,by simp only[Qj]at h;simpa using h⟩
 |_::_,[],_,_,_,_,_,_,_,_,_,h=>by simp[Qj]at h
 | o::os,(p,ts)::tb,n,cr,res,ho,ht,hg,hv,hc,hs,h=>by
  have ho0:ops[n]?=some o:=ho 0 o rfl;have ht0:tab[n]?=some (p,ts):=ht 0 (p,ts) rfl;have hp:Dx tab n=p:=by simp[Dx,List.getD,ht0]
  have hr:Hm tab n=ts:=by simp[Hm,List.getD,ht0]
  have hos:∀ j o',os[j]?=some o'→ops[n+1+j]?=some o':=fun j o' hj=>by
   have:=ho (j+1) o' (by simpa using hj)
   rwa [show n+(j+1)=n+1+j by omega]at this
  have htb:∀ j q,tb[j]?=some q→tab[n+1+j]?=some q:=fun j q hj=>by
   have:=ht (j+1) q (by simpa using hj)
   rwa [show n+(j+1)=n+1+j by omega]at this
  have hlen:n+(o::os).length=n+1+os.length:=by simp;omega
  rw[hlen];simp only[Qj]at h;obtain⟨e,h1,h2,h3,h4,h5,h6,hu,hd,hf⟩:=h;refine OY os tb (n+1) _ _ hos htb (fun o' ho'=>hg o' (by simp[ho'])) (hv.snoc e ho0 hd (.inl ⟨.inl (hg o (by simp)),by rw[hr];exact h1⟩) h2 h3 ⟨h4,h5⟩ (by rw[hp];exact hc.away h6)) (hc.snoc e) (fun j o' hj hjo hjs=>?_) (by rw[PT ho0 hd];exact hf);unfold EN;split
  ·rename_i hjn;subst hjn;rw[ho0]at hjo;have:=Option.some.inj hjo;subst this;exact hu hjs
  ·exact hs j o' (by omega) hjo hjs
theorem XN(hA:A.ext=X.ext)(hX:∀ s∈X.ext,s%64=63)(hN:Xk N ops)(hr:Q5 ops k tab F)(hv:Valid X (D0 ops k) tab st0 res k)(hdst:∀ j,j<k→(D1 (D0 ops k) j).isSome=true){Q:Exit→Act→World→Prop}{K:St→Prop}(hQ:∀ g st a w,R X.C A N g st a w→K st→Q .normal a w)
 {ss:List (List Nat × List Nat × OT)} (hok:Wk ops k F ss=true) (hupd:∀ j o,j<k→(D0 ops k)[j]?=some o→Iz o=true→(res j).FL=[]) (htail:wpS X ops K ss (canon (D0 ops k) res st0 k)):∀ (fuel:Nat) (Af:Array Bool) (g:Gh) (a:Act) (w:World),Af.size=ops.size→unl Af≤fuel→Closed ops (dOf Af)→(∀ j,j<ops.size→dOf Af j=true→j<k) →
 R X.C A N g (stD (D0 ops k) res st0 (dOf Af) k) a w→wpAny X.C.P .any ops Q fuel Af a w:=by
 have hk:=hr.le;have hN':∀ o∈D0 ops k,∀ d,o.dst=some d→d<N:=fun o ho d hd=>by
  have:=hN.1 o (by simp only[D0,List.mem_toArray]at ho;simpa using List.mem_of_mem_take ho);simpa [Ic,hd]using this
 have low:∀ (fuel:Nat) (Af:Array Bool) (g:Gh) (a:Act) (w:World),Af.size=ops.size→unl Af≤fuel→Closed ops (dOf Af)→(∀ j,j<ops.size→dOf Af j=true→j<k)→(∀ j,j<k→j∉F→dOf Af j=true)→R X.C A N g (stD (D0 ops k) res st0 (dOf Af) k) a w→wpAny X.C.P .any ops Q fuel Af a w:=by
  intro fuel Af g a w hs hu hc hlt hall hR;simp only[Wk,Bool.and_eq_true,List.all_eq_true]at hok;have h1:=hok.2 (F.filter (dOf Af)) (OU _ F);have hcl:closedIn ops F (F.filter (dOf Af))=true:=by
   unfold closedIn;rw[List.all_eq_true];intro g hg;rw[List.all_eq_true];intro e he;rw[List.mem_filter]at hg
   by_cases hF:e∈F
   ·have h5:=hc g (by have:=hr.small g hg.1;omega) hg.2 e he;simp[hF,h5]
   ·simp[hF]
  rw[hcl,Bool.not_true,Bool.false_or]at h1;simp only[List.any_eq_true,Bool.and_eq_true,List.all_eq_true,beq_iff_eq,Bool.not_eq_true']at h1;obtain⟨s,hsm,⟨hs1,hs2⟩,hs3⟩:=h1;have hw:=Xh htail hsm;have hobj:(canon (D0 ops k) res st0 k).Al=(stD (D0 ops k) res st0 (dOf Af) k).Al:=by
   refine(UT k fun j hj=>?_).symm
   by_cases hjF:j∈F
   ·right;have hm:=List.all_eq_true.1 hok.1.2 j hjF;cases ho:ops[j]? with
    |none=>rw[ho]at hm;cases hm
    |some o=>rw[ho]at hm;exact hupd j o hj (by rw[Ps hj];exact ho) hm
   ·exact .inl (hall j hj hjF)
  refine L5 hA hX hN hQ s.2.2 fuel (Y1 k F (F.filter (dOf Af))) Af g _ a w hs hu (fun j hj=>?_) hs2 hw (hR.le' (fun t x hx=>?_) fun s cs hs=>hobj▸hs)
  ·rw[Bool.eq_iff_iff];simp only[Y1,List.contains_iff_mem,List.mem_filter,List.mem_range,Bool.or_eq_true,Bool.not_eq_true',← Bool.not_eq_true];constructor
   ·intro hd;refine⟨hlt j hj hd,?_⟩
    by_cases hjF:j∈F
    ·exact .inr ⟨hjF,hd⟩
    ·exact .inl hjF
   ·rintro⟨h1,h2|h2⟩
    ·exact hall j h1 h2
    ·exact h2.2
  ·obtain⟨h1,h2⟩:=KO hx;have h3:=hs3 t h1;simp only[stD,canon]at h2 ⊢;rw[← h2];refine Qy k fun j hj hdj=>?_
   cases hd:dOf Af j with
   | true=>rfl
   | false =>
    exfalso;have hjF:j∈F:=by
     apply Classical.byContradiction;intro hjF;rw[hall j hj hjF]at hd;cases hd
    have hm:t∈(F.filter fun f=>!(F.filter (dOf Af)).contains f).filterMap (D1 ops):=by
     rw[List.mem_filterMap];refine⟨j,?_,by rw[← Pr hj];exact hdj⟩;rw[List.mem_filter];refine⟨hjF,?_⟩;simp[hd]
    have h4:((F.filter fun f=>!(F.filter (dOf Af)).contains f).filterMap (D1 ops)).contains t=true:=by simpa using hm
    rw[h4]at h3;cases h3
 intro fuel
 induction fuel with
 | zero =>
  intro Af g a w hs hu hc hlt hR;exact low 0 Af g a w hs hu hc hlt (fun j hj _=>G4 (by omega) (by omega)) hR
 | succ fuel ih =>
  intro Af g a w hs hu hc hlt hR
  by_cases hall:∀ j,j<k→j∉F→dOf Af j=true
  ·exact low _ Af g a w hs hu hc hlt hall hR
  ·have hc2:Closed (D0 ops k) (dOf Af):=fun i hi hD e he=>by
    have hik:i<k:=by have:(D0 ops k).size=k:=by simp[D0];omega
                     omega
    rw[Lf hik]at he;exact hc i (by omega) hD e he
   have step:∀ i∈Region.ready .any ops Af,wpOp X.C.P ops Q i (wpAny X.C.P .any ops Q fuel (Af.setIfInBounds i true)) a w:=fun i hi=>by
    obtain⟨h1,h2,h3⟩:=(BE hs).1 hi;have hp:=hr.closed hc i h1 h3;have hik:i<k:=by
     rcases Nat.lt_or_ge i k with h|h
     ·exact h
     ·exact(hall fun j hj hjF=>hp j ((hr.tail i h1 h j (by omega)).resolve_left hjF)).elim
    refine Vu hr hik (N2 hA hX hN' hr.cut hv hdst hc2 hik h2 hp hR fun g' a' w' hR'=>?_);rw[← Em (by omega)]at hR';refine ih _ g' a' w' (by simp[hs]) (by have:=Hz (by omega:i<Af.size) h2;omega) (by rw[Em (by omega)];exact Jy hc h3) (fun j hj hD=>?_) hR';rw[Em (by omega)]at hD;simp only[G7]at hD;split at hD
    ·rename_i e;omega
    ·exact hlt j hj hD
   refine⟨fun h0=>?_,step⟩;have hex:∃ j,j<k∧dOf Af j=false:=by
    apply Classical.byContradiction;intro hno;refine hall fun j hj _=>?_
    cases hd:dOf Af j with
    | true=>rfl
    | false=>exact(hno ⟨j,hj,hd⟩).elim
   obtain⟨j,hj,hd⟩:=hex;obtain⟨i,_,hi⟩:=K3 hr hs j j (by omega) hd (Nat.le_refl _);rw[h0]at hi;cases hi
end
theorem IY{X:Env}{ops:List Oper}{K:St→Prop}{st:St}(k:Nat)(tab:List (List Nat × List Nat))(F:List Nat)(ss:List (List Nat × List Nat × OT))(hm:X.C.P.follows .mixedOrders=true)(hok:(Ws ops.toArray k tab F&&Wk ops.toArray k F ss)=true)
 (h:A8 X ops.toArray st.Al (ops.take k) tab 0 (wpS X ops.toArray K ss) [] st):IX X ops.toArray K st:=by
 intro A N g a w hA hN hX hR id Q hQ;rw[Bool.and_eq_true]at hok;have hr:=Ws.spec hok.1;have hk:=hr.le;have hsz:ops.toArray.size=ops.length:=by simp
 have hlen:(ops.take k).length=k:=by simp;omega
 have hN2:Xk N ops.toArray:=by
  refine⟨fun o ho=>?_,fun i hi e he=>?_⟩
  ·unfold Ic;cases hd:o.dst with
   |none=>rfl
   |some d=>simp;exact hN o ho d hd
  ·have:=hr.edge i hi e he;omega
 have hf:=S4 _ _ _ _ _ (fun o ho=>hr.guard o (by simpa using List.mem_of_mem_take ho)) h;obtain⟨res,hv,hup,hK⟩:=OY (X:=X) (st0:=st) (ops:=D0 ops.toArray k) (tab:=tab) (ops.take k) tab 0 [] (fun _=>⟨.undef,[],[],[]⟩) (fun j o hj=>by simpa [D0]using hj) (fun j q hj=>by simpa using hj) (fun o ho=>hr.guard o (by simpa using List.mem_of_mem_take ho)) ⟨fun i hi=>by omega,fun i hi=>by omega,fun i hi=>by omega,fun i hi=>by omega,fun i j _ hj=>by omega⟩ (fun i hi=>by omega) (fun j o hj=>by omega) hf;rw[hlen,Nat.zero_add]at hup;rw[hlen,Nat.zero_add]at hv hK;have hdst:∀ j,j<k→(D1 (D0 ops.toArray k) j).isSome=true:=fun j hj=>by
  obtain⟨o,ho,hd,_⟩:=hv.op j hj;simpa [D1,ho]using hd
 refine wp_region_any hm (XN hA hX hN2 hr hv hdst hQ hok.2 hup hK ops.toArray.size (Array.replicate ops.toArray.size false) g a _ (by simp) (by simp[unl]) ?_ ?_ ?_)
 ·intro i hi hD;have:i<ops.length:=by simpa using hi
  simp[dOf,Array.getD,this]at hD
 ·intro j hj hD;have:j<ops.length:=by simpa using hj
  simp[dOf,Array.getD,this]at hD
 ·have e:stD (D0 ops.toArray k) res st (dOf (Array.replicate ops.toArray.size false)) k=st:=by
   have hf:∀ j,j<k→dOf (Array.replicate ops.toArray.size false) j=false:=fun j hj=>by
    have:j<ops.length:=by omega
    simp[dOf,Array.getD,this]
   have h1:tmD (D1 (D0 ops.toArray k)) res (dOf (Array.replicate ops.toArray.size false)) st.tmps k=st.tmps:=by
    rw[NF (i:=0) k (by omega) fun j _ hj=>hf j hj];rfl
   have h2:∀ n,n≤k→obD res (dOf (Array.replicate ops.toArray.size false)) st.Al n=st.Al:=fun n=>by
    induction n with
    | zero=>intro _;rfl
    | succ n ih=>intro hn;simp only[obD,hf n (by omega),Bool.false_eq_true,if_false];exact ih (by omega)
   simp only[stD,h1,h2 k (Nat.le_refl _)]
  rw[e];exact hR.drew
theorem bN(X:Env)(ops:Array Oper)(K:St→Prop)(st:St):wpS X ops K [] st=True:=nd rfl
theorem ax(X:Env)(ops:Array Oper)(K:St→Prop)(G keep:List Nat)(t:OT)(ss:List (List Nat × List Nat × OT))(st:St):wpS X ops K ((G,keep,t)::ss) st=(wpT X ops K t ⟨restr st keep,st.Al⟩∧wpS X ops K ss st):=nd rfl
attribute [go_sem] bN ax
end Go.Abs
open Go Go.Abs Go.Proofs
set_option maxRecDepth 100000
namespace Go.Rd
set_option maxHeartbeats 8000000
open List (length_take take_add_one take_length)
open Option (toList_some)
open Tryz
@[reducible] def Ib:AV:=.v (.slice none 0 0)
theorem f58_ok(s:WS)(p:Ae)(h:Few s)(hg:Cm s):Ad C0 58 [.agg s.c,.agg p.c] [] (.agg (BP s p).c) []:=by
 have hn1:=h.nq;have hn2:=h.nn;refine Ad.go f58 ?_;unfold f58;refine gO ?_;refine Ab (α:=Nat) (fun i=>⟨[(6,I i),(2,.ptr 128 0),(3,.ptr 192 0),(5,.ptr 320 0),(4,.ptr 256 0)],[(128,s.c),(192,p.c),(256,[Ib,Ib]),(320,[.sl (.own 2688 0) 8 (((s.Aa.take i).map fun q=>Cd q p).map Queue.c),Ib])]⟩) (fun i=>i≤(s.Aa).length∧True) (fun i=>(s.Aa).length-i) 0 ⟨by omega,trivial⟩ ?_ ?_
 ·exact BB
 rintro i ⟨hi,hP⟩ J hJ;refine gO ?_;refine ⟨fun hlt=>?_,fun hge=>?_⟩;rotate_left;have hil:i=(s.Aa).length:=by simp at hge;omega
 rotate_left;obtain⟨b,hb⟩:∃ b,(s.Aa)[i]?=some b:=⟨_,gE (by simp at hlt;omega)⟩;have hbm:=mG hb;have hlt2:i<(s.Aa).length:=by simp at hlt;omega
 simp(disch:=omega)only[go_sem,gm,hb]
 ·have ha:=h.aq b hbm;have hvb:=hg b hbm;have hbd:i+1≤4294967296:=by simp at hlt;omega
  have hbd':min i s.Aa.length+1≤4294967296:=by omega
  have fin:∀ q,Cd b p=q→∀ st',Imp ⟨C0,[],[]⟩ st' ⟨[(6,I (i+1:Nat)),(2,.ptr 128 0),(3,.ptr 192 0),(5,.ptr 320 0),(4,.ptr 256 0)],[(128,s.c),(192,p.c),(256,[Ib,Ib]),(320,[.sl (.own 2688 0) 8 (((s.Aa.take i).map fun q=>Cd q p).map Queue.c++[q.c]),Ib])]⟩→J st':=fun q hq st' h=>by
   refine hJ st' (i+1) ⟨by simp at hlt;omega,trivial⟩ (by simp at hlt;omega) ?_;have e:((s.Aa.take (i+1)).map fun q=>Cd q p).map Queue.c=((s.Aa.take i).map fun q=>Cd q p).map Queue.c++[q.c]:=by
    rw[take_add_one,hb];simp[hq]
   rw[e];exact h
  clear hJ;refine Ac (f109_ok b p (by omega)) ?_;rw[cg hvb p];cases hp:Be (Br b) p
  ·simp(disch:=omega)only[go_sem,List.length_map,length_take];refine fin b (by simp[Cd,hp]) _ (Imp.Am gI ?_);simp(disch:=omega)only[go_sem]
  refine gO ?_;refine Ac (f110_ok b p ha) ?_;have e:E9 b p=(Fh (B3 b p),(B1 (B3 b p)).2,0):=by simp[E9,hvb,hp]
  simp(disch:=omega)only[go_sem,e,List.length_map,length_take];refine fin { Fh (B3 b p) with gen:=b.gen } (by simp[Cd,hvb,hp]) _ (Imp.Am gI ?_);simp(disch:=omega)only[go_sem]
 subst hil;rw[take_length];clear hJ;refine Ab (α:=Nat) (fun i=>⟨[(11,I i),(2,.ptr 128 0),(3,.ptr 192 0),(5,.ptr 320 0),(4,.ptr 256 0)],[(128,s.c),(192,p.c),(256,[Ib,Ib]),(320,[.sl (.own 2688 0) 8 ((s.Aa.map fun q=>Cd q p).map Queue.c),.sl (.own 4288 0) 9 ((Jf (s.Ao.take i) p).map Need.c)])]⟩) (fun i=>i≤(s.Ao).length∧True) (fun i=>(s.Ao).length-i) 0 ⟨by omega,trivial⟩ ?_ ?_
 ·exact BB
 rintro i ⟨hi,hP⟩ J hJ;refine gO ?_;refine ⟨fun hlt=>?_,fun hge=>?_⟩;rotate_left;have hil:i=(s.Ao).length:=by simp at hge;omega
 rotate_left;obtain⟨b,hb⟩:∃ b,(s.Ao)[i]?=some b:=⟨_,gE (by simp at hlt;omega)⟩;have hbm:=mG hb;have hlt2:i<(s.Ao).length:=by simp at hlt;omega
 refine Aq 7 [([],[2]),([],[51]),([],[11]),([],[52,53]),([],[54]),([],[55]),([],[3])] fol ?_;simp(disch:=omega)only[go_sem,gm,hb]
 ·have hbd:(Jf (s.Ao.take i) p).length+1≤4294967296:=by
   have:(Jf (s.Ao.take i) p).length≤(s.Ao.take i).length:=List.length_filter_le _ _;rw[length_take]at this;omega
  have e1:Jf (s.Ao.take (i+1)) p=if b.proc=p then Jf (s.Ao.take i) p else Jf (s.Ao.take i) p++[b]:=by
   simp only[Jf,take_add_one,hb,toList_some,List.filter_append,List.filter_cons,List.filter_nil]
   by_cases h:b.proc=p<;>simp[h]
  by_cases hne:b.proc=p
  ·rw[if_pos hne]at e1;simp(disch:=omega)only[go_sem,hne,decide_true];refine hJ _ (i+1) ⟨by simp at hlt;omega,trivial⟩ (by simp at hlt;omega) (Imp.Am gI ?_);rw[e1];simp(disch:=omega)only[go_sem]
  ·rw[if_neg hne]at e1;simp(disch:=omega)only[go_sem,hne,decide_false];refine MU (let o0:OT:=.done;let o1:OT:=.pick [(10,o0)];let o2:OT:=.pick [(9,o1)];let o3:OT:=.pick [(8,o2)];let o4:OT:=.pick [(7,o3)];let o5:OT:=.pick [(6,o4)];let o6:OT:=.pick [(5,o5)];let o7:OT:=.pick [(4,o6)];let o8:OT:=.pick [(3,o6)];let o9:OT:=.pick [(3,o7),(4,o8)];let o10:OT:=.pick [(2,o8)];let o11:OT:=.pick [(2,o9),(4,o10)];let o12:OT:=.pick [(1,o3)];let o13:OT:=.pick [(1,o4),(7,o12)];let o14:OT:=.pick [(1,o5),(6,o13)];let o15:OT:=.pick [(1,o6),(5,o14)];let o16:OT:=.pick [(1,o7),(4,o15)];let o17:OT:=.pick [(1,o8),(3,o15)];let o18:OT:=.pick [(1,o9),(3,o16),(4,o17)];let o19:OT:=.pick [(1,o10),(2,o17)];let o20:OT:=.pick [(1,o11),(2,o18),(4,o19)];let o21:OT:=.pick [(0,o12)];let o22:OT:=.pick [(0,o13),(7,o21)];let o23:OT:=.pick [(0,o14),(6,o22)];let o24:OT:=.pick [(0,o15),(5,o23)];let o25:OT:=.pick [(0,o16),(4,o24)];let o26:OT:=.pick [(0,o17),(3,o24)];let o27:OT:=.pick [(0,o18),(3,o25),(4,o26)];let o28:OT:=.pick [(0,o19),(2,o26)];let o29:OT:=.pick [(0,o20),(2,o27),(4,o28)];o29) fol (by kernel_rfl) ?_;simp(disch:=omega)only[go_sem,gm,hb];have step:∀ st',Imp ⟨C0,[],[]⟩ st' ⟨[(11,I (i+1:Nat)),(2,.ptr 128 0),(3,.ptr 192 0),(5,.ptr 320 0),(4,.ptr 256 0)],[(128,s.c),(192,p.c),(256,[Ib,Ib]),(320,[.sl (.own 2688 0) 8 ((s.Aa.map fun q=>Cd q p).map Queue.c),.sl (.own 4288 0) 9 ((Jf (s.Ao.take i) p).map Need.c++[b.c])])]⟩→J st':=fun st' h=>by
    refine hJ st' (i+1) ⟨by simp at hlt;omega,trivial⟩ (by simp at hlt;omega) ?_;rw[e1,List.map_append];exact h
   clear hJ
   repeat'(with_reducible refine And.intro ?_ ?_)
   all_goals(refine step _ (Imp.Am ?_ ?_))
   all_goals(simp(disch:=omega)only[go_sem])
 ·subst hil;simp(disch:=omega)only[go_sem,take_length];refine Cf ⟨[],[],[2688,4288]⟩ _ ?_;simp(disch:=omega)only[go_sem,BP];exact .eq (by simp)
theorem Ox{s:WS}(hv:AD s=true):D5 s=BT s:=by simp[D5,hv]
theorem IE{s:WS}(hv:AD s=true):Bp s=DW s:=by simp[Bp,hv]
theorem f20_ok(s:WS)(h:Few s):Ad C0 20 [.agg s.c] [] (.tup [Ax (Bp s).1,Ax (Bp s).2]) []:=by
 refine Ad.go f20 ?_;unfold f20;refine gO ?_;refine Ac (f56_ok s h) ?_;cases hv:AD s
 ·have e:Bp s=([],[]):=by simp[Bp,hv]
  simp(disch:=omega)only[go_sem,e];exact EL _
 rw[IE hv];refine gO ?_;refine Ac (f57_ok s h) ?_;rw[Ox hv];refine gO ?_;refine Ab (α:=WS × List Ae) (fun x=>⟨[(5,Ax (BT x.1)),(4,.sl (.own 1344 0) 3 (x.2.map Ae.c)),(1,.ptr 64 0)],[(64,x.1.c)]⟩) (fun x=>Few x.1∧AD x.1=true∧x.2.length+(Ah x.1).length≤1000000∧x.2++(DW x.1).1=(DW s).1∧(DW x.1).2=(DW s).2) (fun x=>(Ah x.1).length) (s,[]) ⟨h,hv,by have:=Dy h;simp;omega,rfl,rfl⟩ ?_ ?_
 ·exact Imp.Am gI gI
 rintro⟨t,gs⟩ ⟨i1,i2,i3,i4,i5⟩ J hJ
 replace i1:Few t:=i1
 replace i2:AD t=true:=i2
 replace i3:gs.length+(Ah t).length≤1000000:=i3
 replace i4:gs++(DW t).1=(DW s).1:=i4
 replace i5:(DW t).2=(DW s).2:=i5
 have ig:=Bh i2;rw[Nr ig]at i4 i5;cases hf:BT t with
 | nil =>
  rw[hf]at i4 i5;have e0:(0<((0:Nat):Int))=False:=by simp
  simp(disch:=omega)only[go_sem,hf,List.map_nil,List.length_nil,e0,decide_false];refine Ac (f34_ok t i1) ?_;refine gO ?_;refine Cf ⟨[],[],[1344]⟩ _ ?_;refine gO ?_;simp only[List.append_nil]at i4 i5;exact .eq (by rw[← i4,← i5])
 | cons p l =>
  simp only[hf]at i4 i5;have hm:p∈Ah t:=HW (by rw[hf];simp);have hd:=EG ig hm;have e0:(0<(l.length:Int)+1)=True:=eq_true (by omega);have hbd:gs.length+1≤4294967296:=by omega
  simp(disch:=omega)only[go_sem,hf,Ax,e0];refine Aq 4 [([],[1]),([],[5]),([],[23]),([],[24])] fol ?_;simp(disch:=omega)only[go_sem]
  first|(refine Ac (f58_ok t p i1 ig) ?_)|(refine Ar (f58_ok t p i1 ig) ?_)
  refine gO ?_;have hfew:=JC i1 p;have hval:=Mw i2 p;refine Ac (f57_ok (BP t p) hfew) ?_;rw[Ox hval];refine gO ?_;refine hJ _ (BP t p,gs++[p]) ⟨hfew,hval,by simp;omega,by rw[← i4];simp,i5⟩ hd (Imp.Am ?_ ?_)
  ·simp(disch:=omega)only[go_sem];exact .sl (by simp[Ae.c])
  ·exact gI
theorem f64_ok(s:WS)(l:List Ae)(h:Few s)(hl:l.length≤1000000):Ad C0 64 [.agg s.c,Ax l] [] (.tup [.agg (AP s l).1.c,I (AP s l).2]) []:=by
 have hpl:=Dy h;refine Ad.go f64 ?_;unfold f64;refine gO ?_;refine Ac (f56_ok s h) ?_;cases hv:AD s
 ·have e:AP s l=(wsE,2):=by simp[AP,hv]
  simp(disch:=omega)only[go_sem,e,wsE];refine Ap _ ?_;refine .tup (Aj.AM ?_);simp(disch:=omega)only[go_sem]
  repeat'(with_reducible apply And.intro)
  all_goals(first|exact .Az (by omega)|exact .agg (Aj.AM gI))
 have e:AP s l=(BY s l,0):=by simp[AP,hv]
 rw[e];refine gO ?_;refine Ac (f34_ok s h) ?_;refine gO ?_;refine Ab (α:=Nat) (fun i=>⟨[(7,I i),(6,Ax (Ah s)),(2,.ptr 128 0),(1,Ax l),(4,.ptr 256 0)],[(128,(((Ah s).take i).foldl (fun x p=>if Be l p then x else BP x p) s).c),(256,[Ib,Ib])]⟩) (fun i=>i≤((Ah s)).length∧Few (((Ah s).take i).foldl (fun x p=>if Be l p then x else BP x p) s)∧Cm (((Ah s).take i).foldl (fun x p=>if Be l p then x else BP x p) s)) (fun i=>((Ah s)).length-i) 0 ⟨by omega,⟨h,Bh hv⟩⟩ ?_ ?_
 ·exact BB
 rintro i ⟨hi,hP⟩ J hJ;refine gO ?_;refine ⟨fun hlt=>?_,fun hge=>?_⟩;rotate_left;have hil:i=((Ah s)).length:=by simp at hge;omega
 rotate_left;obtain⟨b,hb⟩:∃ b,((Ah s))[i]?=some b:=⟨_,gE (by simp at hlt;omega)⟩;have hbm:=mG hb;have hlt2:i<((Ah s)).length:=by simp at hlt;omega
 simp(disch:=omega)only[go_sem,gm,hb]
 ·have e:((Ah s).take (i+1)).foldl (fun x p=>if Be l p then x else BP x p) s=if Be l b then ((Ah s).take i).foldl (fun x p=>if Be l p then x else BP x p) s else BP (((Ah s).take i).foldl (fun x p=>if Be l p then x else BP x p) s) b:=by
   rw[take_add_one,hb,toList_some,List.foldl_append];rfl
  generalize ((Ah s).take i).foldl (fun x p=>if Be l p then x else BP x p) s=t at hP e;refine Ac (f29_ok l b hl) ?_;cases hh:Be l b
  ·rw[if_neg (by simp[hh])]at e;simp(disch:=omega)only[go_sem,Bool.not_false];refine Aq 5 [([],[2]),([],[6]),([],[7]),([],[28,29]),([],[30])] fol ?_;simp(disch:=omega)only[go_sem,gm,hb]
   first|(refine Ac (f58_ok t b hP.1 hP.2) ?_)|(refine Ar (f58_ok t b hP.1 hP.2) ?_)
   refine gO ?_;refine hJ _ (i+1) ⟨by simp at hlt;omega,by rw[e];exact⟨JC hP.1 b,CE hP.2 b⟩⟩ (by simp at hlt;omega) (Imp.Am gI ?_);rw[e];simp(disch:=omega)only[go_sem]
  ·rw[if_pos hh]at e;simp(disch:=omega)only[go_sem,Bool.not_true];refine hJ _ (i+1) ⟨by simp at hlt;omega,by rw[e];exact hP⟩ (by simp at hlt;omega) (Imp.Am gI ?_);rw[e];simp(disch:=omega)only[go_sem]
 ·subst hil;rw[take_length]at hP ⊢;refine Ap _ ?_;simp(disch:=omega)only[go_sem,BY]
end Go.Rd
