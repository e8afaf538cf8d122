/- part 11 of the proof -/
import Derived.Test.YteliegkcmjimoaaGreatDoorX10
set_option linter.all false
open Go Go.Abs Go.Proofs
set_option maxRecDepth 100000
namespace Go.Rd
set_option maxHeartbeats 8000000
open List (any_append length_map map_nil map_set mem_append mem_cons mem_filter take_add_one take_length)
open Bool (and_eq_true false_eq_true)
open Option (isSome_none isSome_some)
open Nat (le_trans)
open Tryz
def JY(q:Queue)(x:Ac):Prop:=(∃ h∈q.holds,h.proc=x)\/(∃ w∈q.As,w.proc=x)\/(∃ w∈q.waits,w.proc=x)
theorem Ew(q:Queue)(x:Ac):x∈BU q↔JY q x:=by simp_all[BU,JY,Mn,D7,C3]
theorem Kl{l:List A9}{p:Ac}(h:(Am l p).zero=false):∃ x∈l,x.proc=p:=by grind[Am,BR.zero]
def AbL{q:Queue}{w:Bh}(hh:BZ q=some w)(hr:F3 q.res q.holds w.proc w.AH=true)(x:Ac):JY (DH q w) x↔JY q x:=by
 have hz:=Jb (PU hr).1;have WG:(∃ h∈CO q.holds w.proc w.AH,h.proc=x)↔((∃ h∈q.holds,h.proc=x)\/x=w.proc):=by
  simp only[Xc hz];grind
 unfold JY;cases hc:q.As with
 | cons w' l =>
  have WI:w'=w:=by grind[BZ]
  subst WI;have hp:DH q w' = { q with holds:=CO q.holds w'.proc w'.AH,As:=l }:=by grind[DH]
  rw[hp];simp only[WG,mem_cons,or_and_right,exists_or];constructor
  ·grind
  grind
 | nil =>
  cases hw:q.waits with
  | nil=>simp[BZ,hc,hw]at hh
  | cons w' l =>
   have WI:w'=w:=by grind[BZ]
   subst WI;have hp:DH q w' = { q with holds:=CO q.holds w'.proc w'.AH,waits:=l }:=by grind[DH]
   rw[hp];simp only[WG,hc,mem_cons,or_and_right,exists_or,List.not_mem_nil,false_and,exists_false,false_or];constructor
   ·grind
   grind
def r7(q:Queue)(x:Ac):JY (Co q).1 x↔JY q x :=
 (I8 (P:=λy=>JY y x↔JY q x) (λy w h hh hr=>(AbL hh hr x).trans h) _ q rfl Iff.rfl).1
theorem WK(q:Queue)(p x:Ac):JY (B8 q p) x↔JY q x/\x≠p:=by
 unfold JY;simp only[B8,HU,Mm,Bv,mem_filter,decide_eq_true_eq];grind
def r9{q:Queue}(hv:valid q=true)(p x:Ac):x∈BU (Cd q p)↔x∈BU q/\x≠p:=by
 by_cases hp:Br (BU q) p=true
 ·have e:Cd q p = { Ee (B8 q p) with gen:=q.gen }:=by grind[Cd]
  rw[Ew,Ew,e,<- WK];exact r7 (B8 q p) x
 ·have e:Cd q p=q:=by simp[Cd,hp]
  rw[e];have:p∉BU q:=by grind[Br]
  exact⟨λh=>⟨h,λe=>this (e▸h)⟩,And.left⟩
def BO(s:WS):Prop:=∀ q∈s.Aa,valid q=true
theorem E6(s:WS)(x:Ac):x∈Ag s↔(∃ q∈s.Aa,x∈BU q)\/∃ n∈s.Aw,n.proc=x:=by grind[Ag,AM,Dp,Mn]
theorem Jc{s:WS}(h:BO s)(p x:Ac):x∈Ag (BW s p)↔x∈Ag s/\x≠p:=by
 rw[E6,E6];simp only[BW,E7,List.mem_map,mem_filter,decide_eq_true_eq];constructor
 ·rintro(⟨q',⟨q,hq,rfl⟩,hx⟩|⟨n,⟨hn,CZ⟩,rfl⟩)
  ·rw[r9 (h q hq)]at hx;grind
  grind
 ·rintro⟨⟨q,hq,hx⟩|⟨n,hn,rfl⟩,CZ⟩
  ·exact .inl ⟨_,⟨q,hq,rfl⟩,(r9 (h q hq) p x).2 ⟨hx,CZ⟩⟩
  grind
def Cv{s:WS}(h:BO s)(p:Ac):BO (BW s p):=by
 intro q' FI;simp[BW]at FI;obtain⟨q,hq,rfl⟩:=FI;exact I6 (h q hq) p
theorem Ln{s:WS}(h:Iy s)(p:Ac):Iy (BW s p):=by
 refine⟨by simpa [BW]using h.nq,le_trans (List.length_filter_le _ _) h.nn,λq' FI=>?_⟩;simp[BW]at FI;obtain⟨q,hq,rfl⟩:=FI;exact le_trans (oU q p) (h.aq q hq)
theorem PS{s:WS}(h:BO s)(p:Ac):Ag (BW s p)=(Ag s).filter λx=>decide (x≠p):=by
 refine Rb (Fk _) ?_ λx=>?_
 ·exact List.Pairwise.sublist List.filter_sublist (Fk _)
 grind[Jc]
def D9{s:WS}(h:BO s){p:Ac}(hp:p∈Ag s):(Ag (BW s p)).length<(Ag s).length:=by simp_all[PS]
def Ad.empty{C:Ctx}{f n:Nat}{xs:List AV}{o o':List (Nat × List AV)}{y:AV}(h:∀ a cap,Ad C f (.v (.slice a 0 cap)::xs) o y o'):Ad C f (.sl .no n []::xs) o y o':=by
 refine⟨(h none 0).1,λg w us hg hv ho=>?_⟩
 match us,hv with
 | u::us,hv =>
  simp only[Bf,VR,PR]at hv;obtain⟨⟨_,a,cap,hu,_⟩,hv2⟩:=hv;refine(h a cap).2 g w (u::us) hg ?_ ho;grind[Bf,VR]
 |[],hv=>simp[Bf]at hv
def Ve(l:List A9)(hl:l.length<=1000000):Ad C0 127 [Bg l] [] (Bg l) []:=by
 cases l with
 | nil =>
  refine Ad.empty λa cap=>?_
  refine Ad.go f127 ?_;unfold f127;refine gO ?_
  repeat'(with_reducible refine And.intro (λh=>?_) (λh=>?_))
  ·exact AQ _
  ·refine CU ⟨[],[],[448]⟩ _ ?_;exact gI
 | cons x l =>
  refine Ad.go f127 ?_;unfold f127;have hb:l.length+1<=4294967296:=by grind
  simp(disch:=omega)only[go_sem,Bg];refine CU ⟨[],[],[448]⟩ _ ?_;exact gI
def Lk(l:List Bh)(hl:l.length<=1000000):Ad C0 128 [Ct l] [] (Ct l) []:=by
 cases l with
 | nil =>
  refine Ad.empty λa cap=>?_
  refine Ad.go f128 ?_;unfold f128;refine gO ?_
  repeat'(with_reducible refine And.intro (λh=>?_) (λh=>?_))
  ·exact AQ _
  ·refine CU ⟨[],[],[448]⟩ _ ?_;exact gI
 | cons x l =>
  refine Ad.go f128 ?_;unfold f128;have hb:l.length+1<=4294967296:=by grind
  simp(disch:=omega)only[go_sem,Ct];refine CU ⟨[],[],[448]⟩ _ ?_;exact gI
def Dz(s:WS)(p:Ac):Bool:=match s.Aw.find? (λn=>decide (n.proc=p)) with
 |some n=>Gc n.expr (ET s n)
 |none=>true
def vr(s:WS)(p:Ac)(h:Iy s):Ad C0 125 [.agg s.c,.agg p.c] [] (B (Dz s p)) []:=by
 have hn:=h.nn;refine Ad.go f125 ?_;unfold f125;refine gO ?_;refine AF (s.Aw) (λi=>⟨[(10,I i),(9,I s.Aw.length),(8,Io s.Aw),(2,.ptr 128 0),(3,.ptr 192 0)],[(128,s.c),(192,p.c)]⟩) (λi=>(s.Aw.take i).find? (λn=>decide (n.proc=p))=none) rfl ?_ ?_
 ·exact Ce
 rintro i ⟨hi,hP⟩ J hJ;refine gO ?_;refine Bo hi (λAP b hb Cg AX=>?_) λBa=>?_
 simp(disch:=omega)only[go_sem,hb]
 ·refine Ab (LC b.proc p) ?_;refine gO ?_;refine And.intro (λhh=>?_) (λhh=>?_)
  ·have e:Dz s p=Gc b.expr (ET s b):=by grind[Dz,Hq]
   refine Ay 5 [([],[6]),([],[19]),([],[2]),([],[6]),([],[21,22])] B6 (gO ?_);refine Ax (vN s b h) (gO ?_);refine Ai (vM b.expr (ET s b)) (by exact gI) rfl ?_;simp only[go_sem,e];exact AQ _
  ·refine hJ _ (i+1) ⟨by omega,(by grind[Cp])⟩ (by omega) AK
 ·subst Ba;rw[take_length]at hP;have e:Dz s p=true:=by grind[Dz]
  refine gS ?_;exact AQ _
def BJ(s:WS):List Ac:=(Ag s).filter λp=>Dz s p
theorem De{s:WS}(h:Iy s):(Ag s).length<=20000:=by
 have h1:=SH (AM s.Aa++Dp s.Aw);have h2:=O3 h.aq;have h3:=h.nq;have h4:=h.nn;unfold Ag;simp[Dp]at h1;unfold Dp;omega
def ik(s:WS)(h:Iy s):Ad C0 75 [.agg s.c] [] (AL (BJ s)) []:=by
 have hl:=De h;refine Ad.go f75 ?_;unfold f75;refine gO ?_;refine Ab (LB s h) (gO ?_);refine AF ((Ag s)) (λi=>⟨[(9,I i),(8,I (Ag s).length),(7,AL (Ag s)),(1,.ptr 64 0),(3,.sl (.own 1216 0) 3 ((((Ag s).take i).filter λp=>Dz s p).map Ac.c))],[(64,s.c)]⟩) (λi=>True) trivial ?_ ?_
 ·exact Ce
 rintro i ⟨hi,hP⟩ J hJ;refine gO ?_;refine Bo hi (λAP b hb Cg AX=>?_) λBa=>?_
 simp(disch:=omega)only[go_sem,hb]
 ·have ID:(((Ag s).take i).filter λp=>Dz s p).length+1<=4294967296:=by
   grind
  refine Ab (vr s b h) ?_;refine gO ?_;refine And.intro (λhh=>?_) (λhh=>?_)
  ·refine hJ _ (i+1) ⟨by omega,trivial⟩ (by omega) (AT.Aq ?_ gI);refine gO ?_;exact .sl (by grind[take_add_one,Ac.c])
  ·refine hJ _ (i+1) ⟨by omega,trivial⟩ (by omega) (AT.Aq ?_ gI);refine gO ?_;exact .sl (by grind[take_add_one])
 ·subst Ba;refine gO ?_;refine CU ⟨[],[],[1216]⟩ _ ?_;simp only[go_sem,BJ]
def Fw(s:WS)(l:List Ac):WS:=(Ag s).foldl (λx p=>if Br l p then x else BW x p) s
def vz(s:WS)(l:List Ac)(h:Iy s)(hl:l.length<=1000000):Ad C0 148 [.agg s.c,AL l] [] (.agg (Fw s l).c) []:=by
 have Sv:=De h;refine Ad.go f148 ?_;unfold f148;refine gO ?_;refine Ab (LB s h) (gO ?_);refine AF ((Ag s)) (λi=>⟨[(10,I i),(9,I (Ag s).length),(8,AL (Ag s)),(2,.ptr 128 0),(1,AL l),(4,.ptr 256 0)],[(128,(((Ag s).take i).foldl (λx p=>if Br l p then x else BW x p) s).c),(256,jO)]⟩) (λi=>Iy (((Ag s).take i).foldl (λx p=>if Br l p then x else BW x p) s)) h ?_ ?_
 ·exact Ce
 rintro i ⟨hi,hP⟩ J hJ;refine gO ?_;refine Bo hi (λAP b hb Cg AX=>?_) λBa=>?_
 simp(disch:=omega)only[go_sem,hb]
 ·have e:((Ag s).take (i+1)).foldl (λx p=>if Br l p then x else BW x p) s=if Br l b then ((Ag s).take i).foldl (λx p=>if Br l p then x else BW x p) s else BW (((Ag s).take i).foldl (λx p=>if Br l p then x else BW x p) s) b:=by
   grind[take_add_one]
  generalize ((Ag s).take i).foldl (λx p=>if Br l p then x else BW x p) s=t at hP e;refine Ab (KE l b hl) ?_;cases hh:Br l b
  ·rw[if_neg (by grind)]at e;refine gO ?_;refine Ab (aU t b hP) (gO ?_);refine hJ _ (i+1) ⟨by omega,by grind[Ln]⟩ (by omega) (AT.Aq gI ?_);rw[e];exact gI
  ·rw[if_pos hh]at e;refine gO ?_;refine hJ _ (i+1) ⟨by omega,by grind⟩ (by omega) (AT.Aq gI ?_);rw[e];exact gI
 ·subst Ba;rw[take_length]at hP ⊢;refine CT _ ?_;simp only[go_sem,Fw]
theorem DS{s:WS}{p:Ac}(h:p∈BJ s):p∈Ag s:=(mem_filter.1 h).1
def Sb:Nat->WS->List Ac × List Ac
 | 0,s=>([],Ag s)
 | n+1,s=>match BJ s with
  |[]=>([],Ag s)
  | p::_=>(p::(Sb n (BW s p)).1,(Sb n (BW s p)).2)
def Ca(s:WS):List Ac × List Ac:=Sb (Ag s).length s
def ml:∀ (n m:Nat) (s:WS),BO s->(Ag s).length<=n->(Ag s).length<=m->Sb n s=Sb m s
 | 0,0,_,_,_,_=>rfl
 | 0,m+1,s,_,h,_=>by grind[BJ,Sb]
 | n+1,0,s,_,_,h=>by grind[BJ,Sb]
 | n+1,m+1,s,hg,h1,h2=>by
  simp only[Sb];cases hf:BJ s with
  | nil=>rfl
  | cons p l =>
   have hd:=D9 hg (DS (p:=p) (by rw[hf];simp));simp only;rw[ml n m (BW s p) (Cv hg p) (by omega) (by omega)]
theorem Sc{s:WS}(hg:BO s):Ca s=match BJ s with
 |[]=>([],Ag s)
 | p::_=>(p::(Ca (BW s p)).1,(Ca (BW s p)).2):=by
 unfold Ca;cases hf:BJ s with
 | nil =>
  cases (Ag s).length<;>simp[Sb,hf]
 | cons p l =>
  have hd:=D9 hg (DS (p:=p) (by grind));rw[ml _ ((Ag (BW s p)).length+1) s hg (Nat.le_refl _) (by
   have:=PS hg p;have hm:=DS (p:=p) (s:=s) (by grind);have UO:=IL (Fk (AM s.Aa++Dp s.Aw));rw[this];have:(Ag s).filter (λx=>decide (x≠p))=(Ag s).erase p:=by grind[Ag,List.Nodup.erase_eq_filter]
   rw[this,List.length_erase_of_mem hm];omega)]
  simp[Sb,hf]
def AaJ(s:WS)(h:Iy s)(hg:BO s):Ad C0 87 [.agg s.c] [] (.BC [AL (Ca s).1,AL (Ca s).2]) []:=by
 refine Ad.go f87 ?_;unfold f87;refine gO ?_;refine Ab (ik s h) (gO ?_);refine Ao (α:=WS × List Ac) (λx=>⟨[(5,AL (BJ x.1)),(4,.sl (.own 1472 0) 3 (x.2.map Ac.c)),(1,.ptr 64 0)],[(64,x.1.c)]⟩) (λx=>Iy x.1/\BO x.1/\x.2.length+(Ag x.1).length<=1000000/\x.2++(Ca x.1).1=(Ca s).1/\(Ca x.1).2=(Ca s).2) (λx=>(Ag x.1).length) (s,[]) ⟨h,hg,by grind[De],rfl,rfl⟩ ?_ ?_
 ·exact AT.Aq gI gI
 rintro⟨t,gs⟩ ⟨i1,i2,i3,i4,i5⟩ J hJ
 replace i1:Iy t:=i1
 replace i2:BO t:=i2
 replace i3:gs.length+(Ag t).length<=1000000:=i3
 replace i4:gs++(Ca t).1=(Ca s).1:=i4
 replace i5:(Ca t).2=(Ca s).2:=i5
 rw[Sc i2]at i4 i5;cases hf:BJ t with
 | nil =>
  rw[hf]at i4 i5;refine gO ?_;refine Ab (LB t i1) (gO ?_);refine CU ⟨[],[],[1472]⟩ _ ?_;refine gO ?_;simp at i4 i5;exact .eq (by grind)
 | cons p l =>
  simp[hf]at i4 i5;have hm:p∈Ag t:=DS (by grind);have hd:=D9 i2 hm;have e0:(0<(l.length:Int)+1)=True:=eq_true (by omega);have ID:gs.length+1<=4294967296:=by omega
  simp only[go_sem,AL,e0];refine Ay 4 [([],[1]),([],[5]),([],[14]),([],[15])] B6 (gO ?_)
  first|(refine Ab (aU t p i1) ?_)|(refine Ax (aU t p i1) ?_)
  refine gO ?_;have rE:=Ln i1 p;refine Ab (ik (BW t p) rE) (gO ?_);refine hJ _ (BW t p,gs++[p]) ⟨rE,Cv i2 p,by grind,by grind,i5⟩ hd (AT.Aq ?_ ?_)
  ·refine gO ?_;exact .sl (by simp[Ac.c])
  ·exact gI
def dS:Nat->Expr->Prop
 | 0,_=>True
 | N+1,e=>e.kids.length<=24/\∀ k∈e.kids,dS N k
def ew{lv:Int}:∀ (l:List Expr) (n d:Int),(∀ e∈l,∀ n,n+1<=(meas e (lv+1) n).2)->n<=(Gk l lv n d).2
 |[],n,d,_=>by simp[Gk]
 | e::l,n,d,h=>by
  have h1:=h e (by simp) n;simp only[Gk];split
  ·simp only;omega
  ·have:=ew l (meas e (lv+1) n).2 (max d (meas e (lv+1) n).1) λe' he=>h e' (by grind)
   omega
def Vz:∀ (N:Nat) (e:Expr),SizeOf.sizeOf e<N->∀ lv n:Int,n+1<=(meas e lv n).2
 | 0,_,h,_,_=>by omega
 | N+1,e,h,lv,n=>by
  rw[Ml];split
  ·simp
  ·exact ew _ _ _ λe' he n'=>Vz N e' (by have:=EM he;omega) _ _
def W6{lv:Int}:∀ (l:List Expr) (n d:Int),(Gk l lv n d).1≠0->0<=n->n<=24->(∀ e∈l,∀ n,0<=n->n<=24->(meas e (lv+1) n).1≠0->n+1<=(meas e (lv+1) n).2/\(meas e (lv+1) n).2<=24) ->
 n+l.length<=24/\∀ e∈l,∃ n,0<=n/\n<=24/\(meas e (lv+1) n).1≠0
 |[],n,d,_,h0,h1,_=>by grind
 | e::l,n,d,h,h0,h1,hk=>by
  simp only[Gk]at h;split at h
  ·omega
  ·rename_i CZ;have he:=hk e (by simp) n h0 h1 CZ;have:=W6 l _ _ h (by omega) he.2 λe' nT=>hk e' (by grind)
   refine⟨by grind,λe' nT=>?_⟩;grind
def Zo:∀ (N:Nat) (e:Expr) (lv n:Int),1<=lv->lv<=5->0<=n->n<=24->(meas e lv n).1≠0->dS N e
 | 0,_,_,_,_,_,_,_,_=>trivial
 | N+1,e,lv,n,h1,h2,h3,h4,h=>by
  rw[Ml]at h;split at h
  ·omega
  ·rename_i hc;have:=W6 e.kids (n+1) 0 h (by omega) (by omega) λe' _ n' k1 k2 k3=>⟨Vz _ e' (Nat.lt_succ_self _) _ _,(PK _ e' (Nat.lt_succ_self _) (lv+1) n' (by omega) (by omega) k1 k2).2.2.2.2 k3⟩
   refine⟨by omega,λk hk=>?_⟩;obtain⟨n',k1,k2,k3⟩:=this.2 k hk;exact Zo N k (lv+1) n' (by omega) (by omega) k1 k2 k3
def T4{e:Expr}(h:BM e=true)(N:Nat):dS N e:=by
 simp only[BM,and_eq_true,Bool.not_eq_true',beq_eq_false_iff_ne]at h;exact Zo N e 1 0 (by omega) (by omega) (by omega) (by omega) h.1
def ke:∀ (N:Nat) (e:Expr),SizeOf.sizeOf e<N->dS N e->Ad C0 129 [.agg e.c] [] (.agg e.c) []
 | 0,_,h,_=>by omega
 | N+1,e,h,hk=>by
  have XS:=hk.1;refine Ad.lens f129 λhlen=>?_
  simp[FZ,lens,Expr.Dg,length_map,and_true,true_and]at hlen;refine Ad.go f129 ?_;unfold f129;refine gO ?_;refine AF (e.kids) (λi=>⟨[(9,I i),(8,I e.kids.length),(7,JP e.kids),(1,.ptr 64 0),(2,.ptr 128 0),(3,.sl (.own 1088 0) 5 ((e.kids.take i).map Expr.c))],[(64,e.c),(128,(Expr.mk 0 a0 []).c)]⟩) (λi=>True) trivial ?_ ?_
  ·refine AT.Aq ?_ ?_
   all_goals(try simp(disch:=omega)only[go_sem])
   all_goals(try(repeat'(with_reducible apply And.intro)))
   all_goals(first|exact .Cr (by omega)|exact .A8 (by omega)|exact .sl (by simp[a0,Expr.Dg,Expr.k,Expr.atom,Expr.kids])|exact .int (by simp[a0,Expr.k,Expr.atom])|exact .eq (by simp[a0,Expr.atom]))
  rintro i ⟨hi,hP⟩ J hJ;refine gO ?_;refine Bo hi (λAP b hb Cg AX=>?_) λBa=>?_
  simp(disch:=omega)only[go_sem,hb]
  ·have Hb:=EM Cg;have ID:min i e.kids.length+1<=4294967296:=by omega
   refine Ab (ke N b (by omega) (hk.2 b Cg)) ?_;simp(disch:=omega)only[go_sem,length_map,List.length_take];refine hJ _ (i+1) ⟨by omega,trivial⟩ (by omega) (AT.Aq ?_ ?_)
   ·refine gO ?_;exact .sl (by simp[take_add_one,hb,Expr.Dg])
   ·exact gI
  ·subst Ba;refine gO ?_;refine CU ⟨[],[],[1088]⟩ _ ?_;exact gI
def BD(a b:Bs):Bool:=Op.bytesLess a b
def n0:Need:=⟨p0,.mk 0 a0 [],0⟩
def CQ(l:List Queue)(i:Nat)(q:Queue):Bool:=valid q&&(decide (i=0)||BD (l.getD (i-1) q0).res.name q.res.name)
def CM(l:List Need)(i:Nat)(n:Need):Bool:=n.proc.ok&&decide (0<=n.gen)&&decide (n.gen<=1073741824)&&BM n.expr&&(decide (i=0)||decide (BF (l.getD (i-1) n0).proc n.proc<0))
def C5(l:List Queue):Bool:=decide (l.length<=8)&&Cu (CQ l) l
def GZ(l:List Need):Bool:=decide (l.length<=8)&&Cu (CM l) l
def AI(s:WS):Bool:=C5 s.Aa&&GZ s.Aw&&decide ((Ag s).length<=8)
def Bt{q:Queue}(h:BS q<=100):q.holds.length<=1000000/\q.As.length<=1000000/\q.waits.length<=1000000:=by
 unfold BS B7 at h;omega
def Qz(s:WS)(h:Iy s):Ad C0 32 [.agg s.c] [] (B (AI s)) []:=by
 refine Ad.go f32 ?_;unfold f32
 by_cases hq:8<s.Aa.length
 ·have e1:(8<(s.Aa.length:Int))=True:=eq_true (by omega);have e:AI s=false:=by simp[AI,C5];omega
  simp(disch:=omega)only[go_sem,e1];refine Al _ ?_;exact wb (by simp[e])
 have e1:(8<(s.Aa.length:Int))=False:=eq_false (by omega)
 by_cases hn:8<s.Aw.length
 ·have e2:(8<(s.Aw.length:Int))=True:=eq_true (by omega);have e:AI s=false:=by simp[AI,GZ];omega
  simp(disch:=omega)only[go_sem,e1,e2,decide_false,decide_true];refine Al _ ?_;exact wb (by simp[e])
 have e2:(8<(s.Aw.length:Int))=False:=eq_false (by omega);simp(disch:=omega)only[go_sem,e1,e2,decide_false];refine AF (s.Aa) (λi=>⟨[(20,I i),(19,I s.Aa.length),(18,AN s.Aa),(1,.ptr 64 0)],[(64,s.c)]⟩) (λi=>Cu (CQ s.Aa) (s.Aa.take i)=true) rfl ?_ ?_
 ·exact Ce
 rintro i ⟨hi,hP⟩ J hJ;refine gO ?_;refine Bo hi (λAP b hb Cg AX=>?_) λBa=>?_
 simp(disch:=omega)only[go_sem,gm,hb]
 ·have ha:=Bt (h.aq b Cg);have bad:CQ s.Aa i b=false->AI s=false:=λh=>by simp only[AI,C5,B5 hb h,Bool.and_false,Bool.false_and]
  have FM:CQ s.Aa i b=true->Cu (CQ s.Aa) (s.Aa.take (i+1))=true:=λh=>by rw[CB hb,hP,h];rfl
  refine Ay 18 [([],[4]),([],[25]),([1],[26]),([1],[27]),([1],[3,28]),([1],[29,28]),([1],[30,28]),([1],[1,31]),([1],[32,31]),([1],[3,31]),([1],[34,31]),([1],[33,35,31]),([1],[36,31]),([1],[37,31]),([1],[38,31]),([1],[4,31]),([1],[40,31]),([1],[41,31])] B6 ?_;refine gO ?_
  first|(refine Ab (Wn b ha.1 ha.2.2) ?_)|(refine Ax (Wn b ha.1 ha.2.2) ?_)
  cases hv:valid b
  ·simp(disch:=omega)only[go_sem];refine Al _ ?_;exact wb (by rw[bad (by simp[CQ,hv])])
  by_cases QI:i=0
  ·subst QI;refine gO ?_;refine hJ _ 1 ⟨by omega,FM (by simp[CQ,hv])⟩ (by omega) AK
  ·have QJ:(0<(i:Int))=True:=eq_true (by omega);have NP:((i:Int)-1)=((i-1:Nat):Int):=by omega
   obtain⟨a,NZ⟩:∃ a,s.Aa[i-1]?=some a:=⟨_,gE (by omega)⟩;have UK:s.Aa.getD (i-1) q0=a:=by simp[List.getD,NZ]
   simp(disch:=omega)only[go_sem,QJ,NP,gm,NZ];refine And.intro (λhh=>?_) (λhh=>?_)
   ·refine Al _ ?_;exact wb (by rw[bad (by simp only[CQ,UK,hv];simp[QI];simpa [BD]using hh)])
   ·refine hJ _ (i+1) ⟨by omega,FM (by simp only[CQ,UK,hv];simp[QI];simpa [BD]using hh)⟩ (by omega) AK
 subst Ba;rw[take_length]at hP;have lM:C5 s.Aa=true:=by simp[C5,hP];omega
 clear hJ;refine AF (s.Aw) (λi=>⟨[(50,I i),(49,I s.Aw.length),(48,Io s.Aw),(1,.ptr 64 0)],[(64,s.c)]⟩) (λi=>Cu (CM s.Aw) (s.Aw.take i)=true) rfl ?_ ?_
 ·exact Ce
 rintro i ⟨hi,hP⟩ J hJ;refine gO ?_;refine Bo hi (λAP b hb Cg AX=>?_) λBa=>?_
 simp(disch:=omega)only[go_sem,gm,hb]
 ·have bad:CM s.Aw i b=false->AI s=false:=λh=>by simp only[AI,GZ,B5 hb h,Bool.and_false,Bool.false_and]
  have FM:CM s.Aw i b=true->Cu (CM s.Aw) (s.Aw.take (i+1))=true:=λh=>by rw[CB hb,hP,h];rfl
  refine Ab (Wo b.proc) ?_;cases hp:b.proc.ok
  ·simp(disch:=omega)only[go_sem];refine Al _ ?_;exact wb (by rw[bad (by simp[CM,hp])])
  by_cases uB:b.gen<0
  ·have k1:(b.gen<0)=True:=eq_true uB;simp(disch:=omega)only[go_sem,k1];refine Al _ ?_;exact wb (by rw[bad (by simp[CM];omega)])
  have k1:(b.gen<0)=False:=eq_false uB
  by_cases iE:1073741824<b.gen
  ·have k2:(1073741824<b.gen)=True:=eq_true iE;simp(disch:=omega)only[go_sem,k1,k2,decide_false];refine Al _ ?_;exact wb (by rw[bad (by simp[CM];omega)])
  have k2:(1073741824<b.gen)=False:=eq_false iE;have g1:decide (0<=b.gen)=true:=by simp;omega
  have g2:decide (b.gen<=1073741824)=true:=by simp;omega
  simp(disch:=omega)only[go_sem,k1,k2,decide_false];refine Ai (ra b.expr) (by simp(disch:=omega)only[go_sem,Expr.Dg]) rfl ?_;cases he:BM b.expr
  ·simp(disch:=omega)only[go_sem];refine Al _ ?_;exact wb (by rw[bad (by simp[CM,he])])
  refine gO ?_;refine Ay 12 [([],[5]),([],[75]),([],[76]),([],[1,77]),([],[78,77]),([],[5,77]),([],[80,77]),([],[79,81,77]),([],[82,77]),([],[83,77]),([],[6,77]),([],[85,77])] B6 ?_
  by_cases QI:i=0
  ·subst QI;refine gO ?_;refine hJ _ 1 ⟨by omega,FM (by simp only[CM,hp,g1,g2,he];rfl)⟩ (by omega) AK
  ·have QJ:(0<(i:Int))=True:=eq_true (by omega);have NP:((i:Int)-1)=((i-1:Nat):Int):=by omega
   obtain⟨a,NZ⟩:∃ a,s.Aw[i-1]?=some a:=⟨_,gE (by omega)⟩;have UK:s.Aw.getD (i-1) n0=a:=by simp[List.getD,NZ]
   simp(disch:=omega)only[go_sem,QJ,NP,gm,NZ]
   first|(refine Ab (LC a.proc b.proc) ?_)|(refine Ax (LC a.proc b.proc) ?_)
   refine gO ?_
   by_cases hc:0<=BF a.proc b.proc
   ·simp(disch:=omega)only[go_sem,hc];refine Al _ ?_;exact wb (by rw[bad (by simp only[CM,UK];simp[QI];omega)])
   ·simp(disch:=omega)only[go_sem,hc,decide_false];refine hJ _ (i+1) ⟨by omega,FM (by simp only[CM,UK,hp,g1,g2,he];simp;omega)⟩ (by omega) AK
 ·subst Ba;rw[take_length]at hP;have hns:GZ s.Aw=true:=by simp[GZ,hP];omega
  refine Ab (LB s h) ?_;refine gO ?_;refine Al _ ?_;exact wb (by simp only[AI,lM,hns];simp;omega)
def Be{s:WS}(h:AI s=true):BO s:=by
 simp only[AI,C5,and_eq_true,CY]at h;intro q hq;obtain⟨i,hi,he⟩:=List.getElem_of_mem hq;have:=h.1.1.2 i q (by grind);simp only[CQ,and_eq_true]at this;exact this.1
def MT(s:WS):Prop:=∀ n∈s.Aw,BM n.expr=true
def Kf{s:WS}(h:AI s=true):MT s:=by
 simp only[AI,GZ,and_eq_true,CY]at h;intro q hq;obtain⟨i,hi,he⟩:=List.getElem_of_mem hq;have:=h.1.2.2 i q (by grind);simp only[CM,and_eq_true]at this;exact this.1.2
def YI{s:WS}(h:MT s)(p:Ac):MT (BW s p):=λn hn=>h n (mem_filter.1 hn).1
def bS{P:WS->Prop}(hP:∀ s p,P s->P (BW s p)){s:WS}(l:List Ac)(h:P s):P (Fw s l):=by
 unfold Fw;have:∀ (ps:List Ac) (x:WS),P x->P (ps.foldl (λx p=>if Br l p then x else BW x p) x):=by
  intro ps
  induction ps with
  | nil=>intro x hx;exact hx
  | cons p ps ih =>
   intro x hx;simp;split
   ·exact ih x hx
   ·exact ih _ (hP x p hx)
 exact this _ _ h
def wS{s:WS}(h:Iy s)(l:List Ac):Iy (Fw s l):=bS (P:=Iy) (λ_ p h=>Ln h p) l h
def nB{s:WS}(h:MT s)(l:List Ac):MT (Fw s l):=bS (P:=MT) (λ_ p h=>YI h p) l h
def rb(s:WS)(h:Iy s)(he:MT s):Ad C0 77 [.agg s.c] [] (.agg s.c) []:=by
 have dD:=h.nq;have Y4:=h.nn;refine Ad.go f77 ?_;unfold f77;refine gO ?_;refine AF (s.Aa) (λi=>⟨[(11,I i),(10,I s.Aa.length),(9,AN s.Aa),(1,.ptr 64 0),(2,.ptr 128 0),(3,.ptr 192 0)],[(64,s.c),(128,jO),(192,[.sl (.own 1984 0) 8 ((s.Aa.take i).map Queue.c),.v (.slice none 0 0)])]⟩) (λi=>True) trivial ?_ ?_
 ·exact Ce
 rintro i ⟨hi,hP⟩ J hJ;refine gO ?_;refine Bo hi (λAP b hb Cg AX=>?_) λBa=>?_
 simp(disch:=omega)only[go_sem,hb]
 ·have ha:=Bt (h.aq b Cg);have ID:min i s.Aa.length+1<=4294967296:=by omega
  refine Ay 10 [([],[5]),([],[15]),([],[16]),([],[5]),([],[18]),([2],[19]),([],[5]),([],[21]),([2,5],[22]),([2],[5])] B6 (gO ?_)
  first|(refine Ab (Ve b.holds ha.1) ?_)|(refine Ax (Ve b.holds ha.1) ?_)
  refine gO ?_
  first|(refine Ab (Lk b.As ha.2.1) ?_)|(refine Ax (Lk b.As ha.2.1) ?_)
  refine gO ?_
  first|(refine Ab (Lk b.waits ha.2.2) ?_)|(refine Ax (Lk b.waits ha.2.2) ?_)
  refine gO ?_;refine hJ _ (i+1) ⟨by omega,trivial⟩ (by omega) (AT.Aq gI ?_);refine gO ?_;exact .sl (by simp[take_add_one,hb,Queue.c])
 subst Ba;rw[take_length];clear hJ;refine AF (s.Aw) (λi=>⟨[(37,I i),(36,I s.Aw.length),(35,Io s.Aw),(1,.ptr 64 0),(2,.ptr 128 0),(3,.ptr 192 0)],[(64,s.c),(128,jO),(192,[.sl (.own 1984 0) 8 (s.Aa.map Queue.c),.sl (.own 3136 0) 9 ((s.Aw.take i).map Need.c)])]⟩) (λi=>True) trivial ?_ ?_
 ·exact Ce
 rintro i ⟨hi,hP⟩ J hJ;refine gO ?_;refine Bo hi (λAP b hb Cg AX=>?_) λBa=>?_
 simp(disch:=omega)only[go_sem,hb]
 ·have ID:min i s.Aw.length+1<=4294967296:=by omega
  refine Ai (ke _ b.expr (Nat.lt_succ_self _) (T4 (he b Cg) _)) (by exact gI) rfl ?_;refine gO ?_;refine hJ _ (i+1) ⟨by omega,trivial⟩ (by omega) (AT.Aq gI ?_);refine gO ?_;exact .sl (by simp[take_add_one,hb,Need.c])
 ·subst Ba;refine gO ?_;refine CU ⟨[],[],[1984,3136]⟩ _ ?_;exact gI
def N9:WS:=⟨[],[]⟩
def LQ(s:WS):List Ac:=if AI s then BJ s else []
def Aar(s:WS)(h:Iy s):Ad C0 33 [.agg s.c] [] (AL (LQ s)) []:=by
 refine Ad.go f33 ?_;unfold f33;refine gO ?_;refine Ab (Qz s h) ?_;cases hv:AI s
 ·refine gO ?_;refine CT _ ?_;simp only[go_sem,LQ];simp only[hv];exact .A8 (by omega)
 ·refine gO ?_;refine Ab (ik s h) (gO ?_);refine CT _ ?_;simp(disch:=omega)only[go_sem,LQ]
def GS(s:WS):List Ac × List Ac:=if AI s then Ca s else ([],[])
def gZ(s:WS)(h:Iy s):Ad C0 40 [.agg s.c] [] (.BC [AL (GS s).1,AL (GS s).2]) []:=by
 refine Ad.go f40 ?_;unfold f40;refine gO ?_;refine Ab (Qz s h) ?_;cases hv:AI s
 ·have e:GS s=([],[]):=by simp[GS,hv]
  refine gS ?_;exact Gw _
 ·have e:GS s=Ca s:=by simp[GS,hv]
  refine gS ?_;refine Ab (AaJ s h (Be hv)) (gO ?_);exact AQ _
def mm{s:WS}(h:Iy s)(hg:BO s):(Ca s).2.length<=20000:=by
 have key:∀ (n:Nat) (s:WS),Iy s->(Sb n s).2.length<=20000:=by
  intro n
  induction n<;>grind[De,Sb,Ln]
 exact key _ s h
def ED(s:WS)(p:Ac):WS × Int:=if AI s then (if Br (Ag s) p then (BW s p,0) else (N9,10)) else (N9,2)
def Aas(s:WS)(p:Ac)(h:Iy s):Ad C0 35 [.agg s.c,.agg p.c] [] (.BC [.agg (ED s p).1.c,I (ED s p).2]) []:=by
 have hl:=De h;refine Ad.go f35 ?_;unfold f35;refine gO ?_;refine Ab (Qz s h) ?_;cases hv:AI s
 ·have e:ED s p=(N9,2):=by simp[ED,hv]
  simp only[go_sem,e,N9];refine Al _ ?_;refine .BC (Ae.AJ ?_);refine gO ?_
  repeat'(with_reducible apply And.intro)
  all_goals(first|exact .A8 (by omega)|exact .agg (Ae.AJ gI))
 refine gO ?_;refine Ay 3 [([],[2]),([],[10]),([],[3])] B6 (gO ?_)
 first|(refine Ab (LB s h) ?_)|(refine Ax (LB s h) ?_)
 refine gO ?_
 first|(refine Ab (KE (Ag s) p (by omega)) ?_)|(refine Ax (KE (Ag s) p (by omega)) ?_)
 cases hp:Br (Ag s) p
 ·have e:ED s p=(N9,10):=by grind[ED]
  simp only[go_sem,e,N9];refine Al _ ?_;refine .BC (Ae.AJ ?_);refine gO ?_
  repeat'(with_reducible apply And.intro)
  all_goals(first|exact .A8 (by omega)|exact .agg (Ae.AJ gI))
 ·have e:ED s p=(BW s p,0):=by grind[ED]
  refine gS ?_;refine Ab (aU s p h) (gO ?_);refine Ab (rb (BW s p) (Ln h p) (YI (Kf hv) p)) (gO ?_);exact AQ _
def HG(s:WS)(l:List Ac):WS × Int:=if AI s then (Fw s l,0) else (N9,2)
def AaM(s:WS)(l:List Ac)(h:Iy s)(hl:l.length<=1000000):Ad C0 94 [.agg s.c,AL l] [] (.BC [.agg (HG s l).1.c,I (HG s l).2]) []:=by
 refine Ad.go f94 ?_;unfold f94;refine gO ?_;refine Ab (Qz s h) ?_;cases hv:AI s
 ·have e:HG s l=(N9,2):=by simp[HG,hv]
  simp only[go_sem,e,N9];refine Al _ ?_;refine .BC (Ae.AJ ?_);refine gO ?_
  repeat'(with_reducible apply And.intro)
  all_goals(first|exact .A8 (by omega)|exact .agg (Ae.AJ gI))
 ·have e:HG s l=(Fw s l,0):=by simp[HG,hv]
  refine gS ?_;refine Ab (vz s l h hl) (gO ?_);refine Ab (rb (Fw s l) (wS h l) (nB (Kf hv) l)) (gO ?_);exact AQ _
def Im(l:List Ac)(k:Nat)(p:Ac):List Ac:=l.take k++p::l.drop k
def R3(l:List Ac)(k:Nat)(p:Ac)(h:k<=l.length):(Im l k p).length=l.length+1:=by simp[Im];omega
def eC(l:List Ac)(k:Nat)(p:Ac)(h:k<=l.length):(Im l k p)[k]?=some p:=by
 unfold Im;rw[List.getElem?_append_right (by simp;omega)];simp[Nat.min_eq_left h]
def Zs(l:List Ac)(k:Nat)(p:Ac)(h:k+1<=l.length):(Im l (k+1) p)[k]?=l[k]?:=by
 unfold Im;rw[List.getElem?_append_left (by simp;omega),List.getElem?_take,if_pos (by omega)]
def Zt{l:List Ac}{k:Nat}{p x:Ac}(hx:l[k]?=some x):((Im l (k+1) p).set k p).set (k+1) x=Im l k p:=by
 have hk:=Au hx;have hd:l.drop k=x::l.drop (k+1):=by rw[List.drop_eq_getElem_cons hk,get_eq hx]
 have ht:l.take (k+1)=l.take k++[x]:=JG hx;unfold Im;rw[ht,hd];have hl:(l.take k).length=k:=by simp;omega
 rw[List.append_assoc,List.set_append_right _ _ (by omega),hl,Nat.sub_self];rw[List.set_append_right _ _ (by omega),hl];simp
def eD(l:List Ac)(k:Nat)(p x:Ac):x∈Im l k p↔x∈l\/x=p:=by
 unfold Im
 conv=>rhs;rw[<- List.take_append_drop k l]
 simp only[mem_append,mem_cons];constructor
 ·rintro(h|h|h)
  ·exact .inl (.inl h)
  ·exact .inr h
  ·exact .inl (.inr h)
 ·rintro((h|h)|h)
  ·exact .inl h
  ·exact .inr (.inr h)
  ·exact .inr (.inl h)
def rh(l:List Ac)(hl:l.length<=1000000):Ad C0 99 [AL l] [] (AL (NU l)) []:=by
 refine Ad.go f99 ?_;unfold f99;simp(disch:=omega)only[go_sem];refine Ao (α:=Nat × List Ac) (λx=>⟨[(4,I x.1),(3,.sl (.own 1728 0) 3 (x.2.map Ac.c)),(0,AL l)],[]⟩) (λx=>x.1<=l.length/\x.2.length<=x.1/\K9 x.2/\∀ p,p∈x.2↔p∈l.take x.1) (λx=>l.length-x.1) (0,[]) ⟨by simp,by simp,by simp[K9],by simp⟩ ?_ ?_
 ·refine AT.Aq ?_ ?_
  ·simp(disch:=omega)only[go_sem,map_nil]
  ·simp(disch:=omega)only[go_sem]
 rintro⟨i,out⟩ ⟨hi,oa,S0,Ha⟩ J hJ
 replace hi:i<=l.length:=hi
 replace oa:out.length<=i:=oa
 replace S0:K9 out:=S0
 replace Ha:∀ p,p∈out↔p∈l.take i:=Ha
 simp(disch:=omega)only[go_sem];refine ⟨λAP=>?_,λJX=>?_⟩
 ·have H0:i<l.length:=by simp at AP;omega
  obtain⟨p,hp⟩:∃ p,l[i]?=some p:=⟨_,gE H0⟩;have ht:=JG hp;simp(disch:=omega)only[go_sem,gm,hp];refine B4 [1728] (KG out p (by omega)) gI rfl trivial ?_;cases hh:Br out p;rotate_left
  ·have Hf:p∈out:=by simpa [Br]using hh
   simp(disch:=omega)only[go_sem];refine hJ _ (i+1,out) ⟨by simp;omega,by simp;omega,S0,λx=>?_⟩ (by simp;omega) AK;rw[ht,mem_append,<- Ha x];simp only[List.mem_singleton];exact⟨.inl,λh=>h.elim id λe=>by rw[e];exact Hf⟩
  have xg:p∉out:=by simpa [Br]using hh
  have ID:out.length+1<=4294967296:=by omega
  simp(disch:=omega)only[go_sem,gm,hp];refine Ao (α:=Nat) (λk=>⟨[(5,I k),(4,I i),(3,.sl (.own 1728 0) 3 ((Im out k p).map Ac.c)),(0,AL l)],[]⟩) (λk=>k<=out.length/\∀ x∈out.drop k,BF p x<0) (λk=>k) out.length ⟨by omega,by simp⟩ ?_ ?_
  ·refine AT.Aq ?_ ?_
   ·simp(disch:=omega)only[go_sem];exact .sl (by simp[Im,Ac.c])
   ·simp(disch:=omega)only[go_sem]
  rintro k ⟨hk,bg⟩ J2 Vo;have stop:(∀ x∈out.take k,BF x p<0)->∀ st',AT ⟨C0,[]⟩ st' ⟨[(4,I (i+1:Nat)),(3,.sl (.own 1728 0) 3 ((Im out k p).map Ac.c)),(0,AL l)],[]⟩->J st':=λAX st' dB=>by
   refine hJ st' (i+1,Im out k p) ⟨by simp;omega,by simp[R3 out k p hk];omega,?_,λx=>?_⟩ (by simp;omega) dB
   ·have h0:=S0;unfold K9 at h0 ⊢;rw[<- List.take_append_drop k out]at h0;rw[List.pairwise_append]at h0;show (Im out k p).Pairwise _;unfold Im;rw[List.pairwise_append];refine⟨h0.1,List.pairwise_cons.2 ⟨bg,h0.2.1⟩,λa ha b hb=>?_⟩;rcases mem_cons.1 hb with e|e
    ·rw[e];exact AX a ha
    ·exact h0.2.2 a ha b e
   ·show x∈Im out k p↔x∈l.take (i+1);rw[eD,ht,mem_append,<- Ha x];simp
  refine Ay 12 [([],[5]),([],[28]),([],[29]),([],[3,30]),([],[5,30]),([],[32,30]),([],[31,33,30]),([],[34,30]),([],[3,30]),([],[5,30]),([],[36,37,30]),([],[38,30])] B6 ?_;cases k with
  | zero =>
   have e0:(0<((0:Nat):Int))=False:=by simp
   simp(disch:=omega)only[go_sem,e0,decide_false];exact stop (by simp) _ AK
  | succ k =>
   have e0:(0<(((k+1:Nat)):Int))=True:=eq_true (by omega);have e1:(0<(k:Int)+1)=True:=eq_true (by omega);have e2:((k:Int)+1-1)=(k:Int):=by omega
   obtain⟨x,hx⟩:∃ x,out[k]?=some x:=⟨_,gE (by omega)⟩;have g1:=eC out (k+1) p hk;have g2:=Zs out k p hk;rw[hx]at g2;have Y2:=R3 out (k+1) p hk;have z1:k<(Im out (k+1) p).length:=by omega
   have z2:k+1<(Im out (k+1) p).length:=by omega
   simp(disch:=omega)only[go_sem,e0,e1,e2,gm,g1,g2,length_map,Y2];refine Ab (LD x p) ?_;simp(disch:=omega)only[go_sem]
   by_cases hc:0<BF x p
   ·have e3:(0<BF x p)=True:=eq_true hc;have e4:(k=k+1)=False:=eq_false (by omega);simp(disch:=omega)only[go_sem,e2,e3,gm,g1,g2,length_map,Y2,List.length_set,List.getElem?_set,e4];refine Vo _ k ⟨by omega,λy hy=>?_⟩ (by omega) (AT.Aq ?_ gI)
    ·rw[List.drop_eq_getElem_cons (by omega),get_eq hx]at hy;rcases mem_cons.1 hy with e|e
     ·subst e;have:=DP y p;omega
     ·exact bg y e
    ·simp(disch:=omega)only[go_sem];refine .sl ?_;rw[<- Zt hx,map_set,map_set];rfl
   ·have e3:(0<BF x p)=False:=eq_false hc;simp(disch:=omega)only[go_sem,e3,decide_false];refine stop (λy hy=>?_) _ AK;have Ya:x∈out:=mG hx;have oh:BF x p<0:=by
     have:BF x p≠0:=λe=>xg (by rw[<- FL e];exact Ya)
     omega
    rw[JG hx]at hy;rcases mem_append.1 hy with e|e
    ·have h0:=S0;unfold K9 at h0;rw[<- List.take_append_drop k out,List.pairwise_append]at h0;have hd:out.drop k=x::out.drop (k+1):=by rw[List.drop_eq_getElem_cons (by omega),get_eq hx]
     exact DQ (h0.2.2 y e x (by rw[hd];simp)) oh
    ·rw[List.mem_singleton.1 e];exact oh
 ·have Ba:i=l.length:=by simp at JX;omega
  subst Ba;rw[take_length]at Ha;have e:out=NU l:=Rb S0 (Fk l) λx=>by rw[Ha,Mn]
  refine CU ⟨[],[],[1728]⟩ _ ?_;simp(disch:=omega)only[go_sem,e]
def vW(l:List A9)(hl:l.length<=1000000):Ad C0 206 [Bg l] [] (O2 0 (D7 l)) []:=by
 refine Ad.go f206 ?_;unfold f206;refine gO ?_;refine AF (l) (λi=>⟨[(4,I i),(0,Bg l),(3,.sl (.own 1152 0) 3 ((D7 (l.take i)).map Ac.c))],[]⟩) (λi=>True) trivial ?_ ?_
 ·exact Ce
 rintro i ⟨hi,hP⟩ J hJ;refine gO ?_;refine Bo hi (λAP b hb Cg AX=>?_) λBa=>?_
 simp(disch:=omega)only[go_sem,gm,hb]
 ·have ID:(D7 (l.take i)).length+1<=4294967296:=by simp[D7];omega
  simp(disch:=omega)only[go_sem,D7];refine hJ _ (i+1) ⟨by omega,trivial⟩ (by omega) (AT.Aq ?_ ?_)
  all_goals(try simp(disch:=omega)only[go_sem])
  all_goals(try(repeat'(with_reducible apply And.intro)))
  all_goals(first|exact .Cr (by omega)|exact .A8 (by omega)|exact .sl (by simp[D7,take_add_one,hb,Ac.c])|exact .int (by simp[D7,take_add_one,hb,Ac.c])|exact .eq (by simp[D7,take_add_one,hb,Ac.c]))
 ·subst Ba;refine AY ⟨[(1152,0)],[],[]⟩ _ rfl ⟨rfl,rfl⟩ (by simp[lk]) ?_ trivial;simp(disch:=omega)only[go_sem,take_length]
def kJ(q:Queue)(h:q.As.length+q.waits.length<=1000000):Ad C0 207 [.agg q.c] [] (AL (C3 (q.As++q.waits))) []:=by
 refine Ad.go f207 ?_;unfold f207;refine gO ?_;refine AF (q.As) (λi=>⟨[(4,I i),(1,.ptr 64 0),(3,.sl (.own 1344 0) 3 ((C3 (q.As.take i)).map Ac.c))],[(64,q.c)]⟩) (λi=>True) trivial ?_ ?_
 ·exact Ce
 rintro i ⟨hi,hP⟩ J hJ;refine gO ?_;refine Bo hi (λAP b hb Cg AX=>?_) λBa=>?_
 simp(disch:=omega)only[go_sem,gm,hb]
 ·have ID:(C3 (q.As.take i)).length+1<=4294967296:=by simp[C3];omega
  simp(disch:=omega)only[go_sem,C3];refine hJ _ (i+1) ⟨by omega,trivial⟩ (by omega) (AT.Aq ?_ ?_)
  all_goals(try simp(disch:=omega)only[go_sem])
  all_goals(try(repeat'(with_reducible apply And.intro)))
  all_goals(first|exact .Cr (by omega)|exact .A8 (by omega)|exact .sl (by simp[C3,take_add_one,hb,Ac.c])|exact .int (by simp[C3,take_add_one,hb,Ac.c])|exact .eq (by simp[C3,take_add_one,hb,Ac.c]))
 subst Ba;rw[take_length];clear hJ;refine AF (q.waits) (λi=>⟨[(5,I i),(1,.ptr 64 0),(3,.sl (.own 2368 0) 3 ((C3 (q.As++q.waits.take i)).map Ac.c))],[(64,q.c)]⟩) (λi=>True) trivial ?_ ?_
 ·refine AT.CX ⟨[(1344,2368)],[(64,64)],[]⟩ ⟨rfl,rfl⟩ (by simp[lk]) ?_ ?_
  all_goals(try simp(disch:=omega)only[go_sem])
  all_goals(try(repeat'(with_reducible apply And.intro)))
  all_goals(first|exact .Cr (by omega)|exact .A8 (by omega)|exact .sl (by simp[])|exact .int (by simp[])|exact .eq (by simp[]))
 rintro i ⟨hi,hP⟩ J hJ;refine gO ?_;refine Bo hi (λAP b hb Cg AX=>?_) λBa=>?_
 simp(disch:=omega)only[go_sem,gm,hb]
 ·have ID:(C3 (q.As++q.waits.take i)).length+1<=4294967296:=by simp[C3];omega
  simp(disch:=omega)only[go_sem,C3];refine hJ _ (i+1) ⟨by omega,trivial⟩ (by omega) (AT.Aq ?_ ?_)
  all_goals(try simp(disch:=omega)only[go_sem])
  all_goals(try(repeat'(with_reducible apply And.intro)))
  all_goals(first|exact .Cr (by omega)|exact .A8 (by omega)|exact .sl (by simp[C3,take_add_one,hb,Ac.c])|exact .int (by simp[C3,take_add_one,hb,Ac.c])|exact .eq (by simp[C3,take_add_one,hb,Ac.c]))
 ·subst Ba;refine CU ⟨[],[],[2368]⟩ _ ?_;simp(disch:=omega)only[go_sem,take_length]
def vA(q:Queue)(h:BS q<=1000000):Ad C0 149 [.agg q.c] [] (AL (BU q)) []:=by
 have h1:q.holds.length<=1000000:=by unfold BS at h;omega
 have h2:q.As.length+q.waits.length<=1000000:=by unfold BS B7 at h;omega
 have h3:(D7 q.holds).length+(C3 (q.As++q.waits)).length<=1000000:=by simp[D7,C3];unfold BS B7 at h;omega
 have h4:(D7 q.holds).length+(C3 (q.As++q.waits)).length<=4294967296:=by omega
 refine Ad.go f149 ?_;unfold f149;refine gO ?_;refine Ay 4 [([],[1]),([],[3]),([],[4]),([],[1])] B6 ?_;refine gO ?_;refine AO ⟨⟨[],[],[]⟩,[(0,320)],[]⟩ (vW q.holds h1) gI rfl rfl trivial (.inl rfl) ?_;refine gO ?_
 first|(refine Ab (kJ q h2) ?_)|(refine Ax (kJ q h2) ?_)
 refine gO ?_;refine FU [512] (rh (D7 q.holds++C3 (q.As++q.waits)) (by simpa using h3)) (by simp(disch:=omega)only[go_sem];exact .sl (by simp)) rfl ?_;refine gO ?_;refine CT _ ?_;simp(disch:=omega)only[go_sem,BU]
def E0(q:Queue)(p:Ac)(h:q.holds.length<=1000000):Ad C0 57 [.agg q.c,.agg p.c] [] (.agg (Am q.holds p).c) []:=by
 refine Ad.go f57 ?_;unfold f57;refine gO ?_;refine Ab (Ru q.holds p h) ?_;refine gO ?_;exact AQ _
def RH{l:List Bh}{p:Ac}:(FG l p<0/\l.find? (λw=>decide (w.proc=p))=none)\/∃ (i:Nat) (w:Bh),FG l p=i/\l[i]?=some w/\l.find? (λw=>decide (w.proc=p))=some w:=by
 unfold FG;cases h:l.findIdx? (λw=>decide (w.proc=p)) with
 |none =>
  left;refine⟨by simp,?_⟩;rw[List.findIdx?_eq_none_iff]at h;rw[List.find?_eq_none];intro x hx;simpa using h x hx
 |some i =>
  right;obtain⟨h1,h2,h3⟩:=(List.findIdx?_eq_some_iff_getElem.1 h);refine⟨i,l[i],rfl,gE h1,?_⟩;rw[List.find?_eq_some_iff_getElem];exact⟨h2,i,h1,rfl,λj hj=>by simpa using h3 j hj⟩
def Nc(q:Queue)(p:Ac)(h1:q.As.length<=1000000)(h2:q.waits.length<=1000000):Ad C0 55 [.agg q.c,.agg p.c] [] (.BC [.agg ((Ar q p).getD ⟨0,0⟩).c,B (Ar q p).isSome]) []:=by
 refine Ad.go f55 ?_;unfold f55;refine gO ?_;refine Ab (Pt q.As p h1) ?_;rcases RH (l:=q.As) (p:=p) with ⟨a,b⟩|⟨i,w,a,b,c⟩
 ·have e1:(0<=FG q.As p)=False:=eq_false (by omega);simp(disch:=omega)only[go_sem,e1,decide_false];refine Ab (Pt q.waits p h2) ?_;rcases RH (l:=q.waits) (p:=p) with ⟨a',b'⟩|⟨i,w,a',b',c'⟩
  ·have e2:(0<=FG q.waits p)=False:=eq_false (by omega);have e:Ar q p=none:=by simp[Ar,List.find?_append,b,b']
   simp(disch:=omega)only[go_sem,e2,e,isSome_none,decide_false];exact AQ _
  ·have e:Ar q p=some w.AH:=by simp[Ar,List.find?_append,b,c']
   simp(disch:=omega)only[go_sem,a',e,isSome_some,gm,b'];exact AQ _
 ·have e:Ar q p=some w.AH:=by simp[Ar,List.find?_append,c]
  simp(disch:=omega)only[go_sem,a,e,isSome_some,gm,b];exact AQ _
def OH(q:Queue)(p:Ac):Bool:=(Ar q p).isSome||!(Am q.holds p).zero
def Vc(q:Queue)(p:Ac)(h:BS q<=1000000):Ad C0 109 [.agg q.c,.agg p.c] [] (B (OH q p)) []:=by
 have h1:q.holds.length<=1000000:=by unfold BS at h;omega
 have h2:q.As.length<=1000000:=by unfold BS B7 at h;omega
 have h3:q.waits.length<=1000000:=by unfold BS B7 at h;omega
 refine Ad.go f109 ?_;unfold f109;refine gO ?_;refine Ab (Nc q p h2 h3) ?_;cases hw:(Ar q p).isSome
 ·simp(disch:=omega)only[go_sem,hw];refine Ab (E0 q p h1) ?_;refine gO ?_;refine Ab (Fp (Am q.holds p)) ?_;refine gO ?_;refine Al _ ?_;exact wb (by simp[OH,hw])
 ·simp(disch:=omega)only[go_sem,hw];refine Al _ ?_;exact wb (by simp[OH,hw])
def SP(q:Queue)(h1:q.holds.length<=1000000)(h2:q.As.length<=1000000)(h3:q.waits.length<=1000000):Ad C0 61 [.agg q.c] [] (.agg q.c) []:=by
 refine Ad.go f61 ?_;unfold f61;refine gO ?_;refine CU ⟨[],[],[384,704,1024]⟩ _ ?_;simp(disch:=omega)only[go_sem,Bg]
def aJ(n:Int):Ad C0 153 [I n] [] (I (OW n)) []:=by
 refine Ad.go f153 ?_;unfold f153;simp(disch:=omega)only[go_sem]
 repeat'(with_reducible refine And.intro (λh=>?_) (λh=>?_))
 all_goals(refine CT _ ?_)
 all_goals(try simp(disch:=omega)only[go_sem])
 all_goals(first|(simp_all[OW];done)|exact wi (by simp_all[OW,IntKind.wrap,IntKind.signed,IntKind.bits]<;>omega))
def Va(l:List Bh)(p:Ac)(hl:l.length<=1000000):Ad C0 102 [Ct l,.agg p.c] [] (.BC [Ct (Bv l p),B (decide ((Bv l p).length<l.length))]) []:=by
 refine Ad.go f102 ?_;unfold f102;refine gO ?_;have hd:∀ i,(Bv (l.take i) p).length<=l.length:=λi=>le_trans (Cq _ _) (by simp;omega)
 refine AF (l) (λi=>⟨[(7,I i),(0,Ct l),(3,.ptr 192 0),(6,.sl (.own 1728 0) 7 ((Bv (l.take i) p).map Bh.c))],[(192,p.c)]⟩) (λi=>True) trivial ?_ ?_
 ·exact Ce
 rintro i ⟨hi,hP⟩ J hJ;refine gO ?_;refine Bo hi (λAP b hb Cg AX=>?_) λBa=>?_
 refine Ay 6 [([],[0]),([],[7]),([],[14,15]),([],[16]),([],[17]),([],[3])] B6 ?_;simp(disch:=omega)only[go_sem,gm,hb]
 ·have nC:=hd i
  by_cases N8:b.proc=p
  ·simp(disch:=omega)only[go_sem,N8,decide_false];refine hJ _ (i+1) ⟨by omega,trivial⟩ (by omega) (AT.Aq ?_ ?_)
   all_goals(try simp(disch:=omega)only[go_sem])
   all_goals(try(repeat'(with_reducible apply And.intro)))
   all_goals(first|exact .Cr (by omega)|exact .A8 (by omega)|exact .sl (by simp[Bv,take_add_one,hb,N8])|exact .int (by simp[Bv,take_add_one,hb,N8])|exact .eq (by simp[Bv,take_add_one,hb,N8]))
  ·simp(disch:=omega)only[go_sem,N8,decide_true,gm,hb];refine hJ _ (i+1) ⟨by omega,trivial⟩ (by omega) (AT.Aq ?_ ?_)
   all_goals(try simp(disch:=omega)only[go_sem])
   all_goals(try(repeat'(with_reducible apply And.intro)))
   all_goals(first|exact .Cr (by omega)|exact .A8 (by omega)|exact .sl (by simp[Bv,take_add_one,hb,N8,Bh.c])|exact .int (by simp[Bv,take_add_one,hb,N8,Bh.c])|exact .eq (by simp[Bv,take_add_one,hb,N8,Bh.c]))
 ·subst Ba;have nC:=hd l.length;rw[take_length]at nC ⊢;have e:decide (((Bv l p).length:Int)<l.length)=decide ((Bv l p).length<l.length):=by simp
  refine AY ⟨[],[],[1728]⟩ _ (by(try simp(disch:=omega)only[go_sem,Cx,Gv])<;>rfl) ⟨rfl,rfl⟩ (by simp[lk]) ?_ trivial;simp(disch:=omega)only[go_sem,e]
def Es(l:List A9)(p:Ac)(a:BR):Bool:=a.zero||(AR l p).any (after' p)
def LK(l:List A9)(p:Ac)(a:BR):List A9:=if Es l p a then CO l p a else AR l p
def X2{l:List A9}{p:Ac}{b:A9}(h:b.proc=p):AR (l++[b]) p=AR l p:=by simp[AR,h]
def F6{l:List A9}{p:Ac}{b:A9}(h:b.proc≠p):AR (l++[b]) p=AR l p++[b]:=by simp[AR,h]
def xW{l:List A9}{p:Ac}{a:BR}{b:A9}(h:b.proc=p):LK (l++[b]) p a=LK l p a/\Es (l++[b]) p a=Es l p a:=by simp[LK,Es,CO,X2 h]
def jq{k:List A9}{p:Ac}(b:A9)(h:k.any (after' p)=true):Dd (k++[b]) p=Dd k p:=by
 unfold Dd;rw[List.findIdx?_append];cases hf:k.findIdx? (after' p) with
 |some i=>simp
 |none =>
  rw[List.findIdx?_eq_none_iff]at hf;obtain⟨x,hx,hy⟩:=List.any_eq_true.1 h;rw[hf x hx]at hy;simp at hy
def YP{k:List A9}{p:Ac}(h:k.any (after' p)=false):k.findIdx? (after' p)=none:=by
 rw[List.findIdx?_eq_none_iff];intro x hx;rw[List.any_eq_false]at h;simpa using h x hx
def oP{l:List A9}{p:Ac}{a:BR}{b:A9}(h:b.proc≠p)(hd:Es l p a=true):LK (l++[b]) p a=LK l p a++[b]/\Es (l++[b]) p a=true:=by
 have h2:Es (l++[b]) p a=true:=by
  unfold Es at hd ⊢;rw[F6 h,any_append];revert hd;cases a.zero<;>simp<;>(try intro x hx h;exact .inl ⟨x,hx,h⟩)
 refine⟨?_,h2⟩;unfold LK;rw[h2,hd];simp only[if_true];unfold CO;rw[F6 h];cases hz:a.zero
 ·have ha:(AR l p).any (after' p)=true:=by simpa [Es,hz]using hd
  simp only[false_eq_true,if_false];have:=Zz (AR l p) p;rw[jq b ha,List.take_append_of_le_length this,List.drop_append_of_le_length this];simp
 ·simp
def sW{l:List A9}{p:Ac}{a:BR}{b:A9}(h:b.proc≠p)(hd:Es l p a=false)(hb:0<BF b.proc p):LK (l++[b]) p a=LK l p a++[⟨p,a⟩,b]/\Es (l++[b]) p a=true:=by
 have ha:a.zero=false/\(AR l p).any (after' p)=false:=by unfold Es at hd;simpa using hd
 have N8:after' p b=true:=by simpa [after']using hb
 have h2:Es (l++[b]) p a=true:=by
  unfold Es;rw[F6 h,any_append];simp[N8]
 refine⟨?_,h2⟩;unfold LK;rw[h2,hd];simp only[if_true,false_eq_true,if_false];unfold CO;rw[F6 h,ha.1];have e:Dd (AR l p++[b]) p=(AR l p).length:=by
  unfold Dd;rw[List.findIdx?_append,YP ha.2];simp[N8]
 rw[e];simp
def xX{l:List A9}{p:Ac}{a:BR}{b:A9}(h:b.proc≠p)(hd:Es l p a=false)(hb:¬ 0<BF b.proc p):LK (l++[b]) p a=LK l p a++[b]/\Es (l++[b]) p a=false:=by
 have ha:a.zero=false/\(AR l p).any (after' p)=false:=by unfold Es at hd;simpa using hd
 have N8:after' p b=false:=by simpa [after']using hb
 have h2:Es (l++[b]) p a=false:=by
  unfold Es;rw[F6 h,any_append];simp[N8,ha.1,ha.2]
 refine⟨?_,h2⟩;unfold LK;rw[h2,hd];simp only[false_eq_true,if_false];exact F6 h
def sU{l:List A9}{p:Ac}{a:BR}:CO l p a=if Es l p a then LK l p a else LK l p a++[⟨p,a⟩]:=by
 unfold LK;cases hd:Es l p a
 ·have ha:a.zero=false/\(AR l p).any (after' p)=false:=by unfold Es at hd;simpa using hd
  have e:Dd (AR l p) p=(AR l p).length:=by
   unfold Dd;rw[YP ha.2];rfl
  simp[CO,ha.1,e]
 ·simp
def sV(l:List A9)(p:Ac)(a:BR):(LK l p a).length<=l.length+1:=by
 have h1:(AR l p).length<=l.length:=List.length_filter_le _ _;have:=JB l p a;unfold LK;split<;>omega
def eR(p:Ac)(a:BR):LK [] p a=[]/\Es [] p a=a.zero:=by
 have h:Es [] p a=a.zero:=by simp[Es,AR]
 refine⟨?_,h⟩;unfold LK;rw[h];cases hz:a.zero<;>simp[CO,AR,hz]
def Pv(l:List A9)(p:Ac)(a:BR)(hl:l.length<=1000000):Ad C0 107 [Bg l,.agg p.c,.agg a.c] [] (Bg (CO l p a)) []:=by
 refine Ad.go f107 ?_;unfold f107;refine gO ?_;refine Ab (Fp a) ?_;refine gO ?_;have hd:∀ i,(LK (l.take i) p a).length<=l.length+1:=λi=>by have:=sV (l.take i) p a;simp at this;omega
 refine AF (l) (λi=>⟨[(9,I i),(0,Bg l),(4,.ptr 256 0),(5,.ptr 320 0),(8,B (Es (l.take i) p a)),(7,.sl (.own 3136 0) 5 ((LK (l.take i) p a).map A9.c))],[(256,p.c),(320,a.c)]⟩) (λi=>True) trivial ?_ ?_
 ·refine AT.Aq ?_ ?_
  all_goals(try simp(disch:=omega)only[go_sem,List.take_zero,(eR p a).1,(eR p a).2,map_nil])
  all_goals(try(repeat'(with_reducible apply And.intro)))
  all_goals(first|exact .Cr (by omega)|exact .A8 (by omega)|exact .sl (by simp[Es])|exact .int (by simp[Es])|exact .eq (by simp[Es]))
 rintro i ⟨hi,hP⟩ J hJ;refine gO ?_;refine Bo hi (λAP b hb Cg AX=>?_) λBa=>?_
 refine Ay 6 [([],[0]),([],[9]),([],[18,19]),([],[20]),([],[21]),([],[4])] B6 ?_;simp(disch:=omega)only[go_sem,gm,hb]
 ·have nC:=hd i
  by_cases N8:b.proc=p
  ·obtain⟨e1,e2⟩:=xW (l:=l.take i) (a:=a) N8;simp(disch:=omega)only[go_sem,N8,decide_true];refine hJ _ (i+1) ⟨by omega,trivial⟩ (by omega) (AT.Aq ?_ ?_)
   all_goals(try simp(disch:=omega)only[go_sem])
   all_goals(try(repeat'(with_reducible apply And.intro)))
   all_goals(first|exact .Cr (by omega)|exact .A8 (by omega)|exact .sl (by simp[take_add_one,hb,e1,e2])|exact .int (by simp[take_add_one,hb,e1,e2])|exact .eq (by simp[take_add_one,hb,e1,e2]))
  ·simp(disch:=omega)only[go_sem,N8,decide_false];refine Ay 9 [([],[8]),([],[25]),([],[26]),([],[0,27]),([],[9,27]),([],[28,29,27]),([],[30,27]),([],[31,27]),([],[4,27])] B6 ?_;refine gO ?_;cases hdo:Es (l.take i) p a
   ·simp(disch:=omega)only[go_sem,gm,hb]
    first|(refine Ab (LD b.proc p) ?_)|(refine Ax (LD b.proc p) ?_)
    refine gO ?_
    by_cases hc:0<BF b.proc p
    ·obtain⟨e1,e2⟩:=sW (a:=a) N8 hdo hc;simp(disch:=omega)only[go_sem,hc,decide_true,gm,hb];refine hJ _ (i+1) ⟨by omega,trivial⟩ (by omega) (AT.Aq ?_ ?_)
     all_goals(try simp(disch:=omega)only[go_sem])
     all_goals(try(repeat'(with_reducible apply And.intro)))
     all_goals(first|exact .Cr (by omega)|exact .A8 (by omega)|exact .sl (by simp[take_add_one,hb,e1,e2,A9.c])|exact .int (by simp[take_add_one,hb,e1,e2,A9.c])|exact .eq (by simp[take_add_one,hb,e1,e2,A9.c]))
    ·obtain⟨e1,e2⟩:=xX (a:=a) N8 hdo hc;simp(disch:=omega)only[go_sem,hc,decide_false,gm,hb];refine hJ _ (i+1) ⟨by omega,trivial⟩ (by omega) (AT.Aq ?_ ?_)
     all_goals(try simp(disch:=omega)only[go_sem])
     all_goals(try(repeat'(with_reducible apply And.intro)))
     all_goals(first|exact .Cr (by omega)|exact .A8 (by omega)|exact .sl (by simp[take_add_one,hb,e1,e2,A9.c])|exact .int (by simp[take_add_one,hb,e1,e2,A9.c])|exact .eq (by simp[take_add_one,hb,e1,e2,A9.c]))
   ·obtain⟨e1,e2⟩:=oP (a:=a) N8 hdo;simp(disch:=omega)only[go_sem,gm,hb];refine hJ _ (i+1) ⟨by omega,trivial⟩ (by omega) (AT.Aq ?_ ?_)
    all_goals(try simp(disch:=omega)only[go_sem])
    all_goals(try(repeat'(with_reducible apply And.intro)))
    all_goals(first|exact .Cr (by omega)|exact .A8 (by omega)|exact .sl (by simp[take_add_one,hb,e1,e2,A9.c])|exact .int (by simp[take_add_one,hb,e1,e2,A9.c])|exact .eq (by simp[take_add_one,hb,e1,e2,A9.c]))
 ·subst Ba;have nC:=hd l.length;have he:=sU (l:=l) (p:=p) (a:=a);rw[take_length]at nC ⊢;cases hdo:Es l p a
  ·rw[hdo]at he;simp only[false_eq_true,if_false]at he;refine gO ?_;refine CU ⟨[],[],[3648]⟩ _ ?_;simp(disch:=omega)only[go_sem,he];exact .sl (by simp[A9.c])
  ·rw[hdo]at he;simp only[if_true]at he;refine gO ?_;refine CU ⟨[],[],[3136]⟩ _ ?_;simp(disch:=omega)only[go_sem,he]
def kK(q:Queue):Ad C0 211 [.agg q.c] [] (.BC [.agg ((BZ q).getD w0).c,B (BZ q).isSome]) []:=by
 refine Ad.go f211 ?_;unfold f211
 match hq:q.As,hw:q.waits with
 | w::l,_ =>
  have e:BZ q=some w:=by simp[BZ,hq]
  have e1:(0<(l.length:Int)+1)=True:=by simp
  simp(disch:=omega)only[go_sem,hq,e,e1,isSome_some];exact AQ _
 |[],w::l =>
  have e:BZ q=some w:=by simp[BZ,hq,hw]
  have e1:(0<(l.length:Int)+1)=True:=by simp
  simp(disch:=omega)only[go_sem,hq,hw,e,e1,isSome_some];exact AQ _
 |[],[] =>
  have e:BZ q=none:=by simp[BZ,hq,hw]
  simp(disch:=omega)only[go_sem,hq,hw,e,isSome_none,w0];exact AQ _
def vX(r:BE)(l:List A9)(p:Ac)(a:BR)(hl:l.length<=1000000):Ad C0 212 [.agg r.c,Bg l,.agg p.c,.agg a.c] [] (B (F3 r l p a)) []:=by
 have h2:(CO l p a).length<=1000000\/l.length=1000000:=by have:=JB l p a;omega
 refine Ad.go f212 ?_;unfold f212;refine gO ?_;refine Ay 18 [([],[4]),([],[1]),([],[9,10]),([2],[11]),([2],[6,12]),([2],[13,12]),([2,5],[12,14]),([2,5],[15]),([2,5],[4,16]),([2,5],[7,16]),([2,5],[17,18,16]),([2,5,10],[16,19]),([2,5,10],[20]),([2,5,10],[4,21]),([2,5,10],[1,21]),([2,5,10],[6,21]),([2,5,10],[7,21]),([2,5,10],[23,24,25,21])] B6 ?_;refine gO ?_
 first|(refine Ab (M9 r l hl) ?_)|(refine Ax (M9 r l hl) ?_)
 cases h1:BV r l
 ·simp(disch:=omega)only[go_sem];refine Al _ ?_;exact wb (by simp[F3,h1])
 have h8:l.length<=8:=by simp[BV]at h1;omega
 have h9:(CO l p a).length<=1000000:=by omega
 simp(disch:=omega)only[go_sem]
 repeat'(first
  |(with_reducible refine And.intro (λh=>?_) (λh=>?_))
  |((with_reducible show Bi _ _ 82 _ _ _);refine Ai (KI p) ?_ rfl ?_;(focus(simp(disch:=omega)only[go_sem];done));try simp(disch:=omega)only[go_sem])
  |((with_reducible show Bn _ _ 82 _ _ _ _ _ _ _);refine AO ⟨⟨[],[],[]⟩,[],[]⟩ (KI p) ?_ rfl rfl trivial (.inl rfl) ?_;(focus(simp(disch:=omega)only[go_sem];done));try simp(disch:=omega)only[go_sem])
  |((with_reducible show Bi _ _ 155 _ _ _);refine Ai (Hp r a) ?_ rfl ?_;(focus(simp(disch:=omega)only[go_sem];done));try simp(disch:=omega)only[go_sem])
  |((with_reducible show Bn _ _ 155 _ _ _ _ _ _ _);refine AO ⟨⟨[],[],[]⟩,[],[]⟩ (Hp r a) ?_ rfl rfl trivial (.inl rfl) ?_;(focus(simp(disch:=omega)only[go_sem];done));try simp(disch:=omega)only[go_sem])
  |((with_reducible show Bi _ _ 107 _ _ _);refine Ai (Pv l p a hl) ?_ rfl ?_;(focus(simp(disch:=omega)only[go_sem];done));try simp(disch:=omega)only[go_sem])
  |((with_reducible show Bn _ _ 107 _ _ _ _ _ _ _);refine AO ⟨⟨[],[],[]⟩,[],[]⟩ (Pv l p a hl) ?_ rfl rfl trivial (.inl rfl) ?_;(focus(simp(disch:=omega)only[go_sem];done));try simp(disch:=omega)only[go_sem])
  |((with_reducible show Bi _ _ 209 _ _ _);refine Ai (M9 r (CO l p a) h9) ?_ rfl ?_;(focus(simp(disch:=omega)only[go_sem];done));try simp(disch:=omega)only[go_sem])
  |((with_reducible show Bn _ _ 209 _ _ _ _ _ _ _);refine AO ⟨⟨[],[],[]⟩,[],[]⟩ (M9 r (CO l p a) h9) ?_ rfl rfl trivial (.inl rfl) ?_;(focus(simp(disch:=omega)only[go_sem];done));try simp(disch:=omega)only[go_sem]))
 all_goals(refine CT _ ?_)
 all_goals(try simp(disch:=omega)only[go_sem])
 all_goals(refine wb ?_)
 all_goals(simp_all[F3])
end Go.Rd
