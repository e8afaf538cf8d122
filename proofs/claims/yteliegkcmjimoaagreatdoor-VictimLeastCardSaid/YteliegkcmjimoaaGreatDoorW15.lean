/- part 15 of the proof -/
import Derived.Test.YteliegkcmjimoaaGreatDoorW14
set_option linter.all false
open Go Go.Abs Go.Proofs
set_option maxRecDepth 100000
namespace Go.Rd
set_option maxHeartbeats 8000000
open List (length_map map_nil map_set mem_append mem_cons mem_singleton pairwise_append take_add_one take_length)
open Nat (lt_succ_self)
open Tryz
def fC{lv:Int}(h1:0<=lv)(h4:lv<=4):∀ (l:List Expr) (n m:Int),n<=24->n<=(Gp l lv n m).1
 |[],n,m,_=>by simp[Gp]
 | e::l,n,m,hn=>by
  have b:=MC _ e (lt_succ_self _) (lv+1) (by omega) (by omega);simp only[Gp];split
  ·simp only;omega
  ·have:=fC h1 h4 l (n+(EI e (lv+1)).1) (max m (EI e (lv+1)).2) (by omega);have:=b.1;omega
def msC(e:Expr)(lv:Int):Prop:=∀ n:Int,0<=n->n<=24->((meas e lv n).1≠0->EI e lv=((meas e lv n).2-n,(meas e lv n).1))/\((meas e lv n).1=0->24<n+(EI e lv).1)
def W7{lv:Int}(h1:1<=lv)(h4:lv<=4):∀ (l:List Expr) (n0 n m:Int),(∀ e∈l,msC e (lv+1))->1<=n->0<=n0->n0+n<=24->0<=m ->
 ((Gk l lv (n0+n) m).1≠0->Gp l lv n m=((Gk l lv (n0+n) m).2-n0,(Gk l lv (n0+n) m).1))/\((Gk l lv (n0+n) m).1=0->24<n0+(Gp l lv n m).1)
 |[],n0,n,m,_,_,_,_,hm=>by grind[Gk,Gp]
 | e::l,n0,n,m,hk,a1,a2,a3,hm=>by
  obtain⟨k1,k2⟩:=hk e (by simp) (n0+n) (by omega) a3;have b:=PK _ e (lt_succ_self _) (lv+1) (n0+n) (by omega) (by omega) (by omega) a3;simp only[Gk,Gp]
  by_cases hz:(meas e (lv+1) (n0+n)).1=0
  ·have nK:=k2 hz;rw[if_pos hz];refine⟨λh=>absurd rfl h,λ_=>?_⟩;split
   ·omega
   ·have:=fC (by omega) h4 l (n+(EI e (lv+1)).1) (max m (EI e (lv+1)).2) (by omega);omega
  ·have hs:=k1 hz;have hb:=b.2.2.2.2 hz;have dK:=b.1;have JX:=Vz _ e (lt_succ_self _) (lv+1) (n0+n);rw[if_neg hz,hs];simp only;have e1:n+((meas e (lv+1) (n0+n)).2-(n0+n))=(meas e (lv+1) (n0+n)).2-n0:=by omega
   rw[e1,if_neg (by omega)];have ih:=W7 h1 h4 l n0 ((meas e (lv+1) (n0+n)).2-n0) (max m (meas e (lv+1) (n0+n)).1) (λe' he=>hk e' (by grind)) (by omega) a2 (by omega) (by omega);have e2:n0+((meas e (lv+1) (n0+n)).2-n0)=(meas e (lv+1) (n0+n)).2:=by omega
   rw[e2]at ih;exact ih
def Zp:∀ (N:Nat) (e:Expr),SizeOf.sizeOf e<N->∀ lv:Int,1<=lv->lv<=5->msC e lv
 | 0,_,h,_,_,_=>by omega
 | N+1,e,h,lv,h1,h5=>by
  intro n hn0 hn;have sb:=MC _ e (lt_succ_self _) lv h1 h5;rw[Ml]
  by_cases hc:4<lv\/24<n+1
  ·rw[if_pos hc];refine⟨λh=>absurd rfl h,λ_=>?_⟩
   by_cases h4:4<lv
   ·rw[I4,if_pos (.inl h4)];omega
   ·have:=sb.1;omega
  ·rw[if_neg hc];have hL:=W7 h1 (by omega) e.kids n 1 0 (λe' he=>Zp N e' (by have:=EM he;omega) _ (by omega) (by omega)) (by omega) hn0 (by omega) (by omega)
   by_cases nK:24<e.kids.length
   ·rw[I4,if_pos (.inr nK)];refine⟨λh=>?_,λ_=>by omega⟩;have:=W6 e.kids (n+1) 0 h (by omega) (by omega) λe' _ n' k1 k2 k3=>⟨Vz _ e' (lt_succ_self _) _ _,(PK _ e' (lt_succ_self _) (lv+1) n' (by omega) (by omega) k1 k2).2.2.2.2 k3⟩
    omega
   ·rw[I4,if_neg (by omega)];exact hL
def OX(e:Expr):Ip e=0↔depth e=0:=by
 have h:=Zp _ e (lt_succ_self _) 1 (by omega) (by omega) 0 (by omega) (by omega);have b:=PK _ e (lt_succ_self _) 1 0 (by omega) (by omega) (by omega) (by omega);have sb:=(MC _ e (lt_succ_self _) 1 (by omega) (by omega)).1;unfold Ip depth
 by_cases hz:(meas e 1 0).1=0
 ·have:=h.2 hz;rw[if_pos (by omega)];simp[hz]
 ·have h1:=h.1 hz;have h2:=b.2.2.2.2 hz;have h3:(EI e 1).1=(meas e 1 0).2:=by grind
  rw[if_neg (by omega)];constructor
  ·omega
  omega
def ZL{lv:Int}:∀ (l:List Expr) (n m:Int),(∀ e∈l,(EI e (lv+1)).1<=24->(uX e:Int)=(EI e (lv+1)).1)->1<=lv->lv<=4->0<=n->n<=24->(Gp l lv n m).1<=24->n+(V2 l:Int)=(Gp l lv n m).1
 |[],n,m,_,_,_,_,_,_=>by simp[Gp,V2]
 | e::l,n,m,hk,h1,h4,hn,Y4,h=>by
  have b:=MC _ e (lt_succ_self _) (lv+1) (by omega) (by omega);simp only[Gp,V2]at h ⊢;split at h
  ·simp at h
  ·rename_i AP;rw[if_neg AP];have b1:=b.1;have:=hk e (by simp) (by omega);have ih:=ZL l _ _ (λe' he=>hk e' (by grind)) h1 h4 (by omega) (by omega) h;rw[<- ih];omega
def ZK:∀ (N:Nat) (e:Expr),SizeOf.sizeOf e<N->∀ lv:Int,1<=lv->lv<=5->(EI e lv).1<=24->(uX e:Int)=(EI e lv).1
 | 0,_,h,_,_,_,_=>by omega
 | N+1,e,h,lv,h1,h5,hs=>by
  rw[I4]at hs ⊢;split at hs
  ·omega
  ·rename_i hc;rw[if_neg hc,au];have:=ZL e.kids 1 0 (λe' he br=>ZK N e' (by have:=EM he;omega) _ (by omega) (by omega) br) h1 (by omega) (by omega) (by omega) hs;rw[<- this];omega
def oJ{e:Expr}(h:Ip e≠0):uX e<=24:=by
 unfold Ip at h
 by_cases nK:24<(EI e 1).1
 ·omega
 ·have:=ZK _ e (lt_succ_self _) 1 (by omega) (by omega) (by omega);omega
def Ma(l:List Atom):Prop:=l.length<=8/\l.Pairwise λa b=>a.name≠b.name
def dx{l m:List Atom}(h:l <+: m)(hg:Ma m):Ma l:=⟨Nat.le_trans h.length_le hg.1,hg.2.sublist h.sublist⟩
def Re(l:List Atom)(a:Atom):l <+: Fl l a:=by grind[Fl]
def Of:∀ (es:List Expr) (l:List Atom),(∀ e∈es,∀ l,(Iz e l).2=true->l <+: (Iz e l).1)->(J5 es l).2=true->l <+: (J5 es l).1
 |[],l,_,_=>by simp[J5]
 | e::es,l,hk,h=>by
  simp[J5]at h ⊢;split at h
  ·rename_i ht;rw[if_pos ht];exact List.IsPrefix.trans (hk e (by simp) l ht) (Of es _ (λe' he=>hk e' (by simp[he])) h)
  grind
def TG:∀ (N:Nat) (e:Expr),SizeOf.sizeOf e<N->∀ l,(Iz e l).2=true->l <+: (Iz e l).1
 | 0,_,h,_,_=>by omega
 | N+1,e,h,l,ht=>by
  rw[Kw]at ht ⊢;split at ht
  ·rename_i h0;rw[if_pos h0];split at ht<;>simp_all[Re]
  ·rename_i h0;rw[if_neg h0];split at ht
   ·grind
   ·rename_i h1;rw[if_neg h1];exact Of _ _ (λe' he l'=>TG N e' (by have:=EM he;omega) l') ht
def paC(e:Expr):Prop:=∀ l,Ma l->((prop e l).1=true->Iz e l=((prop e l).2,true)/\Ma (prop e l).2)/\((prop e l).1=false->(Iz e l).2=true->¬ Ma (Iz e l).1)
def ZB:∀ (es:List Expr),(∀ e∈es,paC e)->∀ l,Ma l->((C4 es l).1=true->J5 es l=((C4 es l).2,true)/\Ma (C4 es l).2)/\((C4 es l).1=false->(J5 es l).2=true->¬ Ma (J5 es l).1)
 |[],_,l,hg=>by simp[C4,J5,hg]
 | e::es,hk,l,hg=>by
  obtain⟨k1,k2⟩:=hk e (by simp) l hg;simp[C4,J5];cases hp:(prop e l).1
  ·simp;cases ha:(Iz e l).2
   ·simp
   ·intro ht yU;simp at ht yU;have h1:=k2 hp ha;exact h1 (dx (Of es _ (λe' he l'=>TG _ e' (lt_succ_self _) l') ht) yU)
  simp_all[ZB]
def xY{l:List Atom}(h:l.Pairwise λa b=>a.name≠b.name){a b:Atom}(ha:a∈l)(hb:b∈l)(hn:a.name=b.name):a=b:=by induction l<;>grind[List.pairwise_cons]
def Xp:∀ (N:Nat) (e:Expr),SizeOf.sizeOf e<N->paC e
 | 0,_,h=>by omega
 | N+1,e,h=>by
  intro l hg;rw[EW,Kw]
  by_cases h0:e.kids.length=0
  ·rw[if_pos h0,if_pos h0]
   by_cases h1:e.k=0/\MZ e.atom=true
   ·rw[if_pos h1,if_pos h1];simp only;unfold Gl;cases hf:l.find? (pF e.atom) with
    |some b =>
     have hb:=List.mem_of_find?_eq_some hf;have hh:=List.find?_some hf
     by_cases LP:e.atom=b
     ·have:Fl l e.atom=l:=by simp_all[Fl]
      rw[this];simp[LP,hg]
     ·simp[LP];have Gj:e.atom.name=b.name:=by grind[pF]
      intro yU;have N8:b∈Fl l e.atom:=(Re l e.atom).subset hb;have NZ:e.atom∈Fl l e.atom:=by grind[Fl]
      exact LP (xY yU.2 NZ N8 Gj)
    |none =>
     have Y5:∀ x∈l,e.atom≠x/\e.atom.name≠x.name:=by grind[pF]
     have hm:e.atom∉l:=λhx=>(Y5 _ hx).1 rfl
     have hE:Fl l e.atom=l++[e.atom]:=by simp_all[Fl]
     rw[hE]
     by_cases h8:l.length=8
     ·simp[h8];intro yU;have:=yU.1;simp at this;omega
     ·simp[h8];refine⟨by have:=hg.1;simp;omega,?_⟩;rw[pairwise_append];refine⟨hg.2,by simp,λa ha b hb=>?_⟩;grind
   grind
  ·rw[if_neg h0,if_neg h0]
   by_cases h1:e.k<1\/(e.kids.length:Int)<e.k\/e.atom≠a0
   ·grind
   ·rw[if_neg h1,if_neg h1];exact ZB e.kids (λe' he=>Xp N e' (by have:=EM he;omega)) l hg
def Ace{e:Expr}(h:BM e=true):Ip e≠0/\Iz e []=(Ah e,true)/\Ma (Ah e):=by
 have hp:=GC h;have hk:=(Xp _ e (lt_succ_self _) [] ⟨by simp,by simp⟩).1 hp;have hc:=KY _ e (lt_succ_self _) [] hp;have ha:Ah e=(prop e []).2:=by simp_all[Ah]
 rw[ha];refine⟨?_,hk⟩;simp_all[OX,BM]
def x5{e:Expr}(h:BM e=false)(hn:Ip e≠0)(ha:(Iz e []).2=true):¬ Ma (Iz e []).1:=by
 have hk:=(Xp _ e (lt_succ_self _) [] ⟨by simp,by simp⟩).2;rw[Ne,OX]at hn;refine hk ?_ ha;grind[BM]
def Rx(e:Expr):Ad C0 134 [.agg e.c] [] (.BC [BG (Ah e),B (BM e)]) []:=by
 refine Ad.go f134 ?_;unfold f134;refine gO ?_;refine Ab (vT e) ?_;have bad:BM e=false->Ah e=[]:=λh=>by simp[Ah,h]
 by_cases hn:Ip e=0
 ·have e0:(Ip e==0)=true:=by simp[hn]
  have hx:BM e=false:=by simp[BM,(OX e).1 hn]
  simp(disch:=omega)only[go_sem,e0,hx,bad hx];exact Gw _
 have e0:(Ip e==0)=false:=by simp[hn]
 have hc:=oJ hn;have hl:=VK _ e (lt_succ_self _) [];have KN:=kE _ e (lt_succ_self _) [] (by simp;omega);have CC:=@Ace e;have S1:=@x5 e;simp(disch:=omega)only[go_sem,e0];generalize Iz e []=x at hl KN CC S1;obtain⟨m,ok⟩:=x;cases ok
 ·have hx:BM e=false:=by
   cases h:BM e
   ·rfl
   ·have:=(CC h).2.1;simp at this
  refine By ⟨⟨[],[],[]⟩,[(1,832)],[]⟩ (show Ad C0 194 [DY 0 [],.agg e.c] [] (.BC [.undef,B false]) [] from KN) (by simp(disch:=omega)only[go_sem,map_nil];exact .Cr (by omega)) rfl gI (.inl rfl) ?_;simp(disch:=omega)only[go_sem,hx,bad hx];exact Gw _
 simp only[List.length_nil]at hl;refine By ⟨⟨[],[],[]⟩,[(1,832)],[]⟩ (show Ad C0 194 [DY 0 [],.agg e.c] [] (.BC [DY 1 m,B true]) [] from KN) (by simp(disch:=omega)only[go_sem,map_nil];exact .Cr (by omega)) rfl gI (.inl rfl) ?_;have Ss:BM e=false->¬ Ma m:=λh=>S1 h hn rfl
 have hng:¬ Ma m->BM e=false:=λh=>by
  cases hx:BM e
  ·rfl
  ·have h2:=CC hx;have:m=Ah e:=by have:=h2.2.1;simp at this;exact this
   exact absurd (this▸h2.2.2) h
 by_cases h8:8<m.length
 ·have d8:(8<(m.length:Int))=True:=by simp;omega
  have hx:BM e=false:=hng λh=>by have:=h.1;omega
  simp(disch:=omega)only[go_sem,d8,hx,bad hx];exact Gw _
 have d8:(8<(m.length:Int))=False:=by simp;omega
 simp(disch:=omega)only[go_sem,d8,decide_false];refine Ao (α:=Nat) (λi=>⟨[(6,I i),(4,DY 832 m)],[]⟩) (λi=>i<=m.length/\(m.take i).Pairwise λa b=>a.name≠b.name) (λi=>m.length-i) 0 ⟨by omega,by simp⟩ ?_ ?_
 ·refine AT.Aq ?_ ?_
  ·exact gI
  ·exact gI
 rintro i ⟨hi,hP⟩ J hJ;refine gO ?_;refine ⟨λAP=>?_,λJX=>?_⟩;rotate_left
 ·have Ba:i=m.length:=by simp at JX;omega
  subst Ba;rw[take_length]at hP;have hg:Ma m:=⟨by omega,hP⟩;have hx:BM e=true:=by
   cases h:BM e
   ·exact absurd hg (Ss h)
   ·rfl
  have hm:m=Ah e:=by have:=(CC hx).2.1;simp at this;exact this
  simp(disch:=omega)only[go_sem,hx,<- hm];refine CU ⟨[],[],[832]⟩ _ ?_;simp(disch:=omega)only[go_sem,hm]
 obtain⟨b,hb⟩:∃ b,m[i]?=some b:=⟨_,gE (by simp at AP;omega)⟩;have AX:i<m.length:=by simp at AP;omega
 refine Ao (α:=Nat) (λj=>⟨[(7,I j),(6,I i),(4,DY 832 m)],[]⟩) (λj=>j<=i/\∀ x∈m.take j,x.name≠b.name) (λj=>i-j) 0 ⟨by omega,by simp⟩ ?_ ?_
 ·refine AT.Aq ?_ ?_
  ·exact gI
  ·exact gI
 rintro j ⟨hj,hQ⟩ K hK;refine gO ?_;refine And.intro (λH0=>?_) (λAhC=>?_);rotate_left
 ·have gh:j=i:=by simp at AhC;omega
  subst gh;refine hJ _ (j+1) ⟨by omega,?_⟩ (by omega) (AT.Aq ?_ ?_)
  ·rw[take_add_one,hb,pairwise_append];exact⟨hP,by simp,λa ha c hc=>by simp at hc;rw[hc];exact hQ a ha⟩
  ·exact gI
  ·exact gI
 ·have hjl:j<i:=by simp at H0;omega
  obtain⟨c,X6⟩:∃ c,m[j]?=some c:=⟨_,gE (by omega)⟩;refine Ay 10 [([],[4]),([],[6]),([],[34,35]),([],[36]),([],[37]),([],[4]),([],[7]),([],[39,40]),([],[41]),([],[42])] B6 ?_;simp(disch:=omega)only[go_sem,gm,hb,X6]
  by_cases CZ:b.name=c.name
  ·have e9:(b.name==c.name)=true:=by simp[CZ]
   have hx:BM e=false:=hng λh=>by
    have:=List.pairwise_iff_getElem.1 h.2 j i (by omega) AX hjl;rw[gE (by omega)]at hb X6;simp at hb X6;rw[hb,X6]at this;exact this CZ.symm
   simp(disch:=omega)only[go_sem,e9,hx,bad hx];exact Gw _
  ·have e9:(b.name==c.name)=false:=by simp[CZ]
   simp(disch:=omega)only[go_sem,e9];refine hK _ (j+1) ⟨by omega,?_⟩ (by omega) AK;intro x hx;rw[take_add_one,X6]at hx;simp only[Option.toList,mem_append,mem_singleton]at hx;rcases hx with hx|hx
   ·exact hQ x hx
   ·rw[hx];exact λh=>CZ h.symm
def im(e:Expr):Ad C0 83 [.agg e.c] [] (B (BM e)) []:=by
 refine Ad.go f83 ?_;unfold f83;refine gO ?_;refine Ab (Rx e) ?_;refine gO ?_;exact AQ _
def M7(e:Expr):Ad C0 168 [.agg e.c] [] (BG (Ah e)) []:=by
 refine Ad.go f168 ?_;unfold f168;refine gO ?_;refine Ab (Rx e) ?_;refine gO ?_;exact AQ _
def wR(l:List Ac)(hl:l.length<=1000000):Ad C0 99 [AL l] [] (O2 0 (NU l)) []:=by
 refine Ad.go f99 ?_;unfold f99;refine gO ?_;refine Ao (α:=Nat × List Ac) (λx=>⟨[(4,I x.1),(3,.sl (.own 1728 0) 3 (x.2.map Ac.c)),(0,AL l)],[]⟩) (λx=>x.1<=l.length/\x.2.length<=x.1/\K9 x.2/\∀ p,p∈x.2↔p∈l.take x.1) (λx=>l.length-x.1) (0,[]) ⟨by simp,by simp,by simp[K9],by simp⟩ ?_ ?_
 ·refine AT.Aq ?_ ?_
  ·simp(disch:=omega)only[go_sem,map_nil]
  ·exact gI
 rintro⟨i,out⟩ ⟨hi,oa,S0,Ha⟩ J hJ
 replace hi:i<=l.length:=hi
 replace oa:out.length<=i:=oa
 replace S0:K9 out:=S0
 replace Ha:∀ p,p∈out↔p∈l.take i:=Ha
 refine gO ?_;refine ⟨λAP=>?_,λJX=>?_⟩
 ·have H0:i<l.length:=by simp at AP;omega
  obtain⟨p,hp⟩:∃ p,l[i]?=some p:=⟨_,gE H0⟩;have ht:=JG hp;simp(disch:=omega)only[go_sem,gm,hp];refine B4 [1728] (KG out p (by omega)) gI rfl trivial ?_;cases hh:Br out p;rotate_left
  ·have Hf:p∈out:=by simpa [Br]using hh
   refine gO ?_;refine hJ _ (i+1,out) ⟨by simp;omega,by simp;omega,S0,λx=>?_⟩ (by simp;omega) AK;rw[ht,mem_append,<- Ha x];simp only[mem_singleton];exact⟨.inl,λh=>h.elim id λe=>by rw[e];exact Hf⟩
  have xg:p∉out:=by simpa [Br]using hh
  have ID:out.length+1<=4294967296:=by omega
  simp(disch:=omega)only[go_sem,gm,hp];refine Ao (α:=Nat) (λk=>⟨[(5,I k),(4,I i),(3,.sl (.own 1728 0) 3 ((Im out k p).map Ac.c)),(0,AL l)],[]⟩) (λk=>k<=out.length/\∀ x∈out.drop k,BF p x<0) (λk=>k) out.length ⟨by omega,by simp⟩ ?_ ?_
  ·refine AT.Aq ?_ ?_
   ·simp(disch:=omega)only[go_sem];exact .sl (by simp[Im,Ac.c])
   ·exact gI
  rintro k ⟨hk,bg⟩ J2 Vo;have stop:(∀ x∈out.take k,BF x p<0)->∀ st',AT ⟨C0,[]⟩ st' ⟨[(4,I (i+1:Nat)),(3,.sl (.own 1728 0) 3 ((Im out k p).map Ac.c)),(0,AL l)],[]⟩->J st':=λAX st' dB=>by
   refine hJ st' (i+1,Im out k p) ⟨by simp;omega,by simp[R3 out k p hk];omega,?_,λx=>?_⟩ (by simp;omega) dB
   ·have h0:=S0;unfold K9 at h0 ⊢;rw[<- List.take_append_drop k out]at h0;rw[pairwise_append]at h0;show (Im out k p).Pairwise _;unfold Im;rw[pairwise_append];refine⟨h0.1,List.pairwise_cons.2 ⟨bg,h0.2.1⟩,λa ha b hb=>?_⟩;rcases mem_cons.1 hb with e|e
    ·rw[e];exact AX a ha
    ·exact h0.2.2 a ha b e
   ·show x∈Im out k p↔x∈l.take (i+1);rw[eD,ht,mem_append,<- Ha x];simp
  refine Ay 12 [([],[5]),([],[28]),([],[29]),([],[3,30]),([],[5,30]),([],[32,30]),([],[31,33,30]),([],[34,30]),([],[3,30]),([],[5,30]),([],[36,37,30]),([],[38,30])] B6 ?_;cases k with
  | zero =>
   have e0:(0<((0:Nat):Int))=False:=by simp
   simp(disch:=omega)only[go_sem,e0,decide_false];exact stop (by simp) _ AK
  | succ k =>
   have e0:(0<(((k+1:Nat)):Int))=True:=eq_true (by omega);have e1:(0<(k:Int)+1)=True:=eq_true (by omega);have e2:((k:Int)+1-1)=(k:Int):=by omega
   obtain⟨x,hx⟩:∃ x,out[k]?=some x:=⟨_,gE (by omega)⟩;have g1:=eC out (k+1) p hk;have g2:=Zs out k p hk;rw[hx]at g2;have Y2:=R3 out (k+1) p hk;have z1:k<(Im out (k+1) p).length:=by omega
   have z2:k+1<(Im out (k+1) p).length:=by omega
   simp(disch:=omega)only[go_sem,e0,e1,e2,gm,g1,g2,length_map,Y2];refine Ab (LD x p) ?_;refine gO ?_
   by_cases hc:0<BF x p
   ·have e3:(0<BF x p)=True:=eq_true hc;have e4:(k=k+1)=False:=eq_false (by omega);simp(disch:=omega)only[go_sem,e2,e3,gm,g1,g2,length_map,Y2,List.length_set,List.getElem?_set,e4];refine Vo _ k ⟨by omega,λy hy=>?_⟩ (by omega) (AT.Aq ?_ gI)
    ·rw[List.drop_eq_getElem_cons (by omega),get_eq hx]at hy;rcases mem_cons.1 hy with e|e
     ·subst e;have:=DP y p;omega
     ·exact bg y e
    ·simp(disch:=omega)only[go_sem];refine .sl ?_;rw[<- Zt hx,map_set,map_set];rfl
   ·have e3:(0<BF x p)=False:=eq_false hc;simp(disch:=omega)only[go_sem,e3,decide_false];refine stop (λy hy=>?_) _ AK;have Ya:x∈out:=mG hx;have oh:BF x p<0:=by
     have:BF x p≠0:=λe=>xg (by rw[<- FL e];exact Ya)
     omega
    rw[JG hx]at hy;rcases mem_append.1 hy with e|e
    ·have h0:=S0;unfold K9 at h0;rw[<- List.take_append_drop k out,pairwise_append]at h0;have hd:out.drop k=x::out.drop (k+1):=by rw[List.drop_eq_getElem_cons (by omega),get_eq hx]
     exact DQ (h0.2.2 y e x (by rw[hd];simp)) oh
    ·rw[mem_singleton.1 e];exact oh
 ·have Ba:i=l.length:=by simp at JX;omega
  subst Ba;rw[take_length]at Ha;have e:out=NU l:=Rb S0 (Fk l) λx=>by rw[Ha,Mn]
  refine CU ⟨[(1728,0)],[],[]⟩ _ ?_;simp(disch:=omega)only[go_sem,e]
def aW(l:List Queue)(h1:l.length<=100)(h2:∀ q∈l,BS q<=100):Ad C0 98 [AN l] [] (O2 0 (AM l)) []:=by
 refine Ad.go f98 ?_;unfold f98;refine gO ?_;refine AF (l) (λi=>⟨[(4,I i),(0,AN l),(3,.sl (.own 1088 0) 3 (((l.take i).flatMap BU).map Ac.c))],[]⟩) (λi=>True) trivial ?_ ?_
 ·exact Ce
 rintro i ⟨hi,hP⟩ J hJ;refine gO ?_;refine Bo hi (λAP b hb Cg AX=>?_) λBa=>?_
 simp(disch:=omega)only[go_sem,gm,hb]
 ·have Me:=OE (l:=l.take i) λq hq=>h2 q (List.mem_of_mem_take hq)
  have hq:=KW b;have Ss:=h2 b Cg;have ID:((l.take i).flatMap BU).length+(BU b).length<=4294967296:=by simp only[List.length_take]at Me;omega
  refine Ab (vA b (by omega)) ?_;refine gO ?_;refine hJ _ (i+1) ⟨by omega,trivial⟩ (by omega) (AT.Aq ?_ ?_)
  all_goals(try simp(disch:=omega)only[go_sem])
  all_goals(try(repeat'(with_reducible apply And.intro)))
  all_goals(first|exact .Cr (by omega)|exact .A8 (by omega)|exact .sl (by simp[take_add_one,hb])|exact .int (by simp[take_add_one,hb])|exact .eq (by simp[take_add_one,hb]))
 ·subst Ba;have Me:=OE h2;refine Rg [1088] ⟨⟨[],[],[]⟩,[(0,1216)],[]⟩ (wR (l.flatMap BU) (by omega)) (by simp(disch:=omega)only[go_sem,take_length]) rfl trivial (.inl rfl) ?_;refine gO ?_;refine CU ⟨[(1216,0)],[],[]⟩ _ ?_;simp(disch:=omega)only[go_sem,AM]
def Ow(s:WS)(h:Iy s):Ad C0 54 [.agg s.c] [] (AL (Ag s)) []:=by
 have hq:=O3 h.aq;have h1:=h.nq;have h2:=h.nn;have ID:(AM s.Aa).length<=4294967296:=by omega
 refine Ad.go f54 ?_;unfold f54;refine gO ?_;refine By ⟨⟨[],[],[]⟩,[(0,448)],[]⟩ (aW s.Aa h.nq h.aq) gI rfl trivial (.inl rfl) ?_;refine gO ?_;refine AF (s.Aw) (λi=>⟨[(4,I i),(1,.ptr 64 0),(3,.sl (.own 1472 0) 3 ((AM s.Aa++Dp (s.Aw.take i)).map Ac.c))],[(64,s.c)]⟩) (λi=>True) trivial ?_ ?_
 ·refine AT.CX ⟨[(448,1472)],[(64,64)],[]⟩ ⟨rfl,rfl⟩ (by simp[lk]) ?_ ?_
  all_goals(try simp(disch:=omega)only[go_sem])
  all_goals(try(repeat'(with_reducible apply And.intro)))
  all_goals(first|exact .Cr (by omega)|exact .A8 (by omega)|exact .sl (by simp[Dp])|exact .int (by simp[Dp])|exact .eq (by simp[Dp]))
 rintro i ⟨hi,hP⟩ J hJ;refine gO ?_;refine Bo hi (λAP b hb Cg AX=>?_) λBa=>?_
 simp(disch:=omega)only[go_sem,gm,hb]
 ·have w7:(AM s.Aa).length+(Dp (s.Aw.take i)).length+1<=4294967296:=by simp[Dp];omega
  simp(disch:=omega)only[go_sem,Dp];refine hJ _ (i+1) ⟨by omega,trivial⟩ (by omega) (AT.Aq ?_ ?_)
  all_goals(try simp(disch:=omega)only[go_sem])
  all_goals(try(repeat'(with_reducible apply And.intro)))
  all_goals(first|exact .Cr (by omega)|exact .A8 (by omega)|exact .sl (by simp[Dp,take_add_one,hb,Ac.c])|exact .int (by simp[Dp,take_add_one,hb,Ac.c])|exact .eq (by simp[Dp,take_add_one,hb,Ac.c]))
 ·subst Ba;refine FU [1472] (rh (AM s.Aa++Dp s.Aw) (by simp[Dp];omega)) (by simp(disch:=omega)only[go_sem,take_length]) rfl ?_;refine gO ?_;refine CT _ ?_;simp(disch:=omega)only[go_sem,Ag]
def ky(l:List Queue)(name:Bs)(hl:l.length<=1000000):Ad C0 160 [AN l,.v (.string (str name))] [] (I (match l.findIdx? (λq=>q.res.name==name) with|some i=>i|none=>-1)) []:=by
 refine Ad.go f160 ?_;unfold f160;refine gO ?_;refine AF (l) (λi=>⟨[(5,I i),(0,AN l),(1,.v (.string (str name)))],[]⟩) (λi=>(l.take i).find? (λq=>q.res.name==name)=none) rfl ?_ ?_
 ·exact Ce
 rintro i ⟨hi,hP⟩ J hJ;refine gO ?_;refine Bo hi (λAP b hb Cg AX=>?_) λBa=>?_
 simp(disch:=omega)only[go_sem,gm,hb]
 ·refine⟨λh=>?_,λh=>?_⟩
  ·have e:=Hj hP b hb (by simpa using h);simp(disch:=omega)only[go_sem,e];exact AQ _
  ·refine hJ _ (i+1) ⟨by omega,(by rw[Cp hP hb];simp at h;simp[h])⟩ (by omega) AK
 ·subst Ba;rw[take_length]at hP;have e:l.findIdx? (λq=>q.res.name==name)=none:=by
   rw[List.findIdx?_eq_none_iff];rw[List.find?_eq_none]at hP;intro x hx;simpa using hP x hx
  simp(disch:=omega)only[go_sem,e];exact AQ _
def JW(l:List Queue)(p:Ac)(name:Bs):Bool:=match l.find? (λq=>q.res.name==name) with
 |some q=>(Ar q p).isSome
 |none=>false
def ku(s:WS)(p:Ac)(h:Iy s):Ad C0 156 [.agg s.c,.agg p.c] [] (.BC [.agg ((s.Aw.find? λn=>decide (n.proc=p)).getD n0).c,B (s.Aw.find? λn=>decide (n.proc=p)).isSome]) []:=by
 have hn:=h.nn;refine Ad.go f156 ?_;unfold f156;refine gO ?_;refine AF (s.Aw) (λi=>⟨[(6,I i),(2,.ptr 128 0),(3,.ptr 192 0),(4,.ptr 256 0)],[(128,s.c),(192,p.c),(256,n0.c)]⟩) (λi=>(s.Aw.take i).find? (λn=>decide (n.proc=p))=none) rfl ?_ ?_
 ·refine AT.Aq ?_ ?_
  all_goals(try simp(disch:=omega)only[go_sem,n0,Expr.Dg,Expr.k,Expr.atom,Expr.kids,a0,p0])
  all_goals(try(repeat'(with_reducible apply And.intro)))
  all_goals(first|exact .Cr (by omega)|exact .A8 (by omega)|exact .sl (by simp[n0])|exact .int (by simp[n0])|exact .eq (by simp[n0]))
 rintro i ⟨hi,hP⟩ J hJ;refine gO ?_;refine Bo hi (λAP b hb Cg AX=>?_) λBa=>?_
 refine Ay 7 [([],[2]),([],[14]),([],[6]),([],[15,16]),([],[17]),([],[18]),([],[3])] B6 ?_;simp(disch:=omega)only[go_sem,gm,hb]
 ·refine⟨λh=>?_,λh=>?_⟩
  ·have e:(s.Aw.find? λn=>decide (n.proc=p))=some b:=Hq hP hb (by simpa using h);simp(disch:=omega)only[go_sem,e,gm,hb,Option.isSome_some,Option.getD_some];exact AQ _
  ·refine hJ _ (i+1) ⟨by omega,(by rw[Cp hP hb];simp at h;simp[h])⟩ (by omega) AK
 ·subst Ba;rw[take_length]at hP;simp(disch:=omega)only[go_sem,hP,Option.isSome_none,Option.getD_none,n0,Expr.k,Expr.atom,Expr.kids,a0,p0];refine Al _ ?_;refine .BC (Ae.AJ ?_);simp(disch:=omega)only[go_sem]
  repeat'(with_reducible apply And.intro)
  all_goals(first|exact .A8 (by omega)|exact .agg (Ae.AJ gI))
def re(l:List Queue)(ha:∀ q∈l,BS q<=100):Ad C0 81 [AN l] [] (B (C5 l)) []:=by
 refine Ad.go f81 ?_;unfold f81
 by_cases hq:8<l.length
 ·have e1:(8<(l.length:Int))=True:=eq_true (by omega);have e:C5 l=false:=by grind[C5]
  simp only[go_sem,e1];refine Al _ ?_;exact wb (by simp[e])
 have e1:(8<(l.length:Int))=False:=eq_false (by omega);refine gS ?_;refine AF (l) (λi=>⟨[(3,I i),(0,AN l)],[]⟩) (λi=>Cu (CQ l) (l.take i)=true) rfl ?_ ?_
 ·exact Ce
 rintro i ⟨hi,hP⟩ J hJ;refine gO ?_;refine Bo hi (λAP b hb Cg AX=>?_) λBa=>?_
 refine Ay 23 [([],[0]),([],[3]),([],[13,14]),([],[15]),([],[16]),([4],[17]),([4],[18]),([4],[3,19]),([4],[20,19]),([4],[21,19]),([4],[0,22]),([4],[3,22]),([4],[24,22]),([4],[23,25,22]),([4],[26,22]),([4],[27,22]),([4],[28,22]),([4],[0,22]),([4],[3,22]),([4],[30,31,22]),([4],[32,22]),([4],[33,22]),([4],[34,22])] B6 ?_;simp(disch:=omega)only[go_sem,gm,hb]
 ·have LP:=Bt (ha b Cg);have bad:CQ l i b=false->C5 l=false:=λh=>by simp[C5,B5 hb h,Bool.and_false]
  have FM:CQ l i b=true->Cu (CQ l) (l.take (i+1))=true:=λh=>by grind[CB]
  first|(refine Ab (Pu b LP.1 LP.2.2) ?_)|(refine Ax (Pu b LP.1 LP.2.2) ?_)
  cases hv:valid b
  ·refine gO ?_;refine Al _ ?_;exact wb (by grind[CQ])
  by_cases QI:i=0
  ·subst QI;refine gO ?_;refine hJ _ 1 ⟨by omega,FM (by simp[CQ,hv])⟩ (by omega) AK
  ·have QJ:(0<(i:Int))=True:=eq_true (by omega);have NP:((i:Int)-1)=((i-1:Nat):Int):=by omega
   obtain⟨a,NZ⟩:∃ a,l[i-1]?=some a:=⟨_,gE (by omega)⟩;have UK:l.getD (i-1) q0=a:=by grind
   simp(disch:=omega)only[go_sem,QJ,NP,NZ,hb];refine And.intro (λhh=>?_) (λhh=>?_)
   ·refine Al _ ?_;exact wb (by grind[CQ,BD])
   ·refine hJ _ (i+1) ⟨by omega,FM (by grind[CQ,BD])⟩ (by omega) AK
 subst Ba;rw[take_length]at hP;have lM:C5 l=true:=by grind[C5]
 refine Al _ ?_;exact wb (by rw[lM])
def SO(s:WS)(h:Iy s):Ad C0 37 [.agg s.c] [] (B (AI s)) []:=by
 refine Ad.go f37 ?_;unfold f37;refine gO ?_;refine Ab (re s.Aa h.aq) ?_;cases lM:C5 s.Aa
 ·refine gO ?_;refine Al _ ?_;exact wb (by grind[AI])
 by_cases hn:8<s.Aw.length
 ·have e2:(8<(s.Aw.length:Int))=True:=eq_true (by omega);have e:AI s=false:=by grind[AI,GZ]
  simp only[go_sem,e2];refine Al _ ?_;exact wb (by simp[e])
 have e2:(8<(s.Aw.length:Int))=False:=eq_false (by omega);refine gS ?_;refine AF (s.Aw) (λi=>⟨[(3,I i),(1,.ptr 64 0)],[(64,s.c)]⟩) (λi=>Cu (CM s.Aw) (s.Aw.take i)=true) rfl ?_ ?_
 ·exact Ce
 rintro i ⟨hi,hP⟩ J hJ;refine gO ?_;refine Bo hi (λAP b hb Cg AX=>?_) λBa=>?_
 simp(disch:=omega)only[go_sem,hb]
 ·have bad:CM s.Aw i b=false->AI s=false:=λh=>by simp[AI,GZ,B5 hb h,Bool.and_false,Bool.false_and]
  have FM:CM s.Aw i b=true->Cu (CM s.Aw) (s.Aw.take (i+1))=true:=λh=>by grind[CB]
  refine Ay 33 [([],[4]),([],[27]),([],[28]),([2],[29]),([2],[30]),([2],[4,31]),([2],[32,31]),([2],[33,31]),([2,7],[34,31]),([2,7],[31,35]),([2,7],[36]),([2,7],[4,37]),([2,7],[38,37]),([2,7],[39,37]),([2,7],[37,40]),([2,7],[41]),([2,7],[4,42]),([2,7],[43,42]),([2,7],[44,42]),([2,7],[42,45]),([2,7],[46]),([2,7],[3,47]),([2,7],[48,47]),([2,7],[49,47]),([2,7],[1,50]),([2,7],[51,50]),([2,7],[3,50]),([2,7],[53,50]),([2,7],[52,54,50]),([2,7],[55,50]),([2,7],[56,50]),([2,7],[4,50]),([2,7],[58,50])] B6 (gO ?_)
  first|(refine Ab (KI b.proc) ?_)|(refine Ax (KI b.proc) ?_)
  cases hp:b.proc.ok
  ·refine gO ?_;refine Al _ ?_;exact wb (by grind[CM])
  refine gO ?_
  first
   |(refine Ai (im b.expr) (by refine gO ?_) rfl ?_)
   |(refine AO ⟨⟨[],[],[]⟩,[],[]⟩ (im b.expr) (by exact gI) rfl rfl trivial (.inl rfl) ?_)
  cases he:BM b.expr
  ·refine gO ?_;refine Al _ ?_;exact wb (by grind[CM])
  by_cases uB:b.gen<0
  ·have k1:(b.gen<0)=True:=eq_true uB;simp only[go_sem,k1];refine Al _ ?_;exact wb (by grind[CM])
  have k1:(b.gen<0)=False:=eq_false uB
  by_cases iE:1073741824<b.gen
  ·have k2:(1073741824<b.gen)=True:=eq_true iE;simp only[go_sem,k1,k2];refine Al _ ?_;exact wb (by grind[CM])
  have k2:(1073741824<b.gen)=False:=eq_false iE;have g1:decide (0<=b.gen)=true:=by grind
  have g2:decide (b.gen<=1073741824)=true:=by grind
  by_cases QI:i=0
  ·subst QI;refine gS ?_;refine hJ _ 1 ⟨by omega,FM (by grind[CM])⟩ (by omega) AK
  ·have QJ:(0<(i:Int))=True:=eq_true (by omega);have NP:((i:Int)-1)=((i-1:Nat):Int):=by omega
   obtain⟨a,NZ⟩:∃ a,s.Aw[i-1]?=some a:=⟨_,gE (by omega)⟩;have UK:s.Aw.getD (i-1) n0=a:=by grind
   simp(disch:=omega)only[go_sem,k1,k2,QJ,NP,NZ]
   first|(refine Ab (LD a.proc b.proc) ?_)|(refine Ax (LD a.proc b.proc) ?_)
   refine gO ?_
   by_cases hc:0<=BF a.proc b.proc
   ·simp only[go_sem,hc];refine Al _ ?_;exact wb (by grind[CM])
   ·simp only[go_sem,hc];refine hJ _ (i+1) ⟨by omega,FM (by grind[CM])⟩ (by omega) AK
 ·subst Ba;rw[take_length]at hP;have gF:GZ s.Aw=true:=by grind[GZ]
  refine Ab (Ow s h) (gO ?_);refine Al _ ?_;exact wb (by grind[AI])
def ZD:∀ (es:List Expr) (l:List Atom),(C4 es l).1=true->∀ e∈es,∃ l',(prop e l').1=true
 |[],_,_,_,he=>by grind
 | e::es,l,h,e',he=>by
  simp[C4]at h;split at h
  ·rename_i h1;rcases mem_cons.1 he with rfl|he
   ·grind
   ·exact ZD es _ h e' he
  grind
def Vk(l:List Atom)(set:List Bool)(hl:l.length<=1000000):∀ (N:Nat) (e:Expr),SizeOf.sizeOf e<N->∀ la,(prop e la).1=true ->
 Ad C0 213 [.agg e.c,BG l,KA set] [] (B (FW (E1 l set) e)) []
 | 0,_,h,_,_=>by omega
 | N+1,e,h,la,hp=>by
  refine Ad.lens f213 λhlen=>?_
  simp[FZ,lens,Expr.Dg,length_map,length_map,and_true,true_and]at hlen;rw[EW]at hp;refine Ad.go f213 ?_;unfold f213
  by_cases hk:e.kids.length=0
  ·rw[if_pos hk]at hp;have h0:e.k=0:=by grind
   have e1:(e.k==0)=true:=by grind
   have ev:FW (E1 l set) e=E1 l set e.atom:=by rw[L2,if_pos hk]
   rw[ev];simp only[go_sem,e1];refine AF (l) (λi=>⟨[(7,I i),(1,BG l),(2,KA set),(3,.ptr 192 0)],[(192,e.c)]⟩) (λi=>(l.take i).find? (λx=>decide (x=e.atom))=none) rfl ?_ ?_
   ·exact Ce
   rintro i ⟨hi,hP⟩ J hJ;refine gO ?_;refine Bo hi (λAP b hb Cg AX=>?_) λBa=>?_
   refine Ay 6 [([],[1]),([],[7]),([],[19,20]),([],[21]),([],[3]),([],[23])] B6 ?_;simp(disch:=omega)only[go_sem,gm,hb]
   ·refine And.intro (λhh=>?_) (λhh=>?_)
    ·have NP:l.findIdx? (λx=>decide (x=e.atom))=some i:=Hj hP b hb (by omega)
     by_cases hs:i<set.length
     ·have e3:((i:Int)<set.length)=True:=eq_true (by omega);have e4:set[i]?=some (set.getD i false):=by grind
      have e2:E1 l set e.atom=set.getD i false:=by grind[E1]
      simp only[go_sem,e3,e4];refine Al _ ?_;exact wb (by rw[e2])
     ·have e3:((i:Int)<set.length)=False:=eq_false (by omega);have e2:E1 l set e.atom=false:=by grind[E1]
      simp only[go_sem,e3];refine Al _ ?_;exact wb (by grind)
    ·refine hJ _ (i+1) ⟨by omega,(by grind[Cp])⟩ (by omega) AK
   ·subst Ba;rw[take_length]at hP;have NP:l.findIdx? (λx=>decide (x=e.atom))=none:=by grind
    have e2:E1 l set e.atom=false:=by grind[E1]
    refine Al _ ?_;exact wb (by rw[e2])
  ·rw[if_neg hk]at hp;have hb:¬ (e.k<1\/(e.kids.length:Int)<e.k\/e.atom≠a0):=by grind
   rw[if_neg hb]at hp;have AhO:=ZD _ _ hp;have e1:(e.k==0)=false:=by grind
   have ev:FW (E1 l set) e=decide (e.k<=DR (E1 l set) e.kids):=by rw[L2,if_neg hk]
   have ID:=SI (E1 l set);rw[ev];refine gS ?_;refine AF (e.kids) (λi=>⟨[(9,I i),(8,I (DR (E1 l set) (e.kids.take i))),(1,BG l),(2,KA set),(3,.ptr 192 0)],[(192,e.c)]⟩) (λi=>True) trivial ?_ ?_
   ·refine AT.Aq ?_ ?_
    all_goals(try simp(disch:=omega)only[go_sem])
    all_goals(try(repeat'(with_reducible apply And.intro)))
    all_goals(first|exact .Cr (by omega)|exact .A8 (by omega)|exact .sl (by simp[DR])|exact .int (by grind)|exact .eq (by simp[DR]))
   rintro i ⟨hi,hP⟩ J hJ;refine gO ?_;refine Bo hi (λAP b hb Cg AX=>?_) λBa=>?_
   simp(disch:=omega)only[go_sem,hb]
   ·obtain⟨la',hla⟩:=AhO b Cg;have Hb:=EM Cg;have RI:=Oq (E1 l set) e.kids i b hb;have UL:=ID (e.kids.take i);simp at UL;refine Ab (Vk l set hl N b (by omega) la' hla) ?_;cases Y1:FW (E1 l set) b
    ·rw[Y1]at RI;refine gO ?_;refine hJ _ (i+1) ⟨by omega,trivial⟩ (by omega) (AT.Aq ?_ gI);refine gS ?_;exact .int (by simp)
    ·rw[Y1]at RI;refine gO ?_;refine hJ _ (i+1) ⟨by omega,trivial⟩ (by omega) (AT.Aq ?_ gI);exact gC
   ·subst Ba;refine gO ?_;exact AQ _
def eV:∀ (es:List Expr) (l:List Atom),(∀ e∈es,∀ l,(prop e l).1=true->(prop e l).2≠[])->(C4 es l).1=true->es≠[]\/l≠[]->(C4 es l).2≠[]
 |[],l,_,_,h=>by grind[C4]
 | e::es,l,hk,hp,_=>by
  simp only[C4]at hp ⊢;split at hp<;>simp_all[eV]
def mi:∀ (N:Nat) (e:Expr),SizeOf.sizeOf e<N->∀ l,(prop e l).1=true->(prop e l).2≠[]
 | 0,_,h,_,_=>by omega
 | N+1,e,h,l,hp=>by
  rw[EW]at hp ⊢
  by_cases h0:e.kids.length=0
  ·rw[if_pos h0]at hp ⊢
   by_cases h1:e.k=0/\MZ e.atom=true
   ·rw[if_pos h1]at hp ⊢;simp only at hp ⊢;rw[l9 hp];unfold Fl;split
    ·grind
    ·simp
   grind
  ·rw[if_neg h0]at hp ⊢;split at hp
   ·grind
   ·rename_i h1;rw[if_neg h1];exact eV _ _ (λe' he l'=>mi N e' (by have:=EM he;omega) l') hp (.inl λh=>h0 (by grind))
def Py(e:Expr)(set:List Bool)(he:BM e=true):Ad C0 157 [.agg e.c,KA set] [] (B (Gc e set)) []:=by
 have hl:=Dt e;have CZ:(Ah e).length≠0:=by
  have hp:=GC he;have h1:=mi _ e (lt_succ_self _) [] hp;have hc:=KY _ e (lt_succ_self _) [] hp;have ha:Ah e=(prop e []).2:=by unfold Ah;rw[if_pos he,hc]
  rw[ha];simpa using h1
 refine Ad.go f157 ?_;unfold f157;refine gO ?_;refine Ab (Rx e) ?_;simp(disch:=omega)only[go_sem,he];refine Ab (Vk (Ah e) set (by omega) _ e (lt_succ_self _) [] (GC he)) (gO ?_);refine Al _ ?_;exact wb (by grind[Gc])
end Go.Rd
namespace Go.Abs
def XE(m:Nat):List (Nat × Nat × AV)->List (Nat × AV)
 |[]=>[]
 |(w,t,x)::l=>if m / w%2=1 then (t,x)::XE m l else XE m l
def V8(X:Env)(ops:Array Oper)(S:Nat->St)(m:Nat):List (Nat × Nat)->Prop
 |[]=>True
 |(i,m')::l=>Bw X ops (N3 ops i) (λst'=>AT X st' (S m')) (S m)/\V8 X ops S m l
def aA(X:Env)(ops:Array Oper)(S:Nat->St):List (Nat × List (Nat × Nat))->Prop
 |[]=>True
 |(m,l)::t=>V8 X ops S m l/\aA X ops S t
def okD(ops:Array Oper)(full:Nat)(tab:List (Nat × List (Nat × Nat))):Bool :=
 (tab.any λp=>p.1==0)&&((List.range ops.size).all λi=>full.testBit i)&&tab.all λp =>
  (p.1==full||(List.range ops.size).any (λi=>!p.1.testBit i&&(BL ops i).all λe=>p.1.testBit e)) &&
  ((List.range ops.size).all λi=>p.1.testBit i||!((BL ops i).all λe=>p.1.testBit e)||p.2.any (λq=>q.1==i)) &&
  p.2.all λq=>q.2==(p.1 ||| 2 ^ q.1)&&tab.any (λp'=>p'.1==q.2)
section
variable {X:Env} {A:A0} {N:Nat} {ops:Array Oper}
def c9{S:Nat->St}{m:Nat}{q:Nat × Nat}:∀ {l:List (Nat × Nat)},V8 X ops S m l->q∈l->Bw X ops (N3 ops q.1) (λst'=>AT X st' (S q.2)) (S m)
 |[],_,h=>by cases h
 |(i,m')::l,h,hm=>by
  simp[V8]at h;rcases List.mem_cons.1 hm with rfl|hm
  ·grind
  ·exact c9 h.2 hm
def db{S:Nat->St}{p:Nat × List (Nat × Nat)}:∀ {tab:List (Nat × List (Nat × Nat))},aA X ops S tab->p∈tab->V8 X ops S p.1 p.2
 |[],_,h=>by cases h
 |(i,m')::l,h,hm=>by
  simp[aA]at h;rcases List.mem_cons.1 hm with rfl|hm
  ·grind
  ·exact db h.2 hm
def nj(hA:A.ext=X.ext)(hX:∀ s∈X.ext,s%32=31)(hN:gy N ops){Q:Exit->Act->World->Prop}{K:St->Prop}(hQ:∀ g st a w,R X.C A N g st a w->K st->Q .normal a w)
 {full:Nat} {tab:List (Nat × List (Nat × Nat))} {S:Nat->St} (CC:okD ops full tab=true) (hs:aA X ops S tab) (he:K (S full)) :
 ∀ (fuel:Nat) (m:Nat) (l:List (Nat × Nat)) (Af:Array Bool) (g:Gh) (a:Act) (w:World),Af.size=ops.size->XU Af<=fuel->(∀ j,j<ops.size->ES Af j=m.testBit j)->(m,l)∈tab->R X.C A N g (S m) a w ->
  wpAny X.C.P .any ops Q fuel Af a w:=by
 have rO:=CC;simp only[okD,Bool.and_eq_true,List.all_eq_true,List.mem_range]at rO;obtain⟨⟨_,rG⟩,AbD⟩:=rO;intro fuel
 induction fuel with
 | zero =>
  intro m l Af g a w Hb hu hd hm hR;obtain⟨⟨h1,h2⟩,h3⟩:=AbD (m,l) hm;simp only[Bool.or_eq_true,beq_iff_eq,List.any_eq_true,List.mem_range,Bool.and_eq_true]at h1;rcases h1 with rfl|⟨i,hi,QJ,NP⟩
  ·refine⟨?_,hQ g _ a w hR he⟩;cases hrd:Region.ready .any ops Af with
   | nil=>rfl
   | cons j l' =>
    have hj:j∈Region.ready .any ops Af:=by grind
    grind[Cj]
  grind[Iv]
 | succ fuel ih =>
  intro m l Af g a w Hb hu hd hm hR;obtain⟨⟨h1,h2⟩,h3⟩:=AbD (m,l) hm;simp only[Bool.or_eq_true,beq_iff_eq,List.any_eq_true,List.mem_range,Bool.and_eq_true]at h1;refine⟨λh0=>?_,λj hj=>?_⟩
  ·rcases h1 with rfl|⟨i,hi,QJ,NP⟩
   ·grind
   ·have Ha:i∈Region.ready .any ops Af:=(Cj Hb).2 ⟨hi,by grind,λe hee=>by
     grind[U8]⟩
    grind
  ·obtain⟨k1,k2,k3⟩:=(Cj Hb).1 hj;have hnb:m.testBit j=false:=by grind
   have h4:=h2 j k1;have nT:(BL ops j).all (λe=>m.testBit e)=true:=List.all_eq_true.2 λe hee=>by grind[U8]
   simp only[hnb,nT,Bool.not_true,Bool.or_false,Bool.false_or,List.any_eq_true,beq_iff_eq]at h4;obtain⟨q,hq,rfl⟩:=h4;have h5:=h3 q hq;simp only[beq_iff_eq,List.any_eq_true]at h5;obtain⟨h6,p',gq,h7⟩:=h5;have ho:ops[q.1]?=some ops[q.1]:=Array.getElem?_eq_getElem k1;have bp:=c9 (db hs hm) hq;simp[N3,ho,Bw]at bp;refine OZ hA hX ho (λg' st' a' w' WC um=>?_) (hN.1 _ (Array.getElem_mem k1)) bp hR;obtain⟨g2,hR2⟩:=um A N g' a' w' hA WC;refine ih q.2 p'.2 _ g2 a' w' (by grind) (by grind[Jh]) (λj' hj'=>?_) (by grind) hR2;rw[Ff (by omega)];simp only[Jk];rw[h6,Nat.testBit_or,Nat.testBit_two_pow];grind
end
def qB{X:Env}{ops:Array Oper}{K:St->Prop}{st:St}(full:Nat)(tab:List (Nat × List (Nat × Nat)))(S:Nat->St)(hm:X.C.P.follows .mixedOrders=true)(CC:(J7 ops&&okD ops full tab)=true)
 (h0:AT X st (S 0)) (hs:aA X ops S tab) (he:K (S full)):Lj X ops K st:=by
 refine Ep h0 ?_;intro A N g a w hA hN hX hR id Q hQ;simp at CC;refine wp_region_any hm ?_;have h0:∃ l,(0,l)∈tab:=by simp_all[okD]
 obtain⟨l,hl⟩:=h0;refine nj hA hX (N:=N) (K:=K) ⟨λo ho=>?_,λi hi e he=>?_⟩ hQ CC.2 hs he ops.size 0 l (Array.replicate ops.size false) g a _ (by simp) (by simp[XU]) (λj hj=>by simp[ES,Array.getD,hj]) hl hR.drew
 ·grind[KS]
 ·have:=CC.1;simp[J7]at this;grind
@[go_sem] theorem Ad8(X:Env)(ops:Array Oper)(S:Nat->St)(m:Nat):V8 X ops S m []=True:=rfl
@[go_sem] theorem AcG(X:Env)(ops:Array Oper)(S:Nat->St)(m i m':Nat)(l:List (Nat × Nat)):V8 X ops S m ((i,m')::l)=(Bw X ops (N3 ops i) (λst'=>AT X st' (S m')) (S m)/\V8 X ops S m l):=rfl
@[go_sem] theorem Ad9(X:Env)(ops:Array Oper)(S:Nat->St):aA X ops S []=True:=rfl
@[go_sem] theorem AcH(X:Env)(ops:Array Oper)(S:Nat->St)(m:Nat)(l:List (Nat × Nat))(t:List (Nat × List (Nat × Nat))):aA X ops S ((m,l)::t)=(V8 X ops S m l/\aA X ops S t):=rfl
@[go_sem] theorem AgK(m:Nat):XE m []=[]:=rfl
@[go_sem] theorem AfG(m w t:Nat)(x:AV)(l:List (Nat × Nat × AV)):XE m ((w,t,x)::l)=if m / w%2=1 then (t,x)::XE m l else XE m l:=rfl
end Go.Abs
namespace Go.Abs
def da(X:Env)(ops:Array Oper)(S:Nat->St)(m:Nat):List (Nat × Nat × Nat)->Prop
 |[]=>True
 |(i,w,d)::l=>(if m / w%2=0/\d &&& m=d then Bw X ops (N3 ops i) (λst'=>AT X st' (S (m+w))) (S m) else True)/\da X ops S m l
def ni(X:Env)(ops:Array Oper)(S:Nat->St)(E:List (Nat × Nat × Nat)):List Nat->Prop
 |[]=>True
 | m::t=>da X ops S m E/\ni X ops S E t
def bM(E:List (Nat × Nat × Nat))(m:Nat):List (Nat × Nat):=(E.filter λe=>decide (m / e.2.1%2=0/\e.2.2 &&& m=e.2.2)).map λe=>(e.1,m+e.2.1)
def tU(E:List (Nat × Nat × Nat))(ms:List Nat):List (Nat × List (Nat × Nat)):=ms.map λm=>(m,bM E m)
section
variable {X:Env} {ops:Array Oper} {S:Nat->St}
def qx{m:Nat}:∀ {E:List (Nat × Nat × Nat)},da X ops S m E->V8 X ops S m (bM E m)
 |[],_=>trivial
 |(i,w,d)::l,h=>by
  simp only[da]at h;have ih:=qx h.2;unfold bM at ih ⊢;simp only[List.filter_cons]
  by_cases hc:m / w%2=0/\d &&& m=d
  ·simp_all[V8]
  grind
def qy{E:List (Nat × Nat × Nat)}:∀ {ms:List Nat},ni X ops S E ms->aA X ops S (tU E ms)
 |[],_=>trivial
 | m::t,h=>⟨qx h.1,qy h.2⟩
def Dj{K:St->Prop}{st:St}(full:Nat)(E:List (Nat × Nat × Nat))(ms:List Nat)(S:Nat->St)(h0:AT X st (S 0))(hs:ni X ops S E ms)(he:K (S full))(hm:X.C.P.follows .mixedOrders=true)
 (CC:(J7 ops&&okD ops full (tU E ms))=true:=by kernel_rfl):Lj X ops K st:=qB full (tU E ms) S hm CC h0 (qy hs) he
end
theorem Dh(X:Env)(ops:Array Oper)(S:Nat->St)(m i w d:Nat)(l:List (Nat × Nat × Nat)):da X ops S m ((i,w,d)::l)=((if m / w%2=0/\d &&& m=d then Bw X ops (N3 ops i) (λst'=>AT X st' (S (m+w))) (S m) else True)/\da X ops S m l):=nd rfl
theorem Di(X:Env)(ops:Array Oper)(S:Nat->St)(E:List (Nat × Nat × Nat))(m:Nat)(t:List Nat):ni X ops S E (m::t)=(da X ops S m E/\ni X ops S E t):=nd rfl
theorem DZ(X:Env)(ops:Array Oper)(S:Nat->St)(m:Nat):da X ops S m []=True:=nd rfl
theorem D0(X:Env)(ops:Array Oper)(S:Nat->St)(E:List (Nat × Nat × Nat)):ni X ops S E []=True:=nd rfl
end Go.Abs
