/- part 16 of the proof -/
import Derived.Test.YteliegkcmjimoaaGreatDoorV15
set_option linter.all false
open Go Go.Abs Go.Proofs
set_option maxRecDepth 100000
namespace Go.Rd
set_option maxHeartbeats 8000000
open List (length_map map_nil map_set mem_append mem_cons mem_singleton pairwise_append take_add_one take_length)
open Nat (lt_succ_self)
open Tryz
def aG{lv:Int}(h1:0<=lv)(h4:lv<=4):∀ (l:List Expr) (n m:Int),n<=24->n<=(Ft l lv n m).1
 |[],n,m,_=>by simp[Ft]
 | e::l,n,m,hn=>by
  have b:=KY _ e (lt_succ_self _) (lv+1) (by omega) (by omega);simp only[Ft];split
  ·simp only;omega
  ·have:=aG h1 h4 l (n+(D2 e (lv+1)).1) (max m (D2 e (lv+1)).2) (by omega);have:=b.1;omega
def msC(e:Expr)(lv:Int):Prop:=∀ n:Int,0<=n->n<=24->((meas e lv n).1≠0->D2 e lv=((meas e lv n).2-n,(meas e lv n).1))/\((meas e lv n).1=0->24<n+(D2 e lv).1)
def Uk{lv:Int}(h1:1<=lv)(h4:lv<=4):∀ (l:List Expr) (n0 n m:Int),(∀ e∈l,msC e (lv+1))->1<=n->0<=n0->n0+n<=24->0<=m ->
 ((Fq l lv (n0+n) m).1≠0->Ft l lv n m=((Fq l lv (n0+n) m).2-n0,(Fq l lv (n0+n) m).1))/\((Fq l lv (n0+n) m).1=0->24<n0+(Ft l lv n m).1)
 |[],n0,n,m,_,_,_,_,hm=>by
  simp only[Fq,Ft];exact⟨λ_=>by rw[show n0+n-n0=n by omega],λh=>by omega⟩
 | e::l,n0,n,m,hk,a1,a2,a3,hm=>by
  obtain⟨k1,k2⟩:=hk e (by simp) (n0+n) (by omega) a3;have b:=NC _ e (lt_succ_self _) (lv+1) (n0+n) (by omega) (by omega) (by omega) a3;simp only[Fq,Ft]
  by_cases hz:(meas e (lv+1) (n0+n)).1=0
  ·have eC:=k2 hz;rw[if_pos hz];refine⟨λh=>absurd rfl h,λ_=>?_⟩;split
   ·simp only;omega
   ·have:=aG (by omega) h4 l (n+(D2 e (lv+1)).1) (max m (D2 e (lv+1)).2) (by omega);omega
  ·have hs:=k1 hz;have hb:=b.2.2.2.2 hz;have iO:=b.1;have G9:=S0 _ e (lt_succ_self _) (lv+1) (n0+n);rw[if_neg hz,hs];simp only;have e1:n+((meas e (lv+1) (n0+n)).2-(n0+n))=(meas e (lv+1) (n0+n)).2-n0:=by omega
   rw[e1,if_neg (by omega)];have ih:=Uk h1 h4 l n0 ((meas e (lv+1) (n0+n)).2-n0) (max m (meas e (lv+1) (n0+n)).1) (λe' he=>hk e' (by simp[he])) (by omega) a2 (by omega) (by omega);have e2:n0+((meas e (lv+1) (n0+n)).2-n0)=(meas e (lv+1) (n0+n)).2:=by omega
   rw[e2]at ih;exact ih
def Wn:∀ (N:Nat) (e:Expr),SizeOf.sizeOf e<N->∀ lv:Int,1<=lv->lv<=5->msC e lv
 | 0,_,h,_,_,_=>by omega
 | N+1,e,h,lv,h1,h5=>by
  intro n hn0 hn;have sb:=KY _ e (lt_succ_self _) lv h1 h5;rw[KI]
  by_cases hc:4<lv\/24<n+1
  ·rw[if_pos hc];refine⟨λh=>absurd rfl h,λ_=>?_⟩
   by_cases h4:4<lv
   ·rw[HO,if_pos (.inl h4)];simp only;omega
   ·have:=sb.1;omega
  ·rw[if_neg hc];have hL:=Uk h1 (by omega) e.kids n 1 0 (λe' he=>Wn N e' (by have:=D3 he;omega) _ (by omega) (by omega)) (by omega) hn0 (by omega) (by omega)
   by_cases eC:24<e.kids.length
   ·rw[HO,if_pos (.inr eC)];refine⟨λh=>?_,λ_=>by simp only;omega⟩;have:=Uj e.kids (n+1) 0 h (by omega) (by omega) λe' _ n' k1 k2 k3=>⟨S0 _ e' (lt_succ_self _) _ _,(NC _ e' (lt_succ_self _) (lv+1) n' (by omega) (by omega) k1 k2).2.2.2.2 k3⟩
    omega
   ·rw[HO,if_neg (by omega)];exact hL
def MR(e:Expr):Hf e=0↔depth e=0:=by
 have h:=Wn _ e (lt_succ_self _) 1 (by omega) (by omega) 0 (by omega) (by omega);have b:=NC _ e (lt_succ_self _) 1 0 (by omega) (by omega) (by omega) (by omega);have sb:=(KY _ e (lt_succ_self _) 1 (by omega) (by omega)).1;unfold Hf depth
 by_cases hz:(meas e 1 0).1=0
 ·have:=h.2 hz;rw[if_pos (by omega)];simp[hz]
 ·have h1:=h.1 hz;have h2:=b.2.2.2.2 hz;have h3:(D2 e 1).1=(meas e 1 0).2:=by rw[h1];simp
  rw[if_neg (by omega)];constructor
  ·intro h;omega
  ·intro h;exact absurd h hz
def WI{lv:Int}:∀ (l:List Expr) (n m:Int),(∀ e∈l,(D2 e (lv+1)).1<=24->(ni e:Int)=(D2 e (lv+1)).1)->1<=lv->lv<=4->0<=n->n<=24->(Ft l lv n m).1<=24->n+(To l:Int)=(Ft l lv n m).1
 |[],n,m,_,_,_,_,_,_=>by simp[Ft,To]
 | e::l,n,m,hk,h1,h4,hn,bX,h=>by
  have b:=KY _ e (lt_succ_self _) (lv+1) (by omega) (by omega);simp only[Ft,To]at h ⊢;split at h
  ·simp at h
  ·rename_i Au;rw[if_neg Au];have b1:=b.1;have:=hk e (by simp) (by omega);have ih:=WI l _ _ (λe' he=>hk e' (by simp[he])) h1 h4 (by omega) (by omega) h;rw[<- ih];omega
def WH:∀ (N:Nat) (e:Expr),SizeOf.sizeOf e<N->∀ lv:Int,1<=lv->lv<=5->(D2 e lv).1<=24->(ni e:Int)=(D2 e lv).1
 | 0,_,h,_,_,_,_=>by omega
 | N+1,e,h,lv,h1,h5,hs=>by
  rw[HO]at hs ⊢;split at hs
  ·simp at hs
  ·rename_i hc;rw[if_neg hc,Xg];have:=WI e.kids 1 0 (λe' he gL=>WH N e' (by have:=D3 he;omega) _ (by omega) (by omega) gL) h1 (by omega) (by omega) (by omega) hs;rw[<- this];omega
def hY{e:Expr}(h:Hf e≠0):ni e<=24:=by
 unfold Hf at h
 by_cases eC:24<(D2 e 1).1
 ·simp[eC]at h
 ·have:=WH _ e (lt_succ_self _) 1 (by omega) (by omega) (by omega);omega
def KA(l:List Atom):Prop:=l.length<=8/\l.Pairwise λa b=>a.name≠b.name
def Zr{l m:List Atom}(h:l <+: m)(hg:KA m):KA l:=⟨Nat.le_trans h.length_le hg.1,hg.2.sublist h.sublist⟩
def O9(l:List Atom)(a:Atom):l <+: Es l a:=by
 unfold Es;split
 ·exact List.prefix_refl l
 ·exact List.prefix_append l [a]
def Md:∀ (es:List Expr) (l:List Atom),(∀ e∈es,∀ l,(Hp e l).2=true->l <+: (Hp e l).1)->(IG es l).2=true->l <+: (IG es l).1
 |[],l,_,_=>by simp[IG]
 | e::es,l,hk,h=>by
  simp only[IG]at h ⊢;split at h
  ·rename_i ht;rw[if_pos ht];exact List.IsPrefix.trans (hk e (by simp) l ht) (Md es _ (λe' he=>hk e' (by simp[he])) h)
  ·simp at h
def Rq:∀ (N:Nat) (e:Expr),SizeOf.sizeOf e<N->∀ l,(Hp e l).2=true->l <+: (Hp e l).1
 | 0,_,h,_,_=>by omega
 | N+1,e,h,l,ht=>by
  rw[I7]at ht ⊢;split at ht
  ·rename_i h0;rw[if_pos h0];split at ht
   ·rename_i h1;rw[if_pos h1];exact O9 _ _
   ·simp at ht
  ·rename_i h0;rw[if_neg h0];split at ht
   ·simp at ht
   ·rename_i h1;rw[if_neg h1];exact Md _ _ (λe' he l'=>Rq N e' (by have:=D3 he;omega) l') ht
def paC(e:Expr):Prop:=∀ l,KA l->((prop e l).1=true->Hp e l=((prop e l).2,true)/\KA (prop e l).2)/\((prop e l).1=false->(Hp e l).2=true->¬ KA (Hp e l).1)
def Wx:∀ (es:List Expr),(∀ e∈es,paC e)->∀ l,KA l->((CB es l).1=true->IG es l=((CB es l).2,true)/\KA (CB es l).2)/\((CB es l).1=false->(IG es l).2=true->¬ KA (IG es l).1)
 |[],_,l,hg=>by simp[CB,IG,hg]
 | e::es,hk,l,hg=>by
  obtain⟨k1,k2⟩:=hk e (by simp) l hg;simp only[CB,IG];cases hp:(prop e l).1
  ·simp only[Bool.false_eq_true,if_false,false_implies,true_and,true_implies];cases ha:(Hp e l).2
   ·simp
   ·intro ht pB;simp only[if_true]at ht pB;have h1:=k2 hp ha;exact h1 (Zr (Md es _ (λe' he l'=>Rq _ e' (lt_succ_self _) l') ht) pB)
  ·obtain⟨h1,h2⟩:=k1 hp;rw[h1];simp only[if_true];exact Wx es (λe' he=>hk e' (by simp[he])) _ h2
def qw{l:List Atom}(h:l.Pairwise λa b=>a.name≠b.name){a b:Atom}(ha:a∈l)(hb:b∈l)(hn:a.name=b.name):a=b:=by
 induction l with
 | nil=>simp at ha
 | cons x l ih =>
  rw[List.pairwise_cons]at h;rcases mem_cons.1 ha with e1|ha
  ·rcases mem_cons.1 hb with e2|hb
   ·rw[e1,e2]
   ·exact absurd hn (e1▸h.1 b hb)
  ·rcases mem_cons.1 hb with e2|hb
   ·exact absurd hn.symm (e2▸h.1 a ha)
   ·exact ih h.2 ha hb
def Uv:∀ (N:Nat) (e:Expr),SizeOf.sizeOf e<N->paC e
 | 0,_,h=>by omega
 | N+1,e,h=>by
  intro l hg;rw[D8,I7]
  by_cases h0:e.kids.length=0
  ·rw[if_pos h0,if_pos h0]
   by_cases h1:e.k=0/\Lb e.atom=true
   ·rw[if_pos h1,if_pos h1];simp only;unfold Fs;cases hf:l.find? (iR e.atom) with
    |some b =>
     have hb:=List.mem_of_find?_eq_some hf;have hh:=List.find?_some hf
     by_cases LS:e.atom=b
     ·have:Es l e.atom=l:=by unfold Es;rw[if_pos (LS▸hb)]
      rw[this];simp[LS,hg]
     ·simp[LS];have EY:e.atom.name=b.name:=by
       unfold iR at hh;simpa [LS]using hh
      intro pB;have LU:b∈Es l e.atom:=(O9 l e.atom).subset hb;have ME:e.atom∈Es l e.atom:=by unfold Es;split<;>simp_all
      exact LS (qw pB.2 ME LU EY)
    |none =>
     have Qr:∀ x∈l,e.atom≠x/\e.atom.name≠x.name:=by
      intro x hx;rw[List.find?_eq_none]at hf;have:=hf x hx;unfold iR at this;simpa using this
     have hm:e.atom∉l:=λhx=>(Qr _ hx).1 rfl
     have hE:Es l e.atom=l++[e.atom]:=by unfold Es;rw[if_neg hm]
     rw[hE]
     by_cases h8:l.length=8
     ·simp[h8];intro pB;have:=pB.1;simp at this;omega
     ·simp[h8];refine⟨by have:=hg.1;simp;omega,?_⟩;rw[pairwise_append];refine⟨hg.2,by simp,λa ha b hb=>?_⟩;rw[mem_singleton.1 hb];exact λhx=>(Qr a ha).2 hx.symm
   ·rw[if_neg h1,if_neg h1];simp
  ·rw[if_neg h0,if_neg h0]
   by_cases h1:e.k<1\/(e.kids.length:Int)<e.k\/e.atom≠a0
   ·rw[if_pos h1,if_pos h1];simp
   ·rw[if_neg h1,if_neg h1];exact Wx e.kids (λe' he=>Uv N e' (by have:=D3 he;omega)) l hg
def vg{e:Expr}(h:BA e=true):Hf e≠0/\Hp e []=(Al e,true)/\KA (Al e):=by
 have hp:=FF h;have hk:=(Uv _ e (lt_succ_self _) [] ⟨by simp,by simp⟩).1 hp;have hc:=Jr _ e (lt_succ_self _) [] hp;have ha:Al e=(prop e []).2:=by unfold Al;rw[if_pos h,hc]
 rw[ha];refine⟨?_,hk⟩;rw[Ne,MR];simp[BA]at h;exact h.1
def qA{e:Expr}(h:BA e=false)(hn:Hf e≠0)(ha:(Hp e []).2=true):¬ KA (Hp e []).1:=by
 have hk:=(Uv _ e (lt_succ_self _) [] ⟨by simp,by simp⟩).2;rw[Ne,MR]at hn;refine hk ?_ ha;simp[BA,hn]at h;exact h
def Pt(e:Expr):Ac C0 134 [.agg e.c] [] (.Bl [BN (Al e),B (BA e)]) []:=by
 refine Ac.go f134 ?_;unfold f134;refine gO ?_;refine Ab (oh e) ?_;have bad:BA e=false->Al e=[]:=λh=>by simp[Al,h]
 by_cases hn:Hf e=0
 ·have e0:(Hf e==0)=true:=by simp[hn]
  have hx:BA e=false:=by simp[BA,(MR e).1 hn]
  simp(disch:=omega)only[go_sem,e0,hx,bad hx];exact Fy _
 have e0:(Hf e==0)=false:=by simp[hn]
 have hc:=hY hn;have hl:=S8 _ e (lt_succ_self _) [];have Je:=dD _ e (lt_succ_self _) [] (by simp;omega);have Ce:=@vg e;have L5:=@qA e;simp(disch:=omega)only[go_sem,e0];generalize Hp e []=x at hl Je Ce L5;obtain⟨m,ok⟩:=x;cases ok
 ·have hx:BA e=false:=by
   cases h:BA e
   ·rfl
   ·have:=(Ce h).2.1;simp at this
  refine Bh ⟨⟨[],[],[]⟩,[(1,832)],[]⟩ (show Ac C0 194 [Di 0 [],.agg e.c] [] (.Bl [.undef,B false]) [] from Je) (by simp(disch:=omega)only[go_sem,map_nil];exact .AU (by omega)) rfl gI (.inl rfl) ?_;simp(disch:=omega)only[go_sem,hx,bad hx];exact Fy _
 simp only[List.length_nil]at hl;refine Bh ⟨⟨[],[],[]⟩,[(1,832)],[]⟩ (show Ac C0 194 [Di 0 [],.agg e.c] [] (.Bl [Di 1 m,B true]) [] from Je) (by simp(disch:=omega)only[go_sem,map_nil];exact .AU (by omega)) rfl gI (.inl rfl) ?_;have QT:BA e=false->¬ KA m:=λh=>L5 h hn rfl
 have hng:¬ KA m->BA e=false:=λh=>by
  cases hx:BA e
  ·rfl
  ·have h2:=Ce hx;have:m=Al e:=by have:=h2.2.1;simp at this;exact this
   exact absurd (this▸h2.2.2) h
 by_cases h8:8<m.length
 ·have d8:(8<(m.length:Int))=True:=by simp;omega
  have hx:BA e=false:=hng λh=>by have:=h.1;omega
  simp(disch:=omega)only[go_sem,d8,hx,bad hx];exact Fy _
 have d8:(8<(m.length:Int))=False:=by simp;omega
 simp(disch:=omega)only[go_sem,d8,decide_false];refine Ao (α:=Nat) (λi=>⟨[(6,I i),(4,Di 832 m)],[]⟩) (λi=>i<=m.length/\(m.take i).Pairwise λa b=>a.name≠b.name) (λi=>m.length-i) 0 ⟨by omega,by simp⟩ ?_ ?_
 ·refine AQ.An ?_ ?_
  ·exact gI
  ·exact gI
 rintro i ⟨hi,hP⟩ J hJ;refine gO ?_;refine ⟨λAu=>?_,λG9=>?_⟩;rotate_left
 ·have Bf:i=m.length:=by simp at G9;omega
  subst Bf;rw[take_length]at hP;have hg:KA m:=⟨by omega,hP⟩;have hx:BA e=true:=by
   cases h:BA e
   ·exact absurd hg (QT h)
   ·rfl
  have hm:m=Al e:=by have:=(Ce hx).2.1;simp at this;exact this
  simp(disch:=omega)only[go_sem,hx,<- hm];refine CK ⟨[],[],[832]⟩ _ ?_;simp(disch:=omega)only[go_sem,hm]
 obtain⟨b,hb⟩:∃ b,m[i]?=some b:=⟨_,gE (by simp at Au;omega)⟩;have AR:i<m.length:=by simp at Au;omega
 refine Ao (α:=Nat) (λj=>⟨[(7,I j),(6,I i),(4,Di 832 m)],[]⟩) (λj=>j<=i/\∀ x∈m.take j,x.name≠b.name) (λj=>i-j) 0 ⟨by omega,by simp⟩ ?_ ?_
 ·refine AQ.An ?_ ?_
  ·exact gI
  ·exact gI
 rintro j ⟨hj,hQ⟩ K hK;refine gO ?_;refine And.intro (λFx=>?_) (λAaY=>?_);rotate_left
 ·have Vb:j=i:=by simp at AaY;omega
  subst Vb;refine hJ _ (j+1) ⟨by omega,?_⟩ (by omega) (AQ.An ?_ ?_)
  ·rw[take_add_one,hb,pairwise_append];exact⟨hP,by simp,λa ha c hc=>by simp at hc;rw[hc];exact hQ a ha⟩
  ·exact gI
  ·exact gI
 ·have xV:j<i:=by simp at Fx;omega
  obtain⟨c,XM⟩:∃ c,m[j]?=some c:=⟨_,gE (by omega)⟩;refine Av 10 [([],[4]),([],[6]),([],[34,35]),([],[36]),([],[37]),([],[4]),([],[7]),([],[39,40]),([],[41]),([],[42])] B7 ?_;simp(disch:=omega)only[go_sem,gm,hb,XM]
  by_cases Ca:b.name=c.name
  ·have e9:(b.name==c.name)=true:=by simp[Ca]
   have hx:BA e=false:=hng λh=>by
    have:=List.pairwise_iff_getElem.1 h.2 j i (by omega) AR xV;rw[gE (by omega)]at hb XM;simp at hb XM;rw[hb,XM]at this;exact this Ca.symm
   simp(disch:=omega)only[go_sem,e9,hx,bad hx];exact Fy _
  ·have e9:(b.name==c.name)=false:=by simp[Ca]
   simp(disch:=omega)only[go_sem,e9];refine hK _ (j+1) ⟨by omega,?_⟩ (by omega) AS;intro x hx;rw[take_add_one,XM]at hx;simp only[Option.toList,mem_append,mem_singleton]at hx;rcases hx with hx|hx
   ·exact hQ x hx
   ·rw[hx];exact λh=>Ca h.symm
def bJ(e:Expr):Ac C0 83 [.agg e.c] [] (B (BA e)) []:=by
 refine Ac.go f83 ?_;unfold f83;refine gO ?_;refine Ab (Pt e) ?_;refine gO ?_;exact AM _
def Nt(e:Expr):Ac C0 168 [.agg e.c] [] (BN (Al e)) []:=by
 refine Ac.go f168 ?_;unfold f168;refine gO ?_;refine Ab (Pt e) ?_;refine gO ?_;exact AM _
def pe(l:List Ad)(hl:l.length<=1000000):Ac C0 99 [AA l] [] (MW 0 (L0 l)) []:=by
 refine Ac.go f99 ?_;unfold f99;refine gO ?_;refine Ao (α:=Nat × List Ad) (λx=>⟨[(4,I x.1),(3,.sl (.own 1728 0) 3 (x.2.map Ad.c)),(0,AA l)],[]⟩) (λx=>x.1<=l.length/\x.2.length<=x.1/\Jv x.2/\∀ p,p∈x.2↔p∈l.take x.1) (λx=>l.length-x.1) (0,[]) ⟨by simp,by simp,by simp[Jv],by simp⟩ ?_ ?_
 ·refine AQ.An ?_ ?_
  ·simp(disch:=omega)only[go_sem,map_nil]
  ·exact gI
 rintro⟨i,out⟩ ⟨hi,kH,QS,HG⟩ J hJ
 replace hi:i<=l.length:=hi
 replace kH:out.length<=i:=kH
 replace QS:Jv out:=QS
 replace HG:∀ p,p∈out↔p∈l.take i:=HG
 refine gO ?_;refine ⟨λAu=>?_,λG9=>?_⟩
 ·have Fx:i<l.length:=by simp at Au;omega
  obtain⟨p,hp⟩:∃ p,l[i]?=some p:=⟨_,gE Fx⟩;have ht:=Il hp;simp(disch:=omega)only[go_sem,gm,hp];refine Cb [1728] (Oy out p (by omega)) gI rfl trivial ?_;cases hh:BL out p;rotate_left
  ·have HT:p∈out:=by simpa [BL]using hh
   refine gO ?_;refine hJ _ (i+1,out) ⟨by simp;omega,by simp;omega,QS,λx=>?_⟩ (by simp;omega) AS;rw[ht,mem_append,<- HG x];simp only[mem_singleton];exact⟨.inl,λh=>h.elim id λe=>by rw[e];exact HT⟩
  have kF:p∉out:=by simpa [BL]using hh
  have IY:out.length+1<=4294967296:=by omega
  simp(disch:=omega)only[go_sem,gm,hp];refine Ao (α:=Nat) (λk=>⟨[(5,I k),(4,I i),(3,.sl (.own 1728 0) 3 ((He out k p).map Ad.c)),(0,AA l)],[]⟩) (λk=>k<=out.length/\∀ x∈out.drop k,Bw p x<0) (λk=>k) out.length ⟨by omega,by simp⟩ ?_ ?_
  ·refine AQ.An ?_ ?_
   ·simp(disch:=omega)only[go_sem];exact .sl (by simp[He,Ad.c])
   ·exact gI
  rintro k ⟨hk,OE⟩ J2 SO;have stop:(∀ x∈out.take k,Bw x p<0)->∀ st',AQ ⟨C0,[],[]⟩ st' ⟨[(4,I (i+1:Nat)),(3,.sl (.own 1728 0) 3 ((He out k p).map Ad.c)),(0,AA l)],[]⟩->J st':=λAR st' Zw=>by
   refine hJ st' (i+1,He out k p) ⟨by simp;omega,by simp[P3 out k p hk];omega,?_,λx=>?_⟩ (by simp;omega) Zw
   ·have h0:=QS;unfold Jv at h0 ⊢;rw[<- List.take_append_drop k out]at h0;rw[pairwise_append]at h0;show (He out k p).Pairwise _;unfold He;rw[pairwise_append];refine⟨h0.1,List.pairwise_cons.2 ⟨OE,h0.2.1⟩,λa ha b hb=>?_⟩;rcases mem_cons.1 hb with e|e
    ·rw[e];exact AR a ha
    ·exact h0.2.2 a ha b e
   ·show x∈He out k p↔x∈l.take (i+1);rw[ZX,ht,mem_append,<- HG x];simp
  refine Av 12 [([],[5]),([],[28]),([],[29]),([],[3,30]),([],[5,30]),([],[32,30]),([],[31,33,30]),([],[34,30]),([],[3,30]),([],[5,30]),([],[36,37,30]),([],[38,30])] B7 ?_;cases k with
  | zero =>
   have e0:(0<((0:Nat):Int))=False:=by simp
   simp(disch:=omega)only[go_sem,e0,decide_false];exact stop (by simp) _ AS
  | succ k =>
   have e0:(0<(((k+1:Nat)):Int))=True:=eq_true (by omega);have e1:(0<(k:Int)+1)=True:=eq_true (by omega);have e2:((k:Int)+1-1)=(k:Int):=by omega
   obtain⟨x,hx⟩:∃ x,out[k]?=some x:=⟨_,gE (by omega)⟩;have g1:=ZW out (k+1) p hk;have g2:=Wq out k p hk;rw[hx]at g2;have XR:=P3 out (k+1) p hk;have z1:k<(He out (k+1) p).length:=by omega
   have z2:k+1<(He out (k+1) p).length:=by omega
   simp(disch:=omega)only[go_sem,e0,e1,e2,gm,g1,g2,length_map,XR];refine Ab (J8 x p) ?_;refine gO ?_
   by_cases hc:0<Bw x p
   ·have e3:(0<Bw x p)=True:=eq_true hc;have e4:(k=k+1)=False:=eq_false (by omega);simp(disch:=omega)only[go_sem,e2,e3,gm,g1,g2,length_map,XR,List.length_set,List.getElem?_set,e4];refine SO _ k ⟨by omega,λy hy=>?_⟩ (by omega) (AQ.An ?_ gI)
    ·rw[List.drop_eq_getElem_cons (by omega),get_eq hx]at hy;rcases mem_cons.1 hy with e|e
     ·subst e;have:=Ds y p;omega
     ·exact OE y e
    ·simp(disch:=omega)only[go_sem];refine .sl ?_;rw[<- Wr hx,map_set,map_set];rfl
   ·have e3:(0<Bw x p)=False:=eq_false hc;simp(disch:=omega)only[go_sem,e3,decide_false];refine stop (λy hy=>?_) _ AS;have gN:x∈out:=mG hx;have eT:Bw x p<0:=by
     have:Bw x p≠0:=λe=>kF (by rw[<- FX e];exact gN)
     omega
    rw[Il hx]at hy;rcases mem_append.1 hy with e|e
    ·have h0:=QS;unfold Jv at h0;rw[<- List.take_append_drop k out,pairwise_append]at h0;have hd:out.drop k=x::out.drop (k+1):=by rw[List.drop_eq_getElem_cons (by omega),get_eq hx]
     exact DP (h0.2.2 y e x (by rw[hd];simp)) eT
    ·rw[mem_singleton.1 e];exact eT
 ·have Bf:i=l.length:=by simp at G9;omega
  subst Bf;rw[take_length]at HG;have e:out=L0 l:=O7 QS (E7 l) λx=>by rw[HG,IZ]
  refine CK ⟨[(1728,0)],[],[]⟩ _ ?_;simp(disch:=omega)only[go_sem,e]
def XH(l:List Queue)(h1:l.length<=100)(h2:∀ q∈l,BC q<=100):Ac C0 98 [AW l] [] (MW 0 (AT l)) []:=by
 refine Ac.go f98 ?_;unfold f98;refine gO ?_;refine AH (l) (λi=>⟨[(4,I i),(0,AW l),(3,.sl (.own 1088 0) 3 (((l.take i).flatMap B6).map Ad.c))],[]⟩) (λi=>True) trivial ?_ ?_
 ·exact B9
 rintro i ⟨hi,hP⟩ J hJ;refine gO ?_;refine Bp hi (λAu b hb Cc AR=>?_) λBf=>?_
 simp(disch:=omega)only[go_sem,gm,hb]
 ·have NW:=MA (l:=l.take i) λq hq=>h2 q (List.mem_of_mem_take hq)
  have hq:=Jq b;have QT:=h2 b Cc;have IY:((l.take i).flatMap B6).length+(B6 b).length<=4294967296:=by simp only[List.length_take]at NW;omega
  refine Ab (nQ b (by omega)) ?_;refine gO ?_;refine hJ _ (i+1) ⟨by omega,trivial⟩ (by omega) (AQ.An ?_ ?_)
  all_goals(try simp(disch:=omega)only[go_sem])
  all_goals(try(repeat'(with_reducible apply And.intro)))
  all_goals(first|exact .AU (by omega)|exact .AD (by omega)|exact .sl (by simp[take_add_one,hb])|exact .int (by simp[take_add_one,hb])|exact .eq (by simp[take_add_one,hb]))
 ·subst Bf;have NW:=MA h2;refine Ti [1088] ⟨⟨[],[],[]⟩,[(0,1216)],[]⟩ (pe (l.flatMap B6) (by omega)) (by simp(disch:=omega)only[go_sem,take_length]) rfl trivial (.inl rfl) ?_;refine gO ?_;refine CK ⟨[(1216,0)],[],[]⟩ _ ?_;simp(disch:=omega)only[go_sem,AT]
def TE(s:WS)(h:Iq s):Ac C0 54 [.agg s.c] [] (AA (Am s)) []:=by
 have hq:=MX h.aq;have h1:=h.nq;have h2:=h.nn;have IY:(AT s.Aa).length<=4294967296:=by omega
 refine Ac.go f54 ?_;unfold f54;refine gO ?_;refine Bh ⟨⟨[],[],[]⟩,[(0,448)],[]⟩ (XH s.Aa h.nq h.aq) gI rfl trivial (.inl rfl) ?_;refine gO ?_;refine AH (s.AB) (λi=>⟨[(4,I i),(1,.ptr 64 0),(3,.sl (.own 1472 0) 3 ((AT s.Aa++CJ (s.AB.take i)).map Ad.c))],[(64,s.c)]⟩) (λi=>True) trivial ?_ ?_
 ·refine AQ.BS ⟨[(448,1472)],[(64,64)],[]⟩ ⟨rfl,rfl⟩ (by simp[lk]) ?_ ?_
  all_goals(try simp(disch:=omega)only[go_sem])
  all_goals(try(repeat'(with_reducible apply And.intro)))
  all_goals(first|exact .AU (by omega)|exact .AD (by omega)|exact .sl (by simp[CJ])|exact .int (by simp[CJ])|exact .eq (by simp[CJ]))
 rintro i ⟨hi,hP⟩ J hJ;refine gO ?_;refine Bp hi (λAu b hb Cc AR=>?_) λBf=>?_
 simp(disch:=omega)only[go_sem,gm,hb]
 ·have pq:(AT s.Aa).length+(CJ (s.AB.take i)).length+1<=4294967296:=by simp[CJ];omega
  simp(disch:=omega)only[go_sem,CJ];refine hJ _ (i+1) ⟨by omega,trivial⟩ (by omega) (AQ.An ?_ ?_)
  all_goals(try simp(disch:=omega)only[go_sem])
  all_goals(try(repeat'(with_reducible apply And.intro)))
  all_goals(first|exact .AU (by omega)|exact .AD (by omega)|exact .sl (by simp[CJ,take_add_one,hb,Ad.c])|exact .int (by simp[CJ,take_add_one,hb,Ad.c])|exact .eq (by simp[CJ,take_add_one,hb,Ad.c]))
 ·subst Bf;refine FC [1472] (j8 (AT s.Aa++CJ s.AB) (by simp[CJ];omega)) (by simp(disch:=omega)only[go_sem,take_length]) rfl ?_;refine gO ?_;refine CD _ ?_;simp(disch:=omega)only[go_sem,Am]
def dx(l:List Queue)(name:Bs)(hl:l.length<=1000000):Ac C0 160 [AW l,.v (.string (str name))] [] (I (match l.findIdx? (λq=>q.res.name==name) with|some i=>i|none=>-1)) []:=by
 refine Ac.go f160 ?_;unfold f160;refine gO ?_;refine AH (l) (λi=>⟨[(5,I i),(0,AW l),(1,.v (.string (str name)))],[]⟩) (λi=>(l.take i).find? (λq=>q.res.name==name)=none) rfl ?_ ?_
 ·exact B9
 rintro i ⟨hi,hP⟩ J hJ;refine gO ?_;refine Bp hi (λAu b hb Cc AR=>?_) λBf=>?_
 simp(disch:=omega)only[go_sem,gm,hb]
 ·refine⟨λh=>?_,λh=>?_⟩
  ·have e:=Gk hP b hb (by simpa using h);simp(disch:=omega)only[go_sem,e];exact AM _
  ·refine hJ _ (i+1) ⟨by omega,(by rw[B4 hP hb];simp at h;simp[h])⟩ (by omega) AS
 ·subst Bf;rw[take_length]at hP;have e:l.findIdx? (λq=>q.res.name==name)=none:=by
   rw[List.findIdx?_eq_none_iff];rw[List.find?_eq_none]at hP;intro x hx;simpa using hP x hx
  simp(disch:=omega)only[go_sem,e];exact AM _
def Iy(l:List Queue)(p:Ad)(name:Bs):Bool:=match l.find? (λq=>q.res.name==name) with
 |some q=>(Ar q p).isSome
 |none=>false
def dv(s:WS)(p:Ad)(h:Iq s):Ac C0 156 [.agg s.c,.agg p.c] [] (.Bl [.agg ((s.AB.find? λn=>decide (n.proc=p)).getD n0).c,B (s.AB.find? λn=>decide (n.proc=p)).isSome]) []:=by
 have hn:=h.nn;refine Ac.go f156 ?_;unfold f156;refine gO ?_;refine AH (s.AB) (λi=>⟨[(6,I i),(2,.ptr 128 0),(3,.ptr 192 0),(4,.ptr 256 0)],[(128,s.c),(192,p.c),(256,n0.c)]⟩) (λi=>(s.AB.take i).find? (λn=>decide (n.proc=p))=none) rfl ?_ ?_
 ·refine AQ.An ?_ ?_
  all_goals(try simp(disch:=omega)only[go_sem,n0,Expr.Cf,Expr.k,Expr.atom,Expr.kids,a0,p0])
  all_goals(try(repeat'(with_reducible apply And.intro)))
  all_goals(first|exact .AU (by omega)|exact .AD (by omega)|exact .sl (by simp[n0])|exact .int (by simp[n0])|exact .eq (by simp[n0]))
 rintro i ⟨hi,hP⟩ J hJ;refine gO ?_;refine Bp hi (λAu b hb Cc AR=>?_) λBf=>?_
 refine Av 7 [([],[2]),([],[14]),([],[6]),([],[15,16]),([],[17]),([],[18]),([],[3])] B7 ?_;simp(disch:=omega)only[go_sem,gm,hb]
 ·refine⟨λh=>?_,λh=>?_⟩
  ·have e:(s.AB.find? λn=>decide (n.proc=p))=some b:=G5 hP hb (by simpa using h);simp(disch:=omega)only[go_sem,e,gm,hb,Option.isSome_some,Option.getD_some];exact AM _
  ·refine hJ _ (i+1) ⟨by omega,(by rw[B4 hP hb];simp at h;simp[h])⟩ (by omega) AS
 ·subst Bf;rw[take_length]at hP;simp(disch:=omega)only[go_sem,hP,Option.isSome_none,Option.getD_none,n0,Expr.k,Expr.atom,Expr.kids,a0,p0];refine Aj _ ?_;refine .Bl (Af.AI ?_);simp(disch:=omega)only[go_sem]
  repeat'(with_reducible apply And.intro)
  all_goals(first|exact .AD (by omega)|exact .agg (Af.AI gI))
def j6(l:List Queue)(ha:∀ q∈l,BC q<=100):Ac C0 81 [AW l] [] (B (CC l)) []:=by
 refine Ac.go f81 ?_;unfold f81
 by_cases hq:8<l.length
 ·have e1:(8<(l.length:Int))=True:=eq_true (by omega);have e:CC l=false:=by simp[CC];omega
  simp(disch:=omega)only[go_sem,e1];refine Aj _ ?_;exact wb (by simp[e])
 have e1:(8<(l.length:Int))=False:=eq_false (by omega);simp(disch:=omega)only[go_sem,e1,decide_false];refine AH (l) (λi=>⟨[(3,I i),(0,AW l)],[]⟩) (λi=>Ci (Cq l) (l.take i)=true) rfl ?_ ?_
 ·exact B9
 rintro i ⟨hi,hP⟩ J hJ;refine gO ?_;refine Bp hi (λAu b hb Cc AR=>?_) λBf=>?_
 refine Av 23 [([],[0]),([],[3]),([],[13,14]),([],[15]),([],[16]),([4],[17]),([4],[18]),([4],[3,19]),([4],[20,19]),([4],[21,19]),([4],[0,22]),([4],[3,22]),([4],[24,22]),([4],[23,25,22]),([4],[26,22]),([4],[27,22]),([4],[28,22]),([4],[0,22]),([4],[3,22]),([4],[30,31,22]),([4],[32,22]),([4],[33,22]),([4],[34,22])] B7 ?_;simp(disch:=omega)only[go_sem,gm,hb]
 ·have LS:=Bv (ha b Cc);have bad:Cq l i b=false->CC l=false:=λh=>by simp only[CC,BM hb h,Bool.and_false]
  have Fv:Cq l i b=true->Ci (Cq l) (l.take (i+1))=true:=λh=>by rw[Cl hb,hP,h];rfl
  first|(refine Ab (Nl b LS.1 LS.2.2) ?_)|(refine Aq (Nl b LS.1 LS.2.2) ?_)
  cases hv:valid b
  ·simp(disch:=omega)only[go_sem];refine Aj _ ?_;exact wb (by rw[bad (by simp[Cq,hv])])
  by_cases NO:i=0
  ·subst NO;refine gO ?_;refine hJ _ 1 ⟨by omega,Fv (by simp[Cq,hv])⟩ (by omega) AS
  ·have PJ:(0<(i:Int))=True:=eq_true (by omega);have Lu:((i:Int)-1)=((i-1:Nat):Int):=by omega
   obtain⟨a,ME⟩:∃ a,l[i-1]?=some a:=⟨_,gE (by omega)⟩;have PH:l.getD (i-1) q0=a:=by simp[List.getD,ME]
   simp(disch:=omega)only[go_sem,PJ,Lu,gm,ME,hb];refine And.intro (λhh=>?_) (λhh=>?_)
   ·refine Aj _ ?_;exact wb (by rw[bad (by simp only[Cq,PH,hv];simp[NO];simpa [DJ]using hh)])
   ·refine hJ _ (i+1) ⟨by omega,Fv (by simp only[Cq,PH,hv];simp[NO];simpa [DJ]using hh)⟩ (by omega) AS
 subst Bf;rw[take_length]at hP;have Yu:CC l=true:=by simp[CC,hP];omega
 refine Aj _ ?_;exact wb (by rw[Yu])
def XD(s:WS)(h:Iq s):Ac C0 37 [.agg s.c] [] (B (A7 s)) []:=by
 refine Ac.go f37 ?_;unfold f37;refine gO ?_;refine Ab (j6 s.Aa h.aq) ?_;cases Yu:CC s.Aa
 ·simp(disch:=omega)only[go_sem];refine Aj _ ?_;exact wb (by simp[A7,Yu])
 by_cases hn:8<s.AB.length
 ·have e2:(8<(s.AB.length:Int))=True:=eq_true (by omega);have e:A7 s=false:=by simp[A7,FY];omega
  simp(disch:=omega)only[go_sem,e2,decide_true];refine Aj _ ?_;exact wb (by simp[e])
 have e2:(8<(s.AB.length:Int))=False:=eq_false (by omega);simp(disch:=omega)only[go_sem,e2,decide_false];refine AH (s.AB) (λi=>⟨[(3,I i),(1,.ptr 64 0)],[(64,s.c)]⟩) (λi=>Ci (Cn s.AB) (s.AB.take i)=true) rfl ?_ ?_
 ·exact B9
 rintro i ⟨hi,hP⟩ J hJ;refine gO ?_;refine Bp hi (λAu b hb Cc AR=>?_) λBf=>?_
 simp(disch:=omega)only[go_sem,gm,hb]
 ·have bad:Cn s.AB i b=false->A7 s=false:=λh=>by simp only[A7,FY,BM hb h,Bool.and_false,Bool.false_and]
  have Fv:Cn s.AB i b=true->Ci (Cn s.AB) (s.AB.take (i+1))=true:=λh=>by rw[Cl hb,hP,h];rfl
  refine Av 33 [([],[4]),([],[27]),([],[28]),([2],[29]),([2],[30]),([2],[4,31]),([2],[32,31]),([2],[33,31]),([2,7],[34,31]),([2,7],[31,35]),([2,7],[36]),([2,7],[4,37]),([2,7],[38,37]),([2,7],[39,37]),([2,7],[37,40]),([2,7],[41]),([2,7],[4,42]),([2,7],[43,42]),([2,7],[44,42]),([2,7],[42,45]),([2,7],[46]),([2,7],[3,47]),([2,7],[48,47]),([2,7],[49,47]),([2,7],[1,50]),([2,7],[51,50]),([2,7],[3,50]),([2,7],[53,50]),([2,7],[52,54,50]),([2,7],[55,50]),([2,7],[56,50]),([2,7],[4,50]),([2,7],[58,50])] B7 ?_;refine gO ?_
  first|(refine Ab (Lo b.proc) ?_)|(refine Aq (Lo b.proc) ?_)
  cases hp:b.proc.ok
  ·simp(disch:=omega)only[go_sem];refine Aj _ ?_;exact wb (by rw[bad (by simp[Cn,hp])])
  refine gO ?_
  first
   |(refine Ag (bJ b.expr) (by simp(disch:=omega)only[go_sem,Expr.Cf]) rfl ?_)
   |(refine AF ⟨⟨[],[],[]⟩,[],[]⟩ (bJ b.expr) (by simp(disch:=omega)only[go_sem,Expr.Cf]) rfl rfl trivial (.inl rfl) ?_)
  cases he:BA b.expr
  ·simp(disch:=omega)only[go_sem];refine Aj _ ?_;exact wb (by rw[bad (by simp[Cn,he])])
  by_cases mO:b.gen<0
  ·have k1:(b.gen<0)=True:=eq_true mO;simp(disch:=omega)only[go_sem,k1];refine Aj _ ?_;exact wb (by rw[bad (by simp[Cn];omega)])
  have k1:(b.gen<0)=False:=eq_false mO
  by_cases eM:1073741824<b.gen
  ·have k2:(1073741824<b.gen)=True:=eq_true eM;simp(disch:=omega)only[go_sem,k1,k2,decide_false];refine Aj _ ?_;exact wb (by rw[bad (by simp[Cn];omega)])
  have k2:(1073741824<b.gen)=False:=eq_false eM;have g1:decide (0<=b.gen)=true:=by simp;omega
  have g2:decide (b.gen<=1073741824)=true:=by simp;omega
  by_cases NO:i=0
  ·subst NO;simp(disch:=omega)only[go_sem,k1,k2,decide_false];refine hJ _ 1 ⟨by omega,Fv (by simp only[Cn,hp,g1,g2,he];rfl)⟩ (by omega) AS
  ·have PJ:(0<(i:Int))=True:=eq_true (by omega);have Lu:((i:Int)-1)=((i-1:Nat):Int):=by omega
   obtain⟨a,ME⟩:∃ a,s.AB[i-1]?=some a:=⟨_,gE (by omega)⟩;have PH:s.AB.getD (i-1) n0=a:=by simp[List.getD,ME]
   simp(disch:=omega)only[go_sem,k1,k2,decide_false,PJ,Lu,gm,ME,hb]
   first|(refine Ab (J8 a.proc b.proc) ?_)|(refine Aq (J8 a.proc b.proc) ?_)
   refine gO ?_
   by_cases hc:0<=Bw a.proc b.proc
   ·simp(disch:=omega)only[go_sem,hc];refine Aj _ ?_;exact wb (by rw[bad (by simp only[Cn,PH];simp[NO];omega)])
   ·simp(disch:=omega)only[go_sem,hc,decide_false];refine hJ _ (i+1) ⟨by omega,Fv (by simp only[Cn,PH,hp,g1,g2,he];simp;omega)⟩ (by omega) AS
 ·subst Bf;rw[take_length]at hP;have rG:FY s.AB=true:=by simp[FY,hP];omega
  refine Ab (TE s h) ?_;refine gO ?_;refine Aj _ ?_;exact wb (by simp only[A7,Yu,rG];simp;omega)
def Wz:∀ (es:List Expr) (l:List Atom),(CB es l).1=true->∀ e∈es,∃ l',(prop e l').1=true
 |[],_,_,_,he=>by simp at he
 | e::es,l,h,e',he=>by
  simp only[CB]at h;split at h
  ·rename_i h1;rcases mem_cons.1 he with rfl|he
   ·exact⟨l,h1⟩
   ·exact Wz es _ h e' he
  ·simp at h
def SK(l:List Atom)(set:List Bool)(hl:l.length<=1000000):∀ (N:Nat) (e:Expr),SizeOf.sizeOf e<N->∀ la,(prop e la).1=true ->
 Ac C0 213 [.agg e.c,BN l,Jb set] [] (B (EX (Ed l set) e)) []
 | 0,_,h,_,_=>by omega
 | N+1,e,h,la,hp=>by
  refine Ac.lens f213 λhlen=>?_
  simp only[E0,lens,Expr.Cf,length_map,length_map,and_true,true_and]at hlen;rw[D8]at hp;refine Ac.go f213 ?_;unfold f213
  by_cases hk:e.kids.length=0
  ·rw[if_pos hk]at hp;have h0:e.k=0:=by
    by_cases h0:e.k=0
    ·exact h0
    ·rw[if_neg (by simp[h0])]at hp;simp at hp
   have e1:(e.k==0)=true:=by simp[h0]
   have ev:EX (Ed l set) e=Ed l set e.atom:=by rw[Kw,if_pos hk]
   rw[ev];simp(disch:=omega)only[go_sem,e1];refine AH (l) (λi=>⟨[(7,I i),(1,BN l),(2,Jb set),(3,.ptr 192 0)],[(192,e.c)]⟩) (λi=>(l.take i).find? (λx=>decide (x=e.atom))=none) rfl ?_ ?_
   ·exact B9
   rintro i ⟨hi,hP⟩ J hJ;refine gO ?_;refine Bp hi (λAu b hb Cc AR=>?_) λBf=>?_
   refine Av 6 [([],[1]),([],[7]),([],[19,20]),([],[21]),([],[3]),([],[23])] B7 ?_;simp(disch:=omega)only[go_sem,gm,hb]
   ·refine And.intro (λhh=>?_) (λhh=>?_)
    ·have Lu:l.findIdx? (λx=>decide (x=e.atom))=some i:=Gk hP b hb (by simpa using hh)
     by_cases hs:i<set.length
     ·have e3:((i:Int)<set.length)=True:=eq_true (by omega);have e4:set[i]?=some (set.getD i false):=by rw[gE hs];simp[List.getD,hs]
      have e2:Ed l set e.atom=set.getD i false:=by simp[Ed,Lu]
      simp(disch:=omega)only[go_sem,e3,gm,e4];refine Aj _ ?_;exact wb (by rw[e2])
     ·have e3:((i:Int)<set.length)=False:=eq_false (by omega);have e2:Ed l set e.atom=false:=by simp[Ed,Lu,List.getD,hs]
      simp(disch:=omega)only[go_sem,e3,decide_false];refine Aj _ ?_;exact wb (by simp[e2])
    ·refine hJ _ (i+1) ⟨by omega,(by rw[B4 hP hb];simp at hh;simp[hh])⟩ (by omega) AS
   ·subst Bf;rw[take_length]at hP;have Lu:l.findIdx? (λx=>decide (x=e.atom))=none:=by
     rw[List.findIdx?_eq_none_iff];rw[List.find?_eq_none]at hP;intro x hx;simpa using hP x hx
    have e2:Ed l set e.atom=false:=by simp[Ed,Lu]
    refine Aj _ ?_;exact wb (by rw[e2])
  ·rw[if_neg hk]at hp;have hb:¬ (e.k<1\/(e.kids.length:Int)<e.k\/e.atom≠a0):=by
    intro hb;rw[if_pos hb]at hp;simp at hp
   rw[if_neg hb]at hp;have Aa7:=Wz _ _ hp;have e1:(e.k==0)=false:=by simp;omega
   have ev:EX (Ed l set) e=decide (e.k<=CV (Ed l set) e.kids):=by rw[Kw,if_neg hk]
   have IY:=QE (Ed l set);rw[ev];simp(disch:=omega)only[go_sem,e1];refine AH (e.kids) (λi=>⟨[(9,I i),(8,I (CV (Ed l set) (e.kids.take i))),(1,BN l),(2,Jb set),(3,.ptr 192 0)],[(192,e.c)]⟩) (λi=>True) trivial ?_ ?_
   ·refine AQ.An ?_ ?_
    all_goals(try simp(disch:=omega)only[go_sem])
    all_goals(try(repeat'(with_reducible apply And.intro)))
    all_goals(first|exact .AU (by omega)|exact .AD (by omega)|exact .sl (by simp[CV])|exact .int (by simp[CV])|exact .eq (by simp[CV]))
   rintro i ⟨hi,hP⟩ J hJ;refine gO ?_;refine Bp hi (λAu b hb Cc AR=>?_) λBf=>?_
   simp(disch:=omega)only[go_sem,gm,hb]
   ·obtain⟨la',hla⟩:=Aa7 b Cc;have Ec:=D3 Cc;have mM:=Mo (Ed l set) e.kids i b hb;have U7:=IY (e.kids.take i);simp only[List.length_take]at U7;refine Ab (SK l set hl N b (by omega) la' hla) ?_;cases V1:EX (Ed l set) b
    ·rw[V1]at mM;refine gO ?_;refine hJ _ (i+1) ⟨by omega,trivial⟩ (by omega) (AQ.An ?_ gI);simp(disch:=omega)only[go_sem,mM];exact .int (by simp)
    ·rw[V1]at mM;refine gO ?_;refine hJ _ (i+1) ⟨by omega,trivial⟩ (by omega) (AQ.An ?_ gI);simp(disch:=omega)only[go_sem,mM]
   ·subst Bf;simp(disch:=omega)only[go_sem,take_length];exact AM _
def ae:∀ (es:List Expr) (l:List Atom),(∀ e∈es,∀ l,(prop e l).1=true->(prop e l).2≠[])->(CB es l).1=true->es≠[]\/l≠[]->(CB es l).2≠[]
 |[],l,_,_,h=>by simpa [CB]using h
 | e::es,l,hk,hp,_=>by
  simp only[CB]at hp ⊢;split at hp
  ·rename_i h1;rw[if_pos h1];exact ae es _ (λe' he=>hk e' (by simp[he])) hp (.inr (hk e (by simp) l h1))
  ·simp at hp
def fg:∀ (N:Nat) (e:Expr),SizeOf.sizeOf e<N->∀ l,(prop e l).1=true->(prop e l).2≠[]
 | 0,_,h,_,_=>by omega
 | N+1,e,h,l,hp=>by
  rw[D8]at hp ⊢
  by_cases h0:e.kids.length=0
  ·rw[if_pos h0]at hp ⊢
   by_cases h1:e.k=0/\Lb e.atom=true
   ·rw[if_pos h1]at hp ⊢;simp only at hp ⊢;rw[fe hp];unfold Es;split
    ·rename_i hm;exact λh=>by rw[h]at hm;simp at hm
    ·simp
   ·rw[if_neg h1]at hp;simp at hp
  ·rw[if_neg h0]at hp ⊢;split at hp
   ·simp at hp
   ·rename_i h1;rw[if_neg h1];exact ae _ _ (λe' he l'=>fg N e' (by have:=D3 he;omega) l') hp (.inl λh=>h0 (by rw[h];rfl))
def Nr(e:Expr)(set:List Bool)(he:BA e=true):Ac C0 157 [.agg e.c,Jb set] [] (B (Ff e set)) []:=by
 have hl:=C3 e;have Ca:(Al e).length≠0:=by
  have hp:=FF he;have h1:=fg _ e (lt_succ_self _) [] hp;have hc:=Jr _ e (lt_succ_self _) [] hp;have ha:Al e=(prop e []).2:=by unfold Al;rw[if_pos he,hc]
  rw[ha];simpa using h1
 refine Ac.go f157 ?_;unfold f157;refine gO ?_;refine Ab (Pt e) ?_;simp(disch:=omega)only[go_sem,he];refine Ab (SK (Al e) set (by omega) _ e (lt_succ_self _) [] (FF he)) ?_;refine gO ?_;refine Aj _ ?_;exact wb (by simp[Ff,Ca])
end Go.Rd
namespace Go.Abs
def Vm(m:Nat):List (Nat × Nat × AV)->List (Nat × AV)
 |[]=>[]
 |(w,t,x)::l=>if m / w%2=1 then (t,x)::Vm m l else Vm m l
def Ts(X:Env)(ops:Array Oper)(S:Nat->St)(m:Nat):List (Nat × Nat)->Prop
 |[]=>True
 |(i,m')::l=>Bg X ops (L6 ops i) (λst'=>AQ X st' (S m')) (S m)/\Ts X ops S m l
def Xj(X:Env)(ops:Array Oper)(S:Nat->St):List (Nat × List (Nat × Nat))->Prop
 |[]=>True
 |(m,l)::t=>Ts X ops S m l/\Xj X ops S t
def yK(ops:Array Oper)(full:Nat)(tab:List (Nat × List (Nat × Nat))):Bool :=
 (tab.any λp=>p.1==0)&&((List.range ops.size).all λi=>full.testBit i)&&tab.all λp =>
  (p.1==full||(List.range ops.size).any (λi=>!p.1.testBit i&&(Bq ops i).all λe=>p.1.testBit e)) &&
  ((List.range ops.size).all λi=>p.1.testBit i||!((Bq ops i).all λe=>p.1.testBit e)||p.2.any (λq=>q.1==i)) &&
  p.2.all λq=>q.2==(p.1 ||| 2 ^ q.1)&&tab.any (λp'=>p'.1==q.2)
section
variable {X:Env} {A:A0} {N:Nat} {ops:Array Oper}
def Y9{S:Nat->St}{m:Nat}{q:Nat × Nat}:∀ {l:List (Nat × Nat)},Ts X ops S m l->q∈l->Bg X ops (L6 ops q.1) (λst'=>AQ X st' (S q.2)) (S m)
 |[],_,h=>by cases h
 |(i,m')::l,h,hm=>by
  simp only[Ts]at h;rcases List.mem_cons.1 hm with rfl|hm
  ·exact h.1
  ·exact Y9 h.2 hm
def Zb{S:Nat->St}{p:Nat × List (Nat × Nat)}:∀ {tab:List (Nat × List (Nat × Nat))},Xj X ops S tab->p∈tab->Ts X ops S p.1 p.2
 |[],_,h=>by cases h
 |(i,m')::l,h,hm=>by
  simp only[Xj]at h;rcases List.mem_cons.1 hm with rfl|hm
  ·exact h.1
  ·exact Zb h.2 hm
def fS(hA:A.ext=X.ext)(hX:∀ s∈X.ext,s%32=31)(hN:bf N ops){Q:Exit->Act->World->Prop}{K:St->Prop}(hQ:∀ g st a w,R X.C A N g st a w->K st->Q .normal a w)
 {full:Nat} {tab:List (Nat × List (Nat × Nat))} {S:Nat->St} (Ce:yK ops full tab=true) (hs:Xj X ops S tab) (he:K (S full)) :
 ∀ (fuel:Nat) (m:Nat) (l:List (Nat × Nat)) (Ae:Array Bool) (g:Gh) (a:Act) (w:World),Ae.size=ops.size->UR Ae<=fuel->(∀ j,j<ops.size->DE Ae j=m.testBit j)->(m,l)∈tab->R X.C A N g (S m) a w ->
  wpAny X.C.P .any ops Q fuel Ae a w:=by
 have kG:=Ce;simp only[yK,Bool.and_eq_true,List.all_eq_true,List.mem_range]at kG;obtain⟨⟨_,V2⟩,yl⟩:=kG;intro fuel
 induction fuel with
 | zero =>
  intro m l Ae g a w Ec hu hd hm hR;obtain⟨⟨h1,h2⟩,h3⟩:=yl (m,l) hm;simp only[Bool.or_eq_true,beq_iff_eq,List.any_eq_true,List.mem_range,Bool.and_eq_true]at h1;rcases h1 with rfl|⟨i,hi,PJ,Lu⟩
  ·refine⟨?_,hQ g _ a w hR he⟩;cases pJ:Region.ready .any ops Ae with
   | nil=>rfl
   | cons j l' =>
    have hj:j∈Region.ready .any ops Ae:=by rw[pJ];simp
    have:=(BI Ec).1 hj;rw[hd j this.1,V2 j this.1]at this;simp at this
  ·have HG:i∈Region.ready .any ops Ae:=(BI Ec).2 ⟨hi,by rw[hd i hi];simpa using PJ,λe gB=>by
    have h4:=List.all_eq_true.1 Lu e gB;have Au:=Po hN e gB hi;rw[hd e Au];exact h4⟩
   obtain⟨k1,k2,_⟩:=(BI Ec).1 HG;rw[Ho (by omega) (by omega:i<Ae.size)]at k2;cases k2
 | succ fuel ih =>
  intro m l Ae g a w Ec hu hd hm hR;obtain⟨⟨h1,h2⟩,h3⟩:=yl (m,l) hm;simp only[Bool.or_eq_true,beq_iff_eq,List.any_eq_true,List.mem_range,Bool.and_eq_true]at h1;refine⟨λh0=>?_,λj hj=>?_⟩
  ·rcases h1 with rfl|⟨i,hi,PJ,Lu⟩
   ·exact hQ g _ a w hR he
   ·have HG:i∈Region.ready .any ops Ae:=(BI Ec).2 ⟨hi,by rw[hd i hi];simpa using PJ,λe gB=>by
     have h4:=List.all_eq_true.1 Lu e gB;have Au:=Po hN e gB hi;rw[hd e Au];exact h4⟩
    rw[h0]at HG;cases HG
  ·obtain⟨k1,k2,k3⟩:=(BI Ec).1 hj;have iT:m.testBit j=false:=by rw[<- hd j k1];exact k2
   have h4:=h2 j k1;have SR:(Bq ops j).all (λe=>m.testBit e)=true:=List.all_eq_true.2 λe gB=>by
    have h5:=k3 e gB;have Au:=Po hN e gB k1;rw[hd e Au]at h5;exact h5
   simp only[iT,SR,Bool.not_true,Bool.or_false,Bool.false_or,List.any_eq_true,beq_iff_eq]at h4;obtain⟨q,hq,rfl⟩:=h4;have h5:=h3 q hq;simp only[beq_iff_eq,List.any_eq_true]at h5;obtain⟨h6,p',V5,h7⟩:=h5;have ho:ops[q.1]?=some ops[q.1]:=Array.getElem?_eq_getElem k1;have ZA:=Y9 (Zb hs hm) hq;simp only[L6,ho,Bg]at ZA;refine MT hA hX ho (λg' st' a' w' SP mL=>?_) (hN.1 _ (Array.getElem_mem k1)) ZA hR;obtain⟨g2,hR2⟩:=mL A N g' a' w' hA SP;refine ih q.2 p'.2 _ g2 a' w' (by simp[Ec]) (by have:=HY (by omega:q.1<Ae.size) k2;omega) (λj' V3=>?_) (by rw[<- h7];exact V5) hR2;rw[En (by omega)];simp only[H3];rw[h6,Nat.testBit_or,Nat.testBit_two_pow]
   by_cases vS:j'=q.1
   ·subst vS;simp
   ·simp[vS,Ne.symm vS,hd j' V3]
end
def jE{X:Env}{ops:Array Oper}{K:St->Prop}{st:St}(full:Nat)(tab:List (Nat × List (Nat × Nat)))(S:Nat->St)(hm:X.C.P.follows .mixedOrders=true)(Ce:(IJ ops&&yK ops full tab)=true)
 (h0:AQ X st (S 0)) (hs:Xj X ops S tab) (he:K (S full)):JG X ops K st:=by
 refine D4 h0 ?_;intro A N g a w hA hN hX hR id Q hQ;simp only[Bool.and_eq_true]at Ce;refine wp_region_any hm ?_;have h0:∃ l,(0,l)∈tab:=by
  have:=Ce.2;simp only[yK,Bool.and_eq_true,List.any_eq_true,beq_iff_eq]at this;obtain⟨⟨⟨p,hp,h⟩,_⟩,_⟩:=this;exact⟨p.2,by rw[<- h];exact hp⟩
 obtain⟨l,hl⟩:=h0;refine fS hA hX (N:=N) (K:=K) ⟨λo ho=>?_,λi hi e he=>?_⟩ hQ Ce.2 hs he ops.size 0 l (Array.replicate ops.size false) g a _ (by simp) (by simp[UR]) (λj hj=>by simp[DE,Array.getD,hj]) hl hR.drew
 ·unfold Jn;cases hd:o.dst with
  |none=>rfl
  |some d=>simp;exact hN o ho d hd
 ·have:=Ce.1;simp only[IJ,List.all_eq_true,List.mem_range,decide_eq_true_eq]at this;exact this i hi e he
@[go_sem] theorem xd(X:Env)(ops:Array Oper)(S:Nat->St)(m:Nat):Ts X ops S m []=True:=rfl
@[go_sem] theorem vC(X:Env)(ops:Array Oper)(S:Nat->St)(m i m':Nat)(l:List (Nat × Nat)):Ts X ops S m ((i,m')::l)=(Bg X ops (L6 ops i) (λst'=>AQ X st' (S m')) (S m)/\Ts X ops S m l):=rfl
@[go_sem] theorem xe(X:Env)(ops:Array Oper)(S:Nat->St):Xj X ops S []=True:=rfl
@[go_sem] theorem vD(X:Env)(ops:Array Oper)(S:Nat->St)(m:Nat)(l:List (Nat × Nat))(t:List (Nat × List (Nat × Nat))):Xj X ops S ((m,l)::t)=(Ts X ops S m l/\Xj X ops S t):=rfl
@[go_sem] theorem Aab(m:Nat):Vm m []=[]:=rfl
@[go_sem] theorem y6(m w t:Nat)(x:AV)(l:List (Nat × Nat × AV)):Vm m ((w,t,x)::l)=if m / w%2=1 then (t,x)::Vm m l else Vm m l:=rfl
end Go.Abs
namespace Go.Abs
def Za(X:Env)(ops:Array Oper)(S:Nat->St)(m:Nat):List (Nat × Nat × Nat)->Prop
 |[]=>True
 |(i,w,d)::l=>(if m / w%2=0/\d &&& m=d then Bg X ops (L6 ops i) (λst'=>AQ X st' (S (m+w))) (S m) else True)/\Za X ops S m l
def fR(X:Env)(ops:Array Oper)(S:Nat->St)(E:List (Nat × Nat × Nat)):List Nat->Prop
 |[]=>True
 | m::t=>Za X ops S m E/\fR X ops S E t
def X8(E:List (Nat × Nat × Nat))(m:Nat):List (Nat × Nat):=(E.filter λe=>decide (m / e.2.1%2=0/\e.2.2 &&& m=e.2.2)).map λe=>(e.1,m+e.2.1)
def my(E:List (Nat × Nat × Nat))(ms:List Nat):List (Nat × List (Nat × Nat)):=ms.map λm=>(m,X8 E m)
section
variable {X:Env} {ops:Array Oper} {S:Nat->St}
def jy{m:Nat}:∀ {E:List (Nat × Nat × Nat)},Za X ops S m E->Ts X ops S m (X8 E m)
 |[],_=>trivial
 |(i,w,d)::l,h=>by
  simp only[Za]at h;have ih:=jy h.2;unfold X8 at ih ⊢;simp only[List.filter_cons]
  by_cases hc:m / w%2=0/\d &&& m=d
  ·rw[if_pos hc]at h;simp only[hc,and_self,decide_true,if_true,List.map_cons,Ts];exact⟨h.1,ih⟩
  ·simp only[hc,decide_false,Bool.false_eq_true,if_false];exact ih
def jz{E:List (Nat × Nat × Nat)}:∀ {ms:List Nat},fR X ops S E ms->Xj X ops S (my E ms)
 |[],_=>trivial
 | m::t,h=>⟨jy h.1,jz h.2⟩
def C8{K:St->Prop}{st:St}(full:Nat)(E:List (Nat × Nat × Nat))(ms:List Nat)(S:Nat->St)(h0:AQ X st (S 0))(hs:fR X ops S E ms)(he:K (S full))(hm:X.C.P.follows .mixedOrders=true)
 (Ce:(IJ ops&&yK ops full (my E ms))=true:=by kernel_rfl):JG X ops K st:=jE full (my E ms) S hm Ce h0 (jz hs) he
end
theorem C6(X:Env)(ops:Array Oper)(S:Nat->St)(m i w d:Nat)(l:List (Nat × Nat × Nat)):Za X ops S m ((i,w,d)::l)=((if m / w%2=0/\d &&& m=d then Bg X ops (L6 ops i) (λst'=>AQ X st' (S (m+w))) (S m) else True)/\Za X ops S m l):=nd rfl
theorem C7(X:Env)(ops:Array Oper)(S:Nat->St)(E:List (Nat × Nat × Nat))(m:Nat)(t:List Nat):fR X ops S E (m::t)=(Za X ops S m E/\fR X ops S E t):=nd rfl
theorem DR(X:Env)(ops:Array Oper)(S:Nat->St)(m:Nat):Za X ops S m []=True:=nd rfl
theorem DS(X:Env)(ops:Array Oper)(S:Nat->St)(E:List (Nat × Nat × Nat)):fR X ops S E []=True:=nd rfl
end Go.Abs
