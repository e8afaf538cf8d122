/- part 15 of the proof -/
import Derived.Test.YteliegkcmjimoaaGreatDoorV14
set_option linter.all false
open Go Go.Abs Go.Proofs
set_option maxRecDepth 100000
namespace Go.Rd
set_option maxHeartbeats 8000000
open List (any_append drop_eq_getElem_cons length_map map_nil map_set mem_append mem_cons mem_singleton take_add_one take_length)
open Bool (false_eq_true)
open Option (isSome_none isSome_some)
open Tryz
def He(l:List Ad)(k:Nat)(p:Ad):List Ad:=l.take k++p::l.drop k
def P3(l:List Ad)(k:Nat)(p:Ad)(h:k<=l.length):(He l k p).length=l.length+1:=by simp[He];omega
def ZW(l:List Ad)(k:Nat)(p:Ad)(h:k<=l.length):(He l k p)[k]?=some p:=by
 unfold He;rw[List.getElem?_append_right (by simp;omega)];simp[Nat.min_eq_left h]
def Wq(l:List Ad)(k:Nat)(p:Ad)(h:k+1<=l.length):(He l (k+1) p)[k]?=l[k]?:=by
 unfold He;rw[List.getElem?_append_left (by simp;omega),List.getElem?_take,if_pos (by omega)]
def Wr{l:List Ad}{k:Nat}{p x:Ad}(hx:l[k]?=some x):((He l (k+1) p).set k p).set (k+1) x=He l k p:=by
 have hk:=Ay hx;have hd:l.drop k=x::l.drop (k+1):=by rw[drop_eq_getElem_cons hk,get_eq hx]
 have ht:l.take (k+1)=l.take k++[x]:=Il hx;unfold He;rw[ht,hd];have hl:(l.take k).length=k:=by simp;omega
 rw[List.append_assoc,List.set_append_right _ _ (by omega),hl,Nat.sub_self];rw[List.set_append_right _ _ (by omega),hl];simp
def ZX(l:List Ad)(k:Nat)(p x:Ad):x∈He l k p↔x∈l\/x=p:=by
 unfold He
 conv=>rhs;rw[<- List.take_append_drop k l]
 simp only[mem_append,mem_cons];constructor
 ·rintro(h|h|h)
  ·exact .inl (.inl h)
  ·exact .inr h
  ·exact .inl (.inr h)
 ·rintro((h|h)|h)
  ·exact .inl h
  ·exact .inr (.inr h)
  ·exact .inr (.inl h)
def j8(l:List Ad)(hl:l.length<=1000000):Ac C0 99 [AA l] [] (AA (L0 l)) []:=by
 refine Ac.go f99 ?_;unfold f99;simp(disch:=omega)only[go_sem];refine Ao (α:=Nat × List Ad) (λx=>⟨[(4,I x.1),(3,.sl (.own 1728 0) 3 (x.2.map Ad.c)),(0,AA l)],[]⟩) (λx=>x.1<=l.length/\x.2.length<=x.1/\Jv x.2/\∀ p,p∈x.2↔p∈l.take x.1) (λx=>l.length-x.1) (0,[]) ⟨by simp,by simp,by simp[Jv],by simp⟩ ?_ ?_
 ·refine AQ.An ?_ ?_
  ·simp(disch:=omega)only[go_sem,map_nil]
  ·simp(disch:=omega)only[go_sem]
 rintro⟨i,out⟩ ⟨hi,kH,QS,HG⟩ J hJ
 replace hi:i<=l.length:=hi
 replace kH:out.length<=i:=kH
 replace QS:Jv out:=QS
 replace HG:∀ p,p∈out↔p∈l.take i:=HG
 simp(disch:=omega)only[go_sem];refine ⟨λAu=>?_,λG9=>?_⟩
 ·have Fx:i<l.length:=by simp at Au;omega
  obtain⟨p,hp⟩:∃ p,l[i]?=some p:=⟨_,gE Fx⟩;have ht:=Il hp;simp(disch:=omega)only[go_sem,gm,hp];refine Cb [1728] (Oy out p (by omega)) gI rfl trivial ?_;cases hh:BL out p;rotate_left
  ·have HT:p∈out:=by simpa [BL]using hh
   simp(disch:=omega)only[go_sem];refine hJ _ (i+1,out) ⟨by simp;omega,by simp;omega,QS,λx=>?_⟩ (by simp;omega) AS;rw[ht,mem_append,<- HG x];simp only[mem_singleton];exact⟨.inl,λh=>h.elim id λe=>by rw[e];exact HT⟩
  have kF:p∉out:=by simpa [BL]using hh
  have IY:out.length+1<=4294967296:=by omega
  simp(disch:=omega)only[go_sem,gm,hp];refine Ao (α:=Nat) (λk=>⟨[(5,I k),(4,I i),(3,.sl (.own 1728 0) 3 ((He out k p).map Ad.c)),(0,AA l)],[]⟩) (λk=>k<=out.length/\∀ x∈out.drop k,Bw p x<0) (λk=>k) out.length ⟨by omega,by simp⟩ ?_ ?_
  ·refine AQ.An ?_ ?_
   ·simp(disch:=omega)only[go_sem];exact .sl (by simp[He,Ad.c])
   ·simp(disch:=omega)only[go_sem]
  rintro k ⟨hk,OE⟩ J2 SO;have stop:(∀ x∈out.take k,Bw x p<0)->∀ st',AQ ⟨C0,[],[]⟩ st' ⟨[(4,I (i+1:Nat)),(3,.sl (.own 1728 0) 3 ((He out k p).map Ad.c)),(0,AA l)],[]⟩->J st':=λAR st' Zw=>by
   refine hJ st' (i+1,He out k p) ⟨by simp;omega,by simp[P3 out k p hk];omega,?_,λx=>?_⟩ (by simp;omega) Zw
   ·have h0:=QS;unfold Jv at h0 ⊢;rw[<- List.take_append_drop k out]at h0;rw[List.pairwise_append]at h0;show (He out k p).Pairwise _;unfold He;rw[List.pairwise_append];refine⟨h0.1,List.pairwise_cons.2 ⟨OE,h0.2.1⟩,λa ha b hb=>?_⟩;rcases mem_cons.1 hb with e|e
    ·rw[e];exact AR a ha
    ·exact h0.2.2 a ha b e
   ·show x∈He out k p↔x∈l.take (i+1);rw[ZX,ht,mem_append,<- HG x];simp
  refine Av 12 [([],[5]),([],[28]),([],[29]),([],[3,30]),([],[5,30]),([],[32,30]),([],[31,33,30]),([],[34,30]),([],[3,30]),([],[5,30]),([],[36,37,30]),([],[38,30])] B7 ?_;cases k with
  | zero =>
   have e0:(0<((0:Nat):Int))=False:=by simp
   simp(disch:=omega)only[go_sem,e0,decide_false];exact stop (by simp) _ AS
  | succ k =>
   have e0:(0<(((k+1:Nat)):Int))=True:=eq_true (by omega);have e1:(0<(k:Int)+1)=True:=eq_true (by omega);have e2:((k:Int)+1-1)=(k:Int):=by omega
   obtain⟨x,hx⟩:∃ x,out[k]?=some x:=⟨_,gE (by omega)⟩;have g1:=ZW out (k+1) p hk;have g2:=Wq out k p hk;rw[hx]at g2;have XR:=P3 out (k+1) p hk;have z1:k<(He out (k+1) p).length:=by omega
   have z2:k+1<(He out (k+1) p).length:=by omega
   simp(disch:=omega)only[go_sem,e0,e1,e2,gm,g1,g2,length_map,XR];refine Ab (J8 x p) ?_;simp(disch:=omega)only[go_sem]
   by_cases hc:0<Bw x p
   ·have e3:(0<Bw x p)=True:=eq_true hc;have e4:(k=k+1)=False:=eq_false (by omega);simp(disch:=omega)only[go_sem,e2,e3,gm,g1,g2,length_map,XR,List.length_set,List.getElem?_set,e4];refine SO _ k ⟨by omega,λy hy=>?_⟩ (by omega) (AQ.An ?_ gI)
    ·rw[drop_eq_getElem_cons (by omega),get_eq hx]at hy;rcases mem_cons.1 hy with e|e
     ·subst e;have:=Ds y p;omega
     ·exact OE y e
    ·simp(disch:=omega)only[go_sem];refine .sl ?_;rw[<- Wr hx,map_set,map_set];rfl
   ·have e3:(0<Bw x p)=False:=eq_false hc;simp(disch:=omega)only[go_sem,e3,decide_false];refine stop (λy hy=>?_) _ AS;have gN:x∈out:=mG hx;have eT:Bw x p<0:=by
     have:Bw x p≠0:=λe=>kF (by rw[<- FX e];exact gN)
     omega
    rw[Il hx]at hy;rcases mem_append.1 hy with e|e
    ·have h0:=QS;unfold Jv at h0;rw[<- List.take_append_drop k out,List.pairwise_append]at h0;have hd:out.drop k=x::out.drop (k+1):=by rw[drop_eq_getElem_cons (by omega),get_eq hx]
     exact DP (h0.2.2 y e x (by rw[hd];simp)) eT
    ·rw[mem_singleton.1 e];exact eT
 ·have Bf:i=l.length:=by simp at G9;omega
  subst Bf;rw[take_length]at HG;have e:out=L0 l:=O7 QS (E7 l) λx=>by rw[HG,IZ]
  refine CK ⟨[],[],[1728]⟩ _ ?_;simp(disch:=omega)only[go_sem,e]
def om(l:List AX)(hl:l.length<=1000000):Ac C0 206 [AY l] [] (MW 0 (Dn l)) []:=by
 refine Ac.go f206 ?_;unfold f206;refine gO ?_;refine AH (l) (λi=>⟨[(4,I i),(0,AY l),(3,.sl (.own 1152 0) 3 ((Dn (l.take i)).map Ad.c))],[]⟩) (λi=>True) trivial ?_ ?_
 ·exact B9
 rintro i ⟨hi,hP⟩ J hJ;refine gO ?_;refine Bp hi (λAu b hb Cc AR=>?_) λBf=>?_
 simp(disch:=omega)only[go_sem,gm,hb]
 ·have IY:(Dn (l.take i)).length+1<=4294967296:=by simp[Dn];omega
  simp(disch:=omega)only[go_sem,Dn];refine hJ _ (i+1) ⟨by omega,trivial⟩ (by omega) (AQ.An ?_ ?_)
  all_goals(try simp(disch:=omega)only[go_sem])
  all_goals(try(repeat'(with_reducible apply And.intro)))
  all_goals(first|exact .AU (by omega)|exact .AD (by omega)|exact .sl (by simp[Dn,take_add_one,hb,Ad.c])|exact .int (by simp[Dn,take_add_one,hb,Ad.c])|exact .eq (by simp[Dn,take_add_one,hb,Ad.c]))
 ·subst Bf;refine AZ ⟨[(1152,0)],[],[]⟩ _ rfl ⟨rfl,rfl⟩ (by simp[lk]) ?_ trivial;simp(disch:=omega)only[go_sem,take_length]
def dH(q:Queue)(h:q.Ak.length+q.waits.length<=1000000):Ac C0 207 [.agg q.c] [] (AA (Ct (q.Ak++q.waits))) []:=by
 refine Ac.go f207 ?_;unfold f207;refine gO ?_;refine AH (q.Ak) (λi=>⟨[(4,I i),(1,.ptr 64 0),(3,.sl (.own 1344 0) 3 ((Ct (q.Ak.take i)).map Ad.c))],[(64,q.c)]⟩) (λi=>True) trivial ?_ ?_
 ·exact B9
 rintro i ⟨hi,hP⟩ J hJ;refine gO ?_;refine Bp hi (λAu b hb Cc AR=>?_) λBf=>?_
 simp(disch:=omega)only[go_sem,gm,hb]
 ·have IY:(Ct (q.Ak.take i)).length+1<=4294967296:=by simp[Ct];omega
  simp(disch:=omega)only[go_sem,Ct];refine hJ _ (i+1) ⟨by omega,trivial⟩ (by omega) (AQ.An ?_ ?_)
  all_goals(try simp(disch:=omega)only[go_sem])
  all_goals(try(repeat'(with_reducible apply And.intro)))
  all_goals(first|exact .AU (by omega)|exact .AD (by omega)|exact .sl (by simp[Ct,take_add_one,hb,Ad.c])|exact .int (by simp[Ct,take_add_one,hb,Ad.c])|exact .eq (by simp[Ct,take_add_one,hb,Ad.c]))
 subst Bf;rw[take_length];clear hJ;refine AH (q.waits) (λi=>⟨[(5,I i),(1,.ptr 64 0),(3,.sl (.own 2368 0) 3 ((Ct (q.Ak++q.waits.take i)).map Ad.c))],[(64,q.c)]⟩) (λi=>True) trivial ?_ ?_
 ·refine AQ.BS ⟨[(1344,2368)],[(64,64)],[]⟩ ⟨rfl,rfl⟩ (by simp[lk]) ?_ ?_
  all_goals(try simp(disch:=omega)only[go_sem])
  all_goals(try(repeat'(with_reducible apply And.intro)))
  all_goals(first|exact .AU (by omega)|exact .AD (by omega)|exact .sl (by simp[])|exact .int (by simp[])|exact .eq (by simp[]))
 rintro i ⟨hi,hP⟩ J hJ;refine gO ?_;refine Bp hi (λAu b hb Cc AR=>?_) λBf=>?_
 simp(disch:=omega)only[go_sem,gm,hb]
 ·have IY:(Ct (q.Ak++q.waits.take i)).length+1<=4294967296:=by simp[Ct];omega
  simp(disch:=omega)only[go_sem,Ct];refine hJ _ (i+1) ⟨by omega,trivial⟩ (by omega) (AQ.An ?_ ?_)
  all_goals(try simp(disch:=omega)only[go_sem])
  all_goals(try(repeat'(with_reducible apply And.intro)))
  all_goals(first|exact .AU (by omega)|exact .AD (by omega)|exact .sl (by simp[Ct,take_add_one,hb,Ad.c])|exact .int (by simp[Ct,take_add_one,hb,Ad.c])|exact .eq (by simp[Ct,take_add_one,hb,Ad.c]))
 ·subst Bf;refine CK ⟨[],[],[2368]⟩ _ ?_;simp(disch:=omega)only[go_sem,take_length]
def nQ(q:Queue)(h:BC q<=1000000):Ac C0 149 [.agg q.c] [] (AA (B6 q)) []:=by
 have h1:q.holds.length<=1000000:=by unfold BC at h;omega
 have h2:q.Ak.length+q.waits.length<=1000000:=by unfold BC BJ at h;omega
 have h3:(Dn q.holds).length+(Ct (q.Ak++q.waits)).length<=1000000:=by simp[Dn,Ct];unfold BC BJ at h;omega
 have h4:(Dn q.holds).length+(Ct (q.Ak++q.waits)).length<=4294967296:=by omega
 refine Ac.go f149 ?_;unfold f149;refine gO ?_;refine Av 4 [([],[1]),([],[3]),([],[4]),([],[1])] B7 ?_;refine gO ?_;refine AF ⟨⟨[],[],[]⟩,[(0,320)],[]⟩ (om q.holds h1) gI rfl rfl trivial (.inl rfl) ?_;refine gO ?_
 first|(refine Ab (dH q h2) ?_)|(refine Aq (dH q h2) ?_)
 refine gO ?_;refine FC [512] (j8 (Dn q.holds++Ct (q.Ak++q.waits)) (by simpa using h3)) (by simp(disch:=omega)only[go_sem];exact .sl (by simp)) rfl ?_;refine gO ?_;refine CD _ ?_;simp(disch:=omega)only[go_sem,B6]
def EP(q:Queue)(p:Ad)(h:q.holds.length<=1000000):Ac C0 57 [.agg q.c,.agg p.c] [] (.agg (Ap q.holds p).c) []:=by
 refine Ac.go f57 ?_;unfold f57;refine gO ?_;refine Ab (Pq q.holds p h) ?_;refine gO ?_;exact AM _
def PD{l:List Ba}{p:Ad}:(EH l p<0/\l.find? (λw=>decide (w.proc=p))=none)\/∃ (i:Nat) (w:Ba),EH l p=i/\l[i]?=some w/\l.find? (λw=>decide (w.proc=p))=some w:=by
 unfold EH;cases h:l.findIdx? (λw=>decide (w.proc=p)) with
 |none =>
  left;refine⟨by simp,?_⟩;rw[List.findIdx?_eq_none_iff]at h;rw[List.find?_eq_none];intro x hx;simpa using h x hx
 |some i =>
  right;obtain⟨h1,h2,h3⟩:=(List.findIdx?_eq_some_iff_getElem.1 h);refine⟨i,l[i],rfl,gE h1,?_⟩;rw[List.find?_eq_some_iff_getElem];exact⟨h2,i,h1,rfl,λj hj=>by simpa using h3 j hj⟩
def Mt(q:Queue)(p:Ad)(h1:q.Ak.length<=1000000)(h2:q.waits.length<=1000000):Ac C0 55 [.agg q.c,.agg p.c] [] (.Bl [.agg ((Ar q p).getD ⟨0,0⟩).c,B (Ar q p).isSome]) []:=by
 refine Ac.go f55 ?_;unfold f55;refine gO ?_;refine Ab (Nk q.Ak p h1) ?_;rcases PD (l:=q.Ak) (p:=p) with ⟨a,b⟩|⟨i,w,a,b,c⟩
 ·have e1:(0<=EH q.Ak p)=False:=eq_false (by omega);simp(disch:=omega)only[go_sem,e1,decide_false];refine Ab (Nk q.waits p h2) ?_;rcases PD (l:=q.waits) (p:=p) with ⟨a',b'⟩|⟨i,w,a',b',c'⟩
  ·have e2:(0<=EH q.waits p)=False:=eq_false (by omega);have e:Ar q p=none:=by simp[Ar,List.find?_append,b,b']
   simp(disch:=omega)only[go_sem,e2,e,isSome_none,decide_false];exact AM _
  ·have e:Ar q p=some w.AN:=by simp[Ar,List.find?_append,b,c']
   simp(disch:=omega)only[go_sem,a',e,isSome_some,gm,b'];exact AM _
 ·have e:Ar q p=some w.AN:=by simp[Ar,List.find?_append,c]
  simp(disch:=omega)only[go_sem,a,e,isSome_some,gm,b];exact AM _
def TS(q:Queue)(p:Ad):Bool:=(Ar q p).isSome||!(Ap q.holds p).zero
def SD(q:Queue)(p:Ad)(h:BC q<=1000000):Ac C0 109 [.agg q.c,.agg p.c] [] (B (TS q p)) []:=by
 have h1:q.holds.length<=1000000:=by unfold BC at h;omega
 have h2:q.Ak.length<=1000000:=by unfold BC BJ at h;omega
 have h3:q.waits.length<=1000000:=by unfold BC BJ at h;omega
 refine Ac.go f109 ?_;unfold f109;refine gO ?_;refine Ab (Mt q p h2 h3) ?_;cases hw:(Ar q p).isSome
 ·simp(disch:=omega)only[go_sem,hw];refine Ab (EP q p h1) ?_;refine gO ?_;refine Ab (Ga (Ap q.holds p)) ?_;refine gO ?_;refine Aj _ ?_;exact wb (by simp[TS,hw])
 ·simp(disch:=omega)only[go_sem,hw];refine Aj _ ?_;exact wb (by simp[TS,hw])
def XE(q:Queue)(h1:q.holds.length<=1000000)(h2:q.Ak.length<=1000000)(h3:q.waits.length<=1000000):Ac C0 61 [.agg q.c] [] (.agg q.c) []:=by
 refine Ac.go f61 ?_;unfold f61;refine gO ?_;refine CK ⟨[],[],[384,704,1024]⟩ _ ?_;simp(disch:=omega)only[go_sem,AY]
def Xt(n:Int):Ac C0 153 [I n] [] (I (MQ n)) []:=by
 refine Ac.go f153 ?_;unfold f153;simp(disch:=omega)only[go_sem]
 repeat'(with_reducible refine And.intro (λh=>?_) (λh=>?_))
 all_goals(refine CD _ ?_)
 all_goals(try simp(disch:=omega)only[go_sem])
 all_goals(first|(simp_all[MQ];done)|exact wi (by simp_all[MQ,IntKind.wrap,IntKind.signed,IntKind.bits]<;>omega))
def SB(l:List Ba)(p:Ad)(hl:l.length<=1000000):Ac C0 102 [BZ l,.agg p.c] [] (.Bl [BZ (Bt l p),B (decide ((Bt l p).length<l.length))]) []:=by
 refine Ac.go f102 ?_;unfold f102;refine gO ?_;have hd:∀ i,(Bt (l.take i) p).length<=l.length:=λi=>Nat.le_trans (Bx _ _) (by simp;omega)
 refine AH (l) (λi=>⟨[(7,I i),(0,BZ l),(3,.ptr 192 0),(6,.sl (.own 1728 0) 7 ((Bt (l.take i) p).map Ba.c))],[(192,p.c)]⟩) (λi=>True) trivial ?_ ?_
 ·exact B9
 rintro i ⟨hi,hP⟩ J hJ;refine gO ?_;refine Bp hi (λAu b hb Cc AR=>?_) λBf=>?_
 refine Av 6 [([],[0]),([],[7]),([],[14,15]),([],[16]),([],[17]),([],[3])] B7 ?_;simp(disch:=omega)only[go_sem,gm,hb]
 ·have ru:=hd i
  by_cases LU:b.proc=p
  ·simp(disch:=omega)only[go_sem,LU,decide_false];refine hJ _ (i+1) ⟨by omega,trivial⟩ (by omega) (AQ.An ?_ ?_)
   all_goals(try simp(disch:=omega)only[go_sem])
   all_goals(try(repeat'(with_reducible apply And.intro)))
   all_goals(first|exact .AU (by omega)|exact .AD (by omega)|exact .sl (by simp[Bt,take_add_one,hb,LU])|exact .int (by simp[Bt,take_add_one,hb,LU])|exact .eq (by simp[Bt,take_add_one,hb,LU]))
  ·simp(disch:=omega)only[go_sem,LU,decide_true,gm,hb];refine hJ _ (i+1) ⟨by omega,trivial⟩ (by omega) (AQ.An ?_ ?_)
   all_goals(try simp(disch:=omega)only[go_sem])
   all_goals(try(repeat'(with_reducible apply And.intro)))
   all_goals(first|exact .AU (by omega)|exact .AD (by omega)|exact .sl (by simp[Bt,take_add_one,hb,LU,Ba.c])|exact .int (by simp[Bt,take_add_one,hb,LU,Ba.c])|exact .eq (by simp[Bt,take_add_one,hb,LU,Ba.c]))
 ·subst Bf;have ru:=hd l.length;rw[take_length]at ru ⊢;have e:decide (((Bt l p).length:Int)<l.length)=decide ((Bt l p).length<l.length):=by simp
  refine AZ ⟨[],[],[1728]⟩ _ (by(try simp(disch:=omega)only[go_sem,Cr,GH])<;>rfl) ⟨rfl,rfl⟩ (by simp[lk]) ?_ trivial;simp(disch:=omega)only[go_sem,e]
def DT(l:List AX)(p:Ad)(a:BO):Bool:=a.zero||(AG l p).any (after' p)
def Kf(l:List AX)(p:Ad)(a:BO):List AX:=if DT l p a then Cs l p a else AG l p
def U4{l:List AX}{p:Ad}{b:AX}(h:b.proc=p):AG (l++[b]) p=AG l p:=by simp[AG,h]
def E8{l:List AX}{p:Ad}{b:AX}(h:b.proc≠p):AG (l++[b]) p=AG l p++[b]:=by simp[AG,h]
def qu{l:List AX}{p:Ad}{a:BO}{b:AX}(h:b.proc=p):Kf (l++[b]) p a=Kf l p a/\DT (l++[b]) p a=DT l p a:=by
 simp[Kf,DT,Cs,U4 h]
def cH{k:List AX}{p:Ad}(b:AX)(h:k.any (after' p)=true):CG (k++[b]) p=CG k p:=by
 unfold CG;rw[List.findIdx?_append];cases hf:k.findIdx? (after' p) with
 |some i=>simp
 |none =>
  rw[List.findIdx?_eq_none_iff]at hf;obtain⟨x,hx,hy⟩:=List.any_eq_true.1 h;rw[hf x hx]at hy;simp at hy
def VQ{k:List AX}{p:Ad}(h:k.any (after' p)=false):k.findIdx? (after' p)=none:=by
 rw[List.findIdx?_eq_none_iff];intro x hx;rw[List.any_eq_false]at h;simpa using h x hx
def ic{l:List AX}{p:Ad}{a:BO}{b:AX}(h:b.proc≠p)(hd:DT l p a=true):Kf (l++[b]) p a=Kf l p a++[b]/\DT (l++[b]) p a=true:=by
 have h2:DT (l++[b]) p a=true:=by
  unfold DT at hd ⊢;rw[E8 h,any_append];revert hd;cases a.zero<;>simp<;>(try intro x hx h;exact .inl ⟨x,hx,h⟩)
 refine⟨?_,h2⟩;unfold Kf;rw[h2,hd];simp only[if_true];unfold Cs;rw[E8 h];cases hz:a.zero
 ·have ha:(AG l p).any (after' p)=true:=by simpa [DT,hz]using hd
  simp only[false_eq_true,if_false];have:=NG (AG l p) p;rw[cH b ha,List.take_append_of_le_length this,List.drop_append_of_le_length this];simp
 ·simp
def lP{l:List AX}{p:Ad}{a:BO}{b:AX}(h:b.proc≠p)(hd:DT l p a=false)(hb:0<Bw b.proc p):Kf (l++[b]) p a=Kf l p a++[⟨p,a⟩,b]/\DT (l++[b]) p a=true:=by
 have ha:a.zero=false/\(AG l p).any (after' p)=false:=by unfold DT at hd;simpa using hd
 have LU:after' p b=true:=by simpa [after']using hb
 have h2:DT (l++[b]) p a=true:=by
  unfold DT;rw[E8 h,any_append];simp[LU]
 refine⟨?_,h2⟩;unfold Kf;rw[h2,hd];simp only[if_true,false_eq_true,if_false];unfold Cs;rw[E8 h,ha.1];have e:CG (AG l p++[b]) p=(AG l p).length:=by
  unfold CG;rw[List.findIdx?_append,VQ ha.2];simp[LU]
 rw[e];simp
def qv{l:List AX}{p:Ad}{a:BO}{b:AX}(h:b.proc≠p)(hd:DT l p a=false)(hb:¬ 0<Bw b.proc p):Kf (l++[b]) p a=Kf l p a++[b]/\DT (l++[b]) p a=false:=by
 have ha:a.zero=false/\(AG l p).any (after' p)=false:=by unfold DT at hd;simpa using hd
 have LU:after' p b=false:=by simpa [after']using hb
 have h2:DT (l++[b]) p a=false:=by
  unfold DT;rw[E8 h,any_append];simp[LU,ha.1,ha.2]
 refine⟨?_,h2⟩;unfold Kf;rw[h2,hd];simp only[false_eq_true,if_false];exact E8 h
def lN{l:List AX}{p:Ad}{a:BO}:Cs l p a=if DT l p a then Kf l p a else Kf l p a++[⟨p,a⟩]:=by
 unfold Kf;cases hd:DT l p a
 ·have ha:a.zero=false/\(AG l p).any (after' p)=false:=by unfold DT at hd;simpa using hd
  have e:CG (AG l p) p=(AG l p).length:=by
   unfold CG;rw[VQ ha.2];rfl
  simp[Cs,ha.1,e]
 ·simp
def lO(l:List AX)(p:Ad)(a:BO):(Kf l p a).length<=l.length+1:=by
 have h1:(AG l p).length<=l.length:=List.length_filter_le _ _;have:=Ij l p a;unfold Kf;split<;>omega
def Z8(p:Ad)(a:BO):Kf [] p a=[]/\DT [] p a=a.zero:=by
 have h:DT [] p a=a.zero:=by simp[DT,AG]
 refine⟨?_,h⟩;unfold Kf;rw[h];cases hz:a.zero<;>simp[Cs,AG,hz]
def Nn(l:List AX)(p:Ad)(a:BO)(hl:l.length<=1000000):Ac C0 107 [AY l,.agg p.c,.agg a.c] [] (AY (Cs l p a)) []:=by
 refine Ac.go f107 ?_;unfold f107;refine gO ?_;refine Ab (Ga a) ?_;refine gO ?_;have hd:∀ i,(Kf (l.take i) p a).length<=l.length+1:=λi=>by have:=lO (l.take i) p a;simp at this;omega
 refine AH (l) (λi=>⟨[(9,I i),(0,AY l),(4,.ptr 256 0),(5,.ptr 320 0),(8,B (DT (l.take i) p a)),(7,.sl (.own 3136 0) 5 ((Kf (l.take i) p a).map AX.c))],[(256,p.c),(320,a.c)]⟩) (λi=>True) trivial ?_ ?_
 ·refine AQ.An ?_ ?_
  all_goals(try simp(disch:=omega)only[go_sem,List.take_zero,(Z8 p a).1,(Z8 p a).2,map_nil])
  all_goals(try(repeat'(with_reducible apply And.intro)))
  all_goals(first|exact .AU (by omega)|exact .AD (by omega)|exact .sl (by simp[DT])|exact .int (by simp[DT])|exact .eq (by simp[DT]))
 rintro i ⟨hi,hP⟩ J hJ;refine gO ?_;refine Bp hi (λAu b hb Cc AR=>?_) λBf=>?_
 refine Av 6 [([],[0]),([],[9]),([],[18,19]),([],[20]),([],[21]),([],[4])] B7 ?_;simp(disch:=omega)only[go_sem,gm,hb]
 ·have ru:=hd i
  by_cases LU:b.proc=p
  ·obtain⟨e1,e2⟩:=qu (l:=l.take i) (a:=a) LU;simp(disch:=omega)only[go_sem,LU,decide_true];refine hJ _ (i+1) ⟨by omega,trivial⟩ (by omega) (AQ.An ?_ ?_)
   all_goals(try simp(disch:=omega)only[go_sem])
   all_goals(try(repeat'(with_reducible apply And.intro)))
   all_goals(first|exact .AU (by omega)|exact .AD (by omega)|exact .sl (by simp[take_add_one,hb,e1,e2])|exact .int (by simp[take_add_one,hb,e1,e2])|exact .eq (by simp[take_add_one,hb,e1,e2]))
  ·simp(disch:=omega)only[go_sem,LU,decide_false];refine Av 9 [([],[8]),([],[25]),([],[26]),([],[0,27]),([],[9,27]),([],[28,29,27]),([],[30,27]),([],[31,27]),([],[4,27])] B7 ?_;refine gO ?_;cases vR:DT (l.take i) p a
   ·simp(disch:=omega)only[go_sem,gm,hb]
    first|(refine Ab (J8 b.proc p) ?_)|(refine Aq (J8 b.proc p) ?_)
    refine gO ?_
    by_cases hc:0<Bw b.proc p
    ·obtain⟨e1,e2⟩:=lP (a:=a) LU vR hc;simp(disch:=omega)only[go_sem,hc,decide_true,gm,hb];refine hJ _ (i+1) ⟨by omega,trivial⟩ (by omega) (AQ.An ?_ ?_)
     all_goals(try simp(disch:=omega)only[go_sem])
     all_goals(try(repeat'(with_reducible apply And.intro)))
     all_goals(first|exact .AU (by omega)|exact .AD (by omega)|exact .sl (by simp[take_add_one,hb,e1,e2,AX.c])|exact .int (by simp[take_add_one,hb,e1,e2,AX.c])|exact .eq (by simp[take_add_one,hb,e1,e2,AX.c]))
    ·obtain⟨e1,e2⟩:=qv (a:=a) LU vR hc;simp(disch:=omega)only[go_sem,hc,decide_false,gm,hb];refine hJ _ (i+1) ⟨by omega,trivial⟩ (by omega) (AQ.An ?_ ?_)
     all_goals(try simp(disch:=omega)only[go_sem])
     all_goals(try(repeat'(with_reducible apply And.intro)))
     all_goals(first|exact .AU (by omega)|exact .AD (by omega)|exact .sl (by simp[take_add_one,hb,e1,e2,AX.c])|exact .int (by simp[take_add_one,hb,e1,e2,AX.c])|exact .eq (by simp[take_add_one,hb,e1,e2,AX.c]))
   ·obtain⟨e1,e2⟩:=ic (a:=a) LU vR;simp(disch:=omega)only[go_sem,gm,hb];refine hJ _ (i+1) ⟨by omega,trivial⟩ (by omega) (AQ.An ?_ ?_)
    all_goals(try simp(disch:=omega)only[go_sem])
    all_goals(try(repeat'(with_reducible apply And.intro)))
    all_goals(first|exact .AU (by omega)|exact .AD (by omega)|exact .sl (by simp[take_add_one,hb,e1,e2,AX.c])|exact .int (by simp[take_add_one,hb,e1,e2,AX.c])|exact .eq (by simp[take_add_one,hb,e1,e2,AX.c]))
 ·subst Bf;have ru:=hd l.length;have he:=lN (l:=l) (p:=p) (a:=a);rw[take_length]at ru ⊢;cases vR:DT l p a
  ·rw[vR]at he;simp only[false_eq_true,if_false]at he;refine gO ?_;refine CK ⟨[],[],[3648]⟩ _ ?_;simp(disch:=omega)only[go_sem,he];exact .sl (by simp[AX.c])
  ·rw[vR]at he;simp only[if_true]at he;refine gO ?_;refine CK ⟨[],[],[3136]⟩ _ ?_;simp(disch:=omega)only[go_sem,he]
def dI(q:Queue):Ac C0 211 [.agg q.c] [] (.Bl [.agg ((BE q).getD w0).c,B (BE q).isSome]) []:=by
 refine Ac.go f211 ?_;unfold f211
 match hq:q.Ak,hw:q.waits with
 | w::l,_ =>
  have e:BE q=some w:=by simp[BE,hq]
  have e1:(0<(l.length:Int)+1)=True:=by simp
  simp(disch:=omega)only[go_sem,hq,e,e1,isSome_some];exact AM _
 |[],w::l =>
  have e:BE q=some w:=by simp[BE,hq,hw]
  have e1:(0<(l.length:Int)+1)=True:=by simp
  simp(disch:=omega)only[go_sem,hq,hw,e,e1,isSome_some];exact AM _
 |[],[] =>
  have e:BE q=none:=by simp[BE,hq,hw]
  simp(disch:=omega)only[go_sem,hq,hw,e,isSome_none,w0];exact AM _
def oo(r:Bo)(l:List AX)(p:Ad)(a:BO)(hl:l.length<=1000000):Ac C0 212 [.agg r.c,AY l,.agg p.c,.agg a.c] [] (B (E3 r l p a)) []:=by
 have h2:(Cs l p a).length<=1000000\/l.length=1000000:=by have:=Ij l p a;omega
 refine Ac.go f212 ?_;unfold f212;refine gO ?_;refine Av 18 [([],[4]),([],[1]),([],[9,10]),([2],[11]),([2],[6,12]),([2],[13,12]),([2,5],[12,14]),([2,5],[15]),([2,5],[4,16]),([2,5],[7,16]),([2,5],[17,18,16]),([2,5,10],[16,19]),([2,5,10],[20]),([2,5,10],[4,21]),([2,5,10],[1,21]),([2,5,10],[6,21]),([2,5,10],[7,21]),([2,5,10],[23,24,25,21])] B7 ?_;refine gO ?_
 first|(refine Ab (Lk r l hl) ?_)|(refine Aq (Lk r l hl) ?_)
 cases h1:BG r l
 ·simp(disch:=omega)only[go_sem];refine Aj _ ?_;exact wb (by simp[E3,h1])
 have h8:l.length<=8:=by simp[BG]at h1;omega
 have h9:(Cs l p a).length<=1000000:=by omega
 simp(disch:=omega)only[go_sem]
 repeat'(first
  |(with_reducible refine And.intro (λh=>?_) (λh=>?_))
  |((with_reducible show A8 _ _ 82 _ _ _);refine Ag (Lo p) ?_ rfl ?_;(focus(simp(disch:=omega)only[go_sem];done));try simp(disch:=omega)only[go_sem])
  |((with_reducible show Bc _ _ 82 _ _ _ _ _ _ _);refine AF ⟨⟨[],[],[]⟩,[],[]⟩ (Lo p) ?_ rfl rfl trivial (.inl rfl) ?_;(focus(simp(disch:=omega)only[go_sem];done));try simp(disch:=omega)only[go_sem])
  |((with_reducible show A8 _ _ 155 _ _ _);refine Ag (Gp r a) ?_ rfl ?_;(focus(simp(disch:=omega)only[go_sem];done));try simp(disch:=omega)only[go_sem])
  |((with_reducible show Bc _ _ 155 _ _ _ _ _ _ _);refine AF ⟨⟨[],[],[]⟩,[],[]⟩ (Gp r a) ?_ rfl rfl trivial (.inl rfl) ?_;(focus(simp(disch:=omega)only[go_sem];done));try simp(disch:=omega)only[go_sem])
  |((with_reducible show A8 _ _ 107 _ _ _);refine Ag (Nn l p a hl) ?_ rfl ?_;(focus(simp(disch:=omega)only[go_sem];done));try simp(disch:=omega)only[go_sem])
  |((with_reducible show Bc _ _ 107 _ _ _ _ _ _ _);refine AF ⟨⟨[],[],[]⟩,[],[]⟩ (Nn l p a hl) ?_ rfl rfl trivial (.inl rfl) ?_;(focus(simp(disch:=omega)only[go_sem];done));try simp(disch:=omega)only[go_sem])
  |((with_reducible show A8 _ _ 209 _ _ _);refine Ag (Lk r (Cs l p a) h9) ?_ rfl ?_;(focus(simp(disch:=omega)only[go_sem];done));try simp(disch:=omega)only[go_sem])
  |((with_reducible show Bc _ _ 209 _ _ _ _ _ _ _);refine AF ⟨⟨[],[],[]⟩,[],[]⟩ (Lk r (Cs l p a) h9) ?_ rfl rfl trivial (.inl rfl) ?_;(focus(simp(disch:=omega)only[go_sem];done));try simp(disch:=omega)only[go_sem]))
 all_goals(refine CD _ ?_)
 all_goals(try simp(disch:=omega)only[go_sem])
 all_goals(refine wb ?_)
 all_goals(simp_all[E3])
def du(q:Queue)(h1:q.holds.length<=1000000)(h2:q.waits.length<=1000000):Ac C0 151 [.agg q.c] [] (B (valid q)) []:=by
 refine Ac.go f151 ?_;unfold f151;refine gO ?_;refine Ab (Xs q h1 h2) ?_;cases hs:sound q
 ·simp(disch:=omega)only[go_sem];refine Aj _ ?_;exact wb (by simp[valid,hs])
 refine gO ?_;refine Ab (dI q) ?_;cases hh:BE q with
 |none =>
  simp(disch:=omega)only[go_sem,isSome_none];refine Aj _ ?_;exact wb (by simp[valid,hs,hh])
 |some w =>
  simp(disch:=omega)only[go_sem,isSome_some];refine Ab (oo q.res q.holds w.proc w.AN h1) ?_;refine gO ?_;refine Aj _ ?_;exact wb (by simp[valid,hs,hh])
def Nl(q:Queue)(h1:q.holds.length<=1000000)(h2:q.waits.length<=1000000):Ac C0 101 [.agg q.c] [] (B (valid q)) []:=by
 refine Ac.go f101 ?_;unfold f101;refine gO ?_;refine Ab (Xs q h1 h2) ?_;cases hs:sound q
 ·simp(disch:=omega)only[go_sem];refine Aj _ ?_;exact wb (by simp[valid,hs])
 refine gO ?_;refine Ab (du q h1 h2) ?_;refine gO ?_;exact AM _
def WL{q:Queue}(h:Sound q):BC q<=16:=by
 have h':=(I1 q).2 h;simp only[sound,Em,Er,Bool.and_eq_true,decide_eq_true_eq]at h';unfold BC BJ;omega
def YE(q:Queue):Queue × List AX:=if sound q then B0 q else (q0,[])
def nR(q:Queue)(h1:q.holds.length<=1000000)(h2:q.Ak.length<=1000000)(h3:q.waits.length<=1000000):Ac C0 152 [.agg q.c] [] (.Bl [.agg (YE q).1.c,AY (YE q).2]) []:=by
 refine Ac.go f152 ?_;unfold f152;refine gO ?_;refine Ab (Xs q h1 h3) ?_;cases hs:sound q
 ·have e:YE q=(q0,[]):=by simp[YE,hs]
  simp(disch:=omega)only[go_sem,e,q0];refine Aj _ ?_;refine .Bl (Af.AI ?_);simp(disch:=omega)only[go_sem]
  repeat'(with_reducible apply And.intro)
  all_goals(first|exact .AD (by omega)|exact .agg (Af.AI gI))
 have e:YE q=B0 q:=by simp[YE,hs]
 rw[e];refine gO ?_;refine Ab (XE q h1 h2 h3) ?_;refine gO ?_;refine Ao (α:=Queue × List AX) (λx=>⟨[(1,.ptr 64 0),(2,.ptr 128 0),(4,.sl (.own 3072 0) 5 (x.2.map AX.c))],[(64,x.1.c),(128,q0.c)]⟩) (λx=>x.2.length+BJ x.1=BJ q/\Sound x.1/\(B0 x.1).1=(B0 q).1/\x.2++(B0 x.1).2=(B0 q).2) (λx=>BJ x.1) (q,[]) ⟨by simp,(I1 q).1 hs,rfl,rfl⟩ ?_ ?_
 ·refine AQ.An ?_ ?_
  ·exact gI
  ·simp(disch:=omega)only[go_sem,q0]
 rintro⟨s,hs⟩ ⟨i1,i2,i3,i4⟩ J hJ
 replace i1:hs.length+BJ s=BJ q:=i1
 replace i2:Sound s:=i2
 replace i3:(B0 s).1=(B0 q).1:=i3
 replace i4:hs++(B0 s).2=(B0 q).2:=i4
 rw[I8 s]at i3 i4;have XU:=WL i2;have hlen:s.holds.length<=1000000/\s.waits.length<=1000000/\s.Ak.length<=1000000:=by unfold BC BJ at XU;omega
 refine gO ?_;refine Ab (du s hlen.1 hlen.2.1) ?_;have kO:valid s=(match BE s with|some w=>!E3 s.res s.holds w.proc w.AN|none=>true):=by
  have:=(I1 s).2 i2;unfold valid;cases BE s<;>simp[this]
 have fin:∀ (P:Prop),True:=λ_=>trivial
 cases hh:BE s with
 |none =>
  simp only[hh]at i3 i4 kO;simp(disch:=omega)only[go_sem,kO];refine AZ ⟨[],[],[3072]⟩ _ (by(try simp(disch:=omega)only[go_sem,Cr,GH])<;>rfl) ⟨rfl,rfl⟩ (by simp[lk]) ?_ trivial;simp(disch:=omega)only[go_sem,<- i3,<- i4,List.append_nil]
 |some w =>
  simp only[hh]at i3 i4 kO;have Ec:=HF hh;cases hr:E3 s.res s.holds w.proc w.AN
  ·simp only[hr,false_eq_true,if_false,Bool.not_false]at i3 i4 kO;simp(disch:=omega)only[go_sem,kO];refine AZ ⟨[],[],[3072]⟩ _ (by(try simp(disch:=omega)only[go_sem,Cr,GH])<;>rfl) ⟨rfl,rfl⟩ (by simp[lk]) ?_ trivial;simp(disch:=omega)only[go_sem,<- i3,<- i4,List.append_nil]
  simp only[hr,if_true,Bool.not_true]at i3 i4 kO;have step:∀ st',AQ ⟨C0,[],[]⟩ st' ⟨[(1,.ptr 64 0),(2,.ptr 128 0),(4,.sl (.own 3072 0) 5 ((hs++[AX.mk w.proc w.AN]).map AX.c))],[(64,(CS s w).c),(128,q0.c)]⟩->J st':=λst' h =>
   hJ st' (CS s w,hs++[AX.mk w.proc w.AN]) ⟨by simp;omega,K0 i2 hh hr,i3,by rw[<- i4];simp⟩ (by simp;omega) h
  have hbound:hs.length+1<=4294967296:=by unfold BJ at i1;omega
  simp(disch:=omega)only[go_sem,kO];refine Ab (dI s) ?_;cases hc:s.Ak with
  | cons a l =>
   have hp:CS s w = { s with holds:=Cs s.holds w.proc w.AN,Ak:=l }:=by unfold CS;simp only[hc]
   rw[hp]at step;have z1:(0<(l.length:Int)+1)=True:=eq_true (by omega);have z2:(l.map Ba.c).take (l.length+1-1)=l.map Ba.c:=List.take_of_length_le (by simp);simp(disch:=omega)only[go_sem,hc,hh,z1,z2];refine Ab (Nn s.holds w.proc w.AN hlen.1) ?_;simp(disch:=omega)only[go_sem,hc,hh,z1,z2];refine step _ (AQ.An ?_ ?_)
   ·simp(disch:=omega)only[go_sem];exact .sl (by simp[AX.c])
   ·simp(disch:=omega)only[go_sem,z2]
  | nil =>
   have hp:CS s w = { s with holds:=Cs s.holds w.proc w.AN,waits:=s.waits.drop 1 }:=by unfold CS;simp only[hc]
   rw[hp]at step;have hw:1<=s.waits.length:=by unfold BJ at Ec;rw[hc]at Ec;simp at Ec;omega
   have z2:((s.waits.map Ba.c).drop 1).take (s.waits.length-1)=(s.waits.drop 1).map Ba.c:=by rw[<- List.map_drop];exact List.take_of_length_le (by simp)
   simp(disch:=omega)only[go_sem,hc,hh,z2];refine Ab (Nn s.holds w.proc w.AN hlen.1) ?_;simp(disch:=omega)only[go_sem,hc,hh,z2];refine step _ (AQ.An ?_ ?_)
   ·simp(disch:=omega)only[go_sem];exact .sl (by simp[AX.c])
   ·simp(disch:=omega)only[go_sem,hc,z2,map_nil]
def Pp(q:Queue)(hs:Sound q)(h1:q.holds.length<=1000000)(h2:q.Ak.length<=1000000)(h3:q.waits.length<=1000000):Ac C0 103 [.agg q.c] [] (.Bl [.agg (DA q).c,AY (B0 q).2,I 0]) []:=by
 refine Ac.go f103 ?_;unfold f103;refine gO ?_;refine Ab (nR q h1 h2 h3) ?_;have e:YE q=B0 q:=by simp[YE,(I1 q).2 hs]
 have eg:(B0 q).1.gen=q.gen:=(Ss q).2;rw[e];refine gO ?_;refine Ab (Xt q.gen) ?_;refine gO ?_;refine Aj _ ?_;simp(disch:=omega)only[go_sem,DA,eg]
def rl{q:Queue}(h:valid q=true)(p:Ad):TS q p=BL (B6 q) p:=by
 have hs:=((Ck q).1 h).1;have hz:∀ x∈q.holds,x.AN.zero=false:=λx hx=>by
  have gL:=(I1 q).2 hs;simp only[sound,Bool.and_eq_true]at gL;have:=(D6 q.res q.holds).1 (by simp_all);exact IN (this.2.2.1 x hx).2
 have e1:BL (B6 q) p=true↔Kc q p:=by rw[<- ES];simp[BL]
 have e2:TS q p=true↔Kc q p:=by
  unfold TS Kc Ar;rw[Bool.or_eq_true,Option.isSome_map,List.find?_isSome];constructor
  ·rintro(⟨w,hw,h2⟩|h2)
   ·have h3:w.proc=p:=by simpa using h2
    rcases mem_append.1 hw with h|h
    ·exact .inr (.inl ⟨w,h,h3⟩)
    ·exact .inr (.inr ⟨w,h,h3⟩)
   ·exact .inl (Nx (by simpa using h2))
  ·rintro(⟨x,hx,h2⟩|⟨w,hw,h2⟩|⟨w,hw,h2⟩)
   ·right;unfold Ap;cases hf:q.holds.find? (λh=>decide (h.proc=p)) with
    |none=>rw[List.find?_eq_none]at hf;exact absurd h2 (by simpa using hf x hx)
    |some y=>simp[hz y (List.mem_of_find?_eq_some hf)]
   ·exact .inl ⟨w,mem_append.2 (.inl hw),by simp[h2]⟩
   ·exact .inl ⟨w,mem_append.2 (.inr hw),by simp[h2]⟩
 exact Bool.eq_iff_iff.2 (e2.trans e1.symm)
def dg(q:Queue)(p:Ad)(h:BC q<=100):Ac C0 110 [.agg q.c,.agg p.c] [] (.Bl [.agg (FN q p).1.c,AY (FN q p).2.1,I (FN q p).2.2]) []:=by
 obtain⟨h1,h2,h3⟩:=Bv h;refine Ac.go f110 ?_;unfold f110;refine gO ?_;refine Ab (Nl q h1 h3) ?_;cases hv:valid q
 ·have e:FN q p=(q0,[],2):=by simp[FN,hv]
  simp(disch:=omega)only[go_sem,Bool.not_false,e,q0];refine Aj _ ?_;refine .Bl (Af.AI ?_);simp(disch:=omega)only[go_sem]
  repeat'(with_reducible apply And.intro)
  all_goals(first|exact .AD (by omega)|exact .agg (Af.AI gI))
 refine gO ?_;refine Ab (SD q p (by omega)) ?_;rw[rl hv p];cases hp:BL (B6 q) p
 ·have e:FN q p=(q0,[],10):=by simp[FN,hv,hp]
  simp(disch:=omega)only[go_sem,Bool.not_false,e,q0];refine Aj _ ?_;refine .Bl (Af.AI ?_);simp(disch:=omega)only[go_sem]
  repeat'(with_reducible apply And.intro)
  all_goals(first|exact .AD (by omega)|exact .agg (Af.AI gI))
 have e:FN q p=(DA (B2 q p),(B0 (B2 q p)).2,0):=by simp[FN,hv,hp]
 rw[e];refine gO ?_;refine Ab (XE q h1 h2 h3) ?_;refine gO ?_;refine Ab (Nn q.holds p ⟨0,0⟩ h1) ?_;refine gO ?_;refine Ab (SB q.Ak p h2) ?_;refine gO ?_;refine Ab (SB q.waits p h3) ?_;refine gO ?_;have ha:=da q p;obtain⟨g1,g2,g3⟩:=Bv (q:=B2 q p) (by omega);refine Ag (Pp (B2 q p) (KZ ((Ck q).1 hv).1 p) g1 g2 g3) (by simp(disch:=omega)only[go_sem,B2]) rfl ?_;refine gO ?_;exact AM _
mutual
def D2:Expr->Int->Int × Int
 |.mk _ _ kids,lv=>if 4<lv\/24<kids.length then (25,0) else Ft kids lv 1 0
def Ft:List Expr->Int->Int->Int->Int × Int
 |[],_,n,m=>(n,m+1)
 | e::l,lv,n,m=>if 24<n+(D2 e (lv+1)).1 then (25,0) else Ft l lv (n+(D2 e (lv+1)).1) (max m (D2 e (lv+1)).2)
end
theorem HO(e:Expr)(lv:Int):D2 e lv=if 4<lv\/24<e.kids.length then (25,0) else Ft e.kids lv 1 0:=by
 cases e;simp only[D2];rfl
def wB(lv:Int)(x:Int × Int):Prop:=1<=x.1/\x.1<=25/\0<=x.2/\x.2<=5-lv
def aF(lv:Int)(h1:1<=lv)(h4:lv<=4):∀ (l:List Expr) (n m:Int),(∀ e∈l,wB (lv+1) (D2 e (lv+1)))->1<=n->n<=24->0<=m->m<=4-lv->wB lv (Ft l lv n m)
 |[],n,m,_,hn,bX,hd,bS=>by simp only[Ft,wB];omega
 | e::l,n,m,hk,hn,bX,hd,bS=>by
  obtain⟨b1,b2,b3,b4⟩:=hk e (by simp);simp only[Ft];split
  ·simp only[wB];omega
  ·exact aF lv h1 h4 l _ _ (λe' he=>hk e' (by simp[he])) (by omega) (by omega) (by omega) (by omega)
def KY:∀ (N:Nat) (e:Expr),SizeOf.sizeOf e<N->∀ lv:Int,1<=lv->lv<=5->wB lv (D2 e lv)
 | 0,_,h,_,_,_=>by omega
 | N+1,e,h,lv,h1,h5=>by
  rw[HO];split
  ·simp only[wB];omega
  ·rename_i hc;exact aF lv h1 (by omega) _ _ _ (λe' he=>KY N e' (by have:=D3 he;omega) _ (by omega) (by omega)) (by omega) (by omega) (by omega) (by omega)
def XA:∀ (N:Nat) (e:Expr),SizeOf.sizeOf e<N->∀ lv:Int,1<=lv->lv<=5 ->
 Ac C0 251 [.agg e.c,I lv] [] (.Bl [I (D2 e lv).1,I (D2 e lv).2]) []
 | 0,_,h,_,_,_=>by omega
 | N+1,e,h,lv,h1,h5=>by
  refine Ac.lens f251 λhlen=>?_
  simp only[E0,lens,Expr.Cf,length_map,and_true,true_and]at hlen;refine Ac.go f251 ?_;unfold f251
  by_cases hc:4<lv\/24<e.kids.length
  ·have em:D2 e lv=(25,0):=by rw[HO,if_pos hc]
   simp(disch:=omega)only[go_sem,em]
   repeat'(with_reducible refine And.intro (λh=>?_) (λh=>?_))
   all_goals(try(exfalso;simp_all;omega))
   all_goals(refine CD _ ?_)
   all_goals simp(disch:=omega)only[go_sem]
  have em:D2 e lv=Ft e.kids lv 1 0:=by rw[HO,if_neg hc]
  have eE:(4<lv)=False:=by simp;omega
  have aZ:(24<(e.kids.length:Int))=False:=by simp;omega
  simp(disch:=omega)only[go_sem,em,eE,aZ,decide_false];refine Ao (α:=Nat × Int × Int) (λq=>⟨[(8,I q.1),(1,I lv),(2,.ptr 128 0),(6,I q.2.1),(7,I q.2.2)],[(128,e.c)]⟩)
   (λq=>q.1<=e.kids.length/\1<=q.2.1/\q.2.1<=24/\0<=q.2.2/\q.2.2<=4-lv/\Ft (e.kids.drop q.1) lv q.2.1 q.2.2=Ft e.kids lv 1 0) (λq=>e.kids.length-q.1) (0,1,0) ⟨by simp,by simp,by simp,by simp,by simp;omega,by simp⟩ ?_ ?_
  ·refine AQ.An ?_ ?_
   ·exact gI
   ·exact gI
  rintro⟨i,n,m⟩ ⟨hi,kE,hm,xK,hd,hr⟩ J hJ
  replace hi:i<=e.kids.length:=hi
  replace kE:1<=n:=kE
  replace hm:n<=24:=hm
  replace xK:0<=m:=xK
  replace hd:m<=4-lv:=hd
  replace hr:Ft (e.kids.drop i) lv n m=Ft e.kids lv 1 0:=hr
  refine gO ?_;refine ⟨λAu=>?_,λG9=>?_⟩
  ·have Fx:i<e.kids.length:=by simp at Au;omega
   have hb:e.kids[i]?=some e.kids[i]:=gE Fx;have Ec:=D3 (List.getElem_mem Fx);have XN:e.kids.drop i=e.kids[i]::e.kids.drop (i+1):=drop_eq_getElem_cons Fx;generalize e.kids[i]=b at hb Ec XN;rw[XN]at hr;simp only[Ft]at hr;simp(disch:=omega)only[go_sem,gm,hb]
   first|(refine Ab (XA N b (by omega) (lv+1) (by omega) (by omega)) ?_)|(refine Aq (XA N b (by omega) (lv+1) (by omega) (by omega)) ?_)
   obtain⟨b1,b2,b3,b4⟩:=KY N b (by omega) (lv+1) (by omega) (by omega);generalize D2 b (lv+1)=x at hr b1 b2 b3 b4
   by_cases eC:24<n+x.1
   ·have d24:(24<n+x.1)=True:=eq_true eC;rw[if_pos eC]at hr;simp(disch:=omega)only[go_sem,d24]
    repeat'(with_reducible refine And.intro (λh=>?_) (λh=>?_))
    all_goals(refine CD _ ?_)
    all_goals simp(disch:=omega)only[go_sem,<- hr]
   ·have d24:(24<n+x.1)=False:=eq_false eC;rw[if_neg eC]at hr;simp(disch:=omega)only[go_sem,d24,decide_false]
    by_cases Zy:m<x.2
    ·have e1:max m x.2=x.2:=by omega
     have d1:(m<x.2)=True:=eq_true Zy;rw[e1]at hr;simp(disch:=omega)only[go_sem,d1];refine hJ _ (i+1,n+x.1,x.2) ⟨by simp;omega,by simp;omega,by simp;omega,by simp;omega,by simp;omega,hr⟩ (by simp;omega) (AQ.An ?_ ?_)
     ·exact gI
     ·exact gI
    ·have e1:max m x.2=m:=by omega
     have d1:(m<x.2)=False:=eq_false Zy;rw[e1]at hr;simp(disch:=omega)only[go_sem,d1,decide_false];refine hJ _ (i+1,n+x.1,m) ⟨by simp;omega,by simp;omega,by simp;omega,by simp;omega,by simp;omega,hr⟩ (by simp;omega) (AQ.An ?_ ?_)
     ·exact gI
     ·exact gI
  ·have Bf:i=e.kids.length:=by simp at G9;omega
   subst Bf;rw[List.drop_length]at hr;simp only[Ft]at hr;simp(disch:=omega)only[go_sem,<- hr];exact AM _
def Hf(e:Expr):Int:=if 24<(D2 e 1).1 then 0 else (D2 e 1).1
def oh(e:Expr):Ac C0 193 [.agg e.c] [] (I (Hf e)) []:=by
 refine Ac.go f193 ?_;unfold f193;refine gO ?_;refine Ab (XA _ e (Nat.lt_succ_self _) 1 (by omega) (by omega)) ?_
 by_cases eC:24<(D2 e 1).1
 ·have d24:(24<(D2 e 1).1)=True:=eq_true eC;have en:Hf e=0:=by simp[Hf,eC]
  simp(disch:=omega)only[go_sem,d24,en];exact AM _
 ·have d24:(24<(D2 e 1).1)=False:=eq_false eC;have en:Hf e=(D2 e 1).1:=by simp[Hf,eC]
  simp(disch:=omega)only[go_sem,d24,en,decide_false];exact AM _
mutual
def Hp:Expr->List Atom->List Atom × Bool
 |.mk k a kids,l=>if kids.length=0 then (if k=0/\Lb a=true then (Es l a,true) else (l,false))
  else if k<1\/(kids.length:Int)<k\/a≠a0 then (l,false) else IG kids l
def IG:List Expr->List Atom->List Atom × Bool
 |[],l=>(l,true)
 | e::es,l=>if (Hp e l).2=true then IG es (Hp e l).1 else (l,false)
end
theorem I7(e:Expr)(l:List Atom):Hp e l=if e.kids.length=0 then (if e.k=0/\Lb e.atom=true then (Es l e.atom,true) else (l,false))
 else if e.k<1\/(e.kids.length:Int)<e.k\/e.atom≠a0 then (l,false) else IG e.kids l:=by
 cases e;simp only[Hp];rfl
mutual
def ni:Expr->Nat
 |.mk _ _ kids=>1+To kids
def To:List Expr->Nat
 |[]=>0
 | e::l=>ni e+To l
end
theorem Xg(e:Expr):ni e=1+To e.kids:=by cases e;simp only[ni];rfl
@[reducible] def fy(x:List Atom × Bool):AV:=if x.2 then .Bl [Di 1 x.1,B true] else .Bl [.undef,B false]
theorem fE(l:List Atom)(a:Atom):(Es l a).length<=l.length+1:=by unfold Es;split<;>simp
def YB:∀ (es:List Expr) (l:List Atom),(∀ e∈es,∀ l,(Hp e l).1.length<=l.length+ni e)->(IG es l).1.length<=l.length+To es
 |[],l,_=>by simp[IG]
 | e::es,l,h=>by
  have h1:=h e (by simp) l;have h2:=YB es (Hp e l).1 λe' he=>h e' (by simp[he])
  simp only[IG,To];split
  ·omega
  ·simp only;omega
def S8:∀ (N:Nat) (e:Expr),SizeOf.sizeOf e<N->∀ l:List Atom,(Hp e l).1.length<=l.length+ni e
 | 0,_,h,_=>by omega
 | N+1,e,h,l=>by
  rw[I7,Xg];split
  ·split
   ·have:=fE l e.atom;simp only;omega
   ·simp only;omega
  ·split
   ·simp only;omega
   ·have:=YB e.kids l λe' he l'=>S8 N e' (by have:=D3 he;omega) l'
    omega
def dD:∀ (N:Nat) (e:Expr),SizeOf.sizeOf e<N->∀ l:List Atom,l.length+ni e<=1000000 ->
 Ac C0 194 [Di 0 l,.agg e.c] [] (fy (Hp e l)) []
 | 0,_,h,_,_=>by omega
 | N+1,e,h,l,hl=>by
  refine Ac.lens f194 λhlen=>?_
  simp only[E0,lens,Expr.Cf,length_map,and_true,true_and]at hlen;have zC:=Xg e;refine Ac.go f194 ?_;unfold f194
  by_cases hk:e.kids.length=0
  ·have e1:((e.kids.length:Int)==0)=true:=by simp[hk]
   by_cases L5:e.k=0/\Lb e.atom=true
   rotate_left
   ·have ep:Hp e l=(l,false):=by rw[I7,if_pos hk,if_neg L5]
    have ev:fy (Hp e l)=.Bl [.undef,B false]:=by rw[ep];rfl
    rw[ev];simp(disch:=omega)only[go_sem,e1]
    repeat'(first
     |(with_reducible refine And.intro (λh=>?_) (λh=>?_))
     |((with_reducible show A8 _ _ 90 _ _ _);refine Ag (QJ e.atom.name) ?_ rfl ?_;(focus(simp(disch:=omega)only[go_sem];done));try simp(disch:=omega)only[go_sem])
     |((with_reducible show Bc _ _ 90 _ _ _ _ _ _ _);refine AF ⟨⟨[],[],[]⟩,[],[]⟩ (QJ e.atom.name) ?_ rfl rfl trivial (.inl rfl) ?_;(focus(simp(disch:=omega)only[go_sem];done));try simp(disch:=omega)only[go_sem])
     |((with_reducible show A8 _ _ 91 _ _ _);refine Ag (TI e.atom.AN) ?_ rfl ?_;(focus(simp(disch:=omega)only[go_sem];done));try simp(disch:=omega)only[go_sem])
     |((with_reducible show Bc _ _ 91 _ _ _ _ _ _ _);refine AF ⟨⟨[],[],[]⟩,[],[]⟩ (TI e.atom.AN) ?_ rfl rfl trivial (.inl rfl) ?_;(focus(simp(disch:=omega)only[go_sem];done));try simp(disch:=omega)only[go_sem]))
    all_goals(first
     |(refine CK ⟨[(0,1)],[],[]⟩ _ ?_;simp(disch:=omega)only[go_sem];exact .Bl (Af.AI gI))
     |(exfalso;refine L5 ?_;simp_all[Lb];done))
   ·have ep:Hp e l=(Es l e.atom,true):=by rw[I7,if_pos hk,if_pos L5]
    have ev:fy (Hp e l)=.Bl [Di 1 (Es l e.atom),B true]:=by rw[ep];rfl
    rw[ev];have ha:(C9 e.atom.name&&(Hc.fits e.atom.AN||Hg.fits e.atom.AN))=true:=L5.2;have zx:C9 e.atom.name=true:=by simp at ha;exact ha.1
    have rk:(Hc.fits e.atom.AN||Hg.fits e.atom.AN)=true:=by simp at ha;simp[ha.2]
    have e2:(e.k==0)=true:=by simp[L5.1]
    simp(disch:=omega)only[go_sem,e1,e2];refine And.intro (λ_=>?_) (λh=>?_);rotate_left
    ·exfalso;simp_all
    refine Ab (QJ e.atom.name) ?_;simp(disch:=omega)only[go_sem,zx];refine Ab (TI e.atom.AN) ?_;simp(disch:=omega)only[go_sem,rk];refine AH (l) (λi=>⟨[(6,I i),(0,Di 0 l),(3,.ptr 192 0)],[(192,e.c)]⟩) (λi=>e.atom∉l.take i) ((by simp)) ?_ ?_
    ·exact B9
    rintro i ⟨hi,hP⟩ J hJ;refine gO ?_;refine Bp hi (λAu b hb Cc AR=>?_) λBf=>?_
    refine Av 6 [([],[0]),([],[6]),([],[38,39]),([],[40]),([],[3]),([],[42])] B7 ?_;simp(disch:=omega)only[go_sem,gm,hb]
    ·refine⟨λh=>?_,λh=>?_⟩
     ·have xD:b=e.atom:=by simpa using h
      have e3:Es l e.atom=l:=by unfold Es;rw[if_pos (xD▸Cc)]
      simp(disch:=omega)only[go_sem,e3];refine CK ⟨[(0,1)],[],[]⟩ _ ?_;simp(disch:=omega)only[go_sem]
     ·have xD:b≠e.atom:=by simpa using h
      refine hJ _ (i+1) ⟨by simp at Au;omega,(by rw[take_add_one,hb];simp only[Option.toList,mem_append,mem_singleton];intro hx;rcases hx with hx|hx;exact hP hx;exact xD hx.symm)⟩ (by simp at Au;omega) AS
    ·subst Bf;rw[take_length]at hP;have e3:Es l e.atom=l++[e.atom]:=by unfold Es;rw[if_neg hP]
     have Ad7:l.length+1<=4294967296:=by omega
     simp(disch:=omega)only[go_sem,e3];refine CK ⟨[(3200,1)],[],[]⟩ _ ?_;refine gO ?_;exact .Bl (Af.AI (by simp(disch:=omega)only[go_sem];exact .sl (by simp[Atom.c])))
  have e1:((e.kids.length:Int)==0)=false:=by simp only[beq_eq_false_iff_ne,ne_eq];omega
  have ez:(e.atom.name==[]&&(e.atom.AN.mode==0&&e.atom.AN.Ax==0))=decide (e.atom=a0):=W7 e.atom
  by_cases L5:e.k<1\/(e.kids.length:Int)<e.k\/e.atom≠a0
  ·have ep:Hp e l=(l,false):=by rw[I7,if_neg hk,if_pos L5]
   have ev:fy (Hp e l)=.Bl [.undef,B false]:=by rw[ep];rfl
   rw[ev];simp(disch:=omega)only[go_sem,e1,ez]
   repeat'(with_reducible refine And.intro (λh=>?_) (λh=>?_))
   all_goals(try(exfalso;simp_all;omega))
   all_goals(refine CK ⟨[(0,1)],[],[]⟩ _ ?_)
   all_goals simp(disch:=omega)only[go_sem]
   all_goals exact .Bl (Af.AI gI)
  have ep:Hp e l=IG e.kids l:=by rw[I7,if_neg hk,if_neg L5]
  have b1:(e.k<1)=False:=by simp;omega
  have b2:((e.kids.length:Int)<e.k)=False:=by simp;omega
  have b3:e.atom=a0:=by
   by_cases h:e.atom=a0
   ·exact h
   ·exact absurd (Or.inr (Or.inr h)) L5
  have ez':(e.atom.name==[]&&(e.atom.AN.mode==0&&e.atom.AN.Ax==0))=true:=by rw[ez];simp[b3]
  rw[ep];simp(disch:=omega)only[go_sem,e1,ez',b1,b2,decide_false];refine Ao (α:=Nat × List Atom) (λq=>⟨[(7,I q.1),(0,Di 5376 q.2),(3,.ptr 192 0)],[(192,e.c)]⟩)
   (λq=>q.1<=e.kids.length/\q.2.length+To (e.kids.drop q.1)<=1000000/\IG (e.kids.drop q.1) q.2=IG e.kids l) (λq=>e.kids.length-q.1) (0,l) ⟨by simp,by simp;omega,by simp⟩ ?_ ?_
  ·refine AQ.BS ⟨[(0,5376)],[(192,192)],[]⟩ ⟨rfl,rfl⟩ (by simp[lk]) ?_ ?_
   ·exact gI
   ·exact gI
  rintro⟨i,m⟩ ⟨hi,hm,hr⟩ J hJ
  replace hi:i<=e.kids.length:=hi
  replace hm:m.length+To (e.kids.drop i)<=1000000:=hm
  replace hr:IG (e.kids.drop i) m=IG e.kids l:=hr
  refine gO ?_;refine ⟨λAu=>?_,λG9=>?_⟩
  ·have Fx:i<e.kids.length:=by simp at Au;omega
   have hb:e.kids[i]?=some e.kids[i]:=gE Fx;have Ec:=D3 (List.getElem_mem Fx);have XN:e.kids.drop i=e.kids[i]::e.kids.drop (i+1):=drop_eq_getElem_cons Fx;generalize e.kids[i]=b at hb Ec XN;rw[XN]at hr hm;simp only[IG]at hr;simp only[To]at hm;have zB:=S8 _ b (Nat.lt_succ_self _) m;have Je:=dD N b (by omega) m (by omega);simp(disch:=omega)only[go_sem,gm,hb];generalize Hp b m=x at hr zB Je;obtain⟨x1,x2⟩:=x;cases x2
   ·simp only[false_eq_true,if_false]at hr;have ev:fy (IG e.kids l)=.Bl [.undef,B false]:=by rw[<- hr];rfl
    rw[ev];refine Bh ⟨⟨[(5376,0)],[],[]⟩,[(1,5377)],[]⟩ (show Ac C0 194 [Di 0 m,.agg b.c] [] (.Bl [.undef,B false]) [] from Je) gI rfl gI (.inl rfl) ?_;refine gO ?_;exact AM _
   ·simp only[if_true]at hr;refine Bh ⟨⟨[(5376,0)],[],[]⟩,[(1,5377)],[]⟩ (show Ac C0 194 [Di 0 m,.agg b.c] [] (.Bl [Di 1 x1,B true]) [] from Je) gI rfl gI (.inl rfl) ?_;refine gO ?_;refine hJ _ (i+1,x1) ⟨by simp;omega,by simp at zB ⊢;omega,hr⟩ (by simp;omega) (AQ.BS ⟨[(5377,5376)],[(192,192)],[]⟩ ⟨rfl,rfl⟩ (by simp[lk]) ?_ ?_)
    ·exact gI
    ·exact gI
  ·have Bf:i=e.kids.length:=by simp at G9;omega
   subst Bf;rw[List.drop_length]at hr;simp only[IG]at hr;have ev:fy (IG e.kids l)=.Bl [Di 1 m,B true]:=by rw[<- hr];rfl
   rw[ev];refine CK ⟨[(5376,1)],[],[]⟩ _ ?_;simp(disch:=omega)only[go_sem]
end Go.Rd
