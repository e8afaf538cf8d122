/- part 14 of the proof -/
import Derived.Test.YteliegkcmjimoaaGreatDoorW13
set_option linter.all false
open Go Go.Abs Go.Proofs
set_option maxRecDepth 100000
namespace Go.Rd
set_option maxHeartbeats 8000000
open List (any_append drop_eq_getElem_cons length_map map_nil map_set mem_append mem_cons take_add_one take_length)
open Bool (false_eq_true)
open Option (isSome_none isSome_some)
open Tryz
def Im(l:List Ac)(k:Nat)(p:Ac):List Ac:=l.take k++p::l.drop k
def R3(l:List Ac)(k:Nat)(p:Ac)(h:k<=l.length):(Im l k p).length=l.length+1:=by simp[Im];omega
def eC(l:List Ac)(k:Nat)(p:Ac)(h:k<=l.length):(Im l k p)[k]?=some p:=by
 unfold Im;rw[List.getElem?_append_right (by simp;omega)];simp[Nat.min_eq_left h]
def Zs(l:List Ac)(k:Nat)(p:Ac)(h:k+1<=l.length):(Im l (k+1) p)[k]?=l[k]?:=by
 unfold Im;rw[List.getElem?_append_left (by simp;omega),List.getElem?_take,if_pos (by omega)]
def Zt{l:List Ac}{k:Nat}{p x:Ac}(hx:l[k]?=some x):((Im l (k+1) p).set k p).set (k+1) x=Im l k p:=by
 have hk:=Au hx;have hd:l.drop k=x::l.drop (k+1):=by rw[drop_eq_getElem_cons hk,get_eq hx]
 have ht:l.take (k+1)=l.take k++[x]:=JG hx;unfold Im;rw[ht,hd];have hl:(l.take k).length=k:=by simp;omega
 rw[List.append_assoc,List.set_append_right _ _ (by omega),hl,Nat.sub_self];rw[List.set_append_right _ _ (by omega),hl];simp
def eD(l:List Ac)(k:Nat)(p x:Ac):x∈Im l k p↔x∈l\/x=p:=by
 unfold Im
 conv=>rhs;rw[<- List.take_append_drop k l]
 simp only[mem_append,mem_cons];constructor
 ·rintro(h|h|h)
  ·exact .inl (.inl h)
  ·exact .inr h
  ·exact .inl (.inr h)
 ·rintro((h|h)|h)
  ·exact .inl h
  ·exact .inr (.inr h)
  ·exact .inr (.inl h)
def rh(l:List Ac)(hl:l.length<=1000000):Ad C0 99 [AL l] [] (AL (NU l)) []:=by
 refine Ad.go f99 ?_;unfold f99;simp(disch:=omega)only[go_sem];refine Ao (α:=Nat × List Ac) (λx=>⟨[(4,I x.1),(3,.sl (.own 1728 0) 3 (x.2.map Ac.c)),(0,AL l)],[]⟩) (λx=>x.1<=l.length/\x.2.length<=x.1/\K9 x.2/\∀ p,p∈x.2↔p∈l.take x.1) (λx=>l.length-x.1) (0,[]) ⟨by simp,by simp,by simp[K9],by simp⟩ ?_ ?_
 ·refine AT.Aq ?_ ?_
  ·simp(disch:=omega)only[go_sem,map_nil]
  ·simp(disch:=omega)only[go_sem]
 rintro⟨i,out⟩ ⟨hi,oa,S0,Ha⟩ J hJ
 replace hi:i<=l.length:=hi
 replace oa:out.length<=i:=oa
 replace S0:K9 out:=S0
 replace Ha:∀ p,p∈out↔p∈l.take i:=Ha
 simp(disch:=omega)only[go_sem];refine ⟨λAP=>?_,λJX=>?_⟩
 ·have H0:i<l.length:=by simp at AP;omega
  obtain⟨p,hp⟩:∃ p,l[i]?=some p:=⟨_,gE H0⟩;have ht:=JG hp;simp(disch:=omega)only[go_sem,gm,hp];refine B4 [1728] (KG out p (by omega)) gI rfl trivial ?_;cases hh:Br out p;rotate_left
  ·have Hf:p∈out:=by simpa [Br]using hh
   simp(disch:=omega)only[go_sem];refine hJ _ (i+1,out) ⟨by simp;omega,by simp;omega,S0,λx=>?_⟩ (by simp;omega) AK;rw[ht,mem_append,<- Ha x];simp only[List.mem_singleton];exact⟨.inl,λh=>h.elim id λe=>by rw[e];exact Hf⟩
  have xg:p∉out:=by simpa [Br]using hh
  have ID:out.length+1<=4294967296:=by omega
  simp(disch:=omega)only[go_sem,gm,hp];refine Ao (α:=Nat) (λk=>⟨[(5,I k),(4,I i),(3,.sl (.own 1728 0) 3 ((Im out k p).map Ac.c)),(0,AL l)],[]⟩) (λk=>k<=out.length/\∀ x∈out.drop k,BF p x<0) (λk=>k) out.length ⟨by omega,by simp⟩ ?_ ?_
  ·refine AT.Aq ?_ ?_
   ·simp(disch:=omega)only[go_sem];exact .sl (by simp[Im,Ac.c])
   ·simp(disch:=omega)only[go_sem]
  rintro k ⟨hk,bg⟩ J2 Vo;have stop:(∀ x∈out.take k,BF x p<0)->∀ st',AT ⟨C0,[]⟩ st' ⟨[(4,I (i+1:Nat)),(3,.sl (.own 1728 0) 3 ((Im out k p).map Ac.c)),(0,AL l)],[]⟩->J st':=λAX st' dB=>by
   refine hJ st' (i+1,Im out k p) ⟨by simp;omega,by simp[R3 out k p hk];omega,?_,λx=>?_⟩ (by simp;omega) dB
   ·have h0:=S0;unfold K9 at h0 ⊢;rw[<- List.take_append_drop k out]at h0;rw[List.pairwise_append]at h0;show (Im out k p).Pairwise _;unfold Im;rw[List.pairwise_append];refine⟨h0.1,List.pairwise_cons.2 ⟨bg,h0.2.1⟩,λa ha b hb=>?_⟩;rcases mem_cons.1 hb with e|e
    ·rw[e];exact AX a ha
    ·exact h0.2.2 a ha b e
   ·show x∈Im out k p↔x∈l.take (i+1);rw[eD,ht,mem_append,<- Ha x];simp
  refine Ay 12 [([],[5]),([],[28]),([],[29]),([],[3,30]),([],[5,30]),([],[32,30]),([],[31,33,30]),([],[34,30]),([],[3,30]),([],[5,30]),([],[36,37,30]),([],[38,30])] B6 ?_;cases k with
  | zero =>
   have e0:(0<((0:Nat):Int))=False:=by simp
   simp(disch:=omega)only[go_sem,e0,decide_false];exact stop (by simp) _ AK
  | succ k =>
   have e0:(0<(((k+1:Nat)):Int))=True:=eq_true (by omega);have e1:(0<(k:Int)+1)=True:=eq_true (by omega);have e2:((k:Int)+1-1)=(k:Int):=by omega
   obtain⟨x,hx⟩:∃ x,out[k]?=some x:=⟨_,gE (by omega)⟩;have g1:=eC out (k+1) p hk;have g2:=Zs out k p hk;rw[hx]at g2;have Y2:=R3 out (k+1) p hk;have z1:k<(Im out (k+1) p).length:=by omega
   have z2:k+1<(Im out (k+1) p).length:=by omega
   simp(disch:=omega)only[go_sem,e0,e1,e2,gm,g1,g2,length_map,Y2];refine Ab (LD x p) ?_;simp(disch:=omega)only[go_sem]
   by_cases hc:0<BF x p
   ·have e3:(0<BF x p)=True:=eq_true hc;have e4:(k=k+1)=False:=eq_false (by omega);simp(disch:=omega)only[go_sem,e2,e3,gm,g1,g2,length_map,Y2,List.length_set,List.getElem?_set,e4];refine Vo _ k ⟨by omega,λy hy=>?_⟩ (by omega) (AT.Aq ?_ gI)
    ·rw[drop_eq_getElem_cons (by omega),get_eq hx]at hy;rcases mem_cons.1 hy with e|e
     ·subst e;have:=DP y p;omega
     ·exact bg y e
    ·simp(disch:=omega)only[go_sem];refine .sl ?_;rw[<- Zt hx,map_set,map_set];rfl
   ·have e3:(0<BF x p)=False:=eq_false hc;simp(disch:=omega)only[go_sem,e3,decide_false];refine stop (λy hy=>?_) _ AK;have Ya:x∈out:=mG hx;have oh:BF x p<0:=by
     have:BF x p≠0:=λe=>xg (by rw[<- FL e];exact Ya)
     omega
    rw[JG hx]at hy;rcases mem_append.1 hy with e|e
    ·have h0:=S0;unfold K9 at h0;rw[<- List.take_append_drop k out,List.pairwise_append]at h0;have hd:out.drop k=x::out.drop (k+1):=by rw[drop_eq_getElem_cons (by omega),get_eq hx]
     exact DQ (h0.2.2 y e x (by rw[hd];simp)) oh
    ·rw[List.mem_singleton.1 e];exact oh
 ·have Ba:i=l.length:=by simp at JX;omega
  subst Ba;rw[take_length]at Ha;have e:out=NU l:=Rb S0 (Fk l) λx=>by rw[Ha,Mn]
  refine CU ⟨[],[],[1728]⟩ _ ?_;simp(disch:=omega)only[go_sem,e]
def vW(l:List A9)(hl:l.length<=1000000):Ad C0 206 [Bg l] [] (O2 0 (D7 l)) []:=by
 refine Ad.go f206 ?_;unfold f206;refine gO ?_;refine AF (l) (λi=>⟨[(4,I i),(0,Bg l),(3,.sl (.own 1152 0) 3 ((D7 (l.take i)).map Ac.c))],[]⟩) (λi=>True) trivial ?_ ?_
 ·exact Ce
 rintro i ⟨hi,hP⟩ J hJ;refine gO ?_;refine Bo hi (λAP b hb Cg AX=>?_) λBa=>?_
 simp(disch:=omega)only[go_sem,gm,hb]
 ·have ID:(D7 (l.take i)).length+1<=4294967296:=by simp[D7];omega
  simp(disch:=omega)only[go_sem,D7];refine hJ _ (i+1) ⟨by omega,trivial⟩ (by omega) (AT.Aq ?_ ?_)
  all_goals(try simp(disch:=omega)only[go_sem])
  all_goals(try(repeat'(with_reducible apply And.intro)))
  all_goals(first|exact .Cr (by omega)|exact .A8 (by omega)|exact .sl (by simp[D7,take_add_one,hb,Ac.c])|exact .int (by simp[D7,take_add_one,hb,Ac.c])|exact .eq (by simp[D7,take_add_one,hb,Ac.c]))
 ·subst Ba;refine AY ⟨[(1152,0)],[],[]⟩ _ rfl ⟨rfl,rfl⟩ (by simp[lk]) ?_ trivial;simp(disch:=omega)only[go_sem,take_length]
def kJ(q:Queue)(h:q.As.length+q.waits.length<=1000000):Ad C0 207 [.agg q.c] [] (AL (C3 (q.As++q.waits))) []:=by
 refine Ad.go f207 ?_;unfold f207;refine gO ?_;refine AF (q.As) (λi=>⟨[(4,I i),(1,.ptr 64 0),(3,.sl (.own 1344 0) 3 ((C3 (q.As.take i)).map Ac.c))],[(64,q.c)]⟩) (λi=>True) trivial ?_ ?_
 ·exact Ce
 rintro i ⟨hi,hP⟩ J hJ;refine gO ?_;refine Bo hi (λAP b hb Cg AX=>?_) λBa=>?_
 simp(disch:=omega)only[go_sem,gm,hb]
 ·have ID:(C3 (q.As.take i)).length+1<=4294967296:=by simp[C3];omega
  simp(disch:=omega)only[go_sem,C3];refine hJ _ (i+1) ⟨by omega,trivial⟩ (by omega) (AT.Aq ?_ ?_)
  all_goals(try simp(disch:=omega)only[go_sem])
  all_goals(try(repeat'(with_reducible apply And.intro)))
  all_goals(first|exact .Cr (by omega)|exact .A8 (by omega)|exact .sl (by simp[C3,take_add_one,hb,Ac.c])|exact .int (by simp[C3,take_add_one,hb,Ac.c])|exact .eq (by simp[C3,take_add_one,hb,Ac.c]))
 subst Ba;rw[take_length];clear hJ;refine AF (q.waits) (λi=>⟨[(5,I i),(1,.ptr 64 0),(3,.sl (.own 2368 0) 3 ((C3 (q.As++q.waits.take i)).map Ac.c))],[(64,q.c)]⟩) (λi=>True) trivial ?_ ?_
 ·refine AT.CX ⟨[(1344,2368)],[(64,64)],[]⟩ ⟨rfl,rfl⟩ (by simp[lk]) ?_ ?_
  all_goals(try simp(disch:=omega)only[go_sem])
  all_goals(try(repeat'(with_reducible apply And.intro)))
  all_goals(first|exact .Cr (by omega)|exact .A8 (by omega)|exact .sl (by simp[])|exact .int (by simp[])|exact .eq (by simp[]))
 rintro i ⟨hi,hP⟩ J hJ;refine gO ?_;refine Bo hi (λAP b hb Cg AX=>?_) λBa=>?_
 simp(disch:=omega)only[go_sem,gm,hb]
 ·have ID:(C3 (q.As++q.waits.take i)).length+1<=4294967296:=by simp[C3];omega
  simp(disch:=omega)only[go_sem,C3];refine hJ _ (i+1) ⟨by omega,trivial⟩ (by omega) (AT.Aq ?_ ?_)
  all_goals(try simp(disch:=omega)only[go_sem])
  all_goals(try(repeat'(with_reducible apply And.intro)))
  all_goals(first|exact .Cr (by omega)|exact .A8 (by omega)|exact .sl (by simp[C3,take_add_one,hb,Ac.c])|exact .int (by simp[C3,take_add_one,hb,Ac.c])|exact .eq (by simp[C3,take_add_one,hb,Ac.c]))
 ·subst Ba;refine CU ⟨[],[],[2368]⟩ _ ?_;simp(disch:=omega)only[go_sem,take_length]
def vA(q:Queue)(h:BS q<=1000000):Ad C0 149 [.agg q.c] [] (AL (BU q)) []:=by
 have h1:q.holds.length<=1000000:=by unfold BS at h;omega
 have h2:q.As.length+q.waits.length<=1000000:=by unfold BS B7 at h;omega
 have h3:(D7 q.holds).length+(C3 (q.As++q.waits)).length<=1000000:=by simp[D7,C3];unfold BS B7 at h;omega
 have h4:(D7 q.holds).length+(C3 (q.As++q.waits)).length<=4294967296:=by omega
 refine Ad.go f149 ?_;unfold f149;refine gO ?_;refine Ay 4 [([],[1]),([],[3]),([],[4]),([],[1])] B6 ?_;refine gO ?_;refine AO ⟨⟨[],[],[]⟩,[(0,320)],[]⟩ (vW q.holds h1) gI rfl rfl trivial (.inl rfl) ?_;refine gO ?_
 first|(refine Ab (kJ q h2) ?_)|(refine Ax (kJ q h2) ?_)
 refine gO ?_;refine FU [512] (rh (D7 q.holds++C3 (q.As++q.waits)) (by simpa using h3)) (by simp(disch:=omega)only[go_sem];exact .sl (by simp)) rfl ?_;refine gO ?_;refine CT _ ?_;simp(disch:=omega)only[go_sem,BU]
def E0(q:Queue)(p:Ac)(h:q.holds.length<=1000000):Ad C0 57 [.agg q.c,.agg p.c] [] (.agg (Am q.holds p).c) []:=by
 refine Ad.go f57 ?_;unfold f57;refine gO ?_;refine Ab (Ru q.holds p h) ?_;refine gO ?_;exact AQ _
def RH{l:List Bh}{p:Ac}:(FG l p<0/\l.find? (λw=>decide (w.proc=p))=none)\/∃ (i:Nat) (w:Bh),FG l p=i/\l[i]?=some w/\l.find? (λw=>decide (w.proc=p))=some w:=by
 unfold FG;cases h:l.findIdx? (λw=>decide (w.proc=p)) with
 |none =>
  left;refine⟨by simp,?_⟩;rw[List.findIdx?_eq_none_iff]at h;rw[List.find?_eq_none];intro x hx;simpa using h x hx
 |some i =>
  right;obtain⟨h1,h2,h3⟩:=(List.findIdx?_eq_some_iff_getElem.1 h);refine⟨i,l[i],rfl,gE h1,?_⟩;rw[List.find?_eq_some_iff_getElem];exact⟨h2,i,h1,rfl,λj hj=>by simpa using h3 j hj⟩
def Nc(q:Queue)(p:Ac)(h1:q.As.length<=1000000)(h2:q.waits.length<=1000000):Ad C0 55 [.agg q.c,.agg p.c] [] (.BC [.agg ((Ar q p).getD ⟨0,0⟩).c,B (Ar q p).isSome]) []:=by
 refine Ad.go f55 ?_;unfold f55;refine gO ?_;refine Ab (Pt q.As p h1) ?_;rcases RH (l:=q.As) (p:=p) with ⟨a,b⟩|⟨i,w,a,b,c⟩
 ·have e1:(0<=FG q.As p)=False:=eq_false (by omega);simp(disch:=omega)only[go_sem,e1,decide_false];refine Ab (Pt q.waits p h2) ?_;rcases RH (l:=q.waits) (p:=p) with ⟨a',b'⟩|⟨i,w,a',b',c'⟩
  ·have e2:(0<=FG q.waits p)=False:=eq_false (by omega);have e:Ar q p=none:=by simp[Ar,List.find?_append,b,b']
   simp(disch:=omega)only[go_sem,e2,e,isSome_none,decide_false];exact AQ _
  ·have e:Ar q p=some w.AH:=by simp[Ar,List.find?_append,b,c']
   simp(disch:=omega)only[go_sem,a',e,isSome_some,gm,b'];exact AQ _
 ·have e:Ar q p=some w.AH:=by simp[Ar,List.find?_append,c]
  simp(disch:=omega)only[go_sem,a,e,isSome_some,gm,b];exact AQ _
def OH(q:Queue)(p:Ac):Bool:=(Ar q p).isSome||!(Am q.holds p).zero
def Vc(q:Queue)(p:Ac)(h:BS q<=1000000):Ad C0 109 [.agg q.c,.agg p.c] [] (B (OH q p)) []:=by
 have h1:q.holds.length<=1000000:=by unfold BS at h;omega
 have h2:q.As.length<=1000000:=by unfold BS B7 at h;omega
 have h3:q.waits.length<=1000000:=by unfold BS B7 at h;omega
 refine Ad.go f109 ?_;unfold f109;refine gO ?_;refine Ab (Nc q p h2 h3) ?_;cases hw:(Ar q p).isSome
 ·simp(disch:=omega)only[go_sem,hw];refine Ab (E0 q p h1) ?_;refine gO ?_;refine Ab (Fp (Am q.holds p)) ?_;refine gO ?_;refine Al _ ?_;exact wb (by simp[OH,hw])
 ·simp(disch:=omega)only[go_sem,hw];refine Al _ ?_;exact wb (by simp[OH,hw])
def SP(q:Queue)(h1:q.holds.length<=1000000)(h2:q.As.length<=1000000)(h3:q.waits.length<=1000000):Ad C0 61 [.agg q.c] [] (.agg q.c) []:=by
 refine Ad.go f61 ?_;unfold f61;refine gO ?_;refine CU ⟨[],[],[384,704,1024]⟩ _ ?_;simp(disch:=omega)only[go_sem,Bg]
def aJ(n:Int):Ad C0 153 [I n] [] (I (OW n)) []:=by
 refine Ad.go f153 ?_;unfold f153;simp(disch:=omega)only[go_sem]
 repeat'(with_reducible refine And.intro (λh=>?_) (λh=>?_))
 all_goals(refine CT _ ?_)
 all_goals(try simp(disch:=omega)only[go_sem])
 all_goals(first|(simp_all[OW];done)|exact wi (by simp_all[OW,IntKind.wrap,IntKind.signed,IntKind.bits]<;>omega))
def Va(l:List Bh)(p:Ac)(hl:l.length<=1000000):Ad C0 102 [Ct l,.agg p.c] [] (.BC [Ct (Bv l p),B (decide ((Bv l p).length<l.length))]) []:=by
 refine Ad.go f102 ?_;unfold f102;refine gO ?_;have hd:∀ i,(Bv (l.take i) p).length<=l.length:=λi=>Nat.le_trans (Cq _ _) (by simp;omega)
 refine AF (l) (λi=>⟨[(7,I i),(0,Ct l),(3,.ptr 192 0),(6,.sl (.own 1728 0) 7 ((Bv (l.take i) p).map Bh.c))],[(192,p.c)]⟩) (λi=>True) trivial ?_ ?_
 ·exact Ce
 rintro i ⟨hi,hP⟩ J hJ;refine gO ?_;refine Bo hi (λAP b hb Cg AX=>?_) λBa=>?_
 refine Ay 6 [([],[0]),([],[7]),([],[14,15]),([],[16]),([],[17]),([],[3])] B6 ?_;simp(disch:=omega)only[go_sem,gm,hb]
 ·have So:=hd i
  by_cases N8:b.proc=p
  ·simp(disch:=omega)only[go_sem,N8,decide_false];refine hJ _ (i+1) ⟨by omega,trivial⟩ (by omega) (AT.Aq ?_ ?_)
   all_goals(try simp(disch:=omega)only[go_sem])
   all_goals(try(repeat'(with_reducible apply And.intro)))
   all_goals(first|exact .Cr (by omega)|exact .A8 (by omega)|exact .sl (by simp[Bv,take_add_one,hb,N8])|exact .int (by simp[Bv,take_add_one,hb,N8])|exact .eq (by simp[Bv,take_add_one,hb,N8]))
  ·simp(disch:=omega)only[go_sem,N8,decide_true,gm,hb];refine hJ _ (i+1) ⟨by omega,trivial⟩ (by omega) (AT.Aq ?_ ?_)
   all_goals(try simp(disch:=omega)only[go_sem])
   all_goals(try(repeat'(with_reducible apply And.intro)))
   all_goals(first|exact .Cr (by omega)|exact .A8 (by omega)|exact .sl (by simp[Bv,take_add_one,hb,N8,Bh.c])|exact .int (by simp[Bv,take_add_one,hb,N8,Bh.c])|exact .eq (by simp[Bv,take_add_one,hb,N8,Bh.c]))
 ·subst Ba;have So:=hd l.length;rw[take_length]at So ⊢;have e:decide (((Bv l p).length:Int)<l.length)=decide ((Bv l p).length<l.length):=by simp
  refine AY ⟨[],[],[1728]⟩ _ (by(try simp(disch:=omega)only[go_sem,Cx,Gv])<;>rfl) ⟨rfl,rfl⟩ (by simp[lk]) ?_ trivial;simp(disch:=omega)only[go_sem,e]
def Es(l:List A9)(p:Ac)(a:BR):Bool:=a.zero||(AR l p).any (after' p)
def LK(l:List A9)(p:Ac)(a:BR):List A9:=if Es l p a then CO l p a else AR l p
def X2{l:List A9}{p:Ac}{b:A9}(h:b.proc=p):AR (l++[b]) p=AR l p:=by simp[AR,h]
def F6{l:List A9}{p:Ac}{b:A9}(h:b.proc≠p):AR (l++[b]) p=AR l p++[b]:=by simp[AR,h]
def xW{l:List A9}{p:Ac}{a:BR}{b:A9}(h:b.proc=p):LK (l++[b]) p a=LK l p a/\Es (l++[b]) p a=Es l p a:=by simp[LK,Es,CO,X2 h]
def jq{k:List A9}{p:Ac}(b:A9)(h:k.any (after' p)=true):Dd (k++[b]) p=Dd k p:=by
 unfold Dd;rw[List.findIdx?_append];cases hf:k.findIdx? (after' p) with
 |some i=>simp
 |none =>
  rw[List.findIdx?_eq_none_iff]at hf;obtain⟨x,hx,hy⟩:=List.any_eq_true.1 h;rw[hf x hx]at hy;simp at hy
def YP{k:List A9}{p:Ac}(h:k.any (after' p)=false):k.findIdx? (after' p)=none:=by
 rw[List.findIdx?_eq_none_iff];intro x hx;rw[List.any_eq_false]at h;simpa using h x hx
def oP{l:List A9}{p:Ac}{a:BR}{b:A9}(h:b.proc≠p)(hd:Es l p a=true):LK (l++[b]) p a=LK l p a++[b]/\Es (l++[b]) p a=true:=by
 have h2:Es (l++[b]) p a=true:=by
  unfold Es at hd ⊢;rw[F6 h,any_append];revert hd;cases a.zero<;>simp<;>(try intro x hx h;exact .inl ⟨x,hx,h⟩)
 refine⟨?_,h2⟩;unfold LK;rw[h2,hd];simp only[if_true];unfold CO;rw[F6 h];cases hz:a.zero
 ·have ha:(AR l p).any (after' p)=true:=by simpa [Es,hz]using hd
  simp only[false_eq_true,if_false];have:=Zz (AR l p) p;rw[jq b ha,List.take_append_of_le_length this,List.drop_append_of_le_length this];simp
 ·simp
def sW{l:List A9}{p:Ac}{a:BR}{b:A9}(h:b.proc≠p)(hd:Es l p a=false)(hb:0<BF b.proc p):LK (l++[b]) p a=LK l p a++[⟨p,a⟩,b]/\Es (l++[b]) p a=true:=by
 have ha:a.zero=false/\(AR l p).any (after' p)=false:=by unfold Es at hd;simpa using hd
 have N8:after' p b=true:=by simpa [after']using hb
 have h2:Es (l++[b]) p a=true:=by
  unfold Es;rw[F6 h,any_append];simp[N8]
 refine⟨?_,h2⟩;unfold LK;rw[h2,hd];simp only[if_true,false_eq_true,if_false];unfold CO;rw[F6 h,ha.1];have e:Dd (AR l p++[b]) p=(AR l p).length:=by
  unfold Dd;rw[List.findIdx?_append,YP ha.2];simp[N8]
 rw[e];simp
def xX{l:List A9}{p:Ac}{a:BR}{b:A9}(h:b.proc≠p)(hd:Es l p a=false)(hb:¬ 0<BF b.proc p):LK (l++[b]) p a=LK l p a++[b]/\Es (l++[b]) p a=false:=by
 have ha:a.zero=false/\(AR l p).any (after' p)=false:=by unfold Es at hd;simpa using hd
 have N8:after' p b=false:=by simpa [after']using hb
 have h2:Es (l++[b]) p a=false:=by
  unfold Es;rw[F6 h,any_append];simp[N8,ha.1,ha.2]
 refine⟨?_,h2⟩;unfold LK;rw[h2,hd];simp only[false_eq_true,if_false];exact F6 h
def sU{l:List A9}{p:Ac}{a:BR}:CO l p a=if Es l p a then LK l p a else LK l p a++[⟨p,a⟩]:=by
 unfold LK;cases hd:Es l p a
 ·have ha:a.zero=false/\(AR l p).any (after' p)=false:=by unfold Es at hd;simpa using hd
  have e:Dd (AR l p) p=(AR l p).length:=by
   unfold Dd;rw[YP ha.2];rfl
  simp[CO,ha.1,e]
 ·simp
def sV(l:List A9)(p:Ac)(a:BR):(LK l p a).length<=l.length+1:=by
 have h1:(AR l p).length<=l.length:=List.length_filter_le _ _;have:=JB l p a;unfold LK;split<;>omega
def eR(p:Ac)(a:BR):LK [] p a=[]/\Es [] p a=a.zero:=by
 have h:Es [] p a=a.zero:=by simp[Es,AR]
 refine⟨?_,h⟩;unfold LK;rw[h];cases hz:a.zero<;>simp[CO,AR,hz]
def Pv(l:List A9)(p:Ac)(a:BR)(hl:l.length<=1000000):Ad C0 107 [Bg l,.agg p.c,.agg a.c] [] (Bg (CO l p a)) []:=by
 refine Ad.go f107 ?_;unfold f107;refine gO ?_;refine Ab (Fp a) ?_;refine gO ?_;have hd:∀ i,(LK (l.take i) p a).length<=l.length+1:=λi=>by have:=sV (l.take i) p a;simp at this;omega
 refine AF (l) (λi=>⟨[(9,I i),(0,Bg l),(4,.ptr 256 0),(5,.ptr 320 0),(8,B (Es (l.take i) p a)),(7,.sl (.own 3136 0) 5 ((LK (l.take i) p a).map A9.c))],[(256,p.c),(320,a.c)]⟩) (λi=>True) trivial ?_ ?_
 ·refine AT.Aq ?_ ?_
  all_goals(try simp(disch:=omega)only[go_sem,List.take_zero,(eR p a).1,(eR p a).2,map_nil])
  all_goals(try(repeat'(with_reducible apply And.intro)))
  all_goals(first|exact .Cr (by omega)|exact .A8 (by omega)|exact .sl (by simp[Es])|exact .int (by simp[Es])|exact .eq (by simp[Es]))
 rintro i ⟨hi,hP⟩ J hJ;refine gO ?_;refine Bo hi (λAP b hb Cg AX=>?_) λBa=>?_
 refine Ay 6 [([],[0]),([],[9]),([],[18,19]),([],[20]),([],[21]),([],[4])] B6 ?_;simp(disch:=omega)only[go_sem,gm,hb]
 ·have So:=hd i
  by_cases N8:b.proc=p
  ·obtain⟨e1,e2⟩:=xW (l:=l.take i) (a:=a) N8;simp(disch:=omega)only[go_sem,N8,decide_true];refine hJ _ (i+1) ⟨by omega,trivial⟩ (by omega) (AT.Aq ?_ ?_)
   all_goals(try simp(disch:=omega)only[go_sem])
   all_goals(try(repeat'(with_reducible apply And.intro)))
   all_goals(first|exact .Cr (by omega)|exact .A8 (by omega)|exact .sl (by simp[take_add_one,hb,e1,e2])|exact .int (by simp[take_add_one,hb,e1,e2])|exact .eq (by simp[take_add_one,hb,e1,e2]))
  ·simp(disch:=omega)only[go_sem,N8,decide_false];refine Ay 9 [([],[8]),([],[25]),([],[26]),([],[0,27]),([],[9,27]),([],[28,29,27]),([],[30,27]),([],[31,27]),([],[4,27])] B6 ?_;refine gO ?_;cases fF:Es (l.take i) p a
   ·simp(disch:=omega)only[go_sem,gm,hb]
    first|(refine Ab (LD b.proc p) ?_)|(refine Ax (LD b.proc p) ?_)
    refine gO ?_
    by_cases hc:0<BF b.proc p
    ·obtain⟨e1,e2⟩:=sW (a:=a) N8 fF hc;simp(disch:=omega)only[go_sem,hc,decide_true,gm,hb];refine hJ _ (i+1) ⟨by omega,trivial⟩ (by omega) (AT.Aq ?_ ?_)
     all_goals(try simp(disch:=omega)only[go_sem])
     all_goals(try(repeat'(with_reducible apply And.intro)))
     all_goals(first|exact .Cr (by omega)|exact .A8 (by omega)|exact .sl (by simp[take_add_one,hb,e1,e2,A9.c])|exact .int (by simp[take_add_one,hb,e1,e2,A9.c])|exact .eq (by simp[take_add_one,hb,e1,e2,A9.c]))
    ·obtain⟨e1,e2⟩:=xX (a:=a) N8 fF hc;simp(disch:=omega)only[go_sem,hc,decide_false,gm,hb];refine hJ _ (i+1) ⟨by omega,trivial⟩ (by omega) (AT.Aq ?_ ?_)
     all_goals(try simp(disch:=omega)only[go_sem])
     all_goals(try(repeat'(with_reducible apply And.intro)))
     all_goals(first|exact .Cr (by omega)|exact .A8 (by omega)|exact .sl (by simp[take_add_one,hb,e1,e2,A9.c])|exact .int (by simp[take_add_one,hb,e1,e2,A9.c])|exact .eq (by simp[take_add_one,hb,e1,e2,A9.c]))
   ·obtain⟨e1,e2⟩:=oP (a:=a) N8 fF;simp(disch:=omega)only[go_sem,gm,hb];refine hJ _ (i+1) ⟨by omega,trivial⟩ (by omega) (AT.Aq ?_ ?_)
    all_goals(try simp(disch:=omega)only[go_sem])
    all_goals(try(repeat'(with_reducible apply And.intro)))
    all_goals(first|exact .Cr (by omega)|exact .A8 (by omega)|exact .sl (by simp[take_add_one,hb,e1,e2,A9.c])|exact .int (by simp[take_add_one,hb,e1,e2,A9.c])|exact .eq (by simp[take_add_one,hb,e1,e2,A9.c]))
 ·subst Ba;have So:=hd l.length;have he:=sU (l:=l) (p:=p) (a:=a);rw[take_length]at So ⊢;cases fF:Es l p a
  ·rw[fF]at he;simp only[false_eq_true,if_false]at he;refine gO ?_;refine CU ⟨[],[],[3648]⟩ _ ?_;simp(disch:=omega)only[go_sem,he];exact .sl (by simp[A9.c])
  ·rw[fF]at he;simp only[if_true]at he;refine gO ?_;refine CU ⟨[],[],[3136]⟩ _ ?_;simp(disch:=omega)only[go_sem,he]
def kK(q:Queue):Ad C0 211 [.agg q.c] [] (.BC [.agg ((BZ q).getD w0).c,B (BZ q).isSome]) []:=by
 refine Ad.go f211 ?_;unfold f211
 match hq:q.As,hw:q.waits with
 | w::l,_ =>
  have e:BZ q=some w:=by simp[BZ,hq]
  have e1:(0<(l.length:Int)+1)=True:=by simp
  simp(disch:=omega)only[go_sem,hq,e,e1,isSome_some];exact AQ _
 |[],w::l =>
  have e:BZ q=some w:=by simp[BZ,hq,hw]
  have e1:(0<(l.length:Int)+1)=True:=by simp
  simp(disch:=omega)only[go_sem,hq,hw,e,e1,isSome_some];exact AQ _
 |[],[] =>
  have e:BZ q=none:=by simp[BZ,hq,hw]
  simp(disch:=omega)only[go_sem,hq,hw,e,isSome_none,w0];exact AQ _
def vX(r:BE)(l:List A9)(p:Ac)(a:BR)(hl:l.length<=1000000):Ad C0 212 [.agg r.c,Bg l,.agg p.c,.agg a.c] [] (B (F3 r l p a)) []:=by
 have h2:(CO l p a).length<=1000000\/l.length=1000000:=by have:=JB l p a;omega
 refine Ad.go f212 ?_;unfold f212;refine gO ?_;refine Ay 18 [([],[4]),([],[1]),([],[9,10]),([2],[11]),([2],[6,12]),([2],[13,12]),([2,5],[12,14]),([2,5],[15]),([2,5],[4,16]),([2,5],[7,16]),([2,5],[17,18,16]),([2,5,10],[16,19]),([2,5,10],[20]),([2,5,10],[4,21]),([2,5,10],[1,21]),([2,5,10],[6,21]),([2,5,10],[7,21]),([2,5,10],[23,24,25,21])] B6 ?_;refine gO ?_
 first|(refine Ab (M9 r l hl) ?_)|(refine Ax (M9 r l hl) ?_)
 cases h1:BV r l
 ·simp(disch:=omega)only[go_sem];refine Al _ ?_;exact wb (by simp[F3,h1])
 have h8:l.length<=8:=by simp[BV]at h1;omega
 have h9:(CO l p a).length<=1000000:=by omega
 simp(disch:=omega)only[go_sem]
 repeat'(first
  |(with_reducible refine And.intro (λh=>?_) (λh=>?_))
  |((with_reducible show Bi _ _ 82 _ _ _);refine Ai (KI p) ?_ rfl ?_;(focus(simp(disch:=omega)only[go_sem];done));try simp(disch:=omega)only[go_sem])
  |((with_reducible show Bn _ _ 82 _ _ _ _ _ _ _);refine AO ⟨⟨[],[],[]⟩,[],[]⟩ (KI p) ?_ rfl rfl trivial (.inl rfl) ?_;(focus(simp(disch:=omega)only[go_sem];done));try simp(disch:=omega)only[go_sem])
  |((with_reducible show Bi _ _ 155 _ _ _);refine Ai (Hp r a) ?_ rfl ?_;(focus(simp(disch:=omega)only[go_sem];done));try simp(disch:=omega)only[go_sem])
  |((with_reducible show Bn _ _ 155 _ _ _ _ _ _ _);refine AO ⟨⟨[],[],[]⟩,[],[]⟩ (Hp r a) ?_ rfl rfl trivial (.inl rfl) ?_;(focus(simp(disch:=omega)only[go_sem];done));try simp(disch:=omega)only[go_sem])
  |((with_reducible show Bi _ _ 107 _ _ _);refine Ai (Pv l p a hl) ?_ rfl ?_;(focus(simp(disch:=omega)only[go_sem];done));try simp(disch:=omega)only[go_sem])
  |((with_reducible show Bn _ _ 107 _ _ _ _ _ _ _);refine AO ⟨⟨[],[],[]⟩,[],[]⟩ (Pv l p a hl) ?_ rfl rfl trivial (.inl rfl) ?_;(focus(simp(disch:=omega)only[go_sem];done));try simp(disch:=omega)only[go_sem])
  |((with_reducible show Bi _ _ 209 _ _ _);refine Ai (M9 r (CO l p a) h9) ?_ rfl ?_;(focus(simp(disch:=omega)only[go_sem];done));try simp(disch:=omega)only[go_sem])
  |((with_reducible show Bn _ _ 209 _ _ _ _ _ _ _);refine AO ⟨⟨[],[],[]⟩,[],[]⟩ (M9 r (CO l p a) h9) ?_ rfl rfl trivial (.inl rfl) ?_;(focus(simp(disch:=omega)only[go_sem];done));try simp(disch:=omega)only[go_sem]))
 all_goals(refine CT _ ?_)
 all_goals(try simp(disch:=omega)only[go_sem])
 all_goals(refine wb ?_)
 all_goals(simp_all[F3])
def kr(q:Queue)(h1:q.holds.length<=1000000)(h2:q.waits.length<=1000000):Ad C0 151 [.agg q.c] [] (B (valid q)) []:=by
 refine Ad.go f151 ?_;unfold f151;refine gO ?_;refine Ab (aI q h1 h2) ?_;cases hs:sound q
 ·refine gO ?_;refine Al _ ?_;exact wb (by simp[valid,hs])
 refine gO ?_;refine Ab (kK q) ?_;cases hh:BZ q with
 |none =>
  refine gO ?_;refine Al _ ?_;exact wb (by grind[valid])
 |some w =>
  refine gO ?_;refine Ab (vX q.res q.holds w.proc w.AH h1) (gO ?_);refine Al _ ?_;exact wb (by grind[valid])
def Pu(q:Queue)(h1:q.holds.length<=1000000)(h2:q.waits.length<=1000000):Ad C0 101 [.agg q.c] [] (B (valid q)) []:=by
 refine Ad.go f101 ?_;unfold f101;refine gO ?_;refine Ab (aI q h1 h2) ?_;cases hs:sound q
 ·refine gO ?_;refine Al _ ?_;exact wb (by simp[valid,hs])
 refine gO ?_;refine Ab (kr q h1 h2) (gO ?_);exact AQ _
def ZO{q:Queue}(h:Sound q):BS q<=16:=by
 have h':=(Kr q).2 h;simp only[sound,Fe,Fi,Bool.and_eq_true,decide_eq_true_eq]at h';unfold BS B7;omega
def cD(q:Queue):Queue × List A9:=if sound q then Co q else (q0,[])
def vB(q:Queue)(h1:q.holds.length<=1000000)(h2:q.As.length<=1000000)(h3:q.waits.length<=1000000):Ad C0 152 [.agg q.c] [] (.BC [.agg (cD q).1.c,Bg (cD q).2]) []:=by
 refine Ad.go f152 ?_;unfold f152;refine gO ?_;refine Ab (aI q h1 h3) ?_;cases hs:sound q
 ·have e:cD q=(q0,[]):=by simp[cD,hs]
  simp only[go_sem,e,q0];refine Al _ ?_;refine .BC (Ae.AJ ?_);refine gO ?_
  repeat'(with_reducible apply And.intro)
  all_goals(first|exact .A8 (by omega)|exact .agg (Ae.AJ gI))
 have e:cD q=Co q:=by simp[cD,hs]
 rw[e];refine gO ?_;refine Ab (SP q h1 h2 h3) (gO ?_);refine Ao (α:=Queue × List A9) (λx=>⟨[(1,.ptr 64 0),(2,.ptr 128 0),(4,.sl (.own 3072 0) 5 (x.2.map A9.c))],[(64,x.1.c),(128,q0.c)]⟩) (λx=>x.2.length+B7 x.1=B7 q/\Sound x.1/\(Co x.1).1=(Co q).1/\x.2++(Co x.1).2=(Co q).2) (λx=>B7 x.1) (q,[]) ⟨by simp,(Kr q).1 hs,rfl,rfl⟩ ?_ ?_
 ·refine AT.Aq ?_ ?_
  ·exact gI
  ·simp only[go_sem,q0]
 rintro⟨s,hs⟩ ⟨i1,i2,i3,i4⟩ J hJ
 replace i1:hs.length+B7 s=B7 q:=i1
 replace i2:Sound s:=i2
 replace i3:(Co s).1=(Co q).1:=i3
 replace i4:hs++(Co s).2=(Co q).2:=i4
 rw[Kx s]at i3 i4;have gr:=ZO i2;have hlen:s.holds.length<=1000000/\s.waits.length<=1000000/\s.As.length<=1000000:=by grind[BS,B7]
 refine gO ?_;refine Ab (kr s hlen.1 hlen.2.1) ?_;have r6:valid s=(match BZ s with|some w=>!F3 s.res s.holds w.proc w.AH|none=>true):=by grind[Kr,valid]
 cases hh:BZ s with
 |none =>
  simp only[hh]at i3 i4 r6;simp only[go_sem,r6];refine AY ⟨[],[],[3072]⟩ _ (by(try simp only[go_sem,Cx,Gv])<;>rfl) ⟨rfl,rfl⟩ (by grind) ?_ trivial;simp only[go_sem,<- i3,<- i4]
 |some w =>
  simp[hh]at i3 i4 r6;have Hb:=Km hh;cases hr:F3 s.res s.holds w.proc w.AH
  ·simp only[hr,false_eq_true,if_false,Bool.not_false]at i3 i4 r6;simp only[go_sem,r6];refine AY ⟨[],[],[3072]⟩ _ (by(try simp only[go_sem,Cx,Gv])<;>rfl) ⟨rfl,rfl⟩ (by grind) ?_ trivial;simp only[go_sem,<- i3,<- i4]
  simp[hr]at i3 i4 r6;have step:∀ st',AT ⟨C0,[]⟩ st' ⟨[(1,.ptr 64 0),(2,.ptr 128 0),(4,.sl (.own 3072 0) 5 ((hs++[A9.mk w.proc w.AH]).map A9.c))],[(64,(DH s w).c),(128,q0.c)]⟩->J st':=λst' h =>
   hJ st' (DH s w,hs++[A9.mk w.proc w.AH]) ⟨by simp;omega,ME i2 hh hr,i3,by rw[<- i4];simp⟩ (by simp;omega) h
  have hbound:hs.length+1<=4294967296:=by unfold B7 at i1;omega
  refine gS ?_;refine Ab (kK s) ?_;cases hc:s.As with
  | cons a l =>
   have hp:DH s w = { s with holds:=CO s.holds w.proc w.AH,As:=l }:=by grind[DH]
   rw[hp]at step;have z1:(0<(l.length:Int)+1)=True:=eq_true (by omega);have z2:(l.map Bh.c).take (l.length+1-1)=l.map Bh.c:=List.take_of_length_le (by simp);refine gS ?_;refine Ab (Pv s.holds w.proc w.AH hlen.1) ?_;simp(disch:=omega)only[go_sem];refine step _ (AT.Aq ?_ ?_)
   ·refine gO ?_;exact .sl (by simp[A9.c])
   ·exact gI
  | nil =>
   have hp:DH s w = { s with holds:=CO s.holds w.proc w.AH,waits:=s.waits.drop 1 }:=by grind[DH]
   rw[hp]at step;have hw:1<=s.waits.length:=by unfold B7 at Hb;rw[hc]at Hb;simp at Hb;omega
   have z2:((s.waits.map Bh.c).drop 1).take (s.waits.length-1)=(s.waits.drop 1).map Bh.c:=by grind[List.map_drop,List.take_of_length_le]
   refine gS ?_;refine Ab (Pv s.holds w.proc w.AH hlen.1) ?_;simp(disch:=omega)only[go_sem];refine step _ (AT.Aq ?_ ?_)
   ·refine gO ?_;exact .sl (by simp[A9.c])
   ·exact gC
def Rt(q:Queue)(hs:Sound q)(h1:q.holds.length<=1000000)(h2:q.As.length<=1000000)(h3:q.waits.length<=1000000):Ad C0 103 [.agg q.c] [] (.BC [.agg (Ee q).c,Bg (Co q).2,I 0]) []:=by
 refine Ad.go f103 ?_;unfold f103;refine gO ?_;refine Ab (vB q h1 h2 h3) ?_;have e:cD q=Co q:=by grind[cD,Kr]
 have eg:(Co q).1.gen=q.gen:=(U2 q).2;rw[e];refine gO ?_;refine Ab (aJ q.gen) ?_;refine gO ?_;refine Al _ ?_;simp only[go_sem,Ee,eg]
def yP{q:Queue}(h:valid q=true)(p:Ac):OH q p=Br (BU q) p:=by
 have hs:=((BN q).1 h).1;have hz:∀ x∈q.holds,x.AH.zero=false:=λx hx=>by
  have br:=(Kr q).2 hs;simp only[sound,Bool.and_eq_true]at br;have:=(Dk q.res q.holds).1 (by grind);exact Jb (this.2.2.1 x hx).2
 have e1:Br (BU q) p=true↔JY q p:=by grind[Ew,Br]
 have e2:OH q p=true↔JY q p:=by
  unfold OH JY Ar;rw[Bool.or_eq_true,Option.isSome_map,List.find?_isSome];grind[Kl,Am]
 exact Bool.eq_iff_iff.2 (e2.trans e1.symm)
def j7(q:Queue)(p:Ac)(h:BS q<=100):Ad C0 110 [.agg q.c,.agg p.c] [] (.BC [.agg (Ge q p).1.c,Bg (Ge q p).2.1,I (Ge q p).2.2]) []:=by
 obtain⟨h1,h2,h3⟩:=Bt h;refine Ad.go f110 ?_;unfold f110;refine gO ?_;refine Ab (Pu q h1 h3) ?_;cases hv:valid q
 ·have e:Ge q p=(q0,[],2):=by simp[Ge,hv]
  simp only[go_sem,e,q0];refine Al _ ?_;refine .BC (Ae.AJ ?_);refine gO ?_
  repeat'(with_reducible apply And.intro)
  all_goals(first|exact .A8 (by omega)|exact .agg (Ae.AJ gI))
 refine gO ?_;refine Ab (Vc q p (by omega)) ?_;rw[yP hv p];cases hp:Br (BU q) p
 ·have e:Ge q p=(q0,[],10):=by grind[Ge]
  simp only[go_sem,e,q0];refine Al _ ?_;refine .BC (Ae.AJ ?_);refine gO ?_
  repeat'(with_reducible apply And.intro)
  all_goals(first|exact .A8 (by omega)|exact .agg (Ae.AJ gI))
 have e:Ge q p=(Ee (B8 q p),(Co (B8 q p)).2,0):=by grind[Ge]
 rw[e];refine gO ?_;refine Ab (SP q h1 h2 h3) ?_;refine gO ?_;refine Ab (Pv q.holds p ⟨0,0⟩ h1) ?_;refine gO ?_;refine Ab (Va q.As p h2) ?_;refine gO ?_;refine Ab (Va q.waits p h3) ?_;refine gO ?_;have ha:=jW q p;obtain⟨g1,g2,g3⟩:=Bt (q:=B8 q p) (by omega);refine Ai (Rt (B8 q p) (MD ((BN q).1 hv).1 p) g1 g2 g3) (by simp only[go_sem,B8]) rfl ?_;refine gO ?_;exact AQ _
mutual
def EI:Expr->Int->Int × Int
 |.mk _ _ kids,lv=>if 4<lv\/24<kids.length then (25,0) else Gp kids lv 1 0
def Gp:List Expr->Int->Int->Int->Int × Int
 |[],_,n,m=>(n,m+1)
 | e::l,lv,n,m=>if 24<n+(EI e (lv+1)).1 then (25,0) else Gp l lv (n+(EI e (lv+1)).1) (max m (EI e (lv+1)).2)
end
theorem I4(e:Expr)(lv:Int):EI e lv=if 4<lv\/24<e.kids.length then (25,0) else Gp e.kids lv 1 0:=by cases e;simp only[EI];rfl
def pW(lv:Int)(x:Int × Int):Prop:=1<=x.1/\x.1<=25/\0<=x.2/\x.2<=5-lv
def fB(lv:Int)(h1:1<=lv)(h4:lv<=4):∀ (l:List Expr) (n m:Int),(∀ e∈l,pW (lv+1) (EI e (lv+1)))->1<=n->n<=24->0<=m->m<=4-lv->pW lv (Gp l lv n m)
 |[],n,m,_,hn,Y4,hd,cj=>by simp only[Gp,pW];omega
 | e::l,n,m,hk,hn,Y4,hd,cj=>by
  obtain⟨b1,b2,b3,b4⟩:=hk e (by simp);simp only[Gp];split
  ·simp only[pW];omega
  ·exact fB lv h1 h4 l _ _ (λe' he=>hk e' (by simp[he])) (by omega) (by omega) (by omega) (by omega)
def MC:∀ (N:Nat) (e:Expr),SizeOf.sizeOf e<N->∀ lv:Int,1<=lv->lv<=5->pW lv (EI e lv)
 | 0,_,h,_,_,_=>by omega
 | N+1,e,h,lv,h1,h5=>by
  rw[I4];split
  ·simp only[pW];omega
  ·rename_i hc;exact fB lv h1 (by omega) _ _ _ (λe' he=>MC N e' (by have:=EM he;omega) _ (by omega) (by omega)) (by omega) (by omega) (by omega) (by omega)
def aR:∀ (N:Nat) (e:Expr),SizeOf.sizeOf e<N->∀ lv:Int,1<=lv->lv<=5 ->
 Ad C0 251 [.agg e.c,I lv] [] (.BC [I (EI e lv).1,I (EI e lv).2]) []
 | 0,_,h,_,_,_=>by omega
 | N+1,e,h,lv,h1,h5=>by
  refine Ad.lens f251 λhlen=>?_
  simp only[FZ,lens,Expr.Dg,length_map,and_true,true_and]at hlen;refine Ad.go f251 ?_;unfold f251
  by_cases hc:4<lv\/24<e.kids.length
  ·have em:EI e lv=(25,0):=by rw[I4,if_pos hc]
   simp(disch:=omega)only[go_sem,em]
   repeat'(with_reducible refine And.intro (λh=>?_) (λh=>?_))
   all_goals(try(exfalso;simp_all;omega))
   all_goals(refine CT _ ?_)
   all_goals simp(disch:=omega)only[go_sem]
  have em:EI e lv=Gp e.kids lv 1 0:=by rw[I4,if_neg hc]
  have cg:(4<lv)=False:=by simp;omega
  have ba:(24<(e.kids.length:Int))=False:=by simp;omega
  simp(disch:=omega)only[go_sem,em,cg,ba,decide_false];refine Ao (α:=Nat × Int × Int) (λq=>⟨[(8,I q.1),(1,I lv),(2,.ptr 128 0),(6,I q.2.1),(7,I q.2.2)],[(128,e.c)]⟩)
   (λq=>q.1<=e.kids.length/\1<=q.2.1/\q.2.1<=24/\0<=q.2.2/\q.2.2<=4-lv/\Gp (e.kids.drop q.1) lv q.2.1 q.2.2=Gp e.kids lv 1 0) (λq=>e.kids.length-q.1) (0,1,0) ⟨by simp,by simp,by simp,by simp,by simp;omega,by simp⟩ ?_ ?_
  ·refine AT.Aq ?_ ?_
   ·exact gI
   ·exact gI
  rintro⟨i,n,m⟩ ⟨hi,uD,hm,tD,hd,hr⟩ J hJ
  replace hi:i<=e.kids.length:=hi
  replace uD:1<=n:=uD
  replace hm:n<=24:=hm
  replace tD:0<=m:=tD
  replace hd:m<=4-lv:=hd
  replace hr:Gp (e.kids.drop i) lv n m=Gp e.kids lv 1 0:=hr
  refine gO ?_;refine ⟨λAP=>?_,λJX=>?_⟩
  ·have H0:i<e.kids.length:=by simp at AP;omega
   have hb:e.kids[i]?=some e.kids[i]:=gE H0;have Hb:=EM (List.getElem_mem H0);have bf:e.kids.drop i=e.kids[i]::e.kids.drop (i+1):=drop_eq_getElem_cons H0;generalize e.kids[i]=b at hb Hb bf;rw[bf]at hr;simp only[Gp]at hr;simp(disch:=omega)only[go_sem,gm,hb]
   first|(refine Ab (aR N b (by omega) (lv+1) (by omega) (by omega)) ?_)|(refine Ax (aR N b (by omega) (lv+1) (by omega) (by omega)) ?_)
   obtain⟨b1,b2,b3,b4⟩:=MC N b (by omega) (lv+1) (by omega) (by omega);generalize EI b (lv+1)=x at hr b1 b2 b3 b4
   by_cases nK:24<n+x.1
   ·have d24:(24<n+x.1)=True:=eq_true nK;rw[if_pos nK]at hr;simp(disch:=omega)only[go_sem,d24]
    repeat'(with_reducible refine And.intro (λh=>?_) (λh=>?_))
    all_goals(refine CT _ ?_)
    all_goals simp(disch:=omega)only[go_sem,<- hr]
   ·have d24:(24<n+x.1)=False:=eq_false nK;rw[if_neg nK]at hr;simp(disch:=omega)only[go_sem,d24,decide_false]
    by_cases dC:m<x.2
    ·have e1:max m x.2=x.2:=by omega
     have d1:(m<x.2)=True:=eq_true dC;rw[e1]at hr;simp(disch:=omega)only[go_sem,d1];refine hJ _ (i+1,n+x.1,x.2) ⟨by simp;omega,by simp;omega,by simp;omega,by simp;omega,by simp;omega,hr⟩ (by simp;omega) (AT.Aq ?_ ?_)
     ·exact gI
     ·exact gI
    ·have e1:max m x.2=m:=by omega
     have d1:(m<x.2)=False:=eq_false dC;rw[e1]at hr;simp(disch:=omega)only[go_sem,d1,decide_false];refine hJ _ (i+1,n+x.1,m) ⟨by simp;omega,by simp;omega,by simp;omega,by simp;omega,by simp;omega,hr⟩ (by simp;omega) (AT.Aq ?_ ?_)
     ·exact gI
     ·exact gI
  ·have Ba:i=e.kids.length:=by simp at JX;omega
   subst Ba;rw[List.drop_length]at hr;simp only[Gp]at hr;simp(disch:=omega)only[go_sem,<- hr];exact AQ _
def Ip(e:Expr):Int:=if 24<(EI e 1).1 then 0 else (EI e 1).1
def vT(e:Expr):Ad C0 193 [.agg e.c] [] (I (Ip e)) []:=by
 refine Ad.go f193 ?_;unfold f193;refine gO ?_;refine Ab (aR _ e (Nat.lt_succ_self _) 1 (by omega) (by omega)) ?_
 by_cases nK:24<(EI e 1).1
 ·have d24:(24<(EI e 1).1)=True:=eq_true nK;have en:Ip e=0:=by simp[Ip,nK]
  simp(disch:=omega)only[go_sem,d24,en];exact AQ _
 ·have d24:(24<(EI e 1).1)=False:=eq_false nK;have en:Ip e=(EI e 1).1:=by simp[Ip,nK]
  simp(disch:=omega)only[go_sem,d24,en,decide_false];exact AQ _
mutual
def Iz:Expr->List Atom->List Atom × Bool
 |.mk k a kids,l=>if kids.length=0 then (if k=0/\MZ a=true then (Fl l a,true) else (l,false))
  else if k<1\/(kids.length:Int)<k\/a≠a0 then (l,false) else J5 kids l
def J5:List Expr->List Atom->List Atom × Bool
 |[],l=>(l,true)
 | e::es,l=>if (Iz e l).2=true then J5 es (Iz e l).1 else (l,false)
end
theorem Kw(e:Expr)(l:List Atom):Iz e l=if e.kids.length=0 then (if e.k=0/\MZ e.atom=true then (Fl l e.atom,true) else (l,false))
 else if e.k<1\/(e.kids.length:Int)<e.k\/e.atom≠a0 then (l,false) else J5 e.kids l:=by
 cases e;simp only[Iz];rfl
mutual
def uX:Expr->Nat
 |.mk _ _ kids=>1+V2 kids
def V2:List Expr->Nat
 |[]=>0
 | e::l=>uX e+V2 l
end
theorem au(e:Expr):uX e=1+V2 e.kids:=by cases e;simp only[uX];rfl
@[reducible] def mH(x:List Atom × Bool):AV:=if x.2 then .BC [DY 1 x.1,B true] else .BC [.undef,B false]
theorem mN(l:List Atom)(a:Atom):(Fl l a).length<=l.length+1:=by grind[Fl]
def cB:∀ (es:List Expr) (l:List Atom),(∀ e∈es,∀ l,(Iz e l).1.length<=l.length+uX e)->(J5 es l).1.length<=l.length+V2 es
 |[],l,_=>by simp[J5]
 | e::es,l,h=>by
  have h1:=h e (by simp) l;have h2:=cB es (Iz e l).1 λe' he=>h e' (by simp[he])
  simp only[J5,V2];split
  ·omega
  ·simp only;omega
def VK:∀ (N:Nat) (e:Expr),SizeOf.sizeOf e<N->∀ l:List Atom,(Iz e l).1.length<=l.length+uX e
 | 0,_,h,_=>by omega
 | N+1,e,h,l=>by
  rw[Kw,au];split
  ·grind[mN]
  ·split
   ·grind
   ·have:=cB e.kids l λe' he l'=>VK N e' (by have:=EM he;omega) l'
    omega
def kE:∀ (N:Nat) (e:Expr),SizeOf.sizeOf e<N->∀ l:List Atom,l.length+uX e<=1000000 ->
 Ad C0 194 [DY 0 l,.agg e.c] [] (mH (Iz e l)) []
 | 0,_,h,_,_=>by omega
 | N+1,e,h,l,hl=>by
  refine Ad.lens f194 λhlen=>?_
  simp[FZ,lens,Expr.Dg,length_map,and_true,true_and]at hlen;have eG:=au e;refine Ad.go f194 ?_;unfold f194
  by_cases hk:e.kids.length=0
  ·have e1:((e.kids.length:Int)==0)=true:=by grind
   by_cases S1:e.k=0/\MZ e.atom=true
   rotate_left
   ·have ep:Iz e l=(l,false):=by rw[Kw,if_pos hk,if_neg S1]
    have ev:mH (Iz e l)=.BC [.undef,B false]:=by grind
    rw[ev];simp only[go_sem,e1]
    repeat'(first
     |(with_reducible refine And.intro (λh=>?_) (λh=>?_))
     |((with_reducible show Bi _ _ 90 _ _ _);refine Ai (Ox e.atom.name) ?_ rfl ?_;(focus(exact gI;done));try refine gO ?_)
     |((with_reducible show Bn _ _ 90 _ _ _ _ _ _ _);refine AO ⟨⟨[],[],[]⟩,[],[]⟩ (Ox e.atom.name) ?_ rfl rfl trivial (.inl rfl) ?_;(focus(simp(disch:=omega)only[go_sem];done));try simp(disch:=omega)only[go_sem])
     |((with_reducible show Bi _ _ 91 _ _ _);refine Ai (Wp e.atom.AH) ?_ rfl ?_;(focus(exact gI;done));try refine gO ?_)
     |((with_reducible show Bn _ _ 91 _ _ _ _ _ _ _);refine AO ⟨⟨[],[],[]⟩,[],[]⟩ (Wp e.atom.AH) ?_ rfl rfl trivial (.inl rfl) ?_;(focus(simp(disch:=omega)only[go_sem];done));try simp(disch:=omega)only[go_sem]))
    all_goals(first
     |(refine CU ⟨[(0,1)],[],[]⟩ _ ?_;simp(disch:=omega)only[go_sem];exact .BC (Ae.AJ gI))
     |(exfalso;grind[MZ]))
   ·have ep:Iz e l=(Fl l e.atom,true):=by simp_all[Kw]
    have ev:mH (Iz e l)=.BC [DY 1 (Fl l e.atom),B true]:=by grind
    rw[ev];have ha:(B9 e.atom.name&&(Il.fits e.atom.AH||Ir.fits e.atom.AH))=true:=S1.2;have sO:B9 e.atom.name=true:=by grind
    have ur:(Il.fits e.atom.AH||Ir.fits e.atom.AH)=true:=by grind
    simp only[go_sem,e1];refine And.intro (λ_=>?_) (λh=>?_);rotate_left
    ·exfalso;grind
    refine Ab (Ox e.atom.name) ?_;simp only[go_sem,sO];refine Ab (Wp e.atom.AH) ?_;simp only[go_sem,ur];refine AF (l) (λi=>⟨[(6,I i),(0,DY 0 l),(3,.ptr 192 0)],[(192,e.c)]⟩) (λi=>e.atom∉l.take i) ((by simp)) ?_ ?_
    ·exact Ce
    rintro i ⟨hi,hP⟩ J hJ;refine gO ?_;refine Bo hi (λAP b hb Cg AX=>?_) λBa=>?_
    refine Ay 6 [([],[0]),([],[6]),([],[38,39]),([],[40]),([],[3]),([],[42])] B6 ?_;simp(disch:=omega)only[go_sem,gm,hb]
    ·refine⟨λh=>?_,λh=>?_⟩
     ·have w8:b=e.atom:=by grind
      have e3:Fl l e.atom=l:=by simp_all[Fl]
      simp only[go_sem,e3];refine CU ⟨[(0,1)],[],[]⟩ _ ?_;exact gI
     ·have w8:b≠e.atom:=by grind
      refine hJ _ (i+1) ⟨by omega,(by grind[take_add_one])⟩ (by omega) AK
    ·subst Ba;rw[take_length]at hP;have e3:Fl l e.atom=l++[e.atom]:=by simp_all[Fl]
     simp only[go_sem,e3];refine CU ⟨[(3200,1)],[],[]⟩ _ (gO ?_);exact .BC (Ae.AJ (by refine gO ?_;exact .sl (by simp[Atom.c])))
  have e1:((e.kids.length:Int)==0)=false:=by grind
  have ez:(e.atom.name==[]&&(e.atom.AH.mode==0&&e.atom.AH.AG==0))=decide (e.atom=a0):=ah e.atom
  by_cases S1:e.k<1\/(e.kids.length:Int)<e.k\/e.atom≠a0
  ·have ep:Iz e l=(l,false):=by rw[Kw,if_neg hk,if_pos S1]
   have ev:mH (Iz e l)=.BC [.undef,B false]:=by grind
   rw[ev];refine gS ?_
   repeat'(with_reducible refine And.intro (λh=>?_) (λh=>?_))
   all_goals(try(exfalso;simp_all;omega))
   all_goals(refine CU ⟨[(0,1)],[],[]⟩ _ ?_)
   all_goals simp(disch:=omega)only[go_sem]
   all_goals exact .BC (Ae.AJ gI)
  have ep:Iz e l=J5 e.kids l:=by simp_all[Kw,if_neg]
  have b1:(e.k<1)=False:=by grind
  have b2:((e.kids.length:Int)<e.k)=False:=by grind
  have b3:e.atom=a0:=by grind
  have ez':(e.atom.name==[]&&(e.atom.AH.mode==0&&e.atom.AH.AG==0))=true:=by grind
  rw[ep];simp only[go_sem,e1,ez',b1,b2];refine Ao (α:=Nat × List Atom) (λq=>⟨[(7,I q.1),(0,DY 5376 q.2),(3,.ptr 192 0)],[(192,e.c)]⟩)
   (λq=>q.1<=e.kids.length/\q.2.length+V2 (e.kids.drop q.1)<=1000000/\J5 (e.kids.drop q.1) q.2=J5 e.kids l) (λq=>e.kids.length-q.1) (0,l) ⟨by simp,by grind,by simp⟩ ?_ ?_
  ·refine AT.CX ⟨[(0,5376)],[(192,192)],[]⟩ ⟨rfl,rfl⟩ (by grind) ?_ ?_
   ·exact gI
   ·exact gI
  rintro⟨i,m⟩ ⟨hi,hm,hr⟩ J hJ
  replace hi:i<=e.kids.length:=hi
  replace hm:m.length+V2 (e.kids.drop i)<=1000000:=hm
  replace hr:J5 (e.kids.drop i) m=J5 e.kids l:=hr
  refine gO ?_;refine ⟨λAP=>?_,λJX=>?_⟩
  ·have H0:i<e.kids.length:=by grind
   have hb:e.kids[i]?=some e.kids[i]:=gE H0;have Hb:=EM (List.getElem_mem H0);have bf:e.kids.drop i=e.kids[i]::e.kids.drop (i+1):=drop_eq_getElem_cons H0;generalize e.kids[i]=b at hb Hb bf;rw[bf]at hr hm;simp[J5]at hr;simp[V2]at hm;have hbl:=VK _ b (Nat.lt_succ_self _) m;have KN:=kE N b (by omega) m (by omega);simp only[go_sem,hb];generalize Iz b m=x at hr hbl KN;obtain⟨x1,x2⟩:=x;cases x2
   ·simp at hr;have ev:mH (J5 e.kids l)=.BC [.undef,B false]:=by grind
    rw[ev];refine By ⟨⟨[(5376,0)],[],[]⟩,[(1,5377)],[]⟩ (show Ad C0 194 [DY 0 m,.agg b.c] [] (.BC [.undef,B false]) [] from KN) gI rfl gI (.inl rfl) (gO ?_);exact AQ _
   ·simp at hr;refine By ⟨⟨[(5376,0)],[],[]⟩,[(1,5377)],[]⟩ (show Ad C0 194 [DY 0 m,.agg b.c] [] (.BC [DY 1 x1,B true]) [] from KN) gI rfl gI (.inl rfl) (gO ?_);refine hJ _ (i+1,x1) ⟨by omega,by grind,hr⟩ (by omega) (AT.CX ⟨[(5377,5376)],[(192,192)],[]⟩ ⟨rfl,rfl⟩ (by grind) ?_ ?_)
    ·exact gI
    ·exact gI
  ·have Ba:i=e.kids.length:=by grind
   subst Ba;rw[List.drop_length]at hr;simp[J5]at hr;have ev:mH (J5 e.kids l)=.BC [DY 1 m,B true]:=by grind
   rw[ev];refine CU ⟨[(5376,1)],[],[]⟩ _ ?_;exact gI
end Go.Rd
