/- part 16 of the proof -/
import Derived.Test.YthachdiockkofaaGreatDoorS15
set_option linter.all false
open Go Go.Abs Go.Proofs
set_option maxRecDepth 100000
namespace Go.Rd
set_option maxHeartbeats 8000000
open List (length_map map_set mem_append mem_cons take_add_one take_length)
open Tryz
theorem aO(l:List Proc)(hl:l.length≤1000000):Ac C0 76 [AD l] [] (KZ 0 (Ki l)) []:=by
 refine Ac.go f76 ?_;unfold f76;refine gO ?_;refine Aa (α:=Nat × List Proc) (fun x=>⟨[(4,I x.1),(3,.sl (.own 1728 0) 3 (x.2.map Proc.c)),(0,AD l)],[]⟩) (fun x=>x.1≤l.length∧x.2.length≤x.1∧Hv x.2∧∀ p,p∈x.2↔p∈l.take x.1) (fun x=>l.length-x.1) (0,[]) ⟨by simp,by simp,by simp[Hv],by simp⟩ ?_ ?_
 ·refine Imp.weak ?_ ?_
  ·simp(disch:=omega)only[go_sem,List.map_nil]
  ·exact gI
 rintro⟨i,out⟩ ⟨hi,hol,hasc,hmem⟩ J hJ
 replace hi:i≤l.length:=hi
 replace hol:out.length≤i:=hol
 replace hasc:Hv out:=hasc
 replace hmem:∀ p,p∈out↔p∈l.take i:=hmem
 refine gO ?_;refine ⟨fun hlt=>?_,fun hge=>?_⟩
 ·have hlt':i<l.length:=by simp at hlt;omega
  obtain⟨p,hp⟩:∃ p,l[i]?=some p:=⟨_,gE hlt'⟩;have ht:=Hd hp;simp(disch:=omega)only[go_sem,gm,hp];refine Dq [1728] (f29_ok out p (by omega)) gI rfl trivial ?_;cases hh:Br out p;rotate_left
  ·have hin:p∈out:=by simpa [Br]using hh
   refine gO ?_;refine hJ _ (i+1,out) ⟨by simp;omega,by simp;omega,hasc,fun x=>?_⟩ (by simp;omega) AK;rw[ht,mem_append,← hmem x];simp only[List.mem_singleton];exact⟨.inl,fun h=>h.elim id fun e=>by rw[e];exact hin⟩
  have hnin:p∉out:=by simpa [Br]using hh
  have hbd:out.length+1≤4294967296:=by omega
  simp(disch:=omega)only[go_sem,gm,hp];refine Aa (α:=Nat) (fun k=>⟨[(5,I k),(4,I i),(3,.sl (.own 1728 0) 3 ((Gb out k p).map Proc.c)),(0,AD l)],[]⟩) (fun k=>k≤out.length∧∀ x∈out.drop k,AT p x<0) (fun k=>k) out.length ⟨by omega,by simp⟩ ?_ ?_
  ·refine Imp.weak ?_ ?_
   ·simp(disch:=omega)only[go_sem];exact .sl (by simp[Gb,Proc.c])
   ·exact gI
  rintro k ⟨hk,hgt⟩ J2 hJ2;have stop:(∀ x∈out.take k,AT x p<0)→∀ st',Imp ⟨C0,[],[]⟩ st' ⟨[(4,I (i+1:Nat)),(3,.sl (.own 1728 0) 3 ((Gb out k p).map Proc.c)),(0,AD l)],[]⟩→J st':=fun hlt2 st' him=>by
   refine hJ st' (i+1,Gb out k p) ⟨by simp;omega,by simp[M6 out k p hk];omega,?_,fun x=>?_⟩ (by simp;omega) him
   ·have h0:=hasc;unfold Hv at h0 ⊢;rw[← List.take_append_drop k out]at h0;rw[List.pairwise_append]at h0;show (Gb out k p).Pairwise _;unfold Gb;rw[List.pairwise_append];refine⟨h0.1,List.pairwise_cons.2 ⟨hgt,h0.2.1⟩,fun a ha b hb=>?_⟩;rcases mem_cons.1 hb with e|e
    ·rw[e];exact hlt2 a ha
    ·exact h0.2.2 a ha b e
   ·show x∈Gb out k p↔x∈l.take (i+1);rw[UG,ht,mem_append,← hmem x];simp
  refine Aq 12 [([],[5]),([],[28]),([],[29]),([],[3,30]),([],[5,30]),([],[32,30]),([],[31,33,30]),([],[34,30]),([],[3,30]),([],[5,30]),([],[36,37,30]),([],[38,30])] fol ?_;cases k with
  | zero =>
   have e0:(0<((0:Nat):Int))=False:=by simp
   simp(disch:=omega)only[go_sem,e0,decide_false];exact stop (by simp) _ AK
  | succ k =>
   have e0:(0<(((k+1:Nat)):Int))=True:=eq_true (by omega);have e1:(0<(k:Int)+1)=True:=eq_true (by omega);have e2:((k:Int)+1-1)=(k:Int):=by omega
   obtain⟨x,hx⟩:∃ x,out[k]?=some x:=⟨_,gE (by omega)⟩;have g1:=UF out (k+1) p hk;have g2:=R2 out k p hk;rw[hx]at g2;have hml:=M6 out (k+1) p hk;have z1:k<(Gb out (k+1) p).length:=by omega
   have z2:k+1<(Gb out (k+1) p).length:=by omega
   simp(disch:=omega)only[go_sem,e0,e1,e2,gm,g1,g2,length_map,hml];refine Ab (f107_ok x p) ?_;refine gO ?_
   by_cases hc:0<AT x p
   ·have e3:(0<AT x p)=True:=eq_true hc;have e4:(k=k+1)=False:=eq_false (by omega);simp(disch:=omega)only[go_sem,e2,e3,gm,g1,g2,length_map,hml,List.length_set,List.getElem?_set,e4];refine hJ2 _ k ⟨by omega,fun y hy=>?_⟩ (by omega) (Imp.weak ?_ gI)
    ·rw[List.drop_eq_getElem_cons (by omega),get_eq hx]at hy;rcases mem_cons.1 hy with e|e
     ·subst e;have:=Cs y p;omega
     ·exact hgt y e
    ·simp(disch:=omega)only[go_sem];refine .sl ?_;rw[← R3 hx,map_set,map_set];rfl
   ·have e3:(0<AT x p)=False:=eq_false hc;simp(disch:=omega)only[go_sem,e3,decide_false];refine stop (fun y hy=>?_) _ AK;have hxm:x∈out:=mG hx;have hxp:AT x p<0:=by
     have:AT x p≠0:=fun e=>hnin (by rw[← FM e];exact hxm)
     omega
    rw[Hd hx]at hy;rcases mem_append.1 hy with e|e
    ·have h0:=hasc;unfold Hv at h0;rw[← List.take_append_drop k out,List.pairwise_append]at h0;have hd:out.drop k=x::out.drop (k+1):=by rw[List.drop_eq_getElem_cons (by omega),get_eq hx]
     exact Cz (h0.2.2 y e x (by rw[hd];simp)) hxp
    ·rw[List.mem_singleton.1 e];exact hxp
 ·have hil:i=l.length:=by simp at hge;omega
  subst hil;rw[take_length]at hmem;have e:out=Ki l:=JA hasc (DT l) fun x=>by rw[hmem,HI]
  refine CT ⟨[(1728,0)],[],[]⟩ _ ?_;simp(disch:=omega)only[go_sem,e]
theorem f75_ok(l:List Queue)(h1:l.length≤100)(h2:∀ q∈l,BA q≤100):Ac C0 75 [Ay l] [] (KZ 0 (Ar l)) []:=by
 refine Ac.go f75 ?_;unfold f75;refine gO ?_;refine Aa (α:=Nat) (fun i=>⟨[(4,I i),(0,Ay l),(3,.sl (.own 1088 0) 3 (((l.take i).flatMap A6).map Proc.c))],[]⟩) (fun i=>i≤(l).length∧True) (fun i=>(l).length-i) 0 ⟨by omega,trivial⟩ ?_ ?_
 ·exact Ca
 rintro i ⟨hi,hP⟩ J hJ;refine gO ?_;refine ⟨fun hlt=>?_,fun hge=>?_⟩;rotate_left;have hil:i=(l).length:=by simp at hge;omega
 rotate_left;obtain⟨b,hb⟩:∃ b,(l)[i]?=some b:=⟨_,gE (by simp at hlt;omega)⟩;have hbm:=mG hb;have hlt2:i<(l).length:=by simp at hlt;omega
 simp(disch:=omega)only[go_sem,gm,hb]
 ·have hfl:=KE (l:=l.take i) fun q hq=>h2 q (List.mem_of_mem_take hq)
  have hq:=Ic b;have hb2:=h2 b hbm;have hbd:((l.take i).flatMap A6).length+(A6 b).length≤4294967296:=by simp only[List.length_take]at hfl;omega
  refine Ab (f134_ok b (by omega)) ?_;refine gO ?_;refine hJ _ (i+1) ⟨by simp at hlt;omega,trivial⟩ (by simp at hlt;omega) (Imp.weak ?_ ?_)
  all_goals(try simp(disch:=omega)only[go_sem])
  all_goals(try(repeat'(with_reducible apply And.intro)))
  all_goals(first|exact .AA (by omega)|exact .Az (by omega)|exact .sl (by simp[take_add_one,hb])|exact .int (by simp[take_add_one,hb])|exact .eq (by simp[take_add_one,hb]))
 ·subst hil;have hfl:=KE h2;refine PE [1088] ⟨⟨[],[],[]⟩,[(0,1216)],[]⟩ (aO (l.flatMap A6) (by omega)) (by simp(disch:=omega)only[go_sem,take_length]) rfl trivial (.inl rfl) ?_;refine gO ?_;refine CT ⟨[(1216,0)],[],[]⟩ _ ?_;simp(disch:=omega)only[go_sem,Ar]
theorem f97_ok(l:List Queue)(name:Bs)(hl:l.length≤1000000):Ac C0 97 [Ay l,.v (.string (str name))] [] (I (match l.findIdx? (fun q=>q.res.name==name) with|some i=>i|none=>-1)) []:=by
 refine Ac.go f97 ?_;unfold f97;refine gO ?_;refine Aa (α:=Nat) (fun i=>⟨[(5,I i),(0,Ay l),(1,.v (.string (str name)))],[]⟩) (fun i=>i≤(l).length∧(l.take i).find? (fun q=>q.res.name==name)=none) (fun i=>(l).length-i) 0 ⟨by omega,rfl⟩ ?_ ?_
 ·exact Ca
 rintro i ⟨hi,hP⟩ J hJ;refine gO ?_;refine ⟨fun hlt=>?_,fun hge=>?_⟩;rotate_left;have hil:i=(l).length:=by simp at hge;omega
 rotate_left;obtain⟨b,hb⟩:∃ b,(l)[i]?=some b:=⟨_,gE (by simp at hlt;omega)⟩;have hbm:=mG hb;have hlt2:i<(l).length:=by simp at hlt;omega
 simp(disch:=omega)only[go_sem,gm,hb]
 ·refine⟨fun h=>?_,fun h=>?_⟩
  ·have e:=F9 hP b hb (by simpa using h);simp(disch:=omega)only[go_sem,e];exact AH _
  ·refine hJ _ (i+1) ⟨by simp at hlt;omega,(by rw[BU hP hb];simp at h;simp[h])⟩ (by simp at hlt;omega) AK
 ·subst hil;rw[take_length]at hP;have e:l.findIdx? (fun q=>q.res.name==name)=none:=by
   rw[List.findIdx?_eq_none_iff];rw[List.find?_eq_none]at hP;intro x hx;simpa using hP x hx
  simp(disch:=omega)only[go_sem,e];exact AH _
theorem f104_ok(l:List Queue)(ha:∀ q∈l,BA q≤100):Ac C0 104 [Ay l] [] (B (Cd l)) []:=by
 refine Ac.go f104 ?_;unfold f104
 by_cases hq:8<l.length
 ·have e1:(8<(l.length:Int))=True:=eq_true (by omega);have e:Cd l=false:=by simp[Cd];omega
  simp(disch:=omega)only[go_sem,e1];refine Ap _ ?_;exact wb (by simp[e])
 have e1:(8<(l.length:Int))=False:=eq_false (by omega);simp(disch:=omega)only[go_sem,e1,decide_false];refine Aa (α:=Nat) (fun i=>⟨[(3,I i),(0,Ay l)],[]⟩) (fun i=>i≤(l).length∧BO (BN l) (l.take i)=true) (fun i=>(l).length-i) 0 ⟨by omega,rfl⟩ ?_ ?_
 ·exact Ca
 rintro i ⟨hi,hP⟩ J hJ;refine gO ?_;refine ⟨fun hlt=>?_,fun hge=>?_⟩;rotate_left;have hil:i=(l).length:=by simp at hge;omega
 rotate_left;obtain⟨b,hb⟩:∃ b,(l)[i]?=some b:=⟨_,gE (by simp at hlt;omega)⟩;have hbm:=mG hb;have hlt2:i<(l).length:=by simp at hlt;omega
 refine Aq 23 [([],[0]),([],[3]),([],[13,14]),([],[15]),([],[16]),([4],[17]),([4],[18]),([4],[3,19]),([4],[20,19]),([4],[21,19]),([4],[0,22]),([4],[3,22]),([4],[24,22]),([4],[23,25,22]),([4],[26,22]),([4],[27,22]),([4],[28,22]),([4],[0,22]),([4],[3,22]),([4],[30,31,22]),([4],[32,22]),([4],[33,22]),([4],[34,22])] fol ?_;simp(disch:=omega)only[go_sem,gm,hb]
 ·have hab:=Bw (ha b hbm);have bad:BN l i b=false→Cd l=false:=fun h=>by simp only[Cd,Bj hb h,Bool.and_false]
  have good:BN l i b=true→BO (BN l) (l.take (i+1))=true:=fun h=>by rw[B4 hb,hP,h];rfl
  first|(refine Ab (f158_ok b hab.1 hab.2.2) ?_)|(refine Al (f158_ok b hab.1 hab.2.2) ?_)
  cases hv:valid b
  ·simp(disch:=omega)only[go_sem];refine Ap _ ?_;exact wb (by rw[bad (by simp[BN,hv])])
  by_cases hi0:i=0
  ·subst hi0;refine gO ?_;refine hJ _ 1 ⟨by simp at hlt;omega,good (by simp[BN,hv])⟩ (by simp at hlt;omega) AK
  ·have hi1:(0<(i:Int))=True:=eq_true (by omega);have hi2:((i:Int)-1)=((i-1:Nat):Int):=by omega
   obtain⟨a,ha'⟩:∃ a,l[i-1]?=some a:=⟨_,gE (by simp at hlt;omega)⟩;have had:l.getD (i-1) q0=a:=by simp[List.getD,ha']
   simp(disch:=omega)only[go_sem,hi1,hi2,gm,ha',hb];refine And.intro (fun hh=>?_) (fun hh=>?_)
   ·refine Ap _ ?_;exact wb (by rw[bad (by simp only[BN,had,hv];simp[hi0];simpa [BF]using hh)])
   ·refine hJ _ (i+1) ⟨by simp at hlt;omega,good (by simp only[BN,had,hv];simp[hi0];simpa [BF]using hh)⟩ (by simp at hlt;omega) AK
 subst hil;rw[take_length]at hP;have hqs:Cd l=true:=by simp[Cd,hP];omega
 refine Ap _ ?_;exact wb (by rw[hqs])
theorem Sa:∀ (es:List Expr) (l:List Atom),(BW es l).1=true→∀ e∈es,∃ l',(prop e l').1=true
 |[],_,_,_,he=>by simp at he
 | e::es,l,h,e',he=>by
  simp only[BW]at h;split at h
  ·rename_i h1;rcases mem_cons.1 he with rfl|he
   ·exact⟨l,h1⟩
   ·exact Sa es _ h e' he
  ·simp at h
theorem f151_ok(l:List Atom)(set:List Bool)(hl:l.length≤1000000):∀ (N:Nat) (e:Expr),SizeOf.sizeOf e<N→∀ la,(prop e la).1=true →
 Ac C0 151 [.agg e.c,Bn l,It set] [] (B (En (DF l set) e)) []
 | 0,_,h,_,_=>by omega
 | N+1,e,h,la,hp=>by
  refine Ac.lens f151 fun hlen=>?_
  simp only[Fz,lens,Expr.FF,length_map,length_map,and_true,true_and]at hlen;rw[DD]at hp;refine Ac.go f151 ?_;unfold f151
  by_cases hk:e.kids.length=0
  ·rw[if_pos hk]at hp;have h0:e.k=0:=by
    by_cases h0:e.k=0
    ·exact h0
    ·rw[if_neg (by simp[h0])]at hp;simp at hp
   have e1:(e.k==0)=true:=by simp[h0]
   have ev:En (DF l set) e=DF l set e.atom:=by rw[I3,if_pos hk]
   rw[ev];simp(disch:=omega)only[go_sem,e1];refine Aa (α:=Nat) (fun i=>⟨[(7,I i),(1,Bn l),(2,It set),(3,.ptr 192 0)],[(192,e.c)]⟩) (fun i=>i≤(l).length∧(l.take i).find? (fun x=>decide (x=e.atom))=none) (fun i=>(l).length-i) 0 ⟨by omega,rfl⟩ ?_ ?_
   ·exact Ca
   rintro i ⟨hi,hP⟩ J hJ;refine gO ?_;refine ⟨fun hlt=>?_,fun hge=>?_⟩;rotate_left;have hil:i=(l).length:=by simp at hge;omega
   rotate_left;obtain⟨b,hb⟩:∃ b,(l)[i]?=some b:=⟨_,gE (by simp at hlt;omega)⟩;have hbm:=mG hb;have hlt2:i<(l).length:=by simp at hlt;omega
   refine Aq 6 [([],[1]),([],[7]),([],[19,20]),([],[21]),([],[3]),([],[23])] fol ?_;simp(disch:=omega)only[go_sem,gm,hb]
   ·refine And.intro (fun hh=>?_) (fun hh=>?_)
    ·have hi2:l.findIdx? (fun x=>decide (x=e.atom))=some i:=F9 hP b hb (by simpa using hh)
     by_cases hs:i<set.length
     ·have e3:((i:Int)<set.length)=True:=eq_true (by omega);have e4:set[i]?=some (set.getD i false):=by rw[gE hs];simp[List.getD,hs]
      have e2:DF l set e.atom=set.getD i false:=by simp[DF,hi2]
      simp(disch:=omega)only[go_sem,e3,gm,e4];refine Ap _ ?_;exact wb (by rw[e2])
     ·have e3:((i:Int)<set.length)=False:=eq_false (by omega);have e2:DF l set e.atom=false:=by simp[DF,hi2,List.getD,hs]
      simp(disch:=omega)only[go_sem,e3,decide_false];refine Ap _ ?_;exact wb (by simp[e2])
    ·refine hJ _ (i+1) ⟨by simp at hlt;omega,(by rw[BU hP hb];simp at hh;simp[hh])⟩ (by simp at hlt;omega) AK
   ·subst hil;rw[take_length]at hP;have hi2:l.findIdx? (fun x=>decide (x=e.atom))=none:=by
     rw[List.findIdx?_eq_none_iff];rw[List.find?_eq_none]at hP;intro x hx;simpa using hP x hx
    have e2:DF l set e.atom=false:=by simp[DF,hi2]
    refine Ap _ ?_;exact wb (by rw[e2])
  ·rw[if_neg hk]at hp;have hb:¬ (e.k<1∨(e.kids.length:Int)<e.k∨e.atom≠a0):=by
    intro hb;rw[if_pos hb]at hp;simp at hp
   rw[if_neg hb]at hp;have hkid:=Sa _ _ hp;have e1:(e.k==0)=false:=by simp;omega
   have ev:En (DF l set) e=decide (e.k≤Cu (DF l set) e.kids):=by rw[I3,if_neg hk]
   have hbd:=NC (DF l set);rw[ev];simp(disch:=omega)only[go_sem,e1];refine Aa (α:=Nat) (fun i=>⟨[(9,I i),(8,I (Cu (DF l set) (e.kids.take i))),(1,Bn l),(2,It set),(3,.ptr 192 0)],[(192,e.c)]⟩) (fun i=>i≤(e.kids).length∧True) (fun i=>(e.kids).length-i) 0 ⟨by omega,trivial⟩ ?_ ?_
   ·refine Imp.weak ?_ ?_
    all_goals(try simp(disch:=omega)only[go_sem])
    all_goals(try(repeat'(with_reducible apply And.intro)))
    all_goals(first|exact .AA (by omega)|exact .Az (by omega)|exact .sl (by simp[Cu])|exact .int (by simp[Cu])|exact .eq (by simp[Cu]))
   rintro i ⟨hi,hP⟩ J hJ;refine gO ?_;refine ⟨fun hlt=>?_,fun hge=>?_⟩;rotate_left;have hil:i=(e.kids).length:=by simp at hge;omega
   rotate_left;obtain⟨b,hb⟩:∃ b,(e.kids)[i]?=some b:=⟨_,gE (by simp at hlt;omega)⟩;have hbm:=mG hb;have hlt2:i<(e.kids).length:=by simp at hlt;omega
   simp(disch:=omega)only[go_sem,gm,hb]
   ·obtain⟨la',hla⟩:=hkid b hbm;have hsz:=DY hbm;have hct:=Ku (DF l set) e.kids i b hb;have hb1:=hbd (e.kids.take i);simp only[List.length_take]at hb1;refine Ab (f151_ok l set hl N b (by omega) la' hla) ?_;cases hev:En (DF l set) b
    ·rw[hev]at hct;refine gO ?_;refine hJ _ (i+1) ⟨by simp at hlt;omega,trivial⟩ (by simp at hlt;omega) (Imp.weak ?_ gI);simp(disch:=omega)only[go_sem,hct];exact .int (by simp)
    ·rw[hev]at hct;refine gO ?_;refine hJ _ (i+1) ⟨by simp at hlt;omega,trivial⟩ (by simp at hlt;omega) (Imp.weak ?_ gI);simp(disch:=omega)only[go_sem,hct]
   ·subst hil;simp(disch:=omega)only[go_sem,take_length];exact AH _
theorem UW:∀ (es:List Expr) (l:List Atom),(∀ e∈es,∀ l,(prop e l).1=true→(prop e l).2≠[])→(BW es l).1=true→es≠[]∨l≠[]→(BW es l).2≠[]
 |[],l,_,_,h=>by simpa [BW]using h
 | e::es,l,hk,hp,_=>by
  simp only[BW]at hp ⊢;split at hp
  ·rename_i h1;rw[if_pos h1];exact UW es _ (fun e' he=>hk e' (by simp[he])) hp (.inr (hk e (by simp) l h1))
  ·simp at hp
theorem W6:∀ (N:Nat) (e:Expr),SizeOf.sizeOf e<N→∀ l,(prop e l).1=true→(prop e l).2≠[]
 | 0,_,h,_,_=>by omega
 | N+1,e,h,l,hp=>by
  rw[DD]at hp ⊢
  by_cases h0:e.kids.length=0
  ·rw[if_pos h0]at hp ⊢
   by_cases h1:e.k=0∧JC e.atom=true
   ·rw[if_pos h1]at hp ⊢;simp only at hp ⊢;rw[W1 hp];unfold DU;split
    ·rename_i hm;exact fun h=>by rw[h]at hm;simp at hm
    ·simp
   ·rw[if_neg h1]at hp;simp at hp
  ·rw[if_neg h0]at hp ⊢;split at hp
   ·simp at hp
   ·rename_i h1;rw[if_neg h1];exact UW _ _ (fun e' he l'=>W6 N e' (by have:=DY he;omega) l') hp (.inl fun h=>h0 (by rw[h];rfl))
theorem f160_ok(e:Expr)(set:List Bool)(he:A5 e=true):Ac C0 160 [.agg e.c,It set] [] (B (EI e set)) []:=by
 have hl:=CS e;have hne:(Ad e).length≠0:=by
  have hp:=E1 he;have h1:=W6 _ e (Nat.lt_succ_self _) [] hp;have hc:=Ig _ e (Nat.lt_succ_self _) [] hp;have ha:Ad e=(prop e []).2:=by unfold Ad;rw[if_pos he,hc]
  rw[ha];simpa using h1
 refine Ac.go f160 ?_;unfold f160;refine gO ?_;refine Ab (f150_ok e) ?_;simp(disch:=omega)only[go_sem,he];refine Ab (f151_ok (Ad e) set (by omega) _ e (Nat.lt_succ_self _) [] (E1 he)) ?_;refine gO ?_;refine Ap _ ?_;exact wb (by simp[EI,hne])
end Go.Rd
namespace Go.Abs
def sel(m:Nat):List (Nat × Nat × AV)→List (Nat × AV)
 |[]=>[]
 |(w,t,x)::l=>if m / w%2=1 then (t,x)::sel m l else sel m l
def PO(X:Env)(ops:Array Oper)(S:Nat→St)(m:Nat):List (Nat × Nat)→Prop
 |[]=>True
 |(i,m')::l=>AW X ops (Mp ops i) (fun st'=>Imp X st' (S m')) (S m)∧PO X ops S m l
def SO(X:Env)(ops:Array Oper)(S:Nat→St):List (Nat × List (Nat × Nat))→Prop
 |[]=>True
 |(m,l)::t=>PO X ops S m l∧SO X ops S t
def okD(ops:Array Oper)(full:Nat)(tab:List (Nat × List (Nat × Nat))):Bool :=
 (tab.any fun p=>p.1==0)&&((List.range ops.size).all fun i=>full.testBit i)&&tab.all fun p =>
  (p.1==full||(List.range ops.size).any (fun i=>!p.1.testBit i&&(Bd ops i).all fun e=>p.1.testBit e)) &&
  ((List.range ops.size).all fun i=>p.1.testBit i||!((Bd ops i).all fun e=>p.1.testBit e)||p.2.any (fun q=>q.1==i)) &&
  p.2.all fun q=>q.2==(p.1 ||| 2 ^ q.1)&&tab.any (fun p'=>p'.1==q.2)
section
variable {X:Env} {A:A0} {N:Nat} {ops:Array Oper}
theorem T0{S:Nat→St}{m:Nat}{q:Nat × Nat}:∀ {l:List (Nat × Nat)},PO X ops S m l→q∈l→AW X ops (Mp ops q.1) (fun st'=>Imp X st' (S q.2)) (S m)
 |[],_,h=>by cases h
 |(i,m')::l,h,hm=>by
  simp only[PO]at h;rcases List.mem_cons.1 hm with rfl|hm
  ·exact h.1
  ·exact T0 h.2 hm
theorem T3{S:Nat→St}{p:Nat × List (Nat × Nat)}:∀ {tab:List (Nat × List (Nat × Nat))},SO X ops S tab→p∈tab→PO X ops S p.1 p.2
 |[],_,h=>by cases h
 |(i,m')::l,h,hm=>by
  simp only[SO]at h;rcases List.mem_cons.1 hm with rfl|hm
  ·exact h.1
  ·exact T3 h.2 hm
theorem XE(hA:A.ext=X.ext)(hX:∀ s∈X.ext,s%64=63)(hN:Xi N ops){Q:Exit→Act→World→Prop}{K:St→Prop}(hQ:∀ g st a w,R X.C A N g st a w→K st→Q .normal a w)
 {full:Nat} {tab:List (Nat × List (Nat × Nat))} {S:Nat→St} (hok:okD ops full tab=true) (hs:SO X ops S tab) (he:K (S full)) :
 ∀ (fuel:Nat) (m:Nat) (l:List (Nat × Nat)) (listed:Array Bool) (g:Gh) (a:Act) (w:World),listed.size=ops.size→unl listed≤fuel→(∀ j,j<ops.size→dOf listed j=m.testBit j)→(m,l)∈tab→R X.C A N g (S m) a w →
  wpAny X.C.P .any ops Q fuel listed a w:=by
 have hok':=hok;simp only[okD,Bool.and_eq_true,List.all_eq_true,List.mem_range]at hok';obtain⟨⟨_,hfull⟩,htab⟩:=hok';intro fuel
 induction fuel with
 | zero =>
  intro m l listed g a w hsz hu hd hm hR;obtain⟨⟨h1,h2⟩,h3⟩:=htab (m,l) hm;simp only[Bool.or_eq_true,beq_iff_eq,List.any_eq_true,List.mem_range,Bool.and_eq_true]at h1;rcases h1 with rfl|⟨i,hi,hi1,hi2⟩
  ·refine⟨?_,hQ g _ a w hR he⟩;cases hrd:Region.ready .any ops listed with
   | nil=>rfl
   | cons j l' =>
    have hj:j∈Region.ready .any ops listed:=by rw[hrd];simp
    have:=(Bg hsz).1 hj;rw[hd j this.1,hfull j this.1]at this;simp at this
  ·have hmem:i∈Region.ready .any ops listed:=(Bg hsz).2 ⟨hi,by rw[hd i hi];simpa using hi1,fun e hee=>by
    have h4:=List.all_eq_true.1 hi2 e hee;have hlt:=MK hN e hee hi;rw[hd e hlt];exact h4⟩
   obtain⟨k1,k2,_⟩:=(Bg hsz).1 hmem;rw[Hg (by omega) (by omega:i<listed.size)]at k2;cases k2
 | succ fuel ih =>
  intro m l listed g a w hsz hu hd hm hR;obtain⟨⟨h1,h2⟩,h3⟩:=htab (m,l) hm;simp only[Bool.or_eq_true,beq_iff_eq,List.any_eq_true,List.mem_range,Bool.and_eq_true]at h1;refine⟨fun h0=>?_,fun j hj=>?_⟩
  ·rcases h1 with rfl|⟨i,hi,hi1,hi2⟩
   ·exact hQ g _ a w hR he
   ·have hmem:i∈Region.ready .any ops listed:=(Bg hsz).2 ⟨hi,by rw[hd i hi];simpa using hi1,fun e hee=>by
     have h4:=List.all_eq_true.1 hi2 e hee;have hlt:=MK hN e hee hi;rw[hd e hlt];exact h4⟩
    rw[h0]at hmem;cases hmem
  ·obtain⟨k1,k2,k3⟩:=(Bg hsz).1 hj;have hnb:m.testBit j=false:=by rw[← hd j k1];exact k2
   have h4:=h2 j k1;have he':(Bd ops j).all (fun e=>m.testBit e)=true:=List.all_eq_true.2 fun e hee=>by
    have h5:=k3 e hee;have hlt:=MK hN e hee k1;rw[hd e hlt]at h5;exact h5
   simp only[hnb,he',Bool.not_true,Bool.or_false,Bool.false_or,List.any_eq_true,beq_iff_eq]at h4;obtain⟨q,hq,rfl⟩:=h4;have h5:=h3 q hq;simp only[beq_iff_eq,List.any_eq_true]at h5;obtain⟨h6,p',hp',h7⟩:=h5;have ho:ops[q.1]?=some ops[q.1]:=Array.getElem?_eq_getElem k1;have hop:=T0 (T3 hs hm) hq;simp only[Mp,ho,AW]at hop;refine M9 hA hX ho (fun g' st' a' w' hR' hK'=>?_) (hN.1 _ (Array.getElem_mem k1)) hop hR;obtain⟨g2,hR2⟩:=hK' A N g' a' w' hA hR';refine ih q.2 p'.2 _ g2 a' w' (by simp[hsz]) (by have:=HB (by omega:q.1<listed.size) k2;omega) (fun j' hj'=>?_) (by rw[← h7];exact hp') hR2;rw[D9 (by omega)];simp only[Hk];rw[h6,Nat.testBit_or,Nat.testBit_two_pow]
   by_cases hjj:j'=q.1
   ·subst hjj;simp
   ·simp[hjj,Ne.symm hjj,hd j' hj']
end
theorem YW{X:Env}{ops:Array Oper}{K:St→Prop}{st:St}(full:Nat)(tab:List (Nat × List (Nat × Nat)))(S:Nat→St)(hm:X.C.P.follows .mixedOrders=true)(hok:(Lj ops&&okD ops full tab)=true)
 (h0:Imp X st (S 0)) (hs:SO X ops S tab) (he:K (S full)):Kx X ops K st:=by
 refine DW h0 ?_;intro A N g a w hA hN hX hR id Q hQ;simp only[Bool.and_eq_true]at hok;refine wp_region_any hm ?_;have h0:∃ l,(0,l)∈tab:=by
  have:=hok.2;simp only[okD,Bool.and_eq_true,List.any_eq_true,beq_iff_eq]at this;obtain⟨⟨⟨p,hp,h⟩,_⟩,_⟩:=this;exact⟨p.2,by rw[← h];exact hp⟩
 obtain⟨l,hl⟩:=h0;refine XE hA hX (N:=N) (K:=K) ⟨fun o ho=>?_,fun i hi e he=>?_⟩ hQ hok.2 hs he ops.size 0 l (Array.replicate ops.size false) g a _ (by simp) (by simp[unl]) (fun j hj=>by simp[dOf,Array.getD,hj]) hl hR.drew
 ·unfold Iq;cases hd:o.dst with
  |none=>rfl
  |some d=>simp;exact hN o ho d hd
 ·have:=hok.1;simp only[Lj,List.all_eq_true,List.mem_range,decide_eq_true_eq]at this;exact this i hi e he
@[go_sem] theorem eF(X:Env)(ops:Array Oper)(S:Nat→St)(m:Nat):PO X ops S m []=True:=rfl
@[go_sem] theorem dE(X:Env)(ops:Array Oper)(S:Nat→St)(m i m':Nat)(l:List (Nat × Nat)):PO X ops S m ((i,m')::l)=(AW X ops (Mp ops i) (fun st'=>Imp X st' (S m')) (S m)∧PO X ops S m l):=rfl
@[go_sem] theorem eG(X:Env)(ops:Array Oper)(S:Nat→St):SO X ops S []=True:=rfl
@[go_sem] theorem dF(X:Env)(ops:Array Oper)(S:Nat→St)(m:Nat)(l:List (Nat × Nat))(t:List (Nat × List (Nat × Nat))):SO X ops S ((m,l)::t)=(PO X ops S m l∧SO X ops S t):=rfl
@[go_sem] theorem gw(m:Nat):sel m []=[]:=rfl
@[go_sem] theorem fH(m w t:Nat)(x:AV)(l:List (Nat × Nat × AV)):sel m ((w,t,x)::l)=if m / w%2=1 then (t,x)::sel m l else sel m l:=rfl
end Go.Abs
namespace Go.Abs
def T2(X:Env)(ops:Array Oper)(S:Nat→St)(m:Nat):List (Nat × Nat × Nat)→Prop
 |[]=>True
 |(i,w,d)::l=>(if m / w%2=0∧d &&& m=d then AW X ops (Mp ops i) (fun st'=>Imp X st' (S (m+w))) (S m) else True)∧T2 X ops S m l
def XD(X:Env)(ops:Array Oper)(S:Nat→St)(E:List (Nat × Nat × Nat)):List Nat→Prop
 |[]=>True
 | m::t=>T2 X ops S m E∧XD X ops S E t
def Tc(E:List (Nat × Nat × Nat))(m:Nat):List (Nat × Nat):=(E.filter fun e=>decide (m / e.2.1%2=0∧e.2.2 &&& m=e.2.2)).map fun e=>(e.1,m+e.2.1)
def Z7(E:List (Nat × Nat × Nat))(ms:List Nat):List (Nat × List (Nat × Nat)):=ms.map fun m=>(m,Tc E m)
section
variable {X:Env} {ops:Array Oper} {S:Nat→St}
theorem YR{m:Nat}:∀ {E:List (Nat × Nat × Nat)},T2 X ops S m E→PO X ops S m (Tc E m)
 |[],_=>trivial
 |(i,w,d)::l,h=>by
  simp only[T2]at h;have ih:=YR h.2;unfold Tc at ih ⊢;simp only[List.filter_cons]
  by_cases hc:m / w%2=0∧d &&& m=d
  ·rw[if_pos hc]at h;simp only[hc,and_self,decide_true,if_true,List.map_cons,PO];exact⟨h.1,ih⟩
  ·simp only[hc,decide_false,Bool.false_eq_true,if_false];exact ih
theorem YS{E:List (Nat × Nat × Nat)}:∀ {ms:List Nat},XD X ops S E ms→SO X ops S (Z7 E ms)
 |[],_=>trivial
 | m::t,h=>⟨YR h.1,YS h.2⟩
theorem Dt{K:St→Prop}{st:St}(full:Nat)(E:List (Nat × Nat × Nat))(ms:List Nat)(S:Nat→St)(h0:Imp X st (S 0))(hs:XD X ops S E ms)(he:K (S full))(hm:X.C.P.follows .mixedOrders=true)
 (hok:(Lj ops&&okD ops full (Z7 E ms))=true:=by kernel_rfl):Kx X ops K st:=YW full (Z7 E ms) S hm hok h0 (YS hs) he
end
theorem Dr(X:Env)(ops:Array Oper)(S:Nat→St)(m i w d:Nat)(l:List (Nat × Nat × Nat)):T2 X ops S m ((i,w,d)::l)=((if m / w%2=0∧d &&& m=d then AW X ops (Mp ops i) (fun st'=>Imp X st' (S (m+w))) (S m) else True)∧T2 X ops S m l):=nd rfl
theorem Ds(X:Env)(ops:Array Oper)(S:Nat→St)(E:List (Nat × Nat × Nat))(m:Nat)(t:List Nat):XD X ops S E (m::t)=(T2 X ops S m E∧XD X ops S E t):=nd rfl
theorem Ej(X:Env)(ops:Array Oper)(S:Nat→St)(m:Nat):T2 X ops S m []=True:=nd rfl
theorem Ek(X:Env)(ops:Array Oper)(S:Nat→St)(E:List (Nat × Nat × Nat)):XD X ops S E []=True:=nd rfl
end Go.Abs
