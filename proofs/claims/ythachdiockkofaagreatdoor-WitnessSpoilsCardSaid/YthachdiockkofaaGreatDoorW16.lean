/- part 16 of the proof -/
import Derived.Test.YthachdiockkofaaGreatDoorW15
set_option linter.all false
open Go Go.Abs Go.Proofs
set_option maxRecDepth 100000
namespace Go.Rd
set_option maxHeartbeats 8000000
open List (length_map map_set mem_append mem_cons take_add_one take_length)
open Tryz
theorem aT(l:List Ae)(hl:l.length≤1000000):Ad C0 76 [Ax l] [] (KY 0 (J8 l)) []:=by
 refine Ad.go f76 ?_;unfold f76;refine gO ?_;refine Ab (α:=Nat × List Ae) (fun x=>⟨[(4,I x.1),(3,.sl (.own 1728 0) 3 (x.2.map Ae.c)),(0,Ax l)],[]⟩) (fun x=>x.1≤l.length∧x.2.length≤x.1∧H9 x.2∧∀ p,p∈x.2↔p∈l.take x.1) (fun x=>l.length-x.1) (0,[]) ⟨by simp,by simp,by simp[H9],by simp⟩ ?_ ?_
 ·refine Imp.Am ?_ ?_
  ·simp(disch:=omega)only[go_sem,List.map_nil]
  ·exact gI
 rintro⟨i,out⟩ ⟨hi,hol,hasc,hmem⟩ J hJ
 replace hi:i≤l.length:=hi
 replace hol:out.length≤i:=hol
 replace hasc:H9 out:=hasc
 replace hmem:∀ p,p∈out↔p∈l.take i:=hmem
 refine gO ?_;refine ⟨fun hlt=>?_,fun hge=>?_⟩
 ·have hlt':i<l.length:=by simp at hlt;omega
  obtain⟨p,hp⟩:∃ p,l[i]?=some p:=⟨_,gE hlt'⟩;have ht:=G3 hp;simp(disch:=omega)only[go_sem,gm,hp];refine C2 [1728] (f29_ok out p (by omega)) gI rfl trivial ?_;cases hh:Be out p;rotate_left
  ·have hin:p∈out:=by simpa [Be]using hh
   refine gO ?_;refine hJ _ (i+1,out) ⟨by simp;omega,by simp;omega,hasc,fun x=>?_⟩ (by simp;omega) AR;rw[ht,mem_append,← hmem x];simp only[List.mem_singleton];exact⟨.inl,fun h=>h.elim id fun e=>by rw[e];exact hin⟩
  have hnin:p∉out:=by simpa [Be]using hh
  have hbd:out.length+1≤4294967296:=by omega
  simp(disch:=omega)only[go_sem,gm,hp];refine Ab (α:=Nat) (fun k=>⟨[(5,I k),(4,I i),(3,.sl (.own 1728 0) 3 ((F4 out k p).map Ae.c)),(0,Ax l)],[]⟩) (fun k=>k≤out.length∧∀ x∈out.drop k,Bo p x<0) (fun k=>k) out.length ⟨by omega,by simp⟩ ?_ ?_
  ·refine Imp.Am ?_ ?_
   ·simp(disch:=omega)only[go_sem];exact .sl (by simp[F4,Ae.c])
   ·exact gI
  rintro k ⟨hk,hgt⟩ J2 hJ2;have stop:(∀ x∈out.take k,Bo x p<0)→∀ st',Imp ⟨C0,[],[]⟩ st' ⟨[(4,I (i+1:Nat)),(3,.sl (.own 1728 0) 3 ((F4 out k p).map Ae.c)),(0,Ax l)],[]⟩→J st':=fun hlt2 st' him=>by
   refine hJ st' (i+1,F4 out k p) ⟨by simp;omega,by simp[Ng out k p hk];omega,?_,fun x=>?_⟩ (by simp;omega) him
   ·have h0:=hasc;unfold H9 at h0 ⊢;rw[← List.take_append_drop k out]at h0;rw[List.pairwise_append]at h0;show (F4 out k p).Pairwise _;unfold F4;rw[List.pairwise_append];refine⟨h0.1,List.pairwise_cons.2 ⟨hgt,h0.2.1⟩,fun a ha b hb=>?_⟩;rcases mem_cons.1 hb with e|e
    ·rw[e];exact hlt2 a ha
    ·exact h0.2.2 a ha b e
   ·show x∈F4 out k p↔x∈l.take (i+1);rw[UM,ht,mem_append,← hmem x];simp
  refine Aq 12 [([],[5]),([],[28]),([],[29]),([],[3,30]),([],[5,30]),([],[32,30]),([],[31,33,30]),([],[34,30]),([],[3,30]),([],[5,30]),([],[36,37,30]),([],[38,30])] fol ?_;cases k with
  | zero =>
   have e0:(0<((0:Nat):Int))=False:=by simp
   simp(disch:=omega)only[go_sem,e0,decide_false];exact stop (by simp) _ AR
  | succ k =>
   have e0:(0<(((k+1:Nat)):Int))=True:=eq_true (by omega);have e1:(0<(k:Int)+1)=True:=eq_true (by omega);have e2:((k:Int)+1-1)=(k:Int):=by omega
   obtain⟨x,hx⟩:∃ x,out[k]?=some x:=⟨_,gE (by omega)⟩;have g1:=UL out (k+1) p hk;have g2:=Se out k p hk;rw[hx]at g2;have hml:=Ng out (k+1) p hk;have z1:k<(F4 out (k+1) p).length:=by omega
   have z2:k+1<(F4 out (k+1) p).length:=by omega
   simp(disch:=omega)only[go_sem,e0,e1,e2,gm,g1,g2,length_map,hml];refine Ac (f107_ok x p) ?_;refine gO ?_
   by_cases hc:0<Bo x p
   ·have e3:(0<Bo x p)=True:=eq_true hc;have e4:(k=k+1)=False:=eq_false (by omega);simp(disch:=omega)only[go_sem,e2,e3,gm,g1,g2,length_map,hml,List.length_set,List.getElem?_set,e4];refine hJ2 _ k ⟨by omega,fun y hy=>?_⟩ (by omega) (Imp.Am ?_ gI)
    ·rw[List.drop_eq_getElem_cons (by omega),get_eq hx]at hy;rcases mem_cons.1 hy with e|e
     ·subst e;have:=C3 y p;omega
     ·exact hgt y e
    ·simp(disch:=omega)only[go_sem];refine .sl ?_;rw[← Sf hx,map_set,map_set];rfl
   ·have e3:(0<Bo x p)=False:=eq_false hc;simp(disch:=omega)only[go_sem,e3,decide_false];refine stop (fun y hy=>?_) _ AR;have hxm:x∈out:=mG hx;have hxp:Bo x p<0:=by
     have:Bo x p≠0:=fun e=>hnin (by rw[← FX e];exact hxm)
     omega
    rw[G3 hx]at hy;rcases mem_append.1 hy with e|e
    ·have h0:=hasc;unfold H9 at h0;rw[← List.take_append_drop k out,List.pairwise_append]at h0;have hd:out.drop k=x::out.drop (k+1):=by rw[List.drop_eq_getElem_cons (by omega),get_eq hx]
     exact Dt (h0.2.2 y e x (by rw[hd];simp)) hxp
    ·rw[List.mem_singleton.1 e];exact hxp
 ·have hil:i=l.length:=by simp at hge;omega
  subst hil;rw[take_length]at hmem;have e:out=J8 l:=MF hasc (EC l) fun x=>by rw[hmem,HH]
  refine Cf ⟨[(1728,0)],[],[]⟩ _ ?_;simp(disch:=omega)only[go_sem,e]
theorem f75_ok(l:List Queue)(h1:l.length≤100)(h2:∀ q∈l,BC q≤100):Ad C0 75 [Ay l] [] (KY 0 (AN l)) []:=by
 refine Ad.go f75 ?_;unfold f75;refine gO ?_;refine Ab (α:=Nat) (fun i=>⟨[(4,I i),(0,Ay l),(3,.sl (.own 1088 0) 3 (((l.take i).flatMap Br).map Ae.c))],[]⟩) (fun i=>i≤(l).length∧True) (fun i=>(l).length-i) 0 ⟨by omega,trivial⟩ ?_ ?_
 ·exact BB
 rintro i ⟨hi,hP⟩ J hJ;refine gO ?_;refine ⟨fun hlt=>?_,fun hge=>?_⟩;rotate_left;have hil:i=(l).length:=by simp at hge;omega
 rotate_left;obtain⟨b,hb⟩:∃ b,(l)[i]?=some b:=⟨_,gE (by simp at hlt;omega)⟩;have hbm:=mG hb;have hlt2:i<(l).length:=by simp at hlt;omega
 simp(disch:=omega)only[go_sem,gm,hb]
 ·have hfl:=KE (l:=l.take i) fun q hq=>h2 q (List.mem_of_mem_take hq)
  have hq:=H5 b;have hb2:=h2 b hbm;have hbd:((l.take i).flatMap Br).length+(Br b).length≤4294967296:=by simp only[List.length_take]at hfl;omega
  refine Ac (f134_ok b (by omega)) ?_;refine gO ?_;refine hJ _ (i+1) ⟨by simp at hlt;omega,trivial⟩ (by simp at hlt;omega) (Imp.Am ?_ ?_)
  all_goals(try simp(disch:=omega)only[go_sem])
  all_goals(try(repeat'(with_reducible apply And.intro)))
  all_goals(first|exact .AG (by omega)|exact .Az (by omega)|exact .sl (by simp[take_add_one,hb])|exact .int (by simp[take_add_one,hb])|exact .eq (by simp[take_add_one,hb]))
 ·subst hil;have hfl:=KE h2;refine PS [1088] ⟨⟨[],[],[]⟩,[(0,1216)],[]⟩ (aT (l.flatMap Br) (by omega)) (by simp(disch:=omega)only[go_sem,take_length]) rfl trivial (.inl rfl) ?_;refine gO ?_;refine Cf ⟨[(1216,0)],[],[]⟩ _ ?_;simp(disch:=omega)only[go_sem,AN]
theorem f34_ok(s:WS)(h:Few s):Ad C0 34 [.agg s.c] [] (Ax (Ah s)) []:=by
 have hq:=KZ h.aq;have h1:=h.nq;have h2:=h.nn;have hbd:(AN s.Aa).length≤4294967296:=by omega
 refine Ad.go f34 ?_;unfold f34;refine gO ?_;refine Bn ⟨⟨[],[],[]⟩,[(0,448)],[]⟩ (f75_ok s.Aa h.nq h.aq) gI rfl trivial (.inl rfl) ?_;refine gO ?_;refine Ab (α:=Nat) (fun i=>⟨[(4,I i),(1,.ptr 64 0),(3,.sl (.own 1472 0) 3 ((AN s.Aa++Cp (s.Ao.take i)).map Ae.c))],[(64,s.c)]⟩) (fun i=>i≤(s.Ao).length∧True) (fun i=>(s.Ao).length-i) 0 ⟨by omega,trivial⟩ ?_ ?_
 ·refine Imp.ren ⟨[(448,1472)],[(64,64)],[]⟩ ⟨rfl,rfl⟩ (by simp[lk]) ?_ ?_
  all_goals(try simp(disch:=omega)only[go_sem])
  all_goals(try(repeat'(with_reducible apply And.intro)))
  all_goals(first|exact .AG (by omega)|exact .Az (by omega)|exact .sl (by simp[Cp])|exact .int (by simp[Cp])|exact .eq (by simp[Cp]))
 rintro i ⟨hi,hP⟩ J hJ;refine gO ?_;refine ⟨fun hlt=>?_,fun hge=>?_⟩;rotate_left;have hil:i=(s.Ao).length:=by simp at hge;omega
 rotate_left;obtain⟨b,hb⟩:∃ b,(s.Ao)[i]?=some b:=⟨_,gE (by simp at hlt;omega)⟩;have hbm:=mG hb;have hlt2:i<(s.Ao).length:=by simp at hlt;omega
 simp(disch:=omega)only[go_sem,gm,hb]
 ·have hbd2:(AN s.Aa).length+(Cp (s.Ao.take i)).length+1≤4294967296:=by simp[Cp];omega
  simp(disch:=omega)only[go_sem,Cp];refine hJ _ (i+1) ⟨by simp at hlt;omega,trivial⟩ (by simp at hlt;omega) (Imp.Am ?_ ?_)
  all_goals(try simp(disch:=omega)only[go_sem])
  all_goals(try(repeat'(with_reducible apply And.intro)))
  all_goals(first|exact .AG (by omega)|exact .Az (by omega)|exact .sl (by simp[Cp,take_add_one,hb,Ae.c])|exact .int (by simp[Cp,take_add_one,hb,Ae.c])|exact .eq (by simp[Cp,take_add_one,hb,Ae.c]))
 ·subst hil;refine FW [1472] (f76_ok (AN s.Aa++Cp s.Ao) (by simp[Cp];omega)) (by simp(disch:=omega)only[go_sem,take_length]) rfl ?_;refine gO ?_;refine B8 _ ?_;simp(disch:=omega)only[go_sem,Ah]
theorem f97_ok(l:List Queue)(name:Bs)(hl:l.length≤1000000):Ad C0 97 [Ay l,.v (.string (str name))] [] (I (match l.findIdx? (fun q=>q.res.name==name) with|some i=>i|none=>-1)) []:=by
 refine Ad.go f97 ?_;unfold f97;refine gO ?_;refine Ab (α:=Nat) (fun i=>⟨[(5,I i),(0,Ay l),(1,.v (.string (str name)))],[]⟩) (fun i=>i≤(l).length∧(l.take i).find? (fun q=>q.res.name==name)=none) (fun i=>(l).length-i) 0 ⟨by omega,rfl⟩ ?_ ?_
 ·exact BB
 rintro i ⟨hi,hP⟩ J hJ;refine gO ?_;refine ⟨fun hlt=>?_,fun hge=>?_⟩;rotate_left;have hil:i=(l).length:=by simp at hge;omega
 rotate_left;obtain⟨b,hb⟩:∃ b,(l)[i]?=some b:=⟨_,gE (by simp at hlt;omega)⟩;have hbm:=mG hb;have hlt2:i<(l).length:=by simp at hlt;omega
 simp(disch:=omega)only[go_sem,gm,hb]
 ·refine⟨fun h=>?_,fun h=>?_⟩
  ·have e:=FA hP b hb (by simpa using h);simp(disch:=omega)only[go_sem,e];exact AE _
  ·refine hJ _ (i+1) ⟨by simp at hlt;omega,(by rw[BS hP hb];simp at h;simp[h])⟩ (by simp at hlt;omega) AR
 ·subst hil;rw[take_length]at hP;have e:l.findIdx? (fun q=>q.res.name==name)=none:=by
   rw[List.findIdx?_eq_none_iff];rw[List.find?_eq_none]at hP;intro x hx;simpa using hP x hx
  simp(disch:=omega)only[go_sem,e];exact AE _
def CC(l:List Queue)(p:Ae)(name:Bs):Bool:=match l.find? (fun q=>q.res.name==name) with
 |some q=>(As q p).isSome
 |none=>false
theorem f92_ok(s:WS)(p:Ae)(h:Few s):Ad C0 92 [.agg s.c,.agg p.c] [] (.tup [.agg ((s.Ao.find? fun n=>decide (n.proc=p)).getD n0).c,B (s.Ao.find? fun n=>decide (n.proc=p)).isSome]) []:=by
 have hn:=h.nn;refine Ad.go f92 ?_;unfold f92;refine gO ?_;refine Ab (α:=Nat) (fun i=>⟨[(6,I i),(2,.ptr 128 0),(3,.ptr 192 0),(4,.ptr 256 0)],[(128,s.c),(192,p.c),(256,n0.c)]⟩) (fun i=>i≤(s.Ao).length∧(s.Ao.take i).find? (fun n=>decide (n.proc=p))=none) (fun i=>(s.Ao).length-i) 0 ⟨by omega,rfl⟩ ?_ ?_
 ·refine Imp.Am ?_ ?_
  all_goals(try simp(disch:=omega)only[go_sem,n0,Expr.By,Expr.k,Expr.atom,Expr.kids,a0,p0])
  all_goals(try(repeat'(with_reducible apply And.intro)))
  all_goals(first|exact .AG (by omega)|exact .Az (by omega)|exact .sl (by simp[n0])|exact .int (by simp[n0])|exact .eq (by simp[n0]))
 rintro i ⟨hi,hP⟩ J hJ;refine gO ?_;refine ⟨fun hlt=>?_,fun hge=>?_⟩;rotate_left;have hil:i=(s.Ao).length:=by simp at hge;omega
 rotate_left;obtain⟨b,hb⟩:∃ b,(s.Ao)[i]?=some b:=⟨_,gE (by simp at hlt;omega)⟩;have hbm:=mG hb;have hlt2:i<(s.Ao).length:=by simp at hlt;omega
 refine Aq 7 [([],[2]),([],[14]),([],[6]),([],[15,16]),([],[17]),([],[18]),([],[3])] fol ?_;simp(disch:=omega)only[go_sem,gm,hb]
 ·refine⟨fun h=>?_,fun h=>?_⟩
  ·have e:(s.Ao.find? fun n=>decide (n.proc=p))=some b:=GI hP hb (by simpa using h);simp(disch:=omega)only[go_sem,e,gm,hb,Option.isSome_some,Option.getD_some];exact AE _
  ·refine hJ _ (i+1) ⟨by simp at hlt;omega,(by rw[BS hP hb];simp at h;simp[h])⟩ (by simp at hlt;omega) AR
 ·subst hil;rw[take_length]at hP;simp(disch:=omega)only[go_sem,hP,Option.isSome_none,Option.getD_none,n0,Expr.k,Expr.atom,Expr.kids,a0,p0];refine Ap _ ?_;refine .tup (Aj.AM ?_);simp(disch:=omega)only[go_sem]
  repeat'(with_reducible apply And.intro)
  all_goals(first|exact .Az (by omega)|exact .agg (Aj.AM gI))
theorem f104_ok(l:List Queue)(ha:∀ q∈l,BC q≤100):Ad C0 104 [Ay l] [] (B (Ch l)) []:=by
 refine Ad.go f104 ?_;unfold f104
 by_cases hq:8<l.length
 ·have e1:(8<(l.length:Int))=True:=eq_true (by omega);have e:Ch l=false:=by simp[Ch];omega
  simp(disch:=omega)only[go_sem,e1];refine Ap _ ?_;exact wb (by simp[e])
 have e1:(8<(l.length:Int))=False:=eq_false (by omega);simp(disch:=omega)only[go_sem,e1,decide_false];refine Ab (α:=Nat) (fun i=>⟨[(3,I i),(0,Ay l)],[]⟩) (fun i=>i≤(l).length∧B2 (B6 l) (l.take i)=true) (fun i=>(l).length-i) 0 ⟨by omega,rfl⟩ ?_ ?_
 ·exact BB
 rintro i ⟨hi,hP⟩ J hJ;refine gO ?_;refine ⟨fun hlt=>?_,fun hge=>?_⟩;rotate_left;have hil:i=(l).length:=by simp at hge;omega
 rotate_left;obtain⟨b,hb⟩:∃ b,(l)[i]?=some b:=⟨_,gE (by simp at hlt;omega)⟩;have hbm:=mG hb;have hlt2:i<(l).length:=by simp at hlt;omega
 refine Aq 23 [([],[0]),([],[3]),([],[13,14]),([],[15]),([],[16]),([4],[17]),([4],[18]),([4],[3,19]),([4],[20,19]),([4],[21,19]),([4],[0,22]),([4],[3,22]),([4],[24,22]),([4],[23,25,22]),([4],[26,22]),([4],[27,22]),([4],[28,22]),([4],[0,22]),([4],[3,22]),([4],[30,31,22]),([4],[32,22]),([4],[33,22]),([4],[34,22])] fol ?_;simp(disch:=omega)only[go_sem,gm,hb]
 ·have hab:=Bb (ha b hbm);have bad:B6 l i b=false→Ch l=false:=fun h=>by simp only[Ch,Bx hb h,Bool.and_false]
  have good:B6 l i b=true→B2 (B6 l) (l.take (i+1))=true:=fun h=>by rw[B7 hb,hP,h];rfl
  first|(refine Ac (f158_ok b hab.1 hab.2.2) ?_)|(refine Ar (f158_ok b hab.1 hab.2.2) ?_)
  cases hv:valid b
  ·simp(disch:=omega)only[go_sem];refine Ap _ ?_;exact wb (by rw[bad (by simp[B6,hv])])
  by_cases hi0:i=0
  ·subst hi0;refine gO ?_;refine hJ _ 1 ⟨by simp at hlt;omega,good (by simp[B6,hv])⟩ (by simp at hlt;omega) AR
  ·have hi1:(0<(i:Int))=True:=eq_true (by omega);have hi2:((i:Int)-1)=((i-1:Nat):Int):=by omega
   obtain⟨a,ha'⟩:∃ a,l[i-1]?=some a:=⟨_,gE (by simp at hlt;omega)⟩;have had:l.getD (i-1) q0=a:=by simp[List.getD,ha']
   simp(disch:=omega)only[go_sem,hi1,hi2,gm,ha',hb];refine And.intro (fun hh=>?_) (fun hh=>?_)
   ·refine Ap _ ?_;exact wb (by rw[bad (by simp only[B6,had,hv];simp[hi0];simpa [DM]using hh)])
   ·refine hJ _ (i+1) ⟨by simp at hlt;omega,good (by simp only[B6,had,hv];simp[hi0];simpa [DM]using hh)⟩ (by simp at hlt;omega) AR
 subst hil;rw[take_length]at hP;have hqs:Ch l=true:=by simp[Ch,hP];omega
 refine Ap _ ?_;exact wb (by rw[hqs])
theorem f56_ok(s:WS)(h:Few s):Ad C0 56 [.agg s.c] [] (B (AD s)) []:=by
 refine Ad.go f56 ?_;unfold f56;refine gO ?_;refine Ac (f104_ok s.Aa h.aq) ?_;cases hqs:Ch s.Aa
 ·simp(disch:=omega)only[go_sem];refine Ap _ ?_;exact wb (by simp[AD,hqs])
 by_cases hn:8<s.Ao.length
 ·have e2:(8<(s.Ao.length:Int))=True:=eq_true (by omega);have e:AD s=false:=by simp[AD,Fi];omega
  simp(disch:=omega)only[go_sem,e2,decide_true];refine Ap _ ?_;exact wb (by simp[e])
 have e2:(8<(s.Ao.length:Int))=False:=eq_false (by omega);simp(disch:=omega)only[go_sem,e2,decide_false];refine Ab (α:=Nat) (fun i=>⟨[(3,I i),(1,.ptr 64 0)],[(64,s.c)]⟩) (fun i=>i≤(s.Ao).length∧B2 (BZ s.Ao) (s.Ao.take i)=true) (fun i=>(s.Ao).length-i) 0 ⟨by omega,rfl⟩ ?_ ?_
 ·exact BB
 rintro i ⟨hi,hP⟩ J hJ;refine gO ?_;refine ⟨fun hlt=>?_,fun hge=>?_⟩;rotate_left;have hil:i=(s.Ao).length:=by simp at hge;omega
 rotate_left;obtain⟨b,hb⟩:∃ b,(s.Ao)[i]?=some b:=⟨_,gE (by simp at hlt;omega)⟩;have hbm:=mG hb;have hlt2:i<(s.Ao).length:=by simp at hlt;omega
 simp(disch:=omega)only[go_sem,gm,hb]
 ·have bad:BZ s.Ao i b=false→AD s=false:=fun h=>by simp only[AD,Fi,Bx hb h,Bool.and_false,Bool.false_and]
  have good:BZ s.Ao i b=true→B2 (BZ s.Ao) (s.Ao.take (i+1))=true:=fun h=>by rw[B7 hb,hP,h];rfl
  refine Aq 33 [([],[4]),([],[27]),([],[28]),([2],[29]),([2],[30]),([2],[4,31]),([2],[32,31]),([2],[33,31]),([2,7],[34,31]),([2,7],[31,35]),([2,7],[36]),([2,7],[4,37]),([2,7],[38,37]),([2,7],[39,37]),([2,7],[37,40]),([2,7],[41]),([2,7],[4,42]),([2,7],[43,42]),([2,7],[44,42]),([2,7],[42,45]),([2,7],[46]),([2,7],[3,47]),([2,7],[48,47]),([2,7],[49,47]),([2,7],[1,50]),([2,7],[51,50]),([2,7],[3,50]),([2,7],[53,50]),([2,7],[52,54,50]),([2,7],[55,50]),([2,7],[56,50]),([2,7],[4,50]),([2,7],[58,50])] fol ?_;simp(disch:=omega)only[go_sem]
  first|(refine Ac (f105_ok b.proc) ?_)|(refine Ar (f105_ok b.proc) ?_)
  cases hp:b.proc.ok
  ·simp(disch:=omega)only[go_sem];refine Ap _ ?_;exact wb (by rw[bad (by simp[BZ,hp])])
  simp(disch:=omega)only[go_sem]
  first
   |(refine Ai (f106_ok b.expr) (by simp(disch:=omega)only[go_sem,Expr.By]) rfl ?_)
   |(refine Aw ⟨⟨[],[],[]⟩,[],[]⟩ (f106_ok b.expr) (by simp(disch:=omega)only[go_sem,Expr.By]) rfl rfl trivial (.inl rfl) ?_)
  cases he:A4 b.expr
  ·simp(disch:=omega)only[go_sem];refine Ap _ ?_;exact wb (by rw[bad (by simp[BZ,he])])
  by_cases hg1:b.gen<0
  ·have k1:(b.gen<0)=True:=eq_true hg1;simp(disch:=omega)only[go_sem,k1];refine Ap _ ?_;exact wb (by rw[bad (by simp[BZ];omega)])
  have k1:(b.gen<0)=False:=eq_false hg1
  by_cases hg2:1073741824<b.gen
  ·have k2:(1073741824<b.gen)=True:=eq_true hg2;simp(disch:=omega)only[go_sem,k1,k2,decide_false];refine Ap _ ?_;exact wb (by rw[bad (by simp[BZ];omega)])
  have k2:(1073741824<b.gen)=False:=eq_false hg2;have g1:decide (0≤b.gen)=true:=by simp;omega
  have g2:decide (b.gen≤1073741824)=true:=by simp;omega
  by_cases hi0:i=0
  ·subst hi0;simp(disch:=omega)only[go_sem,k1,k2,decide_false];refine hJ _ 1 ⟨by simp at hlt;omega,good (by simp only[BZ,hp,g1,g2,he];rfl)⟩ (by simp at hlt;omega) AR
  ·have hi1:(0<(i:Int))=True:=eq_true (by omega);have hi2:((i:Int)-1)=((i-1:Nat):Int):=by omega
   obtain⟨a,ha'⟩:∃ a,s.Ao[i-1]?=some a:=⟨_,gE (by simp at hlt;omega)⟩;have had:s.Ao.getD (i-1) n0=a:=by simp[List.getD,ha']
   simp(disch:=omega)only[go_sem,k1,k2,decide_false,hi1,hi2,gm,ha',hb]
   first|(refine Ac (f107_ok a.proc b.proc) ?_)|(refine Ar (f107_ok a.proc b.proc) ?_)
   refine gO ?_
   by_cases hc:0≤Bo a.proc b.proc
   ·simp(disch:=omega)only[go_sem,hc];refine Ap _ ?_;exact wb (by rw[bad (by simp only[BZ,had];simp[hi0];omega)])
   ·simp(disch:=omega)only[go_sem,hc,decide_false];refine hJ _ (i+1) ⟨by simp at hlt;omega,good (by simp only[BZ,had,hp,g1,g2,he];simp;omega)⟩ (by simp at hlt;omega) AR
 ·subst hil;rw[take_length]at hP;have hns:Fi s.Ao=true:=by simp[Fi,hP];omega
  refine Ac (f34_ok s h) ?_;refine gO ?_;refine Ap _ ?_;exact wb (by simp only[AD,hqs,hns];simp;omega)
theorem Sn:∀ (es:List Expr) (l:List Atom),(B5 es l).1=true→∀ e∈es,∃ l',(prop e l').1=true
 |[],_,_,_,he=>by simp at he
 | e::es,l,h,e',he=>by
  simp only[B5]at h;split at h
  ·rename_i h1;rcases mem_cons.1 he with rfl|he
   ·exact⟨l,h1⟩
   ·exact Sn es _ h e' he
  ·simp at h
theorem f151_ok(l:List Atom)(set:List Bool)(hl:l.length≤1000000):∀ (N:Nat) (e:Expr),SizeOf.sizeOf e<N→∀ la,(prop e la).1=true →
 Ad C0 151 [.agg e.c,Bv l,GN set] [] (B (DL (DD l set) e)) []
 | 0,_,h,_,_=>by omega
 | N+1,e,h,la,hp=>by
  refine Ad.lens f151 fun hlen=>?_
  simp only[D9,lens,Expr.By,length_map,length_map,and_true,true_and]at hlen;rw[Dz]at hp;refine Ad.go f151 ?_;unfold f151
  by_cases hk:e.kids.length=0
  ·rw[if_pos hk]at hp;have h0:e.k=0:=by
    by_cases h0:e.k=0
    ·exact h0
    ·rw[if_neg (by simp[h0])]at hp;simp at hp
   have e1:(e.k==0)=true:=by simp[h0]
   have ev:DL (DD l set) e=DD l set e.atom:=by rw[HC,if_pos hk]
   rw[ev];simp(disch:=omega)only[go_sem,e1];refine Ab (α:=Nat) (fun i=>⟨[(7,I i),(1,Bv l),(2,GN set),(3,.ptr 192 0)],[(192,e.c)]⟩) (fun i=>i≤(l).length∧(l.take i).find? (fun x=>decide (x=e.atom))=none) (fun i=>(l).length-i) 0 ⟨by omega,rfl⟩ ?_ ?_
   ·exact BB
   rintro i ⟨hi,hP⟩ J hJ;refine gO ?_;refine ⟨fun hlt=>?_,fun hge=>?_⟩;rotate_left;have hil:i=(l).length:=by simp at hge;omega
   rotate_left;obtain⟨b,hb⟩:∃ b,(l)[i]?=some b:=⟨_,gE (by simp at hlt;omega)⟩;have hbm:=mG hb;have hlt2:i<(l).length:=by simp at hlt;omega
   refine Aq 6 [([],[1]),([],[7]),([],[19,20]),([],[21]),([],[3]),([],[23])] fol ?_;simp(disch:=omega)only[go_sem,gm,hb]
   ·refine And.intro (fun hh=>?_) (fun hh=>?_)
    ·have hi2:l.findIdx? (fun x=>decide (x=e.atom))=some i:=FA hP b hb (by simpa using hh)
     by_cases hs:i<set.length
     ·have e3:((i:Int)<set.length)=True:=eq_true (by omega);have e4:set[i]?=some (set.getD i false):=by rw[gE hs];simp[List.getD,hs]
      have e2:DD l set e.atom=set.getD i false:=by simp[DD,hi2]
      simp(disch:=omega)only[go_sem,e3,gm,e4];refine Ap _ ?_;exact wb (by rw[e2])
     ·have e3:((i:Int)<set.length)=False:=eq_false (by omega);have e2:DD l set e.atom=false:=by simp[DD,hi2,List.getD,hs]
      simp(disch:=omega)only[go_sem,e3,decide_false];refine Ap _ ?_;exact wb (by simp[e2])
    ·refine hJ _ (i+1) ⟨by simp at hlt;omega,(by rw[BS hP hb];simp at hh;simp[hh])⟩ (by simp at hlt;omega) AR
   ·subst hil;rw[take_length]at hP;have hi2:l.findIdx? (fun x=>decide (x=e.atom))=none:=by
     rw[List.findIdx?_eq_none_iff];rw[List.find?_eq_none]at hP;intro x hx;simpa using hP x hx
    have e2:DD l set e.atom=false:=by simp[DD,hi2]
    refine Ap _ ?_;exact wb (by rw[e2])
  ·rw[if_neg hk]at hp;have hb:¬ (e.k<1∨(e.kids.length:Int)<e.k∨e.atom≠a0):=by
    intro hb;rw[if_pos hb]at hp;simp at hp
   rw[if_neg hb]at hp;have hkid:=Sn _ _ hp;have e1:(e.k==0)=false:=by simp;omega
   have ev:DL (DD l set) e=decide (e.k≤Ck (DD l set) e.kids):=by rw[HC,if_neg hk]
   have hbd:=NS (DD l set);rw[ev];simp(disch:=omega)only[go_sem,e1];refine Ab (α:=Nat) (fun i=>⟨[(9,I i),(8,I (Ck (DD l set) (e.kids.take i))),(1,Bv l),(2,GN set),(3,.ptr 192 0)],[(192,e.c)]⟩) (fun i=>i≤(e.kids).length∧True) (fun i=>(e.kids).length-i) 0 ⟨by omega,trivial⟩ ?_ ?_
   ·refine Imp.Am ?_ ?_
    all_goals(try simp(disch:=omega)only[go_sem])
    all_goals(try(repeat'(with_reducible apply And.intro)))
    all_goals(first|exact .AG (by omega)|exact .Az (by omega)|exact .sl (by simp[Ck])|exact .int (by simp[Ck])|exact .eq (by simp[Ck]))
   rintro i ⟨hi,hP⟩ J hJ;refine gO ?_;refine ⟨fun hlt=>?_,fun hge=>?_⟩;rotate_left;have hil:i=(e.kids).length:=by simp at hge;omega
   rotate_left;obtain⟨b,hb⟩:∃ b,(e.kids)[i]?=some b:=⟨_,gE (by simp at hlt;omega)⟩;have hbm:=mG hb;have hlt2:i<(e.kids).length:=by simp at hlt;omega
   simp(disch:=omega)only[go_sem,gm,hb]
   ·obtain⟨la',hla⟩:=hkid b hbm;have hsz:=CX hbm;have hct:=Kt (DD l set) e.kids i b hb;have hb1:=hbd (e.kids.take i);simp only[List.length_take]at hb1;refine Ac (f151_ok l set hl N b (by omega) la' hla) ?_;cases hev:DL (DD l set) b
    ·rw[hev]at hct;refine gO ?_;refine hJ _ (i+1) ⟨by simp at hlt;omega,trivial⟩ (by simp at hlt;omega) (Imp.Am ?_ gI);simp(disch:=omega)only[go_sem,hct];exact .int (by simp)
    ·rw[hev]at hct;refine gO ?_;refine hJ _ (i+1) ⟨by simp at hlt;omega,trivial⟩ (by simp at hlt;omega) (Imp.Am ?_ gI);simp(disch:=omega)only[go_sem,hct]
   ·subst hil;simp(disch:=omega)only[go_sem,take_length];exact AE _
theorem U2:∀ (es:List Expr) (l:List Atom),(∀ e∈es,∀ l,(prop e l).1=true→(prop e l).2≠[])→(B5 es l).1=true→es≠[]∨l≠[]→(B5 es l).2≠[]
 |[],l,_,_,h=>by simpa [B5]using h
 | e::es,l,hk,hp,_=>by
  simp only[B5]at hp ⊢;split at hp
  ·rename_i h1;rw[if_pos h1];exact U2 es _ (fun e' he=>hk e' (by simp[he])) hp (.inr (hk e (by simp) l h1))
  ·simp at hp
theorem To:∀ (N:Nat) (e:Expr),SizeOf.sizeOf e<N→∀ l,(prop e l).1=true→(prop e l).2≠[]
 | 0,_,h,_,_=>by omega
 | N+1,e,h,l,hp=>by
  rw[Dz]at hp ⊢
  by_cases h0:e.kids.length=0
  ·rw[if_pos h0]at hp ⊢
   by_cases h1:e.k=0∧Ju e.atom=true
   ·rw[if_pos h1]at hp ⊢;simp only at hp ⊢;rw[W6 hp];unfold Ds;split
    ·rename_i hm;exact fun h=>by rw[h]at hm;simp at hm
    ·simp
   ·rw[if_neg h1]at hp;simp at hp
  ·rw[if_neg h0]at hp ⊢;split at hp
   ·simp at hp
   ·rename_i h1;rw[if_neg h1];exact U2 _ _ (fun e' he l'=>To N e' (by have:=CX he;omega) l') hp (.inl fun h=>h0 (by rw[h];rfl))
theorem f160_ok(e:Expr)(set:List Bool)(he:A4 e=true):Ad C0 160 [.agg e.c,GN set] [] (B (DR e set)) []:=by
 have hl:=Cj e;have hne:(Ag e).length≠0:=by
  have hp:=Eh he;have h1:=To _ e (Nat.lt_succ_self _) [] hp;have hc:=G1 _ e (Nat.lt_succ_self _) [] hp;have ha:Ag e=(prop e []).2:=by unfold Ag;rw[if_pos he,hc]
  rw[ha];simpa using h1
 refine Ad.go f160 ?_;unfold f160;refine gO ?_;refine Ac (f150_ok e) ?_;simp(disch:=omega)only[go_sem,he];refine Ac (f151_ok (Ag e) set (by omega) _ e (Nat.lt_succ_self _) [] (Eh he)) ?_;refine gO ?_;refine Ap _ ?_;exact wb (by simp[DR,hne])
end Go.Rd
namespace Go.Abs
def sel(m:Nat):List (Nat × Nat × AV)→List (Nat × AV)
 |[]=>[]
 |(w,t,x)::l=>if m / w%2=1 then (t,x)::sel m l else sel m l
def P5(X:Env)(ops:Array Oper)(S:Nat→St)(m:Nat):List (Nat × Nat)→Prop
 |[]=>True
 |(i,m')::l=>A9 X ops (Mq ops i) (fun st'=>Imp X st' (S m')) (S m)∧P5 X ops S m l
def S0(X:Env)(ops:Array Oper)(S:Nat→St):List (Nat × List (Nat × Nat))→Prop
 |[]=>True
 |(m,l)::t=>P5 X ops S m l∧S0 X ops S t
def okD(ops:Array Oper)(full:Nat)(tab:List (Nat × List (Nat × Nat))):Bool :=
 (tab.any fun p=>p.1==0)&&((List.range ops.size).all fun i=>full.testBit i)&&tab.all fun p =>
  (p.1==full||(List.range ops.size).any (fun i=>!p.1.testBit i&&(BA ops i).all fun e=>p.1.testBit e)) &&
  ((List.range ops.size).all fun i=>p.1.testBit i||!((BA ops i).all fun e=>p.1.testBit e)||p.2.any (fun q=>q.1==i)) &&
  p.2.all fun q=>q.2==(p.1 ||| 2 ^ q.1)&&tab.any (fun p'=>p'.1==q.2)
section
variable {X:Env} {A:A0} {N:Nat} {ops:Array Oper}
theorem T9{S:Nat→St}{m:Nat}{q:Nat × Nat}:∀ {l:List (Nat × Nat)},P5 X ops S m l→q∈l→A9 X ops (Mq ops q.1) (fun st'=>Imp X st' (S q.2)) (S m)
 |[],_,h=>by cases h
 |(i,m')::l,h,hm=>by
  simp only[P5]at h;rcases List.mem_cons.1 hm with rfl|hm
  ·exact h.1
  ·exact T9 h.2 hm
theorem Ub{S:Nat→St}{p:Nat × List (Nat × Nat)}:∀ {tab:List (Nat × List (Nat × Nat))},S0 X ops S tab→p∈tab→P5 X ops S p.1 p.2
 |[],_,h=>by cases h
 |(i,m')::l,h,hm=>by
  simp only[S0]at h;rcases List.mem_cons.1 hm with rfl|hm
  ·exact h.1
  ·exact Ub h.2 hm
theorem XF(hA:A.ext=X.ext)(hX:∀ s∈X.ext,s%64=63)(hN:Xk N ops){Q:Exit→Act→World→Prop}{K:St→Prop}(hQ:∀ g st a w,R X.C A N g st a w→K st→Q .normal a w)
 {full:Nat} {tab:List (Nat × List (Nat × Nat))} {S:Nat→St} (hok:okD ops full tab=true) (hs:S0 X ops S tab) (he:K (S full)) :
 ∀ (fuel:Nat) (m:Nat) (l:List (Nat × Nat)) (Af:Array Bool) (g:Gh) (a:Act) (w:World),Af.size=ops.size→unl Af≤fuel→(∀ j,j<ops.size→dOf Af j=m.testBit j)→(m,l)∈tab→R X.C A N g (S m) a w →
  wpAny X.C.P .any ops Q fuel Af a w:=by
 have hok':=hok;simp only[okD,Bool.and_eq_true,List.all_eq_true,List.mem_range]at hok';obtain⟨⟨_,hfull⟩,htab⟩:=hok';intro fuel
 induction fuel with
 | zero =>
  intro m l Af g a w hsz hu hd hm hR;obtain⟨⟨h1,h2⟩,h3⟩:=htab (m,l) hm;simp only[Bool.or_eq_true,beq_iff_eq,List.any_eq_true,List.mem_range,Bool.and_eq_true]at h1;rcases h1 with rfl|⟨i,hi,hi1,hi2⟩
  ·refine⟨?_,hQ g _ a w hR he⟩;cases hrd:Region.ready .any ops Af with
   | nil=>rfl
   | cons j l' =>
    have hj:j∈Region.ready .any ops Af:=by rw[hrd];simp
    have:=(BE hsz).1 hj;rw[hd j this.1,hfull j this.1]at this;simp at this
  ·have hmem:i∈Region.ready .any ops Af:=(BE hsz).2 ⟨hi,by rw[hd i hi];simpa using hi1,fun e hee=>by
    have h4:=List.all_eq_true.1 hi2 e hee;have hlt:=MW hN e hee hi;rw[hd e hlt];exact h4⟩
   obtain⟨k1,k2,_⟩:=(BE hsz).1 hmem;rw[G4 (by omega) (by omega:i<Af.size)]at k2;cases k2
 | succ fuel ih =>
  intro m l Af g a w hsz hu hd hm hR;obtain⟨⟨h1,h2⟩,h3⟩:=htab (m,l) hm;simp only[Bool.or_eq_true,beq_iff_eq,List.any_eq_true,List.mem_range,Bool.and_eq_true]at h1;refine⟨fun h0=>?_,fun j hj=>?_⟩
  ·rcases h1 with rfl|⟨i,hi,hi1,hi2⟩
   ·exact hQ g _ a w hR he
   ·have hmem:i∈Region.ready .any ops Af:=(BE hsz).2 ⟨hi,by rw[hd i hi];simpa using hi1,fun e hee=>by
     have h4:=List.all_eq_true.1 hi2 e hee;have hlt:=MW hN e hee hi;rw[hd e hlt];exact h4⟩
    rw[h0]at hmem;cases hmem
  ·obtain⟨k1,k2,k3⟩:=(BE hsz).1 hj;have hnb:m.testBit j=false:=by rw[← hd j k1];exact k2
   have h4:=h2 j k1;have he':(BA ops j).all (fun e=>m.testBit e)=true:=List.all_eq_true.2 fun e hee=>by
    have h5:=k3 e hee;have hlt:=MW hN e hee k1;rw[hd e hlt]at h5;exact h5
   simp only[hnb,he',Bool.not_true,Bool.or_false,Bool.false_or,List.any_eq_true,beq_iff_eq]at h4;obtain⟨q,hq,rfl⟩:=h4;have h5:=h3 q hq;simp only[beq_iff_eq,List.any_eq_true]at h5;obtain⟨h6,p',hp',h7⟩:=h5;have ho:ops[q.1]?=some ops[q.1]:=Array.getElem?_eq_getElem k1;have hop:=T9 (Ub hs hm) hq;simp only[Mq,ho,A9]at hop;refine Nk hA hX ho (fun g' st' a' w' hR' hK'=>?_) (hN.1 _ (Array.getElem_mem k1)) hop hR;obtain⟨g2,hR2⟩:=hK' A N g' a' w' hA hR';refine ih q.2 p'.2 _ g2 a' w' (by simp[hsz]) (by have:=Hz (by omega:q.1<Af.size) k2;omega) (fun j' hj'=>?_) (by rw[← h7];exact hp') hR2;rw[Em (by omega)];simp only[G7];rw[h6,Nat.testBit_or,Nat.testBit_two_pow]
   by_cases hjj:j'=q.1
   ·subst hjj;simp
   ·simp[hjj,Ne.symm hjj,hd j' hj']
end
theorem Y2{X:Env}{ops:Array Oper}{K:St→Prop}{st:St}(full:Nat)(tab:List (Nat × List (Nat × Nat)))(S:Nat→St)(hm:X.C.P.follows .mixedOrders=true)(hok:(Lj ops&&okD ops full tab)=true)
 (h0:Imp X st (S 0)) (hs:S0 X ops S tab) (he:K (S full)):IX X ops K st:=by
 refine D7 h0 ?_;intro A N g a w hA hN hX hR id Q hQ;simp only[Bool.and_eq_true]at hok;refine wp_region_any hm ?_;have h0:∃ l,(0,l)∈tab:=by
  have:=hok.2;simp only[okD,Bool.and_eq_true,List.any_eq_true,beq_iff_eq]at this;obtain⟨⟨⟨p,hp,h⟩,_⟩,_⟩:=this;exact⟨p.2,by rw[← h];exact hp⟩
 obtain⟨l,hl⟩:=h0;refine XF hA hX (N:=N) (K:=K) ⟨fun o ho=>?_,fun i hi e he=>?_⟩ hQ hok.2 hs he ops.size 0 l (Array.replicate ops.size false) g a _ (by simp) (by simp[unl]) (fun j hj=>by simp[dOf,Array.getD,hj]) hl hR.drew
 ·unfold Ic;cases hd:o.dst with
  |none=>rfl
  |some d=>simp;exact hN o ho d hd
 ·have:=hok.1;simp only[Lj,List.all_eq_true,List.mem_range,decide_eq_true_eq]at this;exact this i hi e he
@[go_sem] theorem eG(X:Env)(ops:Array Oper)(S:Nat→St)(m:Nat):P5 X ops S m []=True:=rfl
@[go_sem] theorem dB(X:Env)(ops:Array Oper)(S:Nat→St)(m i m':Nat)(l:List (Nat × Nat)):P5 X ops S m ((i,m')::l)=(A9 X ops (Mq ops i) (fun st'=>Imp X st' (S m')) (S m)∧P5 X ops S m l):=rfl
@[go_sem] theorem eH(X:Env)(ops:Array Oper)(S:Nat→St):S0 X ops S []=True:=rfl
@[go_sem] theorem dC(X:Env)(ops:Array Oper)(S:Nat→St)(m:Nat)(l:List (Nat × Nat))(t:List (Nat × List (Nat × Nat))):S0 X ops S ((m,l)::t)=(P5 X ops S m l∧S0 X ops S t):=rfl
@[go_sem] theorem gu(m:Nat):sel m []=[]:=rfl
@[go_sem] theorem fG(m w t:Nat)(x:AV)(l:List (Nat × Nat × AV)):sel m ((w,t,x)::l)=if m / w%2=1 then (t,x)::sel m l else sel m l:=rfl
end Go.Abs
namespace Go.Abs
def Ua(X:Env)(ops:Array Oper)(S:Nat→St)(m:Nat):List (Nat × Nat × Nat)→Prop
 |[]=>True
 |(i,w,d)::l=>(if m / w%2=0∧d &&& m=d then A9 X ops (Mq ops i) (fun st'=>Imp X st' (S (m+w))) (S m) else True)∧Ua X ops S m l
def XE(X:Env)(ops:Array Oper)(S:Nat→St)(E:List (Nat × Nat × Nat)):List Nat→Prop
 |[]=>True
 | m::t=>Ua X ops S m E∧XE X ops S E t
def Tj(E:List (Nat × Nat × Nat))(m:Nat):List (Nat × Nat):=(E.filter fun e=>decide (m / e.2.1%2=0∧e.2.2 &&& m=e.2.2)).map fun e=>(e.1,m+e.2.1)
def ar(E:List (Nat × Nat × Nat))(ms:List Nat):List (Nat × List (Nat × Nat)):=ms.map fun m=>(m,Tj E m)
section
variable {X:Env} {ops:Array Oper} {S:Nat→St}
theorem YY{m:Nat}:∀ {E:List (Nat × Nat × Nat)},Ua X ops S m E→P5 X ops S m (Tj E m)
 |[],_=>trivial
 |(i,w,d)::l,h=>by
  simp only[Ua]at h;have ih:=YY h.2;unfold Tj at ih ⊢;simp only[List.filter_cons]
  by_cases hc:m / w%2=0∧d &&& m=d
  ·rw[if_pos hc]at h;simp only[hc,and_self,decide_true,if_true,List.map_cons,P5];exact⟨h.1,ih⟩
  ·simp only[hc,decide_false,Bool.false_eq_true,if_false];exact ih
theorem YZ{E:List (Nat × Nat × Nat)}:∀ {ms:List Nat},XE X ops S E ms→S0 X ops S (ar E ms)
 |[],_=>trivial
 | m::t,h=>⟨YY h.1,YZ h.2⟩
theorem CA{K:St→Prop}{st:St}(full:Nat)(E:List (Nat × Nat × Nat))(ms:List Nat)(S:Nat→St)(h0:Imp X st (S 0))(hs:XE X ops S E ms)(he:K (S full))(hm:X.C.P.follows .mixedOrders=true)
 (hok:(Lj ops&&okD ops full (ar E ms))=true:=by kernel_rfl):IX X ops K st:=Y2 full (ar E ms) S hm hok h0 (YZ hs) he
end
theorem Cy(X:Env)(ops:Array Oper)(S:Nat→St)(m i w d:Nat)(l:List (Nat × Nat × Nat)):Ua X ops S m ((i,w,d)::l)=((if m / w%2=0∧d &&& m=d then A9 X ops (Mq ops i) (fun st'=>Imp X st' (S (m+w))) (S m) else True)∧Ua X ops S m l):=nd rfl
theorem Cz(X:Env)(ops:Array Oper)(S:Nat→St)(E:List (Nat × Nat × Nat))(m:Nat)(t:List Nat):XE X ops S E (m::t)=(Ua X ops S m E∧XE X ops S E t):=nd rfl
theorem Di(X:Env)(ops:Array Oper)(S:Nat→St)(m:Nat):Ua X ops S m []=True:=nd rfl
theorem Dj(X:Env)(ops:Array Oper)(S:Nat→St)(E:List (Nat × Nat × Nat)):XE X ops S E []=True:=nd rfl
end Go.Abs
