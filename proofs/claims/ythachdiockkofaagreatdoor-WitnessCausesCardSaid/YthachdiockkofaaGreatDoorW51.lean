/- part 51 of the proof -/
import Derived.Test.YthachdiockkofaaGreatDoorW42
import Derived.Test.YthachdiockkofaaGreatDoorW50
set_option linter.all false
open Go Go.Abs Go.Proofs
set_option maxRecDepth 100000
namespace Go.Rd
set_option maxHeartbeats 8000000
open Tryz
def H8(s:WS)(a:Nat)(p:Ae)(k:Nat):Nat:=a+P0 s p (s.Aa.take k)
theorem Xl(s:WS)(a:Nat)(p:Ae):H8 s a p 0=a:=by simp[H8,P0]
theorem YI{s:WS}{a:Nat}{p:Ae}{i:Nat}{q:Queue}(h:s.Aa[i]?=some q)(hw:CC s.Aa p q.res.name=true):H8 s a p (i+1)=H8 s a p i+1:=by
 unfold H8;rw[RD h,if_pos hw];omega
theorem aI{s:WS}{a:Nat}{p:Ae}{i:Nat}{q:Queue}(h:s.Aa[i]?=some q)(hw:CC s.Aa p q.res.name=false):H8 s a p (i+1)=H8 s a p i:=by
 unfold H8;rw[RD h,hw];simp
theorem YH{s:WS}{ms:List Ae}{j:Nat}{p:Ae}(h:ms[j]?=some p):H8 s (Hg s (ms.take j)) p s.Aa.length=Hg s (ms.take (j+1)):=by
 unfold H8;rw[Yx h,List.take_length]
theorem aH(s:WS)(a:Nat)(p:Ae)(i:Nat)(h:s.Aa.length≤100):H8 s a p i≤a+100:=by
 have:=WH s p (s.Aa.take i);simp at this;unfold H8;omega
theorem f14_ok(l:List Int):Ad C0 14 [I6 l] [] (B true) []:=by
 refine Ad.go f14 ?_;unfold f14;refine gO ?_;refine Ac (f15_ok l) ?_;cases h1:decide ((l.length:Int)≤300)
 ·simp(disch:=omega)only[go_sem,Bool.not_false];refine Ac f39_ok ?_;refine gO ?_;exact AE _
 have hl3:l.length≤300:=by simp at h1;omega
 simp(disch:=omega)only[go_sem,Bool.not_true];refine Ac (f18_ok l (by omega)) ?_;have hf:=LI l;have hv:AD (Hf l)=true:=NG _;generalize Hf l=s at hf hv ⊢;have hrl:(Bp s).2.length≤20000:=L2 hf;have hrd:(Bp s).2=BG s:=by rw[F7 hv];rfl
 obtain⟨k1,k2,k3,k4⟩:=Jc (Bp s).2 hf;have hbo:ofS s (Bp s).2=Dl s:=rfl;rw[hbo]at k1 k2 k3 k4;rw[hrd]at hrl;refine gO ?_;refine Ac (f41_ok s hf (by rw[hrd];omega)) ?_
 by_cases hd:BG s=[]
 ·have hb:=L8 hv hf hd;rw[hb];simp(disch:=omega)only[go_sem,wE,wsE];refine Ac f39_ok ?_;refine gO ?_;exact AE _
 obtain⟨w,hb,hm,hck,hag,hca,hcl,hst⟩:=L9 hv hf hd;obtain⟨d1,d2⟩:=JA hv hf;have hvx:AD (BY s (BG s))=true:=H7 hv _;have hmp:w.members=Ah (BY s (BG s)):=by rw[hm,d1]
 rw[hst,hmp]at hca;have c1:∀ c∈w.AJ,c.members≠[]∧c.proc∉c.members∧(∀ y∈c.members,y∈w.members)∧CC s.Aa c.proc c.name=true:=by
  intro c hc;rw[hca]at hc;obtain⟨a1,a2,a3⟩:=XA hvx hc;rw[hmp];exact⟨a1,a2,a3,T0 hv hc⟩
 have c2:w.AJ.length≤Hg s w.members:=by rw[hca,hmp];exact Xz hv _ _
 have c3:w.members.length≤w.AJ.length:=by rw[hca,hmp];exact Xy hvx d2
 have hml:w.members.length≤8:=by rw[hmp];exact((CK _).1 hvx).2.2
 have hql:=hf.nq;have hsb:∀ ms:List Ae,ms.length≤8→Hg s ms≤800:=fun ms h=>by
  have:=Xf s ms;have:=Nat.mul_le_mul h hql;omega
 rw[hb]at k1 k2 k3 k4 ⊢;simp only at k1 k2 k3 k4 ⊢;clear hca hst hag hck hb hbo;refine gO ?_;refine Ab (α:=Nat) (fun i=>⟨[(7,I i),(6,I (Hg s (w.members.take i))),(5,I 0),(4,.ptr 256 0),(3,.ptr 192 0),(2,B false)],[(192,s.c),(256,w.c)]⟩) (fun i=>i≤(w.members).length∧True) (fun i=>(w.members).length-i) 0 ⟨by omega,trivial⟩ ?_ ?_
 ·refine Imp.Am ?_ ?_
  all_goals(try simp(disch:=omega)only[go_sem])
  all_goals(try(repeat'(with_reducible apply And.intro)))
  all_goals(first|exact .AG (by omega)|exact .Az (by omega)|exact .sl (by simp[Hg])|exact .int (by simp[Hg])|exact .eq (by simp[Hg]))
 rintro i ⟨hi,hP⟩ J hJ;refine gO ?_;refine ⟨fun hlt=>?_,fun hge=>?_⟩;rotate_left;have hil:i=(w.members).length:=by simp at hge;omega
 rotate_left;obtain⟨b,hb⟩:∃ b,(w.members)[i]?=some b:=⟨_,gE (by simp at hlt;omega)⟩;have hbm:=mG hb;have hlt2:i<(w.members).length:=by simp at hlt;omega
 ·obtain⟨j,rfl⟩:∃ j,j=i:=⟨_,rfl⟩;obtain⟨p,rfl⟩:∃ p,p=b:=⟨_,rfl⟩;have hbj:=hb;have hJ1:=hJ;have hj8:(w.members.take j).length≤8:=by simp;omega
  have hs8:=hsb _ hj8;have ez:=Xl s (Hg s (w.members.take j)) p;have ee:=YH (s:=s) hbj;have hle:=fun i=>aH s (Hg s (w.members.take j)) p i hql
  generalize Hg s (w.members.take j)=a at hs8 ez ee hle ⊢;rw[← ez];refine Ab (α:=Nat) (fun i=>⟨[(8,I i),(7,I j),(6,I (H8 s a p i)),(5,I 0),(4,.ptr 256 0),(3,.ptr 192 0),(2,B false)],[(192,s.c),(256,w.c)]⟩) (fun i=>i≤(s.Aa).length∧True) (fun i=>(s.Aa).length-i) 0 ⟨by omega,trivial⟩ ?_ ?_
  ·refine Imp.Am ?_ ?_
   all_goals(try simp(disch:=omega)only[go_sem])
   all_goals(try(repeat'(with_reducible apply And.intro)))
   all_goals(first|exact .AG (by omega)|exact .Az (by omega)|exact .sl (by simp[H8])|exact .int (by simp[H8])|exact .eq (by simp[H8]))
  rintro i ⟨hi,hP⟩ J hJ;refine gO ?_;refine ⟨fun hlt=>?_,fun hge=>?_⟩;rotate_left;have hil:i=(s.Aa).length:=by simp at hge;omega
  rotate_left;obtain⟨b,hb⟩:∃ b,(s.Aa)[i]?=some b:=⟨_,gE (by simp at hlt;omega)⟩;have hbm:=mG hb;have hlt2:i<(s.Aa).length:=by simp at hlt;omega
  ·refine Aq 13 [([],[3]),([],[4]),([],[47]),([],[7]),([],[48,49]),([],[50]),([],[3]),([],[52]),([],[8]),([],[53,54]),([],[55]),([],[56]),([],[57])] fol ?_;simp(disch:=omega)only[go_sem,gm,hb,hbj]
   first|(refine Ac (f52_ok s p b.res.name hf) ?_)|(refine Ar (f52_ok s p b.res.name hf) ?_)
   have hle':=hle i;cases hw:CC s.Aa p b.res.name
   ·have e:=aI (a:=a) hb hw;refine gO ?_;refine hJ _ (i+1) ⟨by omega,trivial⟩ (by omega) (Imp.Am ?_ ?_)
    ·simp(disch:=omega)only[go_sem,e]
    ·exact gI
   ·have e:=YI (a:=a) hb hw;refine gO ?_;refine hJ _ (i+1) ⟨by omega,trivial⟩ (by omega) (Imp.Am ?_ ?_)
    ·simp(disch:=omega)only[go_sem,e]
    ·exact gI
  subst hil;refine hJ1 _ (j+1) ⟨by omega,trivial⟩ (by omega) (Imp.Am ?_ ?_)
  ·simp(disch:=omega)only[go_sem,ee]
  ·exact gI
 subst hil;rw[List.take_length];have hs8:=hsb _ hml;generalize Hg s w.members=n at c2 hs8 ⊢;refine Ab (α:=Nat) (fun i=>⟨[(9,I i),(6,I n),(5,I 0),(4,.ptr 256 0),(3,.ptr 192 0),(2,B false)],[(192,s.c),(256,w.c)]⟩) (fun i=>i≤(w.AJ).length∧True) (fun i=>(w.AJ).length-i) 0 ⟨by omega,trivial⟩ ?_ ?_
 ·refine Imp.Am ?_ ?_
  all_goals(try simp(disch:=omega)only[go_sem])
  all_goals(try(repeat'(with_reducible apply And.intro)))
  all_goals(first|exact .AG (by omega)|exact .Az (by omega)|exact .sl (by simp[H8])|exact .int (by simp[H8])|exact .eq (by simp[H8]))
 rintro i ⟨hi,hP⟩ J hJ;refine gO ?_;refine ⟨fun hlt=>?_,fun hge=>?_⟩;rotate_left;have hil:i=(w.AJ).length:=by simp at hge;omega
 rotate_left;obtain⟨b,hb⟩:∃ b,(w.AJ)[i]?=some b:=⟨_,gE (by simp at hlt;omega)⟩;have hbm:=mG hb;have hlt2:i<(w.AJ).length:=by simp at hlt;omega
 ·obtain⟨m1,m2,m3,m4⟩:=c1 b hbm;have m5:=k4 b hbm;simp(disch:=omega)only[go_sem,gm,hb];refine Ac (f52_ok s b.proc b.name hf) ?_;have hne:((b.members.length:Int)==0)=false:=by
   cases hx:b.members with
   | nil=>exact absurd hx m1
   | cons a t=>exact beq_eq_false_iff_ne.2 (by simp;omega)
  have hno:Be b.members b.proc=false:=by simpa [Be]using m2
  simp(disch:=omega)only[go_sem,m4,List.length_map,hne];refine Ac (f29_ok b.members b.proc m5) ?_;simp(disch:=omega)only[go_sem,hno];obtain⟨j,rfl⟩:∃ j,j=i:=⟨_,rfl⟩;obtain⟨c,rfl⟩:∃ c,c=b:=⟨_,rfl⟩;have hJ1:=hJ;refine Ab (α:=Nat) (fun i=>⟨[(11,I i),(10,.ptr 640 0),(9,I j),(6,I n),(5,I 0),(4,.ptr 256 0),(3,.ptr 192 0),(2,B false)],[(640,c.c),(192,s.c),(256,w.c)]⟩) (fun i=>i≤(c.members).length∧True) (fun i=>(c.members).length-i) 0 ⟨by omega,trivial⟩ ?_ ?_
  ·refine Imp.Am ?_ ?_
   all_goals(try simp(disch:=omega)only[go_sem])
   all_goals(try(repeat'(with_reducible apply And.intro)))
   all_goals(first|exact .AG (by omega)|exact .Az (by omega)|exact .sl (by simp[H8])|exact .int (by simp[H8])|exact .eq (by simp[H8]))
  rintro i ⟨hi,hP⟩ J hJ;refine gO ?_;refine ⟨fun hlt=>?_,fun hge=>?_⟩;rotate_left;have hil:i=(c.members).length:=by simp at hge;omega
  rotate_left;obtain⟨b,hb⟩:∃ b,(c.members)[i]?=some b:=⟨_,gE (by simp at hlt;omega)⟩;have hbm:=mG hb;have hlt2:i<(c.members).length:=by simp at hlt;omega
  ·have hy:Be w.members b=true:=by simpa [Be]using m3 b hbm
   refine Aq 7 [([],[4]),([],[101]),([],[10]),([],[103]),([],[11]),([],[104,105]),([],[106])] fol ?_;simp(disch:=omega)only[go_sem,gm,hb]
   first|(refine Ac (f29_ok w.members b k2) ?_)|(refine Ar (f29_ok w.members b k2) ?_)
   simp(disch:=omega)only[go_sem,hy];refine hJ _ (i+1) ⟨by omega,trivial⟩ (by omega) (Imp.Am ?_ ?_)
   ·exact gI
   ·exact gI
  subst hil;refine hJ1 _ (j+1) ⟨by omega,trivial⟩ (by omega) (Imp.Am ?_ ?_)
  ·exact gI
  ·exact gI
 subst hil;refine Ac f39_ok ?_;have e1:((w.AJ.length:Int)≤(n:Int))=True:=eq_true (by omega);have e2:((w.members.length:Int)≤(w.AJ.length:Int))=True:=eq_true (by omega);simp(disch:=omega)only[go_sem,List.length_map,e1,e2];exact AE _
end Go.Rd
