/- part 48 of the proof -/
import Derived.Test.YthachdiockkofaaGreatDoorW42
import Derived.Test.YthachdiockkofaaGreatDoorW47
set_option linter.all false
open Go Go.Abs Go.Proofs
set_option maxRecDepth 100000
namespace Go.Rd
set_option maxHeartbeats 8000000
open Tryz
theorem f13_ok(l:List Int)(who:Int):Ad C0 13 [I6 l,I who] [] (B true) []:=by
 refine Ad.go f13 ?_;unfold f13;refine gO ?_;refine Ac (f15_ok l) ?_;cases h1:decide ((l.length:Int)≤300)
 ·simp(disch:=omega)only[go_sem,Bool.not_false];refine Ac f39_ok ?_;refine gO ?_;exact AE _
 have hl3:l.length≤300:=by simp at h1;omega
 simp(disch:=omega)only[go_sem,Bool.not_true];refine Ac (f25_ok l (by omega)) ?_;have hcf:=Kn l;generalize IV l=c at hcf ⊢;have hf:=Tl c hcf;have hv:=NG c;have hrl:(Bp (ofM c)).2.length≤20000:=L2 hf;have hrd:(Bp (ofM c)).2=BG (ofM c):=by rw[F7 hv];rfl
 obtain⟨k1,k2,k3,k4⟩:=Jc (Bp (ofM c)).2 hf;have hbo:ofS (ofM c) (Bp (ofM c)).2=Dl (ofM c):=rfl;rw[hbo]at k1 k2 k3 k4;refine gO ?_;refine Ac (f26_ok c hcf) ?_;refine gO ?_;refine Ac (f41_ok (ofM c) hf (by omega)) ?_
 by_cases hd:BG (ofM c)=[]
 ·have hb:=L8 hv hf hd;rw[hb];simp(disch:=omega)only[go_sem,wE,wsE];refine Ac f39_ok ?_;refine gO ?_;exact AE _
 obtain⟨w,hb,hm,hck,hag,_,hcl,hst⟩:=L9 hv hf hd;rw[hb]at k1 k2 k3 k4 ⊢;simp only at k1 k2 k3 k4 ⊢;have hmp:1≤w.members.length:=by
  rw[hm];cases hx:BG (ofM c) with
  | nil=>exact absurd hx hd
  | cons a t=>simp
 have hne:((w.members.length:Int)==0)=false:=beq_eq_false_iff_ne.2 (by omega);simp(disch:=omega)only[go_sem,List.length_map,hne];obtain⟨b1,b2⟩:=Ti who w.members.length (by omega);obtain⟨i,hi⟩:∃ i:Nat,Ia who w.members.length=(i:Int):=⟨_,(Int.toNat_of_nonneg b1).symm⟩;obtain⟨p,hp⟩:∃ p,w.members[i]?=some p:=⟨_,gE (by omega)⟩;have hpm:p∈w.members:=mG hp;have hps:p∈Ah w.state:=by rw[hst,(JA hv hf).1,← hm];exact hpm
 have hpo:p∈Ah (ofM c):=by
  rw[hst]at hps;exact(PC (Bh hv) hps).2
 obtain⟨hcv,hex⟩:=c6 hpo;obtain⟨g1,g2⟩:=Vz hcv hex;have hfe:=WM (c:=c) ⟨7,p,Dg,[],0⟩;have h30:=f30_ok c ⟨7,p,Dg,[],0⟩ hcf;generalize doC c ⟨7,p,Dg,[],0⟩=r at g1 g2 hfe h30;have hna:=VB hps g2;have h51:=f51_ok who w.members.length (by omega);rw[hi]at h51;refine Aq 10 [([],[6]),([],[37]),([],[1]),([],[6]),([],[40]),([],[41]),([],[39,42]),([6],[38,43]),([6],[44]),([],[])] fol ?_;simp(disch:=omega)only[go_sem,List.length_map]
 first|(refine Ac h51 ?_)|(refine Ar h51 ?_)
 simp(disch:=omega)only[go_sem,gm,hp];refine Ai h30 (by simp(disch:=omega)only[go_sem,Dg,e0,a0,Expr.k,Expr.atom,Expr.kids,List.map_nil];refine .agg (Aj.AM ?_);simp(disch:=omega)only[go_sem]) rfl ?_;simp(disch:=omega)only[go_sem,g1];refine Aq 9 [([],[]),([0],[54]),([0],[11,55]),([0],[56,55]),([0],[55,57]),([0],[58]),([0],[6,59]),([0],[9,59]),([0],[61,59])] fol ?_;simp(disch:=omega)only[go_sem]
 first|(refine Ac f39_ok ?_)|(refine Ar f39_ok ?_)
 simp(disch:=omega)only[go_sem]
 first|(refine Ac (f26_ok r.1 hfe) ?_)|(refine Ar (f26_ok r.1 hfe) ?_)
 simp(disch:=omega)only[go_sem]
 first|(refine Ac (f45_ok w (ofM r.1) k1 (Tl r.1 hfe) k2) ?_)|(refine Ar (f45_ok w (ofM r.1) k1 (Tl r.1 hfe) k2) ?_)
 simp(disch:=omega)only[go_sem,hna,Bool.not_false]
 first|(refine Ac (f44_ok w k1 k2 (by omega)) ?_)|(refine Ar (f44_ok w k1 k2 (by omega)) ?_)
 simp(disch:=omega)only[go_sem,hck];exact AE _
end Go.Rd
