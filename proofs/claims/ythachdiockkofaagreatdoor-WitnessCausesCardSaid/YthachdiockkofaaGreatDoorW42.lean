/- part 42 of the proof -/
import Derived.Test.YthachdiockkofaaGreatDoorW52
set_option linter.all false
open Go Go.Abs Go.Proofs
set_option maxRecDepth 100000
namespace Go.Rd
set_option maxHeartbeats 8000000
open Tryz
theorem RB{s:WS}(hv:AD s=true){l:List Ae}(hp:Ah (BY s l)=l):(A2 (BY s l).Aa l).length≤64:=by
 have hvr:=H7 hv l;obtain⟨h1,_,h3⟩:=(CK _).1 hvr;have h4:=((DO _).1 h1).1;rw[hp]at h3;have:=GO (BY s l).Aa l;have h5:l.length*(BY s l).Aa.length≤8*8:=Nat.mul_le_mul h3 h4;omega
theorem L8{s:WS}(hv:AD s=true)(hf:Few s)(hd:BG s=[]):Dl s=(wE,14):=by
 obtain⟨h1,h2⟩:=JA hv hf;unfold Dl;rw[F7 hv];show ofS s (BG s)=_;rw[hd]at h1 ⊢;unfold ofS;have hr:AP s []=(BY s [],0):=by simp[AP,hv]
 rw[hr];simp only[if_true,h1,List.length_nil,true_or,if_true]
theorem L9{s:WS}(hv:AD s=true)(hf:Few s)(hd:BG s≠[]):∃ w,Dl s=(w,0)∧w.members=BG s∧DQ w=0∧Hq w s=true∧w.AJ=A2 w.state.Aa w.members∧w.AJ.length≤64∧w.state=BY s (BG s):=by
 obtain⟨h1,h2⟩:=JA hv hf;obtain⟨w,a,b,c,d,e,f⟩:=W7 hv h1 hd h2;refine⟨w,?_,b,c,d,by rw[e,b];exact f,by rw[f];exact RB hv h1,e⟩;unfold Dl;rw[F7 hv];exact a
theorem f9_ok(l by_:List Int):Ad C0 9 [I6 l,I6 by_] [] (B true) []:=by
 refine Ad.go f9 ?_;unfold f9;refine gO ?_;refine Ac (f15_ok l) ?_;cases h1:decide ((l.length:Int)≤300)
 ·simp(disch:=omega)only[go_sem,Bool.not_false];refine Ac f39_ok ?_;refine gO ?_;exact AE _
 have hl3:l.length≤300:=by simp at h1;omega
 simp(disch:=omega)only[go_sem,Bool.not_true,List.length_map]
 by_cases h2:(by_.length:Int) > 40
 ·simp(disch:=omega)only[go_sem,eq_true h2,decide_true];refine Ac f39_ok ?_;refine gO ?_;exact AE _
 have hb4:by_.length≤40:=by omega
 simp(disch:=omega)only[go_sem,eq_false h2,decide_false];refine Ac (f40_ok l by_ (by omega) (by omega)) ?_;have hf:Few (Iu (Hf l) by_):=Wr (LI l) by_;have hv:=Wb l by_;generalize Iu (Hf l) by_=s at hf hv ⊢;have hrl:(Bp s).2.length≤20000:=L2 hf;have hrd:(Bp s).2=BG s:=by rw[F7 hv];rfl
 refine gO ?_;refine Ac (f20_ok s hf) ?_;refine gO ?_;refine Ac (f41_ok s hf (by omega)) ?_;refine gO ?_;refine Ac (f42_ok s hf (by omega)) ?_;obtain⟨k1,k2,k3,k4⟩:=Jc (Bp s).2 hf;have hbo:ofS s (Bp s).2=Dl s:=rfl;rw[hbo]at k1 k2 k3 k4;rw[hrd]at hrl ⊢
 by_cases hd:BG s=[]
 ·have hb:=L8 hv hf hd;rw[hb,hd];simp(disch:=omega)only[go_sem,wE,wsE];refine Ac f39_ok ?_;refine gO ?_;refine Ai (f43_ok wE (by simpa [hb]using k1) (by simp[wE]) (by simp[wE]) (by simp[wE])) (by simp(disch:=omega)only[go_sem,wE,wsE]) rfl ?_;simp(disch:=omega)only[go_sem,List.map_nil,List.length_nil];exact AE _
 ·obtain⟨w,hb,hm,hck,hag,_,hcl,_⟩:=L9 hv hf hd;rw[hb]at k1 k2 k3 k4 ⊢;simp only at k1 k2 k3 k4 ⊢;refine gO ?_;refine Ac f39_ok ?_;refine gO ?_;refine Ac (f43_ok w k1 k2 k3 k4) ?_;simp(disch:=omega)only[go_sem,bne_self_eq_false];have hsm:decide (w.members=BG s)=true:=by rw[hm];simp
  refine Ac (f24_ok w.members (BG s) (by omega) (by omega)) ?_;simp(disch:=omega)only[go_sem,hsm];refine Ac (f44_ok w k1 k2 (by omega)) ?_;simp(disch:=omega)only[go_sem,hck];refine Ac (f45_ok w s k1 hf k2) ?_;simp(disch:=omega)only[go_sem,hag];exact AE _
end Go.Rd
