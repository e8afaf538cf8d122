/- part 45 of the proof -/
import Derived.Test.YthachdiockkofaaGreatDoorW42
set_option linter.all false
open Go Go.Abs Go.Proofs
set_option maxRecDepth 100000
namespace Go.Rd
set_option maxHeartbeats 8000000
open Tryz
theorem VP{s:WS}(hv:AD s=true)(hf:Few s){p:Ae}{core:List Ae}(h:Hh s p=(core,0)):Ah (BY s core)=core∧BT (BY s core)=[]∧core≠[]:=by
 have hg:=Bh hv;have hd:p∈BG s:=by
  apply Classical.byContradiction;intro hn;have:Be (DW s).2 p=false:=by simp only[Be,decide_eq_false_iff_not];exact hn
  simp[Hh,hv,this]at h
 obtain⟨h0,h1⟩:=YV hv hf hd h;have hfr:BT (BY s core)=[]:=by
  cases hx:BT (BY s core) with
  | nil=>rfl
  | cons f fs =>
   exfalso;have hm:f∈BT (BY s core):=by rw[hx];simp
   have hnd:=LL (Lt hg core) hm;have hpm:=(PC hg (DK.1 hm).1).1;have:f∈Ij s core:=by rw[h0];exact hpm
   exact hnd this
 refine⟨?_,hfr,fun e=>by rw[e]at h1;cases h1⟩;have:=Ku (Lt hg core) hfr;have e:BG (BY s core)=core:=h0;rw[← this,e]
theorem f10_ok(l:List Int)(who:Int):Ad C0 10 [I6 l,I who] [] (B true) []:=by
 refine Ad.go f10 ?_;unfold f10;refine gO ?_;refine Ac (f15_ok l) ?_;cases h1:decide ((l.length:Int)≤300)
 ·simp(disch:=omega)only[go_sem,Bool.not_false];refine Ac f39_ok ?_;refine gO ?_;exact AE _
 have hl3:l.length≤300:=by simp at h1;omega
 simp(disch:=omega)only[go_sem,Bool.not_true];refine Ac (f18_ok l (by omega)) ?_;have hf:=LI l;have hv:AD (Hf l)=true:=NG _;generalize Hf l=s at hf hv ⊢;refine gO ?_;refine Aq 8 [([],[5]),([],[1]),([],[18]),([2],[17,19]),([2,3],[20]),([2,3],[16]),([2,3],[16]),([2,3],[21])] fol ?_;simp(disch:=omega)only[go_sem]
 first|(refine Ac (f22_ok who) ?_)|(refine Ar (f22_ok who) ?_)
 generalize FP who=p;simp(disch:=omega)only[go_sem]
 first|(refine Ac (f23_ok s p hf) ?_)|(refine Ar (f23_ok s p hf) ?_)
 have hcl:=YW hf p;cases hc:Hh s p with
 | mk core e =>
 rw[hc]at hcl;simp only at hcl ⊢
 by_cases he:e=0
 rotate_left
 ·have he':(e !=0)=true:=by simpa using he
  simp(disch:=omega)only[go_sem,he'];refine Ac f39_ok ?_;refine gO ?_;exact AE _
 subst he;obtain⟨c1,c2,c3⟩:=VP hv hf hc;obtain⟨w,hb,hm,hck,hag,hst,hca⟩:=W7 hv c1 c3 c2;obtain⟨k1,k2,k3,k4⟩:=Jc core hf;have hcb:=RB hv c1;rw[← hca]at hcb;rw[hb]at k1 k2 k3 k4;simp only at k1 k2 k3 k4;refine gO ?_;refine Ac (f46_ok s core hf (by omega)) ?_;rw[hb];refine gO ?_;refine Ac f39_ok ?_;refine gO ?_;have hsm:decide (w.members=core)=true:=by rw[hm];simp
 refine Ac (f24_ok w.members core (by omega) (by omega)) ?_;simp(disch:=omega)only[go_sem,hsm];refine Ac (f44_ok w k1 k2 (by omega)) ?_;simp(disch:=omega)only[go_sem,hck];refine Ac (f45_ok w s k1 hf k2) ?_;simp(disch:=omega)only[go_sem,hag];exact AE _
end Go.Rd
