/- part 42 of the proof -/
import Derived.Test.YthachdiockkofaaGreatDoorT18
import Derived.Test.YthachdiockkofaaGreatDoorT36
set_option linter.all false
open Go Go.Abs Go.Proofs
set_option maxRecDepth 100000
namespace Go.Rd
set_option maxHeartbeats 8000000
open List (cons_append length_map map_nil nil_append)
open Tryz
theorem f8_ok(l by_ picks:List Int):Ac C0 8 [Hz l,Hz by_,Hz picks] [] (B true) []:=by
 refine Ac.go f8 ?_
 unfold f8
 refine gO ?_
 refine Aa (f15_ok l) ?_
 cases h1:decide ((l.length:Int)≤300)
 ·simp(disch:=omega)only[go_sem,Bool.not_false]
  refine Aa f16_ok ?_
  refine gO ?_
  exact Av _
 have hl3:l.length≤300:=by simp at h1;omega
 simp(disch:=omega)only[go_sem,Bool.not_true,length_map]
 by_cases h2:(by_.length:Int) > 40
 ·simp(disch:=omega)only[go_sem,eq_true h2,decide_true]
  refine Aa f16_ok ?_
  refine gO ?_
  exact Av _
 have hb4:by_.length≤40:=by omega
 simp(disch:=omega)only[go_sem,eq_false h2,decide_false,length_map]
 by_cases h3:(picks.length:Int) > 40
 ·simp(disch:=omega)only[go_sem,eq_true h3,decide_true]
  refine Aa f16_ok ?_
  refine gO ?_
  exact Av _
 have hp4:picks.length≤40:=by omega
 simp(disch:=omega)only[go_sem,eq_false h3,decide_false]
 refine Aa (f18_ok l (by omega)) ?_
 refine gO ?_
 refine Aa (f17_ok (E9 l) by_ (FZ l) (by omega)) ?_
 have hf:Few (Ft (E9 l) by_):=Lo (FZ l) by_
 have hv:=O9 l by_
 generalize Ft (E9 l) by_=s at hf hv ⊢
 refine gO ?_
 refine Aa (f19_ok s hf) ?_
 have hrd:(By s).2=Bn s:=by rw[Mc hv];rfl
 have hdl:(Bn s).length≤20000:=by rw[← hrd];exact IE hf
 rw[hrd]
 refine gO ?_
 refine Ab (α:=Nat × WS × Nat) (fun y=>⟨[(12,I y.1),(11,.ptr 704 0),(10,.ptr 2752 0),(9,Aq (Bn s)),(7,.ptr 448 0)],[(704,y.2.1.c),(2752,CE picks y.2.2),(448,s.c)]⟩) (fun y=>Jb s y.2.1 y.1) (fun y=>9-y.1) (0,s,0) (Jb.start hv hf) (Imp.weak ?_ ?_) ?_
 ·exact gI
 ·exact gI
 rintro⟨n,x,a⟩ hx J hJ
 simp only at hx hJ ⊢
 have hx8:=hx.len
 simp(disch:=omega)only[go_sem,eq_true (show (n:Int)≤8 by omega),decide_true]
 refine Aa (f36_ok x hx.few) ?_
 rw[OU hx.val]
 have hfl:(Bg x).length≤8:=by
  have:(Bg x).length≤(Ah x).length:=List.length_filter_le _ _
  omega
 cases hfx:Bg x with
 | nil =>
  obtain⟨k1,k2⟩:=hx.fin hfx
  have hrs:Bw s (Bn s)=(x,0):=by simp[Bw,hv,k2]
  simp(disch:=omega)only[go_sem,map_nil,List.length_nil]
  refine Aa (f32_ok s (Bn s) hf (by omega)) ?_
  rw[hrs]
  refine gO ?_
  refine Aa f16_ok ?_
  refine gO ?_
  refine Aa (f36_ok x hx.few) ?_
  rw[OU hx.val,hfx]
  simp(disch:=omega)only[go_sem,map_nil,List.length_nil]
  refine Aa (f34_ok x hx.few) ?_
  rw[k1]
  refine gO ?_
  refine Aa (f24_ok (Bn s) (Bn s) (by omega) (by omega)) ?_
  simp(disch:=omega)only[go_sem,decide_true,beq_self_eq_true]
  refine Aa (f38_ok x hx.few) ?_
  refine gO ?_
  exact Av _
 | cons f fs =>
  rw[← hfx]
  have hpos:1≤(Bg x).length:=by rw[hfx];simp
  have hne:(((Bg x).length:Int)==0)=false:=beq_eq_false_iff_ne.2 (by omega)
  simp(disch:=omega)only[go_sem,length_map,hne]
  obtain⟨b1,b2⟩:=Du picks a (Bg x).length (by omega)
  obtain⟨i,hi⟩:∃ i:Nat,(Ad picks a (Bg x).length).1=(i:Int):=⟨_,(Int.toNat_of_nonneg b1).symm⟩
  have hil:i<(Bg x).length:=by omega
  have hh37:=f37_ok picks a (Bg x).length (by omega) (by omega)
  rw[hi]at hh37
  generalize (Ad picks a (Bg x).length).2=a2 at hh37
  obtain⟨g,hg⟩:∃ g,(Bg x)[i]?=some g:=⟨_,gE hil⟩
  have hgm:g∈Bg x:=mG hg
  have hst:=hx.step hgm
  have hrm:D6 x g=(A3 x g,0):=by
   have:AK (Ah x) g=true:=by simpa [AK]using (DX.1 hgm).1
   simp[D6,hx.val,this]
  have hh33:=f33_ok x g hx.few
  rw[hrm]at hh33
  generalize A3 x g=x2 at hh33 hst
  generalize Bg x=fr at hh37 hg hil hpos
  refine CP (st':=⟨[(13,Aq fr),(12,I n),(11,.ptr 704 0),(10,.ptr 2752 0),(9,Aq (Bn s)),(7,.ptr 448 0)],[(704,x.c),(2752,CE picks a),(448,s.c)]⟩) AE ?_
  refine CA 32767 [(0,1,0),(1,2,0),(2,4,0),(3,8,0),(4,16,8),(5,32,20),(6,64,34),(7,128,64),(8,256,161),(9,512,256),(10,1024,512),(11,2048,512),(12,4096,0),(13,8192,6143),(14,16384,16383)] [0,1,2,4,8,4096,3,5,9,4097,6,10,4098,12,4100,24,4104,7,11,4099,13,4101,25,4105,14,4102,26,4106,28,4108,4120,15,4103,27,4107,29,4109,4121,30,4110,4122,60,4124,31,4111,4123,61,4125,62,4126,4156,63,4127,4157,126,4158,127,4159,254,4222,255,4223,4350,511,4351,1023,4607,2047,3071,5119,4095,6143,7167,8191,14335,16383,32767] (fun m=>⟨sel m [(1,55,.agg x.c),(2,56,Aq fr),(4,57,.ptr 2752 0),(8,58,Aq fr),(16,59,I fr.length),(32,60,I i),(64,61,.ep .no i g.c 0),(128,62,.agg g.c),(256,63,.tup [.agg x2.c,I 0]),(512,54,.tup [.agg x2.c,I 0]),(1024,64,.agg x2.c),(2048,65,I 0),(4096,14,.ptr 896 0),(16384,15,I 0)]++[(13,Aq fr),(12,I n),(11,.ptr 704 0),(10,.ptr 2752 0),(9,Aq (Bn s)),(7,.ptr 448 0)],((if m / 4096%2=1 then [(896,(if m / 8192%2=1 then x2.c else [.v (.slice none 0 0),.v (.slice none 0 0)]))] else [])++[(704,x.c),(2752,CE picks (if m / 32%2=1 then a2 else a)),(448,s.c)])⟩) ?_ ?_ ?_ fol
  ·exact AE
  ·simp (maxSteps:=100000000)only[Cz,Cy,C9,C8,and_true,Nat.reduceDiv,Nat.reduceMod,Nat.reduceAnd,Nat.reduceEqDiff,reduceIte,true_and,and_false,false_and,and_self]
   repeat'(with_reducible refine And.intro ?_ ?_)
   all_goals simp(disch:=omega)only[go_sem,gm,hg,length_map,nil_append,cons_append]
   all_goals first|exact Imp.weak (by simp(disch:=omega)only[go_sem,nil_append,cons_append]) (by simp(disch:=omega)only[go_sem,nil_append,cons_append])|(refine call2 ⟨⟨[],[(2752,63)],[]⟩,[],[]⟩ hh37 ?_;simp(disch:=omega)only[go_sem];exact Imp.weak (by simp(disch:=omega)only[go_sem,nil_append,cons_append]) (by simp(disch:=omega)only[go_sem,nil_append,cons_append]))|(refine Aa hh33 ?_;simp(disch:=omega)only[go_sem];exact Imp.weak (by simp(disch:=omega)only[go_sem,nil_append,cons_append]) (by simp(disch:=omega)only[go_sem,nil_append,cons_append]))
  simp(disch:=omega)only[go_sem,nil_append,cons_append]
  refine hJ _ (n+1,x2,a2) hst (by have:=hst.len;simp only;omega) (Imp.weak ?_ ?_)
  ·exact gI
  ·exact gI
end Go.Rd
