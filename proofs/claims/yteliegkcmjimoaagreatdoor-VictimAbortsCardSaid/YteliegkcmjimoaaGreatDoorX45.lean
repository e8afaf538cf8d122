/- part 45 of the proof -/
import Derived.Test.YteliegkcmjimoaaGreatDoorX44
set_option linter.all false
open Go Go.Abs Go.Proofs
set_option maxRecDepth 100000
namespace Go.Rd
set_option maxHeartbeats 8000000
open List (map_nil)
open Tryz
def Sx(L:List C1)(i:Nat):List Nat:=(List.range i).filter λi=>decide ((L.getD i o0).label = -1)
def mF{L:List C1}{i:Nat}{o:C1}(h:L[i]?=some o):Sx L (i+1)=Sx L i++(if o.label = -1 then [i] else []):=by simp_all[Sx,List.range_succ,List.filter_cons]
def cA(L:List C1)(i:Nat):(Sx L i).length<=i:=by
 have:=List.length_filter_le (λi=>decide ((L.getD i o0).label = -1)) (List.range i);rw[List.length_range]at this;exact this
@[go_sem] theorem AcB(L:List C1):Sx L 0=[]:=rfl
@[go_sem] theorem AiB:((16:Int)=0)=False:=by simp
theorem f7_ok(l:List Int)(pick:Int):Ad C0 7 [Ju l,.v (.int .u16 pick)] [] (B true) []:=by
 refine Ad.go f7 ?_;unfold f7;refine gO ?_;refine Ab (lr l) ?_;cases h1:decide ((l.length:Int)<=300)
 ·refine gO ?_;refine Ab GD (gO ?_);exact AQ _
 have hl3:l.length<=300:=by grind
 refine gO ?_;have hc:=(Qr l).1;refine Ab (aK l (by omega) 40 (by omega)) ?_;cases h5:decide ((Bl (DU l)).length<=4)
 ·refine gO ?_;refine Ab GD (gO ?_);exact AQ _
 have uu:(Bl (ofM (Cb l))).length<=4:=of_decide_eq_true h5;have hv:CD (DU l) ((AS (Cb l)).take 40)=true:=QW 40 (by omega);have WH:=VJ hc;have Y3:=λS hS=>eG hc (S:=S) hS
 have hlen:=Xj hc uu;rw[Zy hc uu]at hv ⊢;have GR:ofM (Cb l)=DU l:=rfl;rw[GR]at WH Y3;have hf:=MG l;generalize AS (Cb l)=list at hv WH hlen Y3 ⊢;generalize DU l=s at hv WH hf Y3 ⊢
 by_cases h0:list=[]
 ·subst h0;refine gO ?_;refine Ab GD (gO ?_);exact AQ _
 have xf:(((list.length:Int))==0)=false:=by simp_all
 refine gS ?_;refine Ao (α:=Nat × List Nat) (λx=>⟨[(1,.v (.int .u16 pick)),(5,.ptr 320 0),(6,Cw list),(8,.sl (.own 3136 0) 1 ((Sx list x.1).map Fq)),(9,.sl (.own 5248 0) 1 (x.2.map Fq)),(10,.v (.slice none 0 0)),(11,I x.1)],[(320,s.c)]⟩) (λx=>x.1<=list.length/\x.2.length<=x.1/\∀ j∈x.2,j<list.length) (λx=>list.length-x.1) (0,[]) ⟨by simp,by simp,λ_ h=>by cases h⟩ AK ?_;rintro⟨i,M⟩ ⟨i1,i2,i3⟩ J hJ;simp only at i1 i2 i3
 by_cases Hf:i<list.length
 ·have e1:((i:Int)<(list.length:Int))=True:=eq_true (by omega);obtain⟨o,ho⟩:∃ o,list[i]?=some o:=⟨_,gE Hf⟩;have LP:=mF ho;have QG:=cA list i;cases rJ:(o.label==-1)
  case' false =>
   have pI:¬ o.label = -1:=by grind
   rw[if_neg pI,List.append_nil]at LP;refine gS ?_;rw[<- LP]
  case' true =>
   have hyl:o.label = -1:=by grind
   rw[if_pos hyl]at LP;have ID:(Sx list i).length+1<=4294967296:=by omega
   have wZ:(Sx list i).map Fq++[Fq i]=(Sx list (i+1)).map Fq:=by grind
   simp[Fq]at wZ;simp(disch:=omega)only[go_sem,e1,ho,rJ,wZ]
  all_goals
   refine Ep (st':=⟨[(1,.v (.int .u16 pick)),(5,.ptr 320 0),(6,Cw list),(8,.sl (.own 3136 0) 1 ((Sx list (i+1)).map Fq)),(9,.sl (.own 5248 0) 1 (M.map Fq)),(10,.v (.slice none 0 0)),(11,I i)],[(320,s.c)]⟩) AK ?_;clear LP QG;have htm:(((i:Int).tmod 16)<0)=False:=eq_false (by grind);have ID:M.length+1<=4294967296:=by omega
   have nx:∀ st',(AT ⟨C0,[]⟩ st' ⟨[(1,.v (.int .u16 pick)),(5,.ptr 320 0),(6,Cw list),(8,.sl (.own 3136 0) 1 ((Sx list (i+1)).map Fq)),(9,.sl (.own 5248 0) 1 (M.map Fq)),(10,.v (.slice none 0 0)),(11,I ((i:Int)+1))],[(320,s.c)]⟩\/AT ⟨C0,[]⟩ st' ⟨[(1,.v (.int .u16 pick)),(5,.ptr 320 0),(6,Cw list),(8,.sl (.own 3136 0) 1 ((Sx list (i+1)).map Fq)),(9,.sl (.own 5248 0) 1 (M.map Fq++[[I i]])),(10,.v (.slice none 0 0)),(11,I ((i:Int)+1))],[(320,s.c)]⟩)->J st':=λst' h=>by
    rcases h with h|h
    ·refine hJ st' (i+1,M) ⟨Hf,by grind,i3⟩ (by omega) ?_;simp only[Int.natCast_add,Int.cast_ofNat_Int];exact h
    ·refine hJ st' (i+1,M++[i]) ⟨Hf,by grind,λj hj=>?_⟩ (by omega) ?_
     ·grind
     ·simp only[List.map_append,List.map_cons,map_nil,Fq,Int.natCast_add,Int.cast_ofNat_Int];exact h
   clear hJ
   by_cases hM:M=[]
   ·subst hM;refine Ay 26 [([],[1]),([],[11]),([],[51]),([],[50,52]),([],[53]),([],[54]),([],[55]),([],[9,56]),([],[57,56]),([],[58,56]),([],[59,56]),([],[6,60]),([],[9,60]),([],[9,60]),([],[63,60]),([],[64,60]),([],[62,65,60]),([],[66,60]),([],[61,67,60]),([],[68,60]),([],[69,60]),([],[6,60]),([],[11,60]),([],[71,72,60]),([],[73,60]),([],[74,60])] B6 ?_;simp(disch:=omega)only[go_sem,map_nil,List.length_nil,htm]
    repeat'(with_reducible refine And.intro (λh=>?_) (λh=>?_))
    all_goals first
     |(refine nx _ (.inl (AT.Aq ?_ ?_))<;>(simp(disch:=omega)only[go_sem];done))
     |(refine nx _ (.inr (AT.Aq ?_ ?_))<;>(simp(disch:=omega)only[go_sem];done))
   ·have AlM:0<M.length:=List.length_pos_iff.2 hM;have Y2:((M.length:Int)==0)=false:=by grind
    have AhJ:((0:Int)<=(M.length:Int)-1)=True:=eq_true (by omega);have htn:((M.length:Int)-1).toNat=M.length-1:=by omega
    obtain⟨k,hk⟩:∃ k,M[M.length-1]?=some k:=⟨_,gE (by omega)⟩;obtain⟨o2,y8⟩:∃ o2,list[k]?=some o2:=⟨_,gE (i3 k (mG hk))⟩;refine Ay 26 [([],[1]),([],[11]),([],[51]),([],[50,52]),([],[53]),([],[54]),([],[55]),([],[9,56]),([],[57,56]),([],[58,56]),([],[59,56]),([],[6,60]),([],[9,60]),([],[9,60]),([],[63,60]),([],[64,60]),([],[62,65,60]),([],[66,60]),([],[61,67,60]),([],[68,60]),([],[69,60]),([],[6,60]),([],[11,60]),([],[71,72,60]),([],[73,60]),([],[74,60])] B6 ?_;simp(disch:=omega)only[go_sem,List.length_map,htm,Y2,AhJ,htn,gm,hk,ho,y8]
    repeat'(with_reducible refine And.intro (λh=>?_) (λh=>?_))
    all_goals first
     |(refine nx _ (.inl (AT.Aq ?_ ?_))<;>(simp(disch:=omega)only[go_sem];done))
     |(refine nx _ (.inr (AT.Aq ?_ ?_))<;>(simp(disch:=omega)only[go_sem];done))
 have hie:i=list.length:=by omega
 subst hie;have e1:((list.length:Int)<(list.length:Int))=False:=eq_false (by omega);have hA:Sx list list.length=Dm list:=rfl;have hAl:=cA list list.length;rw[hA]at hAl ⊢;have hAn:∀ j∈Dm list,j<list.length:=λj hj=>by grind[Eu]
 have dG:∀ j,(Qc list j).length<=20:=λj=>by grind[Qc]
 clear hJ;refine gS ?_;refine AF (M) (λi=>⟨[(5,.ptr 320 0),(6,Cw list),(8,.sl (.own 3136 0) 1 ((Dm list).map Fq)),(9,.sl (.own 5248 0) 1 (M.map Fq)),(10,.sl (.own 6976 0) 1 ((Mo list (M.take i)).map Fq)),(83,.sl (.own 5248 0) 1 (M.map Fq)),(84,I M.length),(85,I i)],[(320,s.c)]⟩) (λi=>True) trivial ?_ ?_
 ·have Q4:=@Mo.eq_1;exact Gd
 rintro i ⟨hi,hP⟩ J hJ;refine gO ?_;refine Bo hi (λAP b hb Cg AX=>?_) λBa=>?_
 simp(disch:=omega)only[go_sem,hb]
 ·have nR:=i3 b Cg;obtain⟨o,ho⟩:∃ o,list[b]?=some o:=⟨_,gE nR⟩;have hwb:=Gs ho;have Y2:=L8 (Qc list) 20 dG (M.take i);rw[List.length_take]at Y2;have em:Mo list (M.take (i+1))=Mo list (M.take i)++Qc list b:=by grind[Mo,List.take_add_one]
  have hmo:(Mo list (M.take i)).length<=400:=by
   have:min i M.length*20<=20*20:=Nat.mul_le_mul_right _ (by omega);exact Nat.le_trans Y2 this
  generalize Mo list (M.take i)=Q at em hmo ⊢;obtain⟨n,rfl⟩:∃ n,n=i:=⟨i,rfl⟩;obtain⟨z,rfl⟩:∃ z,z=b:=⟨b,rfl⟩;have pB:=hJ;have AlG:=AP;clear hJ;refine AF ((Dm list)) (λi=>⟨[(5,.ptr 320 0),(6,Cw list),(8,.sl (.own 3136 0) 1 ((Dm list).map Fq)),(9,.sl (.own 5248 0) 1 (M.map Fq)),(10,.sl (.own 6976 0) 1 ((Q++((Dm list).take i).filter (λk=>decide (FE list k=FE list z))).map Fq)),(13,I z),(83,.sl (.own 5248 0) 1 (M.map Fq)),(84,I M.length),(85,I n),(89,.sl (.own 3136 0) 1 ((Dm list).map Fq)),(90,I (Dm list).length),(91,I i)],[(320,s.c)]⟩) (λi=>True) trivial ?_ ?_
  ·exact Ce
  rintro i ⟨hi,hP⟩ J hJ;refine gO ?_;refine Bo hi (λAP b hb Cg AX=>?_) λBa=>?_
  simp(disch:=omega)only[go_sem,hb]
  ·obtain⟨o2,y8⟩:∃ o2,list[b]?=some o2:=⟨_,gE (hAn b Cg)⟩;have zf:=Gs y8;have Me:=List.length_filter_le (λk=>decide (FE list k=FE list z)) ((Dm list).take i);rw[List.length_take]at Me;have ef:((Dm list).take (i+1)).filter (λk=>decide (FE list k=FE list z))=((Dm list).take i).filter (λk=>decide (FE list k=FE list z))++(if o2.proc=o.proc then [b] else []):=by simp_all[List.take_add_one,List.filter_cons]
   generalize ((Dm list).take i).filter (λk=>decide (FE list k=FE list z))=R at Me ef ⊢;have ID:Q.length+R.length+1<=4294967296:=by omega
   by_cases hpp:o2.proc=o.proc
   ·rw[if_pos hpp]at ef;refine Ay 10 [([],[6]),([],[15]),([],[95,96]),([],[97]),([],[98]),([],[6]),([],[13]),([],[100,101]),([],[102]),([],[103])] B6 ?_;simp(disch:=omega)only[go_sem,ho,y8,eq_true hpp];refine hJ _ (i+1) ⟨by omega,trivial⟩ (by omega) (AT.Aq ?_ gI);rw[ef];refine gO ?_;exact .sl (by simp[Fq])
   ·rw[if_neg hpp,List.append_nil]at ef;refine Ay 10 [([],[6]),([],[15]),([],[95,96]),([],[97]),([],[98]),([],[6]),([],[13]),([],[100,101]),([],[102]),([],[103])] B6 ?_;simp(disch:=omega)only[go_sem,ho,y8,eq_false hpp];refine hJ _ (i+1) ⟨by omega,trivial⟩ (by omega) (AT.Aq ?_ gI);rw[ef];exact gI
  subst Ba;rw[List.take_length];refine pB _ (n+1) ⟨by omega,trivial⟩ (by omega) (AT.Aq ?_ gI);rw[em];refine gO ?_;exact .sl rfl
 subst Ba;rw[List.take_length];clear hJ;have AlN:(Mo list M).length<=1000000:=by
  have h6:=L8 (Qc list) 20 dG M;have h7:M.length*20<=20*20:=Nat.mul_le_mul_right _ (by omega);exact Nat.le_trans h6 (by omega)
 have q1:=Qy s list ((Dm list).map fun(i:Nat)=>(i:Int)) hf (by omega) (by grind);have q2:=Qy s list (M.map fun(i:Nat)=>(i:Int)) hf (by omega) (by grind);have q3:=Qy s list ((Mo list M).map fun(i:Nat)=>(i:Int)) hf (by omega) (by grind);rw[bB]at q1 q2 q3;rw[(K4 hv).2 WH]at q1;have hsi:=K4 (S:=M) hv;have hmi:=K4 (S:=Mo list M) hv;refine Ab GD ?_;refine gO ?_;refine B4 [3136] q1 gI rfl trivial (gO ?_);refine B4 [5248] q2 gI rfl trivial ?_;cases rX:GU s list (M.map fun(i:Nat)=>(i:Int))
 ·refine gO ?_;exact AQ _
 rw[hmi.2 (Y3 M (hsi.1 rX))]at q3;refine gO ?_;refine B4 [6976] q3 gI rfl trivial (gO ?_);exact AQ _
end Go.Rd
