/- part 44 of the proof -/
import Derived.Test.YteliegkcmjimoaaGreatDoorX42
import Derived.Test.YteliegkcmjimoaaGreatDoorX43
set_option linter.all false
open Go Go.Abs Go.Proofs
set_option maxRecDepth 100000
namespace Go.Rd
set_option maxHeartbeats 8000000
open List (length_map map_nil)
open Tryz
def f8_ok(l:List Int):Ad C0 8 [Ju l] [] (B true) []:=by
 refine Ad.go f8 ?_;unfold f8;refine gO ?_;refine Ab (lr l) ?_;cases h1:decide ((l.length:Int)<=300)
 ·simp(disch:=omega)only[go_sem,Bool.not_false];refine Ab GD ?_;refine gO ?_;exact AQ _
 have hl3:l.length<=300:=by simp at h1;omega
 simp(disch:=omega)only[go_sem,Bool.not_true];have hc:=(Qr l).1;refine Ab (aK l (by omega) 40 (by omega)) ?_;cases h5:decide ((Bl (DU l)).length<=4)
 ·simp(disch:=omega)only[go_sem,Bool.not_false];refine Ab GD ?_;refine gO ?_;exact AQ _
 have uu:(Bl (ofM (Cb l))).length<=4:=of_decide_eq_true h5;have hv:CD (DU l) ((AS (Cb l)).take 40)=true:=QW 40 (by omega);have WH:=VJ hc;have hlen:=Xj hc uu;rw[Zy hc uu]at hv ⊢;have GR:ofM (Cb l)=DU l:=rfl;rw[GR]at WH uu;have hf:=MG l;generalize AS (Cb l)=list at hv WH hlen ⊢;generalize DU l=s at hv WH hf uu ⊢
 by_cases h0:list=[]
 ·subst h0;simp(disch:=omega)only[go_sem,Bool.not_true,map_nil,List.length_nil];refine Ab GD ?_;refine gO ?_;exact AQ _
 have xf:(((list.length:Int))==0)=false:=by simp;exact h0
 have hd:Bl s≠[]:=λh=>by
  obtain⟨o,ho⟩:=List.exists_mem_of_ne_nil list h0;have:=(((EC s list).1 hv).2.2 o ho).2;have h':(Ca s).2=[]:=h;rw[h']at this;cases this
 obtain⟨S,hC,hB⟩:∃ S,CE s list=((S,Bj (Az s list).cost S),0)/\JN (Az s list) (some S):=by
  rcases Ri hv hd with h|⟨_,h⟩
  ·exact h
  ·exact absurd WH (h _)
 have hch:=gY s list hf (by omega) 4 (λhv T hT=>Nat.le_trans (tD hv hT) uu) (Nat.le_trans (Nat.pow_le_pow_left (show list.length+1<=21 by omega) 4) (by decide));rw[hC]at hch;simp(disch:=omega)only[go_sem,Bool.not_true,length_map,xf];refine Ab hch ?_;simp(disch:=omega)only[go_sem,length_map];have lR:=((EC s list).1 hv).1;have hso:EF s list S=true:=hB.1.2;obtain⟨x,V,hr,_⟩:=QZ hso;have rF:=fD lR hr hso;have nL:∀ i∈S,i<list.length:=hB.1.1.2.1;have hSl:S.length<=list.length:=MF hB.1.1;refine Ao (α:=Nat × WS × List Ac) (λy=>⟨[(3,.ptr 192 0),(4,Cw list),(41,E3 S),(42,I S.length),(43,I y.1)],[(192,y.2.1.c)]⟩) (λy=>y.1<=S.length/\AI y.2.1=true/\Fy list (S.drop y.1) y.2=some (x,V)) (λy=>S.length-y.1) (0,s,[]) ⟨by simp,lR,hr⟩ AK ?_;rintro⟨i,t,W⟩ ⟨j1,j2,j3⟩ J hJ;simp only at j1 j2 j3
 by_cases AP:i<S.length
 ·have e1:((i:Int)<(S.length:Int))=True:=eq_true (by omega);obtain⟨k,hk⟩:∃ k,S[i]?=some k:=⟨_,gE AP⟩;have X7:=nL k (mG hk);obtain⟨o,CC⟩:∃ o,list[k]?=some o:=⟨_,gE X7⟩;have e2:((k:Int)<0)=False:=eq_false (by omega);have e3:((list.length:Int)<=(k:Int))=False:=eq_false (by omega);simp(disch:=omega)only[go_sem,e1,e2,e3,gm,hk,decide_true,decide_false,length_map];rw[jX hk]at j3;simp only[Fy,CC]at j3;have hft:=GF j2;have hval:=Oi (o:=o) j2;have bk:o.lower.length<=1000000:=by have:=PM (((EC s list).1 hv).2.2 o (mG CC)).1;omega
  have rA:=qR t o hft bk;generalize Cm t o=a at j3 hval rA;obtain⟨u,z⟩:=a;have hz:z=0:=by
   by_cases hz:z=0
   ·exact hz
   ·simp[hz]at j3
  subst hz;simp only[if_true]at j3 hval;refine F5 [(0,[],[5,10,11,6,7,8]),(1,[],[3,10,11,4,5,6,7,8]),(2,[],[3,10,11,4,5,6,7,8]),(3,[1,2],[4,10,11,5,6,7,8]),(4,[3,1,2],[5,10,11,6,7,8]),(5,[0,4,3,1,2],[6,10,11,7,8]),(6,[5,0,4,3,1,2],[7,8,10,11]),(7,[6,5,0,4,3,1,2],[10,11]),(8,[6,5,0,4,3,1,2],[11]),(9,[],[10,11]),(10,[9,7,5,0,1,2,3,4,6],[11]),(11,[8,10,0,1,2,3,4,5,6,7,9],[])] [0,1,2,3,4,5,6,7,8,9,10,11] [(0,56,.agg t.c,[]),(1,57,Cw list,[]),(2,58,I k,[]),(3,59,.ep .no k o.c 0,[]),(4,60,.agg o.c,[]),(5,61,.BC [.agg u.c,I 0],[]),(6,55,.BC [.agg u.c,I 0],[]),(7,62,.agg u.c,[]),(8,63,I 0,[]),(9,10,.ptr 640 0,[]),(11,11,I 0,[])] (λb=>[(3,.ptr 192 0),(4,Cw list),(9,I k),(41,E3 S),(42,I S.length),(43,I i)]) (λb=>if b 9 then [(640,if b 10 then u.c else [.v (.slice none 0 0),.v (.slice none 0 0)]),(192,t.c)] else [(192,t.c)]) ?_ (λb=>?_) (λb=>?_) B6
  ·exact AT.Aq gI gI
  ·simp only[Pf,and_true];cases h9:b 9
   all_goals repeat'(with_reducible refine And.intro ?_ ?_)
   all_goals simp(disch:=omega)only[go_sem,gm,CC,h9]
   all_goals(try first|(refine Av [] rfl (by rfl) ?_ ?_ ?_<;>(simp(disch:=omega)only[go_sem,h9];done))|(refine Av [(_,_)] rfl (by rfl) ?_ ?_ ?_<;>(simp(disch:=omega)only[go_sem,h9];done))|(refine Av [(_,_),(_,_)] rfl (by rfl) ?_ ?_ ?_<;>(simp(disch:=omega)only[go_sem,h9];done))|(refine Av [(_,_),(_,_),(_,_)] rfl (by rfl) ?_ ?_ ?_<;>(simp(disch:=omega)only[go_sem,h9];done))|(refine Bz [] rfl (by rfl) ?_ ?_ ?_<;>(simp(disch:=omega)only[go_sem,h9];done))|(refine Bz [(_,_)] rfl (by rfl) ?_ ?_ ?_<;>(simp(disch:=omega)only[go_sem,h9];done)))
   all_goals(refine Ab rA ?_)
   all_goals simp(disch:=omega)only[go_sem,h9]
   all_goals(try first|(refine Av [] rfl (by rfl) ?_ ?_ ?_<;>(simp(disch:=omega)only[go_sem,h9];done))|(refine Av [(_,_)] rfl (by rfl) ?_ ?_ ?_<;>(simp(disch:=omega)only[go_sem,h9];done))|(refine Av [(_,_),(_,_)] rfl (by rfl) ?_ ?_ ?_<;>(simp(disch:=omega)only[go_sem,h9];done))|(refine Av [(_,_),(_,_),(_,_)] rfl (by rfl) ?_ ?_ ?_<;>(simp(disch:=omega)only[go_sem,h9];done))|(refine Bz [] rfl (by rfl) ?_ ?_ ?_<;>(simp(disch:=omega)only[go_sem,h9];done))|(refine Bz [(_,_)] rfl (by rfl) ?_ ?_ ?_<;>(simp(disch:=omega)only[go_sem,h9];done)))
  ·simp(disch:=omega)only[go_sem];refine hJ _ (i+1,u,W++[o.proc]) ⟨AP,hval trivial,j3⟩ (by simp only;omega) AK
 ·have e1:((i:Int)<(S.length:Int))=False:=eq_false (by omega);rw[List.drop_eq_nil_of_le (by omega)]at j3;simp only[Fy,Option.some.injEq,Prod.mk.injEq]at j3;obtain⟨rfl,rfl⟩:=j3;have hx0:(Ca t).2=[]:=rF;simp(disch:=omega)only[go_sem,e1,decide_false];refine Ab (Wk t (GF j2)) ?_;rw[DW j2];simp(disch:=omega)only[go_sem,hx0,map_nil,List.length_nil];refine Ab GD ?_;refine gO ?_;exact AQ _
end Go.Rd
