/- part 48 of the proof -/
import Derived.Test.YteliegkcmjimoaaGreatDoorW44
import Derived.Test.YteliegkcmjimoaaGreatDoorW47
set_option linter.all false
open Go Go.Abs Go.Proofs
set_option maxRecDepth 100000
namespace Go.Rd
set_option maxHeartbeats 8000000
open List (length_map)
open Tryz
def Ri{s:WS}{l:List C1}(hv:CD s l=true)(hd:Bl s≠[]):(∃ S,CE s l=((S,Bj (Az s l).cost S),0)/\JN (Az s l) (some S))\/(CE s l=(([],0),10)/\JN (Az s l) none):=by
 have hb:=U3 (P:=Az s l) λi hi=>(HV hv i hi).1
 cases h:best (Az s l) with
 |none=>rw[h]at hb;exact .inr ⟨TU hv hd hb,hb⟩
 |some S=>rw[h]at hb;exact .inl ⟨S,TV hv hd hb,hb⟩
theorem bB(M:List Nat):Ju (M.map fun(i:Nat)=>(i:Int))=E3 M:=by
 unfold Ju E3;rw[List.map_map];rfl
def f6_ok(l:List Int):Ad C0 6 [Ju l] [] (B true) []:=by
 refine Ad.go f6 ?_;unfold f6;refine gO ?_;refine Ab (lr l) ?_;cases h1:decide ((l.length:Int)<=300)
 ·refine gO ?_;refine Ab GD (gO ?_);exact AQ _
 have hl3:l.length<=300:=by grind
 refine gO ?_;have e5:=aK l (by omega) 6 (by omega);have hf:=MG l;have hwl:((AS (Cb l)).take 6).length<=6:=by simp;omega
 have hv:CD (DU l) ((AS (Cb l)).take 6)=true:=QW 6 (by omega);generalize (AS (Cb l)).take 6=list at e5 hwl hv;generalize DU l=s at e5 hf hv;refine Ab e5 ?_;cases h5:decide ((Bl s).length<=4)
 ·refine gO ?_;refine Ab GD (gO ?_);exact AQ _
 by_cases h0:list=[]
 ·subst h0;refine gO ?_;refine Ab GD (gO ?_);exact AQ _
 have rL:list.length≠0:=λh=>h0 (List.eq_nil_of_length_eq_zero h)
 have xf:(((list.length:Int))==0)=false:=by simp;exact h0
 have hd:Bl s≠[]:=λh=>by
  obtain⟨o,ho⟩:=List.exists_mem_of_ne_nil list h0;have:=(((EC s list).1 hv).2.2 o ho).2;have h':(Ca s).2=[]:=h;rw[h']at this;cases this
 obtain⟨S,c,e,hC,hS⟩:∃ S c e,CE s list=((S,c),e)/\((e=0/\c=Bj (Az s list).cost S/\JN (Az s list) (some S))\/(e=10/\JN (Az s list) none)):=by
  rcases Ri hv hd with ⟨S,h1,h2⟩|⟨h1,h2⟩
  ·exact⟨S,_,0,h1,.inl ⟨rfl,rfl,h2⟩⟩
  ·exact⟨[],0,10,h1,.inr ⟨rfl,h2⟩⟩
 have hch:=M0 s list hf (by omega);rw[hC]at hch;refine gS ?_;refine Ab hch ?_;have gd:(e !=0)=true->(e !=10)=false:=λh=>by grind
 obtain⟨z,hzd⟩:∃ z:Nat,z=2 ^ list.length:=⟨_,rfl⟩;have xu:z<=64:=by rw[hzd];exact Nat.le_trans (Nat.pow_le_pow_right (by omega) hwl) (by decide)
 have hpw:IntKind.i64.wrap (1*2 ^ min list.length 64)=(z:Int):=by rw[show min list.length 64=list.length by omega,Int.one_mul,show ((2:Int) ^ list.length)=((z:Nat):Int) by rw[hzd,Int.natCast_pow];rfl,wrap64 _ (by omega) (by omega)]
 have n9:((list.length:Int)<0)=False:=eq_false (by omega);have Aa6:=HV hv;have Abe:(e !=0)=false->GU s list (S.map fun(i:Nat)=>(i:Int))=true/\S.length<=1000000:=λh=>by
  rcases hS with ⟨h1,_,h2⟩|⟨h1,_⟩
  ·have h3:=MF h2.1.1;exact⟨(K4 hv).2 h2.1,by show S.length<=1000000;have h4:(Az s list).n=list.length:=rfl;omega⟩
  grind
 have Abl:∀ M:List Nat,pA (Az s list) M->(e !=0)=false/\¬ Bj (Az s list).cost M<c/\((Bj (Az s list).cost M==c)=true->¬ M.length<S.length):=λM hM=>by
  rcases hS with ⟨h1,h2,h3⟩|⟨_,h3⟩
  ·have h4:=h3.2 M hM;rw[Nt,OR]at h4;subst h1;subst h2;exact⟨rfl,by omega,λh5=>by simp only[beq_iff_eq]at h5;have:=h4.1.2 h5;omega⟩
  ·exact absurd hM (h3 M)
 have three:((e !=0)=false)\/((e !=0)=true/\(e !=10)=false):=by grind
 rcases three with hz|⟨hz,xr⟩
 case' inl=>refine gS ?_
 case' inr=>refine gS ?_
 all_goals
  refine Ao (α:=Nat) (λm=>⟨[(3,.ptr 192 0),(4,Cw list),(6,.ptr 384 0),(7,I e),(8,I m)],[(192,s.c),(384,[E3 S,I c])]⟩) (λm=>m<=z) (λm=>z-m) 0 (by omega) AK ?_;rintro m hm J0 pB
  by_cases hmz:m<z
  rotate_left
  ·have e1:((m:Int)<(z:Int))=False:=eq_false (by omega);simp(disch:=omega)only[go_sem,length_map,n9,hpw,e1,decide_false];refine Ab GD ?_;simp(disch:=omega)only[go_sem,hz]
   first
    |(refine CT _ ?_;exact gI;done)
    |(have h6:=Qy s list (S.map fun(i:Nat)=>(i:Int)) hf (by omega) (by grind)
      rw[bB,(Abe hz).1]at h6;refine Ab h6 (gO ?_);refine CT _ ?_;exact gI)
  have e1:((m:Int)<(z:Int))=True:=eq_true (by omega);simp(disch:=omega)only[go_sem,length_map,n9,hpw,e1,decide_true];refine Ao (α:=Nat × List Nat) (λx=>⟨[(3,.ptr 192 0),(4,Cw list),(6,.ptr 384 0),(7,I e),(8,I m),(9,.sl (.own 4032 0) 1 (x.2.map Fq)),(10,I (Bj (Az s list).cost x.2)),(11,I x.1)],[(192,s.c),(384,[E3 S,I c])]⟩) (λx=>x.1<=list.length/\x.2.length<=x.1/\∀ i∈x.2,i<list.length) (λx=>list.length-x.1) (0,[]) ⟨by simp,by simp,λ_ h=>by cases h⟩ (AT.Aq (by simp(disch:=omega)only[go_sem,Bj]) gI) ?_;rintro⟨i,M⟩ ⟨i1,i2,i3⟩ J hJ;simp only at i1 i2 i3;have hcM:=U6 Aa6 i3
  by_cases Hf:i<list.length
  ·have e2:((i:Int)<(list.length:Int))=True:=eq_true (by omega);have e3:((i:Int)<0)=False:=eq_false (by omega);obtain⟨o,ho,hom,CC,xl,iO,P4⟩:=JC hv Hf;have hoc:=R6 CC;have bc:Bj (Az s list).cost (M++[i])=Bj (Az s list).cost M+o.cost:=by simp_all[H9,Bj]
   simp(disch:=omega)only[go_sem,length_map,e2,e3,decide_true];refine⟨λhb=>?_,λhb=>?_⟩
   ·refine F5 [(0,[],[3,11,12]),(1,[],[2,11,12,3]),(2,[1],[3,11,12]),(3,[0,2,1],[11,12]),(4,[],[10,12]),(5,[],[7,12,8,9,10]),(6,[],[7,12,8,9,10]),(7,[5,6],[8,12,9,10]),(8,[7,5,6],[9,12,10]),(9,[8,7,5,6],[10,12]),(10,[4,9,8,7,5,6],[12]),(11,[3,0,1,2],[12]),(12,[10,11,0,1,2,3,4,5,6,7,8,9],[])] [0,1,2,3,4,5,6,7,8,9,10,11,12] [(0,60,.sl (.own 4032 0) 1 (M.map Fq),[3]),(1,61,I i,[]),(2,62,.sl (.own 3968 0) 1 [Fq i],[]),(3,63,.sl (.own 4032 0) 1 (M.map Fq++[Fq i]),[]),(4,64,I (Bj (Az s list).cost M),[]),(5,65,Cw list,[]),(6,66,I i,[]),(7,67,.ep .no i o.c 0,[]),(8,68,.ep .no i o.c 4,[]),(9,69,I o.cost,[]),(10,70,I (Bj (Az s list).cost M+o.cost),[]),(11,9,.sl (.own 4032 0) 1 (M.map Fq++[Fq i]),[]),(12,10,I (Bj (Az s list).cost M+o.cost),[])] (λb=>[(3,.ptr 192 0),(4,Cw list),(6,.ptr 384 0),(7,I e),(8,I m),(9,if b 11 then .undef else if b 3 then .undef else .sl (.own 4032 0) 1 (M.map Fq)),(10,if b 12 then .undef else I (Bj (Az s list).cost M)),(11,I i)]) (λb=>[(192,s.c),(384,[E3 S,I c])]) ?_ (λb=>?_) (λb=>?_) B6
    ·exact AT.Aq gI gI
    ·simp only[Pf,and_true];cases h3:b 3<;>cases dm:b 11
     all_goals repeat'(with_reducible refine And.intro ?_ ?_)
     all_goals simp(disch:=omega)only[go_sem,gm,ho,h3,dm,length_map]
     all_goals(try first|(refine Av [] rfl (by rfl) ?_ ?_ ?_<;>(simp(disch:=omega)only[go_sem,h3,dm];done))|(refine Av [(_,_)] rfl (by rfl) ?_ ?_ ?_<;>(simp(disch:=omega)only[go_sem];done))|(refine Av [(_,_),(_,_)] rfl (by rfl) ?_ ?_ ?_<;>(simp(disch:=omega)only[go_sem,h3,dm];done))|(refine Av [(_,_),(_,_),(_,_)] rfl (by rfl) ?_ ?_ ?_<;>(simp(disch:=omega)only[go_sem,h3,dm];done))|(refine Bz [] rfl (by rfl) ?_ ?_ ?_<;>(simp(disch:=omega)only[go_sem,h3,dm];done))|(refine Bz [(_,_)] rfl (by rfl) ?_ ?_ ?_<;>(simp(disch:=omega)only[go_sem,h3,dm];done)))
    ·simp(disch:=omega)only[go_sem];refine hJ _ (i+1,M++[i]) ⟨Hf,by grind,λj hj=>?_⟩ (by omega) (AT.Aq ?_ gI)
     ·grind
     ·rw[bc];refine gO ?_;exact .sl (by simp[Fq])
   ·refine hJ _ (i+1,M) ⟨Hf,by grind,i3⟩ (by omega) AK
  have e2:((i:Int)<(list.length:Int))=False:=eq_false (by omega);simp(disch:=omega)only[go_sem,length_map,e2,decide_false];have AeD:=Qy s list (M.map fun(i:Nat)=>(i:Int)) hf (by omega) (by grind);have hsi:=K4 (S:=M) hv;rw[bB]at AeD;refine B4 [4032] AeD gI rfl trivial ?_;cases rX:GU s list (M.map fun(i:Nat)=>(i:Int))
  ·simp(disch:=omega)only[go_sem];refine pB _ (m+1) (by omega) (by omega) AK
  have WH:=hsi.1 rX;obtain⟨g1,g2,g3⟩:=Abl M WH;cases hq:(Bj (Az s list).cost M==c)
  ·simp(disch:=omega)only[go_sem,g1,eq_false g2,decide_false,hq];refine pB _ (m+1) (by omega) (by omega) AK
  ·simp(disch:=omega)only[go_sem,g1,eq_false g2,decide_false,hq,length_map,eq_false (show ¬ (M.length:Int)<(S.length:Int) by have:=g3 hq;omega)];refine pB _ (m+1) (by omega) (by omega) AK
end Go.Rd
