/- part 47 of the proof -/
import Derived.Test.YteliegkcmjimoaaGreatDoorW41
set_option linter.all false
open Go Go.Abs Go.Proofs
set_option maxRecDepth 100000
namespace Go.Rd
set_option maxHeartbeats 8000000
def sR{c:Hw}{o:C1}(ho:o∈AS c):Cc o=true/\o.proc∈Bl (ofM c)/\∃ x∈c.procs,x.proc=o.proc/\o∈IJ x:=by
 unfold AS at ho;obtain⟨x,hx,ho⟩:=List.mem_flatMap.1 ho;unfold Ft at ho;obtain⟨p,hp,ho⟩:=List.mem_flatMap.1 ho;split at ho
 ·rename_i he;unfold Gn at ho;split at ho
  ·rename_i hg;simp at hg;have bp:o.proc=x.proc:=by
    unfold IJ at ho;rcases List.mem_append.1 ho with ho|ho
    ·obtain⟨s,_,rfl⟩:=List.mem_map.1 ho;rfl
    ·simp at ho;subst ho;rfl
   exact⟨hg.2 o ho,by grind,x,hx,bp.symm,ho⟩
  grind
 grind
def QW{c:Hw}(k:Nat)(hk:k<=40):CD (ofM c) ((AS c).take k)=true:=by
 refine(EC _ _).2 ⟨JJ c,by grind,λo ho=>?_⟩;obtain⟨a,b,_⟩:=sR (List.mem_of_mem_take ho);exact⟨a,b⟩
def FE(opts:List C1)(i:Nat):Ac:=(opts.getD i o0).proc
def Gs{opts:List C1}{i:Nat}{o:C1}(h:opts[i]?=some o):FE opts i=o.proc:=by simp[FE,h]
def Xh{opts:List C1}:∀ (S:List Nat) (last:Int) (V:List Ac),V.Nodup->(JT opts last V (S.map fun(i:Nat)=>(i:Int))=true↔S.Pairwise (· < ·)/\(∀ i∈S,last<(i:Int)/\i<opts.length)/\(S.map (FE opts)).Nodup/\∀ i∈S,FE opts i∉V)
 |[],last,V,_=>by simp[JT]
 | i::S,last,V,hV=>by
  simp only[List.map_cons,JT]
  by_cases h1:(i:Int)<=last
  ·grind
  rw[if_neg h1,Int.toNat_natCast];cases ho:opts[i]? with
  |none =>
   grind
  |some o =>
   have hw:=Gs ho;have Ba:=(List.getElem?_eq_some_iff.1 ho).1;simp only
   by_cases hp:Br V o.proc=true
   ·rw[if_pos hp];constructor
    ·grind
    grind[Br]
   ·rw[if_neg hp];have hpV:o.proc∉V:=by grind[Br]
    rw[Xh S i (V++[o.proc]) (by grind)];constructor
    ·rintro⟨a,b,c,d⟩;refine⟨List.pairwise_cons.2 ⟨λj hj=>by have:=(b j hj).1;omega,a⟩,λj hj=>?_,?_,λj hj=>?_⟩<;>grind
    simp_all
def jm{s:WS}{opts:List C1}{S:List Nat}:JT opts (-1) [] (S.map fun(i:Nat)=>(i:Int))=true↔isSet (Az s opts) S:=by
 rw[Xh S (-1) [] .nil];constructor
 ·rintro⟨a,b,c,_⟩;exact⟨a,λi hi=>(b i hi).2,c⟩
 ·rintro⟨a,b,c⟩;exact⟨a,λi hi=>⟨by omega,b i hi⟩,c,λ_ _ h=>by cases h⟩
theorem K4{s:WS}{opts:List C1}(hv:CD s opts=true){S:List Nat}:GU s opts (S.map fun(i:Nat)=>(i:Int))=true↔pA (Az s opts) S:=by
 have e:(S.map fun(i:Nat)=>(i:Int)).map Int.toNat=S:=by rw[List.map_map];exact(List.map_congr_left λi _=>Int.toNat_natCast i).trans (List.map_id' S)
 unfold GU pA;rw[hv,e,Bool.true_and,Bool.and_eq_true,jm (s:=s)];rfl
end Go.Rd
