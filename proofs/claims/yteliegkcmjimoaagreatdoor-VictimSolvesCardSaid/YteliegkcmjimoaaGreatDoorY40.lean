/- part 40 of the proof -/
import Derived.Test.YteliegkcmjimoaaGreatDoorY39
set_option linter.all false
open Go Go.Abs Go.Proofs
set_option maxRecDepth 100000
namespace Go.Rd
set_option maxHeartbeats 8000000
open List (length_cons length_map map_cons map_nil mem_cons take_add_one take_length)
open Tryz
def Ft(D:List Ac)(x:Bu):List C1:=D.flatMap λp=>if x.proc=p then Gn x else []
def AS(c:Hw):List C1:=c.procs.flatMap (Ft (Bl (ofM c)))
theorem Zx(x:Bu):(Gn x).length<=5:=by
 unfold Gn;split<;>simp_all[KM,Bx,IJ]
def L8{α β:Type}(f:α->List β)(n:Nat)(h:∀ a,(f a).length<=n):∀ l:List α,(l.flatMap f).length<=l.length*n
 |[]=>by simp
 | a::l=>by
  have:=L8 f n h l;have:=h a;simp only[List.flatMap_cons,List.length_append,length_cons,Nat.add_mul];omega
def Xi(D:List Ac)(x:Bu):(Ft D x).length<=D.length*5:=L8 _ 5 (λp=>by grind[Zx]) D
def Aau(c:Hw)(h:Ck c=true)(hp:c.procs.length<=100)(OU:Nat)(hm:OU<=100):Ad C0 39 [.agg c.c,I OU] [] (Cw ((AS c).take OU)) []:=by
 have hv:=JJ c;have hf:=AaQ h;have hd:=dc hv;refine Ad.go f39 ?_;unfold f39;refine gO ?_;refine Ab (qT c (Dx (F9 h).ve.je.tab)) (gO ?_);refine Ab (Wk (ofM c) hf) ?_;rw[DW hv];refine gO ?_;refine AF (c.procs) (λi=>⟨[(1,I OU),(2,.ptr 128 0),(5,.sl (.own 3008 0) 6 (((c.procs.take i).flatMap (Ft (Bl (ofM c)))).map C1.c)),(7,AL (Ca (ofM c)).2),(8,I i)],[(128,c.c)]⟩) (λi=>True) trivial ?_ ?_
 ·exact Ce
 rintro i ⟨hi,hP⟩ J hJ;refine gO ?_;refine Bo hi (λAP b hb Cg AX=>?_) λBa=>?_
 ·have RN:=L8 (Ft (Bl (ofM c))) 40 (λa=>Nat.le_trans (Xi _ a) (by omega)) (c.procs.take i);rw[List.length_take]at RN;have Me:∀ k,((Bl (ofM c)).take k).flatMap (λp=>if b.proc=p then Gn b else [])=Ft ((Bl (ofM c)).take k) b:=λ_=>rfl
  have e1:(c.procs.take (i+1)).flatMap (Ft (Bl (ofM c)))=(c.procs.take i).flatMap (Ft (Bl (ofM c)))++Ft (Bl (ofM c)) b:=by grind[take_add_one]
  generalize (c.procs.take i).flatMap (Ft (Bl (ofM c)))=A at RN e1 ⊢;obtain⟨x,rfl⟩:∃ x,x=b:=⟨b,rfl⟩;obtain⟨n,rfl⟩:∃ n,n=i:=⟨i,rfl⟩;have pB:=hJ;have pS:=hb;clear hJ;refine AF ((Ca (ofM c)).2) (λi=>⟨[(1,I OU),(2,.ptr 128 0),(5,.sl (.own 3008 0) 6 ((A++Ft ((Ca (ofM c)).2.take i) x).map C1.c)),(7,AL (Ca (ofM c)).2),(8,I n),(9,I i)],[(128,c.c)]⟩) (λi=>True) trivial ?_ ?_
  ·have Q4:=@Ft.eq_1;exact Gd
  rintro i ⟨hi,hP⟩ J hJ;refine gO ?_;refine Bo hi (λAP b hb Cg AX=>?_) λBa=>?_
  refine Ay 10 [([],[2]),([],[29]),([],[8]),([],[30,31]),([],[32]),([],[33]),([],[7]),([],[9]),([],[35,36]),([],[37])] B6 ?_;simp(disch:=omega)only[go_sem,gm]
  ·simp only[go_sem,pS,hb];have oa:=Xi ((Ca (ofM c)).2.take i) x;have AlR:=Zx x;rw[List.length_take]at oa;have Zy:(Ca (ofM c)).2.length<=8:=hd;have e2:Ft ((Ca (ofM c)).2.take (i+1)) x=Ft ((Ca (ofM c)).2.take i) x++(if x.proc=b then Gn x else []):=by simp_all[Ft,take_add_one]
   generalize Ft ((Ca (ofM c)).2.take i) x=M at oa e2 ⊢;have ID:A.length+M.length+(Gn x).length<=4294967296:=by omega
   by_cases mr:x.proc=b
   ·rw[if_pos mr]at e2;simp only[go_sem,eq_true mr];refine Ab (AaI x) ?_;simp(disch:=omega)only[go_sem,length_map,List.length_append];refine hJ _ (i+1) ⟨by omega,trivial⟩ (by omega) (AT.Aq ?_ gI);rw[e2];refine gO ?_;exact .sl (by simp)
   ·rw[if_neg mr,List.append_nil]at e2;simp(disch:=omega)only[go_sem,eq_false mr];refine hJ _ (i+1) ⟨by omega,trivial⟩ (by omega) (AT.Aq ?_ gI);rw[e2];exact gI
  subst Ba;rw[take_length];refine pB _ (n+1) ⟨by omega,trivial⟩ (by omega) (AT.Aq ?_ gI);rw[e1];refine gO ?_;exact .sl rfl
 subst Ba;rw[take_length];have Ka:(c.procs.flatMap (Ft (Bl (ofM c))))=AS c:=rfl;rw[Ka]
 by_cases gY:OU<(AS c).length
 ·simp(disch:=omega)only[go_sem,eq_true (show (OU:Int)<((AS c).length:Int) by omega)];refine CU ⟨[],[],[3008]⟩ _ ?_;exact gI
 ·simp only[go_sem,eq_false (show ¬ (OU:Int)<((AS c).length:Int) by omega)];refine CU ⟨[],[],[3008]⟩ _ (gO ?_);exact .sl (by grind[List.take_of_length_le])
theorem aK(l:List Int)(hl:l.length<=10000)(OU:Nat)(hm:OU<=100):Ad C0 17 [Ju l,I OU] [] (.BC [.agg (DU l).c,Cw ((AS (Cb l)).take OU),B (decide ((Bl (DU l)).length<=4))]) []:=by
 have hc:=(Qr l).1;have hv:AI (DU l)=true:=JJ _;have hp:(Cb l).procs.length<=8:=(Lh hc).je.n;refine Ad.go f17 ?_;unfold f17;refine gO ?_;refine Ab (Aaq l hl) ?_;refine gO ?_;refine Ab (qT (Cb l) (TQ l)) ?_;have GR:ofM (Cb l)=DU l:=rfl;rw[GR];refine gO ?_;refine Ab (Wk (DU l) (MG l)) ?_;rw[DW hv];refine gO ?_;have uu:decide (((Bl (DU l)).length:Int)<=4)=decide ((Bl (DU l)).length<=4):=by grind
 refine F5 [(0,[],[7,8,9]),(1,[],[3,8,9,7]),(2,[],[3,8,9,7]),(3,[1,2],[7,8,9]),(4,[],[5,9,6]),(5,[4],[6,9]),(6,[5,4],[9]),(7,[0,3,1,2],[8,9]),(8,[3,7,0,1,2],[9]),(9,[6,8,0,1,2,3,4,5,7],[])] [0,1,2,3,4,5,6,7,8,9] [(0,20,.agg (DU l).c,[]),(1,21,.agg (Cb l).c,[]),(2,22,I OU,[]),(3,23,Cw ((AS (Cb l)).take OU),[]),(4,24,AL (Ca (DU l)).2,[]),(5,25,I (Ca (DU l)).2.length,[]),(6,26,B (decide (((Ca (DU l)).2.length:Int)<=4)),[]),(8,5,Cw ((AS (Cb l)).take OU),[]),(9,6,B (decide (((Ca (DU l)).2.length:Int)<=4)),[])] (λb=>[(1,I OU),(4,.ptr 256 0),(7,.ptr 448 0),(8,.ptr 512 0),(10,AL (Ca (DU l)).2)]) (λb=>[(256,if b 7 then (DU l).c else [.v (.slice none 0 0),.v (.slice none 0 0)]),(448,(Cb l).c),(512,(DU l).c)]) ?_ (λb=>?_) (λb=>?_) B6
 ·exact AT.Aq gI gI
 ·simp[Pf];cases h7:b 7
  all_goals repeat'(with_reducible refine And.intro ?_ ?_)
  all_goals simp(disch:=omega)only[go_sem,length_map,h7]
  all_goals(try first|(refine Av [] rfl (by rfl) ?_ ?_ ?_<;>(simp(disch:=omega)only[go_sem];done))|(refine Av [(_,_)] rfl (by rfl) ?_ ?_ ?_<;>(simp(disch:=omega)only[go_sem];done))|(refine Av [(_,_),(_,_)] rfl (by rfl) ?_ ?_ ?_<;>(simp(disch:=omega)only[go_sem];done))|(refine Av [(_,_),(_,_),(_,_)] rfl (by rfl) ?_ ?_ ?_<;>(simp(disch:=omega)only[go_sem];done))|(refine Bz [] rfl (by rfl) ?_ ?_ ?_<;>(simp(disch:=omega)only[go_sem];done))|(refine Bz [(_,_)] rfl (by rfl) ?_ ?_ ?_<;>(simp(disch:=omega)only[go_sem];done)))
  all_goals(refine Ab (Aau (Cb l) hc (by omega) OU hm) ?_)
  all_goals simp(disch:=omega)only[go_sem]
  all_goals(try first|(refine Av [] rfl (by rfl) ?_ ?_ ?_<;>(simp(disch:=omega)only[go_sem];done))|(refine Av [(_,_)] rfl (by rfl) ?_ ?_ ?_<;>(simp(disch:=omega)only[go_sem];done))|(refine Av [(_,_),(_,_)] rfl (by rfl) ?_ ?_ ?_<;>(simp(disch:=omega)only[go_sem];done))|(refine Av [(_,_),(_,_),(_,_)] rfl (by rfl) ?_ ?_ ?_<;>(simp(disch:=omega)only[go_sem];done))|(refine Bz [] rfl (by rfl) ?_ ?_ ?_<;>(simp(disch:=omega)only[go_sem];done))|(refine Bz [(_,_)] rfl (by rfl) ?_ ?_ ?_<;>(simp(disch:=omega)only[go_sem];done)))
 ·refine gO ?_;refine CT _ ?_;refine .BC (Ae.AJ ?_);refine gO ?_;exact .eq (by rw[<- uu];rfl)
def qY(name:Bs)(p q:Ac):Ad C0 64 [.v (.string (str name)),.agg p.c,.agg q.c,.ptr 63 0] [(63,wA.c)] (.agg (Mk name p q).c) [(63,wA.c)]:=by
 refine Ad.go f64 ?_;unfold f64;simp(disch:=omega)only[go_sem,wA];refine AY ⟨[],[(63,63)],[832,1088]⟩ _ (by(try simp(disch:=omega)only[go_sem,Cx,Gv])<;>rfl) ⟨rfl,rfl⟩ (by simp[lk]) ?_ ?_
 ·simp(disch:=omega)only[go_sem,Mk,wA];exact .agg (Ae.AJ (by simp(disch:=omega)only[go_sem,Mk,wA,Bg,Ct,map_cons,map_nil]))
 ·simp(disch:=omega)only[go_sem,wA]
def qZ(p:Ac)(name:Bs):Ad C0 65 [.agg p.c,.v (.string (str name)),.ptr 63 0] [(63,wA.c)] (.agg (Mp p name).c) [(63,wA.c)]:=by
 refine Ad.go f65 ?_;unfold f65;simp(disch:=omega)only[go_sem,wA];refine AY ⟨[],[(63,63)],[]⟩ _ (by(try simp(disch:=omega)only[go_sem,Cx,Gv])<;>rfl) ⟨rfl,rfl⟩ (by simp[lk]) ?_ ?_
 ·simp(disch:=omega)only[go_sem,Mp,wA];exact .agg (Ae.AJ (by simp(disch:=omega)only[go_sem,Mp,wA,Expr.k,Expr.atom,Expr.kids,map_nil]))
 ·simp(disch:=omega)only[go_sem,wA]
def zA(name:Bs):Atom:=⟨name,⟨0,0⟩⟩
def G7:List C1:=[⟨B2 0,-1,10,[zA [97],zA [98]]⟩,⟨B2 1,-1,6,[zA [97],zA [98]]⟩]
def Aap:Ad C0 28 [] [] (.BC [.agg G8.c,Cw G7]) []:=by
 refine Ad.go f28 ?_;unfold f28;simp(disch:=omega)only[go_sem];refine Ab (qU 0) ?_;simp(disch:=omega)only[go_sem];refine Ab (qU 1) ?_;simp(disch:=omega)only[go_sem];refine F5 [(0,[],[3,18,19,7,8,11,16,14,15]),(1,[],[3,18,19,7,8,11,16,14,15]),(2,[],[3,18,19,7,8,11,16,14,15]),(3,[0,1,2],[7,8,18,19,11,16,14,15]),(4,[],[7,18,19,8,11,16,14,15]),(5,[],[7,18,19,8,11,16,14,15]),(6,[],[7,18,19,8,11,16,14,15]),(7,[4,5,6,3,0,1,2],[8,11,18,19,16,14,15]),(8,[3,7,0,1,2,4,5,6],[16,18,19]),(9,[],[11,18,19,14,15,16]),(10,[],[11,18,19,14,15,16]),(11,[9,10,7,4,5,6,3,0,1,2],[14,15,18,19,16]),(12,[],[14,18,19,15,16]),(13,[],[14,18,19,15,16]),(14,[12,13,11,9,10,7,4,5,6,3,0,1,2],[15,18,19,16]),(15,[11,14,9,10,7,12,13,4,5,6,3,0,1,2],[16,18,19]),(16,[8,15,3,7,11,14,0,1,2,4,5,6,9,10,12,13],[18,19]),(17,[],[19]),(18,[16,14,0,1,2,3,4,5,6,7,8,9,10,11,12,13,15],[19]),(19,[17,18,0,1,2,3,4,5,6,7,8,9,10,11,12,13,14,15,16],[])] [0,1,2,3,4,5,6,7,8,9,10,11,12,13,14,15,16,17,18,19] [(0,24,.fn 64 [.ptr 256 0],[]),(1,25,.agg (B2 0).c,[]),(2,26,.agg (B2 1).c,[]),(3,27,.agg (Mk [97] (B2 0) (B2 1)).c,[]),(4,28,.fn 64 [.ptr 256 0],[]),(5,29,.agg (B2 1).c,[]),(6,30,.agg (B2 0).c,[]),(7,31,.agg (Mk [98] (B2 1) (B2 0)).c,[]),(8,32,.sl (.own 2048 0) 8 [(Mk [97] (B2 0) (B2 1)).c,(Mk [98] (B2 1) (B2 0)).c],[]),(9,33,.fn 65 [.ptr 256 0],[]),(10,34,.agg (B2 0).c,[]),(11,35,.agg (Mp (B2 0) [98]).c,[]),(12,36,.fn 65 [.ptr 256 0],[]),(13,37,.agg (B2 1).c,[]),(14,38,.agg (Mp (B2 1) [97]).c,[]),(15,39,.sl (.own 2496 0) 9 [(Mp (B2 0) [98]).c,(Mp (B2 1) [97]).c],[]),(16,40,.agg [.sl (.own 2048 0) 8 [(Mk [97] (B2 0) (B2 1)).c,(Mk [98] (B2 1) (B2 0)).c],.sl (.own 2496 0) 9 [(Mp (B2 0) [98]).c,(Mp (B2 1) [97]).c]],[]),(17,41,.sl (.own 1472 0) 6 (G7.map C1.c),[]),(19,1,.sl (.own 1472 0) 6 (G7.map C1.c),[])] (λb=>[(0,.ptr 0 0),(2,.ptr 128 0),(3,.ptr 192 0),(5,.fn 64 [.ptr 256 0]),(6,.fn 65 [.ptr 256 0]),(7,.sl (.own 1472 0) 6 (G7.map C1.c))]) (λb=>[(0,if b 18 then [.sl (.own 2048 0) 8 [(Mk [97] (B2 0) (B2 1)).c,(Mk [98] (B2 1) (B2 0)).c],.sl (.own 2496 0) 9 [(Mp (B2 0) [98]).c,(Mp (B2 1) [97]).c]] else [.v (.slice none 0 0),.v (.slice none 0 0)]),(128,(B2 0).c),(192,(B2 1).c),(256,wA.c)]) ?_ (λb=>?_) (λb=>?_) B6
 ·exact AT.Aq (by simp(disch:=omega)only[go_sem];exact .sl rfl) (by simp(disch:=omega)only[go_sem,wA])
 ·simp only[Pf,and_true]
  repeat'(with_reducible refine And.intro ?_ ?_)
  all_goals simp(disch:=omega)only[go_sem]
  all_goals(try first|(refine Av [] rfl (by rfl) ?_ ?_ ?_<;>(simp(disch:=omega)only[go_sem];done))|(refine Av [(_,_)] rfl (by rfl) ?_ ?_ ?_<;>(simp(disch:=omega)only[go_sem];done))|(refine Av [(_,_),(_,_)] rfl (by rfl) ?_ ?_ ?_<;>(simp(disch:=omega)only[go_sem];done))|(refine Av [(_,_),(_,_),(_,_)] rfl (by rfl) ?_ ?_ ?_<;>(simp(disch:=omega)only[go_sem];done))|(refine Bz [] rfl (by rfl) ?_ ?_ ?_<;>(simp(disch:=omega)only[go_sem];done))|(refine Bz [(_,_)] rfl (by rfl) ?_ ?_ ?_<;>(simp(disch:=omega)only[go_sem];done)))
  ·refine call2 ⟨⟨[],[(256,63)],[]⟩,[],[]⟩ (qY [97] (B2 0) (B2 1)) ?_ (hx:=by simp(disch:=omega)only[go_sem];exact .eq rfl);simp(disch:=omega)only[go_sem]
   all_goals(try first|(refine Av [] rfl (by rfl) ?_ ?_ ?_<;>(simp(disch:=omega)only[go_sem];done))|(refine Av [(_,_)] rfl (by rfl) ?_ ?_ ?_<;>(simp(disch:=omega)only[go_sem];done))|(refine Av [(_,_),(_,_)] rfl (by rfl) ?_ ?_ ?_<;>(simp(disch:=omega)only[go_sem];done))|(refine Av [(_,_),(_,_),(_,_)] rfl (by rfl) ?_ ?_ ?_<;>(simp(disch:=omega)only[go_sem];done))|(refine Bz [] rfl (by rfl) ?_ ?_ ?_<;>(simp(disch:=omega)only[go_sem];done))|(refine Bz [(_,_)] rfl (by rfl) ?_ ?_ ?_<;>(simp(disch:=omega)only[go_sem];done)))
  ·refine call2 ⟨⟨[],[(256,63)],[]⟩,[],[]⟩ (qY [98] (B2 1) (B2 0)) ?_ (hx:=by simp(disch:=omega)only[go_sem];exact .eq rfl);simp(disch:=omega)only[go_sem]
   all_goals(try first|(refine Av [] rfl (by rfl) ?_ ?_ ?_<;>(simp(disch:=omega)only[go_sem];done))|(refine Av [(_,_)] rfl (by rfl) ?_ ?_ ?_<;>(simp(disch:=omega)only[go_sem];done))|(refine Av [(_,_),(_,_)] rfl (by rfl) ?_ ?_ ?_<;>(simp(disch:=omega)only[go_sem];done))|(refine Av [(_,_),(_,_),(_,_)] rfl (by rfl) ?_ ?_ ?_<;>(simp(disch:=omega)only[go_sem];done))|(refine Bz [] rfl (by rfl) ?_ ?_ ?_<;>(simp(disch:=omega)only[go_sem];done))|(refine Bz [(_,_)] rfl (by rfl) ?_ ?_ ?_<;>(simp(disch:=omega)only[go_sem];done)))
  ·refine call2 ⟨⟨[],[(256,63)],[]⟩,[],[]⟩ (qZ (B2 0) [98]) ?_ (hx:=by simp(disch:=omega)only[go_sem];exact .eq rfl);simp(disch:=omega)only[go_sem]
   all_goals(try first|(refine Av [] rfl (by rfl) ?_ ?_ ?_<;>(simp(disch:=omega)only[go_sem];done))|(refine Av [(_,_)] rfl (by rfl) ?_ ?_ ?_<;>(simp(disch:=omega)only[go_sem];done))|(refine Av [(_,_),(_,_)] rfl (by rfl) ?_ ?_ ?_<;>(simp(disch:=omega)only[go_sem];done))|(refine Av [(_,_),(_,_),(_,_)] rfl (by rfl) ?_ ?_ ?_<;>(simp(disch:=omega)only[go_sem];done))|(refine Bz [] rfl (by rfl) ?_ ?_ ?_<;>(simp(disch:=omega)only[go_sem];done))|(refine Bz [(_,_)] rfl (by rfl) ?_ ?_ ?_<;>(simp(disch:=omega)only[go_sem];done)))
  ·refine call2 ⟨⟨[],[(256,63)],[]⟩,[],[]⟩ (qZ (B2 1) [97]) ?_ (hx:=by simp(disch:=omega)only[go_sem];exact .eq rfl);simp(disch:=omega)only[go_sem]
   all_goals(try first|(refine Av [] rfl (by rfl) ?_ ?_ ?_<;>(simp(disch:=omega)only[go_sem];done))|(refine Av [(_,_)] rfl (by rfl) ?_ ?_ ?_<;>(simp(disch:=omega)only[go_sem];done))|(refine Av [(_,_),(_,_)] rfl (by rfl) ?_ ?_ ?_<;>(simp(disch:=omega)only[go_sem];done))|(refine Av [(_,_),(_,_),(_,_)] rfl (by rfl) ?_ ?_ ?_<;>(simp(disch:=omega)only[go_sem];done))|(refine Bz [] rfl (by rfl) ?_ ?_ ?_<;>(simp(disch:=omega)only[go_sem];done))|(refine Bz [(_,_)] rfl (by rfl) ?_ ?_ ?_<;>(simp(disch:=omega)only[go_sem];done)))
 ·simp(disch:=omega)only[go_sem];refine CU ⟨[],[],[1472,2048,2496]⟩ _ ?_;refine .BC (Ae.AJ ?_);simp(disch:=omega)only[go_sem]
  first|exact .eq rfl|exact⟨.eq rfl,.rfl⟩|exact⟨.eq rfl,.eq rfl⟩
def Yv(s:WS)(opts:List C1)(h:Iy s)(hl:opts.length<=1000000)(hv:CD s opts=true)(hd:Bl s≠[])(K:List Cand->Prop)(μ:List Cand->Nat)(R:List Nat × Int)(hI0:K [Dv (Az s opts) []])
 (hI:∀ hp,K hp->hp.length<=1000/\Heap AU hp/\P0 hp/\∃ S,isSet (Az s opts) S/\hp[0]?=some (Dv (Az s opts) S) /\
  (EF s opts S=true->OI s (Ca s).2 (Sp (Ca s).2 (S.map (Az s opts).gv))=true/\R=(S,Bj (Az s opts).cost S)) /\
  (EF s opts S=false->(Jd ((LL AU hp).take (hp.length-1)) (kids (Az s opts) S ((Az s opts).n-Em S))).length<=1000/\K (Jd ((LL AU hp).take (hp.length-1)) (kids (Az s opts) S ((Az s opts).n-Em S)))/\μ (Jd ((LL AU hp).take (hp.length-1)) (kids (Az s opts) S ((Az s opts).n-Em S)))<μ hp)):Ad C0 22 [.agg s.c,Cw opts] [] (.BC [.agg (U5 R),I 0]) []:=by
 refine Ad.go f22 ?_;unfold f22;refine gO ?_;refine Ab (gX s opts h hl) ?_;rw[hv];obtain⟨v1,v2,v3⟩:=(EC s opts).1 hv;have Zy:=dc v1;refine gO ?_;refine Ab (gZ s h) ?_;rw[DW v1];have cj:(((Ca s).2.length:Int)==0)=false:=by
  have:(Ca s).2.length≠0:=λh0=>hd (List.eq_nil_of_length_eq_zero h0)
  simp;exact λh0=>hd h0
 simp(disch:=omega)only[go_sem,length_map,cj];refine call2 ⟨⟨[],[],[]⟩,[],[(0,2049),(1,2050),(2,2051),(62,2110)]⟩ (Aaw s (Ca s).2) ?_;refine gO ?_;have hn:(Az s opts).n=opts.length:=rfl;refine Ao (α:=List Cand × List Nat) (λx=>⟨[(1,Cw opts),(2,.ptr 128 0),(4,.ptr 256 0),(7,AL (Ca s).2),(8,.fn 93 [.ptr 2049 0,.ptr 2050 0,.ptr 2051 0]),(9,.ptr 2240 0)],[(128,s.c),(256,[.v (.slice none 0 0),.v (.int .i64 0)]),(2240,[.sl (.own 2176 0) 2 (x.1.map Cand.c)]),(2049,[.mp 2110]),(2050,s.c),(2051,[AL (Ca s).2]),(2110,Kc s (Ca s).2 x.2)]⟩) (λx=>K x.1) (λx=>μ x.1) ([Dv (Az s opts) []],[]) hI0 ?_ ?_
 ·refine AT.Aq gI ?_;simp(disch:=omega)only[go_sem,map_cons,map_nil,Dv,Bj,code,Kc];exact .sl (by simp)
 rintro⟨hp,kn⟩ hF J0 pB;simp only at hF;obtain⟨hlen,hhp,Md,S,hS,fE,XR,uE⟩:=hI hp hF;refine gO ?_;refine B4 [2176] (ib hp) gI rfl trivial ?_;have h0:hp≠[]:=λh0=>by rw[h0]at fE;cases fE
 have uC:0<hp.length:=List.length_pos_iff.2 h0;have e0:((0:Int)<(hp.length:Int))=True:=eq_true (by omega);obtain⟨p1,p2,p3,p4,p5⟩:=R8 Hy Hz hhp fE;simp(disch:=omega)only[go_sem,e0,decide_true];have AeU:=Aax hp (Dv (Az s opts) S) p1 h0 (by omega) Md;have uw:P0 ((LL AU hp).take (hp.length-1)):=λc hc=>Md c (p3.mem_iff.2 (by simp[hc]))
 generalize (LL AU hp).take (hp.length-1)=g0 at AeU p2 p3 uE uw;refine call2 ⟨⟨[(2176,0)],[(2240,63)],[]⟩,[],[]⟩ AeU ?_;have hco:C0.P.concrete 95=true:=F.AgY;simp(disch:=omega)only[go_sem,Dv,↓hco];have GR:(Ca s).2.length<=62:=Nat.le_trans Zy (by omega);have nL:∀ i∈S,i<opts.length:=hS.2.1;have hSl:=MF hS;refine Ab (Aay (Bj (Az s opts).cost S) S hS.1 (λi hi=>by have:=nL i hi;omega)) ?_;simp(disch:=omega)only[go_sem,length_map];refine AF (S) (λi=>⟨[(1,Cw opts),(2,.ptr 128 0),(4,.ptr 256 0),(7,AL (Ca s).2),(8,.fn 93 [.ptr 2049 0,.ptr 2050 0,.ptr 2051 0]),(9,.ptr 2240 0),(10,.ptr 640 0),(11,E3 S),(12,I (Sp (Ca s).2 ((S.take i).map (Az s opts).gv))),(47,E3 S),(48,I S.length),(49,I i)],[(128,s.c),(256,[.v (.slice none 0 0),.v (.int .i64 0)]),(2240,[.sl (.own 2176 0) 2 (g0.map Cand.c)]),(2049,[.mp 2110]),(2050,s.c),(2051,[AL (Ca s).2]),(2110,Kc s (Ca s).2 kn),(640,[I (Bj (Az s opts).cost S),U (code S)])]⟩) (λi=>True) trivial ?_ ?_
 ·refine AT.Aq ?_ ?_
  all_goals(try simp(disch:=omega)only[go_sem])
  all_goals(try(repeat'(with_reducible apply And.intro)))
  all_goals(first|exact .Cr (by omega)|exact .A8 (by omega)|exact .sl (by simp[Sp])|exact .int (by simp[Sp])|exact .eq (by simp[Sp]))
 rintro i ⟨hi,hP⟩ J hJ;refine gO ?_;refine Bo hi (λAP b hb Cg AX=>?_) λBa=>?_
 simp(disch:=omega)only[go_sem,gm,hb]
 ·obtain⟨o,ho,hom,CC,xl,iO,P4⟩:=JC hv (nL b Cg);simp(disch:=omega)only[go_sem,gm,ho];refine Ab (ic (Ca s).2 o.proc GR) ?_;have e1:Sp (Ca s).2 ((S.take (i+1)).map (Az s opts).gv)=Sp (Ca s).2 ((S.take i).map (Az s opts).gv) ||| GX (Ca s).2 o.proc:=by rw[take_add_one,hb,Option.toList_some,List.map_append,map_cons,map_nil,iO,pq]
  have hor:=Ab9 _ _ (mA GR ((S.take i).map (Az s opts).gv)) (U4 GR o.proc);simp(disch:=omega)only[go_sem,hor];refine hJ _ (i+1) ⟨by omega,trivial⟩ (by omega) (AT.Aq ?_ gI);rw[e1];simp(disch:=omega)only[go_sem]
 subst Ba;rw[take_length];clear hJ;have mc:=mA GR (S.map (Az s opts).gv);obtain⟨v,r6⟩:∃ v,v=Sp (Ca s).2 (S.map (Az s opts).gv):=⟨_,rfl⟩;rw[<- r6]at mc ⊢;refine call2 ⟨⟨[],[(2049,63),(2050,127),(2051,191),(2110,31)],[]⟩,[],[]⟩ (AaL s (Ca s).2 kn v v1 GR mc) ?_;obtain⟨kn',X8⟩:∃ k,k=Tg kn v:=⟨_,rfl⟩;rw[<- X8];have mq:∀ o∈opts,o.lower.length<=1000000:=λo ho=>by have:=PM (v3 o ho).1;omega
 cases hs:EF s opts S;rotate_left
 ·obtain⟨hh,hR⟩:=XR hs;rw[<- r6]at hh;rw[hh,hR];refine gO ?_;refine Ab (ia s opts S v1 hl (by omega) nL mq) ?_;rw[hs];refine gO ?_;exact AQ _
 obtain⟨rL,uE,Me⟩:=uE hs;have hlp:=eX g0 (kids (Az s opts) S ((Az s opts).n-Em S)) p2;generalize hFd:Jd g0 (kids (Az s opts) S ((Az s opts).n-Em S))=Z at uE hlp rL Me;have RN:code S<18446744073709551616:=Pl (n:=64) λi hi=>by have:=nL i hi;omega
 have Aa6:=U6 (HV hv) nL;cases hh:OI s (Ca s).2 v
 all_goals simp(disch:=omega)only[go_sem]
 rotate_left;refine Ab (ia s opts S v1 hl (by omega) nL mq) ?_;rw[hs];simp(disch:=omega)only[go_sem]
 all_goals
  refine Ab (Aaz (code S) RN) ?_;rw[oq hS.1];refine gO ?_;refine Ao (α:=Nat × List Cand) (λx=>⟨[(1,Cw opts),(2,.ptr 128 0),(4,.ptr 256 0),(7,AL (Ca s).2),(8,.fn 93 [.ptr 2049 0,.ptr 2050 0,.ptr 2051 0]),(9,.ptr 2240 0),(10,.ptr 640 0),(12,I v),(15,I x.1)],[(128,s.c),(256,[.v (.slice none 0 0),.v (.int .i64 0)]),(2240,[.sl (.own 2176 0) 2 (x.2.map Cand.c)]),(2049,[.mp 2110]),(2050,s.c),(2051,[AL (Ca s).2]),(2110,Kc s (Ca s).2 kn'),(640,[I (Bj (Az s opts).cost S),U (code S)])]⟩) (λx=>Em S<=x.1/\x.1<=opts.length/\Heap AU x.2/\P0 x.2/\Jd x.2 (kids (Az s opts) S (opts.length-x.1))=Z) (λx=>opts.length-x.1) (Em S,g0) ⟨Nat.le_refl _,lU hS,p2,uw,hFd⟩ AK ?_;rintro⟨i,g⟩ ⟨i1,i2,i3,i4,i5⟩ J hJ;simp only at i1 i2 i3 i4 i5
  by_cases Hf:i<opts.length
  rotate_left
  ·have hei:opts.length-i=0:=by omega
   rw[hei]at i5;have hgF:g=Z:=i5;subst hgF;have e1:((i:Int)<(opts.length:Int))=False:=eq_false (by omega);simp(disch:=omega)only[go_sem,e1,decide_false,length_map];exact pB _ (g,kn') uE (by simp only;omega) AK
  have e1:((i:Int)<(opts.length:Int))=True:=eq_true (by omega);obtain⟨o,ho,hom,CC,xl,iO,P4⟩:=JC hv Hf;have hoc:=R6 CC;simp(disch:=omega)only[go_sem,e1,decide_true,length_map,gm,ho];refine Ab (ic (Ca s).2 o.proc GR) ?_;have hand:=jQ v (GX (Ca s).2 o.proc) mc (U4 GR o.proc);have LP:=mJ (S:=S) hv Hf;rw[iO]at LP;have wZ:v &&& GX (Ca s).2 o.proc=0↔again (Az s opts) S i=false:=by rw[r6];exact LP
  obtain⟨f,hf⟩:∃ f,opts.length-i=f+1:=⟨opts.length-i-1,by omega⟩;have Vv:(Az s opts).n-(f+1)=i:=by omega
  have yS:opts.length-(i+1)=f:=by omega
  rw[hf]at i5;simp only[kids,Vv]at i5;simp(disch:=omega)only[go_sem,hand];refine⟨λhb=>?_,λhb=>?_⟩
  ·have h0:v &&& GX (Ca s).2 o.proc=0:=by simp only[beq_iff_eq]at hb;omega
   have ha:=wZ.1 h0;rw[ha]at i5;simp only[Bool.false_eq_true,if_false,List.singleton_append,Jd]at i5;refine Ay 17 [([],[9]),([],[95]),([],[10]),([],[97]),([],[1]),([],[15]),([],[99,100]),([],[101]),([],[102]),([],[98,103]),([],[10]),([],[105]),([],[15]),([],[107]),([],[106,108]),([],[104,109]),([],[110])] B6 ?_;have Ahq:C0.P.concrete 92=true:=F.AgX;obtain⟨z,hz⟩:∃ z,z=2 ^ i:=⟨_,rfl⟩;have xu:z<18446744073709551616:=by
    have h1:z<2 ^ 64:=by rw[hz];exact Nat.pow_lt_pow_right (by decide) (by omega)
    exact h1
   have Ah7:IntKind.u64.wrap (1*2 ^ min i 64)=(z:Int):=by rw[show min i 64=i by omega,Int.one_mul,show ((2:Int) ^ i)=((z:Nat):Int) by rw[hz,Int.natCast_pow];rfl,K7 xu]
   have Ahm:=bits_or_u64_nat (code S) z RN xu;have n9:((i:Int)<0)=False:=eq_false (by omega);have UP:(Dv (Az s opts) (S++[i]))=⟨Bj (Az s opts).cost S+o.cost,code S ||| z⟩:=by simp only[Dv,H9,Bj,P4,Yu,hz,Int.add_zero]
   have WE:=eX _ (kids (Az s opts) S f) (Tt Hy Hz i3 (Dv (Az s opts) (S++[i]))).1;have uB:=(Tt Hy Hz i3 (Dv (Az s opts) (S++[i])));have iE:=uB.2.length_eq;rw[i5]at WE;simp only[length_cons]at iE;have Ps:code S ||| z<18446744073709551616:=Nat.or_lt_two_pow (n:=64) RN xu;have Vx:P0 (Xr AU g (Dv (Az s opts) (S++[i]))):=λc hc=>by
    rcases mem_cons.1 (uB.2.mem_iff.1 hc) with h1|h1
    ·rw[h1,UP];exact Ps
    ·exact i4 c h1
   rw[UP]at i5 uB iE WE Vx;simp(disch:=omega)only[go_sem,↓hco,↓Ahq,gm,ho,n9,Ah7,Ahm];refine call2 ⟨⟨[(2176,0)],[(2240,63)],[]⟩,[],[]⟩ (AaA g ⟨Bj (Az s opts).cost S+o.cost,code S ||| z⟩ (by omega) i4 Ps) ?_;refine gO ?_;exact hJ _ (i+1,Xr AU g ⟨Bj (Az s opts).cost S+o.cost,code S ||| z⟩) ⟨by simp only;omega,Hf,uB.1,Vx,by simp only;rw[yS];exact i5⟩ (by simp only;omega) AK
  ·have h0:¬ v &&& GX (Ca s).2 o.proc=0:=by simp only[beq_eq_false_iff_ne,ne_eq]at hb;omega
   have ha:again (Az s opts) S i=true:=by
    cases h:again (Az s opts) S i with
    | true=>rfl
    | false=>exact absurd (wZ.2 h) h0
   rw[ha]at i5;simp only[if_true,List.nil_append]at i5;refine hJ _ (i+1,g) ⟨by simp only;omega,Hf,i3,i4,by simp only;rw[yS];exact i5⟩ (by simp only;omega) AK
theorem qa:CD G8 G7=true:=by kernel_rfl
theorem p9:MW G8 [B2 0]=([B2 0,B2 1],0):=by kernel_rfl
theorem pZ:GU G8 G7 [0]=true:=by kernel_rfl
theorem zN:GU G8 G7 []=false:=by kernel_rfl
def nG:List Cand:=[⟨6,2⟩,⟨10,1⟩]
def Eu:Heap AU ([]:List Cand):=λk _ a b ha _=>by simp at ha
def mO:Ad C0 22 [.agg G8.c,Cw G7] [] (.BC [.agg (U5 ([1],6)),I 0]) []:=by
 have hd:Bl G8≠[]:=λh=>by
  have h2:(Bl G8).length=2:=by kernel_rfl
  rw[h]at h2;cases h2
 refine Yv G8 G7 c8.1 (by decide) qa hd (λhp=>hp=[Dv (Az G8 G7) []]\/hp=nG) (λhp=>2-hp.length) ([1],6) (Or.inl rfl) ?_;have e1:Jd ((LL AU [Dv (Az G8 G7) []]).take 0) (kids (Az G8 G7) [] ((Az G8 G7).n-Em []))=nG:=by kernel_rfl
 rintro hp (rfl|rfl)
 ·refine⟨by decide,(Ke [Dv (Az G8 G7) []] [] Eu).1,?_,[],⟨.nil,λi hi=>(List.not_mem_nil hi).elim,.nil⟩,rfl,λh=>?_,λ_=>?_⟩
  ·intro c hc;rw[List.mem_singleton.1 hc];decide
  ·rw[show EF G8 G7 []=false by kernel_rfl]at h;cases h
  ·simp only[List.length_singleton,Nat.sub_self];rw[e1];exact⟨by decide,Or.inr rfl,by decide⟩
 ·refine⟨by decide,?_,?_,[1],⟨by simp,by simp;decide,by simp⟩,by kernel_rfl,λ_=>⟨by kernel_rfl,by kernel_rfl⟩,λh=>?_⟩
  ·rw[<- e1];exact(Ke _ _ Eu).1
  ·intro c hc;simp only[nG,mem_cons,List.not_mem_nil,or_false]at hc;rcases hc with rfl|rfl<;>decide
  ·rw[show EF G8 G7 [1]=true by kernel_rfl]at h;cases h
def Dm:Ad C0 11 [] [] (B true) []:=by
 have hf:=c8.1;have hc:=mO;have hs:=qL G8 [B2 0] hf (by decide);have h1:=Qy G8 G7 [0] hf (by decide) (by decide);have h2:=Qy G8 G7 [] hf (by decide) (by decide);rw[p9]at hs;rw[pZ]at h1;rw[zN]at h2;refine Ad.go f11 ?_;unfold f11;refine Ab Aap ?_;refine gO ?_;refine Ab hc ?_;refine gO ?_;obtain⟨o,ho,bp⟩:∃ o:C1,G7[0]?=some o/\o.proc=B2 0:=⟨_,rfl,rfl⟩;have oa:G7.length=2:=rfl;refine F5 [(0,[],[6,10,11,7,8,9]),(1,[],[2,10,11,3,4,5,6,7,8,9]),(2,[1],[3,10,11,4,5,6,7,8,9]),(3,[2,1],[4,10,11,5,6,7,8,9]),(4,[3,2,1],[5,10,11,6,7,8,9]),(5,[4,3,2,1],[6,10,11,7,8,9]),(6,[0,5,4,3,2,1],[7,10,11,8,9]),(7,[6,0,5,4,3,2,1],[8,9,10,11]),(8,[7,6,0,5,4,3,2,1],[10,11]),(9,[7,6,0,5,4,3,2,1],[11]),(10,[8,6,0,1,2,3,4,5,7],[11]),(11,[9,10,0,1,2,3,4,5,6,7,8],[])] [0,1,2,3,4,5,6,7,8,9,10,11] [(0,18,.agg G8.c,[]),(1,19,Cw G7,[]),(2,20,.ep .no 0 o.c 0,[]),(3,21,.ep .no 0 o.c 0,[]),(4,22,.agg o.proc.c,[]),(5,23,.sl (.own 1472 0) 3 [o.proc.c],[6]),(6,24,.BC [AL [B2 0,B2 1],I 0],[]),(7,17,.BC [AL [B2 0,B2 1],I 0],[]),(8,25,AL [B2 0,B2 1],[]),(9,26,I 0,[]),(10,5,AL [B2 0,B2 1],[]),(11,6,I 0,[])] (λb=>[(0,B false),(1,.ptr 64 0),(2,Cw G7),(3,.ptr 192 0),(4,I 0)]) (λb=>[(64,G8.c),(192,[.sl .no 1 [[I 1]],I 6])]) ?_ (λb=>?_) (λb=>?_) B6
 ·exact AT.Aq gI gI
 ·simp only[Pf,and_true]
  repeat'(with_reducible refine And.intro ?_ ?_)
  all_goals simp(disch:=omega)only[go_sem,gm,ho]
  all_goals(try first|(refine Av [] rfl (by rfl) ?_ ?_ ?_<;>(simp(disch:=omega)only[go_sem];done))|(refine Av [(_,_)] rfl (by rfl) ?_ ?_ ?_<;>(simp(disch:=omega)only[go_sem];done))|(refine Av [(_,_),(_,_)] rfl (by rfl) ?_ ?_ ?_<;>(simp(disch:=omega)only[go_sem];done))|(refine Av [(_,_),(_,_),(_,_)] rfl (by rfl) ?_ ?_ ?_<;>(simp(disch:=omega)only[go_sem];done))|(refine Bz [] rfl (by rfl) ?_ ?_ ?_<;>(simp(disch:=omega)only[go_sem];done))|(refine Bz [(_,_)] rfl (by rfl) ?_ ?_ ?_<;>(simp(disch:=omega)only[go_sem];done)))
  refine FU [1472] hs ?_ rfl ?_
  ·simp(disch:=omega)only[go_sem,bp,map_cons,map_nil];exact .sl rfl
  ·simp(disch:=omega)only[go_sem,selb];exact AT.Aq (by simp(disch:=omega)only[go_sem];(repeat'(with_reducible apply And.intro))<;>exact .eq rfl) gI
 ·simp(disch:=omega)only[go_sem,map_cons,map_nil,length_cons,List.length_nil];refine Ab (gX G8 G7 hf (by decide)) ?_;rw[qa];refine gO ?_;refine B4 [4096] h1 ?_ rfl trivial ?_
  ·simp(disch:=omega)only[go_sem,map_cons,map_nil];exact .sl rfl
  refine gO ?_;refine Ab h2 ?_ (hx:=by simp(disch:=omega)only[go_sem,map_nil];exact .A8 (by omega));refine gO ?_;exact AQ _
end Go.Rd
