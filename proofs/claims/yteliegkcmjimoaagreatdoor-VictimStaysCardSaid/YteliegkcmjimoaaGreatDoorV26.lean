/- part 26 of the proof -/
import Derived.Test.YteliegkcmjimoaaGreatDoorV25
set_option linter.all false
open Go Go.Abs Go.Proofs
set_option maxRecDepth 100000
namespace Go.Rd
set_option maxHeartbeats 8000000
open List (cons_append map_append map_cons map_nil map_set nil_append set_set)
open Bool (false_eq_true)
open Tryz
def x0:Cd:=⟨p0,0,Df,false,Eg,0,0⟩
def F0(c:Qt)(i:Nat)(x:Cd):Bool:=GS c.now c.Aa x&&(decide (i=0)||decide (Bw (c.procs.getD (i-1) x0).proc x.proc<0))
def Ks(c:Qt):Bool:=decide (0<=c.now)&&decide (c.now<=1073741824)&&Ik c.Aa&&decide (c.procs.length<=8)&&(AT c.Aa).all (λp=>decide (0<=GC c.procs p))&&Ci (F0 c) c.procs
def jZ(c:Qt)(h:Ei c.Aa):Ac C0 66 [.agg c.c] [] (B (Ks c)) []:=by
 refine Ac.go f66 ?_;unfold f66
 by_cases h1:c.now<0
 ·simp(disch:=omega)only[go_sem,eq_true h1,decide_true];refine Aj _ ?_;exact wb (by simp[Ks,show ¬ 0<=c.now by omega])
 by_cases h2:1073741824<c.now
 ·simp(disch:=omega)only[go_sem,eq_false h1,eq_true h2,decide_true,decide_false];refine Aj _ ?_;exact wb (by simp[Ks,show ¬ c.now<=1073741824 by omega])
 simp(disch:=omega)only[go_sem,eq_false h1,eq_false h2,decide_false];refine Ab (Ps c.Aa h) ?_;cases h3:Ik c.Aa
 ·simp(disch:=omega)only[go_sem,Bool.not_false];refine Aj _ ?_;exact wb (by simp[Ks,h3])
 simp(disch:=omega)only[go_sem,Bool.not_true]
 by_cases h4:8<c.procs.length
 ·have e4:(8<(c.procs.length:Int))=True:=eq_true (by omega);simp(disch:=omega)only[go_sem,e4,decide_true];refine Aj _ ?_;exact wb (by simp[Ks,show ¬ c.procs.length<=8 by omega])
 have e4:(8<(c.procs.length:Int))=False:=eq_false (by omega);simp(disch:=omega)only[go_sem,e4,decide_false];have base:Ks c=((AT c.Aa).all (λp=>decide (0<=GC c.procs p))&&Ci (F0 c) c.procs):=by
  simp[Ks,h3,show 0<=c.now by omega,show c.now<=1073741824 by omega,show c.procs.length<=8 by omega]
 rw[base];have NP:(AT c.Aa).length<=8:=by simp only[Ik,Bool.and_eq_true,decide_eq_true_eq]at h3;exact h3.2
 refine Bh ⟨⟨[],[],[]⟩,[(0,1792)],[]⟩ (XH c.Aa h.n h.q) gI rfl trivial (.inl rfl) ?_;refine gO ?_;generalize AT c.Aa=ps at NP;refine AH (ps) (λi=>⟨[(4,I i),(3,.sl (.own 1792 0) 3 (ps.map Ad.c)),(1,.ptr 64 0)],[(64,c.c)]⟩) (λi=>(ps.take i).all (λp=>decide (0<=GC c.procs p))=true) rfl ?_ ?_
 ·exact B9
 rintro i ⟨hi,hP⟩ J hJ;refine gO ?_;refine Bp hi (λAu b hb Cc AR=>?_) λBf=>?_
 ·refine Av 6 [([],[1]),([],[35]),([],[3]),([],[4]),([],[37,38]),([],[39])] B7 ?_;simp(disch:=omega)only[go_sem,gm,hb]
  first|(refine Ab (SE c.procs b) ?_)|(refine Aq (SE c.procs b) ?_)
  by_cases h5:GC c.procs b<0
  ·simp(disch:=omega)only[go_sem,eq_true h5,decide_true];refine Aj _ ?_;exact wb (by rw[List.all_eq_false.2 ⟨b,Cc,by simp;omega⟩];rfl)
  ·simp(disch:=omega)only[go_sem,eq_false h5,decide_false];refine hJ _ (i+1) ⟨by omega,(by rw[List.take_add_one,hb,List.all_append,hP];simp;omega)⟩ (by omega) AS
 subst Bf;rw[List.take_length]at hP;rw[hP,Bool.true_and];clear hJ hi;refine AH (c.procs) (λi=>⟨[(5,I i),(1,.ptr 64 0)],[(64,c.c)]⟩) (λi=>Ci (F0 c) (c.procs.take i)=true) rfl ?_ ?_
 ·exact B9
 rintro i ⟨hi,hP⟩ J hJ;refine gO ?_;refine Bp hi (λAu b hb Cc AR=>?_) λBf=>?_
 ·have bad:F0 c i b=false->Ci (F0 c) c.procs=false:=λh=>BM hb h
  have Fv:F0 c i b=true->Ci (F0 c) (c.procs.take (i+1))=true:=λh=>by rw[Cl hb,hP,h];rfl
  refine Av 25 [([],[1]),([],[1]),([],[51]),([],[5]),([],[52,53]),([],[54]),([],[50,55]),([6],[56]),([6],[57]),([6],[5,58]),([6],[59,58]),([6],[60,58]),([6],[1,61]),([6],[62,61]),([6],[5,61]),([6],[64,61]),([6],[63,65,61]),([6],[66,61]),([6],[67,61]),([6],[1,61]),([6],[69,61]),([6],[5,61]),([6],[70,71,61]),([6],[72,61]),([6],[73,61])] B7 ?_;simp(disch:=omega)only[go_sem,gm,hb]
  first|(refine Ab (dh c b h (by omega)) ?_)|(refine Aq (dh c b h (by omega)) ?_)
  cases h6:GS c.now c.Aa b
  ·simp(disch:=omega)only[go_sem,Bool.not_false];refine Aj _ ?_;exact wb (by rw[bad (by simp[F0,h6])])
  by_cases NO:i=0
  ·subst NO;simp(disch:=omega)only[go_sem,Bool.not_true];refine hJ _ 1 ⟨by omega,Fv (by simp[F0,h6])⟩ (by omega) AS
  ·have PJ:(0<(i:Int))=True:=eq_true (by omega);have Lu:((i:Int)-1)=((i-1:Nat):Int):=by omega
   obtain⟨a,ME⟩:∃ a,c.procs[i-1]?=some a:=⟨_,gE (by omega)⟩;have PH:c.procs.getD (i-1) x0=a:=by simp[List.getD,ME]
   simp(disch:=omega)only[go_sem,Bool.not_true,PJ,Lu,gm,ME,hb]
   first|(refine Ab (J8 a.proc b.proc) ?_)|(refine Aq (J8 a.proc b.proc) ?_)
   by_cases h7:0<=Bw a.proc b.proc
   ·simp(disch:=omega)only[go_sem,eq_true h7,decide_true];refine Aj _ ?_;exact wb (by rw[bad (by simp only[F0,PH,h6];simp[NO];omega)])
   ·simp(disch:=omega)only[go_sem,eq_false h7,decide_false];refine hJ _ (i+1) ⟨by omega,Fv (by simp only[F0,PH,h6];simp[NO];omega)⟩ (by omega) AS
 subst Bf;rw[List.take_length]at hP;refine Aj _ ?_;exact wb (by rw[hP])
def lW(e:Expr):Nat->List Bool->List Bool
 | 0,o=>o
 | k+1,o=>lW e k (if o.getD k false then o.set k (!EX (Ed (Al e) (o.set k false)) e) else o)
def ff(e:Expr):∀ k o,(lW e k o).length=o.length
 | 0,_=>rfl
 | k+1,o=>by
  simp only[lW];rw[ff e k];split<;>simp
def Ef(e:Expr)(set:List Bool):List Bool:=if BA e&&EX (Ed (Al e) set) e then lW e (Al e).length ((List.range (Al e).length).map λi=>set.getD i false) else List.replicate (Al e).length false
def cI(e:Expr)(set:List Bool):(Ef e set).length=(Al e).length:=by
 unfold Ef;split
 ·rw[ff];simp
 ·simp
def oN(e:Expr)(set:List Bool):Ac C0 273 [.agg e.c,Jb set] [] (Jb (Ef e set)) []:=by
 refine Ac.lens f273 λhlen=>?_
 simp only[E0,lens,Expr.Cf,List.length_map,and_true,true_and]at hlen;have SQ:=C3 e;refine Ac.go f273 ?_;unfold f273;refine gO ?_;refine Ag (Pt e) (by simp(disch:=omega)only[go_sem,Expr.Cf]) rfl ?_;cases h1:BA e
 ·have hd:Ef e set=List.replicate (Al e).length false:=by simp[Ef,h1]
  rw[hd];simp(disch:=omega)only[go_sem,Bool.not_false];refine CK ⟨[],[],[1088]⟩ _ ?_;refine gO ?_;exact .sl (by simp)
 simp(disch:=omega)only[go_sem,Bool.not_true];refine Ab (SK (Al e) set (by omega) _ e (Nat.lt_succ_self _) [] (FF h1)) ?_;cases h2:EX (Ed (Al e) set) e
 ·have hd:Ef e set=List.replicate (Al e).length false:=by simp[Ef,h1,h2]
  rw[hd];simp(disch:=omega)only[go_sem,Bool.not_false];refine CK ⟨[],[],[1088]⟩ _ ?_;refine gO ?_;exact .sl (by simp)
 simp(disch:=omega)only[go_sem,Bool.not_true];have hd:Ef e set=lW e (Al e).length ((List.range (Al e).length).map λi=>set.getD i false):=by simp[Ef,h1,h2]
 rw[hd];obtain⟨G,hG⟩:∃ G,G=(List.range (Al e).length).map λi=>set.getD i false:=⟨_,rfl⟩
 rw[<- hG];have xz:G.length=(Al e).length:=by rw[hG];simp
 have hGi:∀ i,i<(Al e).length->G[i]?=some (set.getD i false):=λi hi=>by rw[hG,gm,List.getElem?_range hi];rfl
 clear hG hd;refine AH ((Al e)) (λi=>⟨[(8,I i),(7,.sl (.own 1088 0) 1 ((Gj G i).map λb=>[B b])),(5,BN (Al e)),(1,Jb set),(2,.ptr 128 0)],[(128,e.c)]⟩) (λi=>True) trivial ?_ ?_
 ·refine AQ.An ?_ ?_
  all_goals(try simp(disch:=omega)only[go_sem])
  all_goals(try(repeat'(with_reducible apply And.intro)))
  all_goals(first|exact .AU (by omega)|exact .AD (by omega)|exact .sl (by simp[Gj,xz])|exact .int (by simp[Gj,xz])|exact .eq (by simp[Gj,xz]))
 rintro i ⟨hi,hP⟩ J hJ;refine gO ?_;refine Bp hi (λAu b hb Cc AR=>?_) λBf=>?_
 ·have NW:=VN (G:=G) (i:=i) (by omega);have mN:=VM (G:=G) (i:=i) (by omega);have NX:=VO (hGi i AR);generalize Gj G i=M at NW mN NX ⊢
  by_cases hs:i<set.length
  ·obtain⟨y,hy⟩:∃ y,set[i]?=some y:=⟨_,gE hs⟩;have e4:set.getD i false=y:=by simp[List.getD,hy]
   rw[e4]at NX;simp(disch:=omega)only[go_sem,eq_true (show (i:Int)<(set.length:Int) by omega),decide_true,gm,hy,mN];refine hJ _ (i+1) ⟨by omega,trivial⟩ (by omega) (AQ.An ?_ gI);refine gO ?_;exact .sl (by rw[<- NX,map_set])
  ·have e4:set.getD i false=false:=by simp[List.getD,List.getElem?_eq_none (by omega:set.length<=i)]
   rw[e4]at NX;simp(disch:=omega)only[go_sem,eq_false (show ¬ ((i:Int)<(set.length:Int)) by omega),decide_false,gm,mN];refine hJ _ (i+1) ⟨by omega,trivial⟩ (by omega) (AQ.An ?_ gI);refine gO ?_;exact .sl (by rw[<- NX,map_set])
 subst Bf;have e3:Gj G (Al e).length=G:=by rw[<- xz,VL]
 rw[e3];clear hJ hi;refine Ao (α:=Nat × List Bool) (λq=>⟨[(9,I ((q.1:Int)-1)),(7,.sl (.own 1088 0) 1 (q.2.map λb=>[B b])),(5,BN (Al e)),(2,.ptr 128 0)],[(128,e.c)]⟩) (λq=>q.1<=(Al e).length/\q.2.length=(Al e).length/\lW e (Al e).length G=lW e q.1 q.2) (λq=>q.1) ((Al e).length,G) ⟨Nat.le_refl _,xz,rfl⟩ AS ?_;rintro⟨k,o⟩ ⟨hk,kH,ho⟩ J hJ
 replace hk:k<=(Al e).length:=hk
 replace kH:o.length=(Al e).length:=kH
 replace ho:lW e (Al e).length G=lW e k o:=ho
 cases k with
 | zero =>
  have e5:(0<=((0:Nat):Int)-1)=False:=eq_false (by omega);simp(disch:=omega)only[go_sem,e5,decide_false];rw[ho];refine CK ⟨[],[],[1088]⟩ _ ?_;simp(disch:=omega)only[go_sem,lW]
 | succ k =>
  have e5:(0<=((k+1:Nat):Int)-1)=True:=eq_true (by omega);have e6:((k+1:Nat):Int)-1=(k:Int):=by omega
  have e7:(k:Int)+1-1=(k:Int):=by omega
  have e8:(0<=(k:Int))=True:=eq_true (by omega);obtain⟨y,hy⟩:∃ y,o[k]?=some y:=⟨_,gE (by omega)⟩;have hyd:o.getD k false=y:=by simp[List.getD,hy]
  simp only[lW,hyd]at ho;have bV:k<o.length:=by omega
  show _;cases y
  ·simp only[false_eq_true,if_false]at ho;simp(disch:=omega)only[go_sem,e6,e7,e8,decide_true,gm,hy];refine hJ _ (k,o) ⟨show k<=_ by omega,kH,ho⟩ (show k<k+1 by omega) (AQ.An ?_ gI);simp(disch:=omega)only[go_sem]
  ·simp only[if_true]at ho;have ue:((o.map λb=>[B b]).set k [B false])=(o.set k false).map λb=>[B b]:=by rw[map_set]
   have eM:(o.set k false)[k]?=some false:=by simp[bV]
   have XU:(o.set k false).length=o.length:=by simp
   have hss:(o.set k false).set k (!EX (Ed (Al e) (o.set k false)) e)=o.set k (!EX (Ed (Al e) (o.set k false)) e):=by simp
   generalize ho2:o.set k false=o2 at ue eM XU ho hss;have Aeu:k<o2.length:=by omega
   simp(disch:=omega)only[go_sem,e6,e7,e8,decide_true,gm,hy,ue];refine Cb [1088] (SK (Al e) o2 (by omega) _ e (Nat.lt_succ_self _) [] (FF h1)) (by simp(disch:=omega)only[go_sem,ue]) rfl trivial ?_;simp(disch:=omega)only[go_sem,gm,eM,ue];refine hJ _ (k,o.set k (!EX (Ed (Al e) o2) e)) ⟨show k<=_ by omega,by show (o.set k _).length=_;simp[kH],ho⟩ (show k<k+1 by omega) (AQ.An ?_ gI);simp(disch:=omega)only[go_sem,ue]
   try exact .sl (by rw[<- hss,map_set])
def nX(c:Qt)(h1:c.Aa.length<=1000000)(h2:c.procs.length<=1000000):Ac C0 172 [.agg c.c] [] (.agg [I c.now,AW c.Aa,.sl (.own 0 0) 16 (c.procs.map Cd.c)]) []:=by
 refine Ac.go f172 ?_;unfold f172;refine gO ?_;refine CK ⟨[(704,0)],[],[384]⟩ _ ?_;simp(disch:=omega)only[go_sem]
def CU(w:Aw)(t:List Queue)(ev:List Ev):Aw:={ w with Aa:=t,Dk:=w.Dk++ev }
def Lm(w:Aw)(t:List Queue)(ev:List Ev)(h:w.Dk.length+ev.length<=4294967296):Ac C0 269 [.ptr 63 0,AW t,Zf ev] [(63,w.c)] (.Bl []) [(63,(CU w t ev).c)]:=by
 refine Ac.go f269 ?_;unfold f269;refine gO ?_;refine AZ ⟨[(0,0),(1088,1)],[(63,63)],[]⟩ _ rfl ⟨rfl,rfl⟩ (by simp[lk]) ?_ ?_
 ·exact gI
 ·simp(disch:=omega)only[go_sem,CU,map_append]
def q7(k:Int)(p:Ad):Ev:=⟨k,p,[],⟨0,0⟩⟩
def Cw(w:Aw)(k:Int)(p:Ad):Aw:={ w with Dk:=w.Dk++[q7 k p] }
def XC(w:Aw)(k:Int)(p:Ad)(h:w.Dk.length+1<=4294967296):Ac C0 267 [.ptr 63 0,I k,.agg p.c] [(63,w.c)] (.Bl []) [(63,(Cw w k p).c)]:=by
 refine Ac.go f267 ?_;unfold f267;refine gO ?_;refine C8 8191 [(0,1,0),(1,2,0),(2,4,2),(3,8,4),(4,16,8),(5,32,0),(6,64,0),(7,128,96),(8,256,128),(9,512,272),(10,1024,1023),(11,2048,2047),(12,4096,3071)] [0,1,2,32,64,3,33,65,6,34,66,96,7,35,67,97,14,38,70,98,224,15,39,71,99,225,30,46,78,102,226,480,31,47,79,103,227,481,62,94,110,230,482,63,95,111,231,483,126,238,486,127,239,487,254,494,255,495,510,511,1022,1023,2047,4095,8191] (λm=>⟨Vm m [(1,6,.ptr 63 0),(2,7,.ptr 63 0),(4,8,.ptr 63 0),(8,9,.ptr 63 3),(16,10,(if m / 512%2=1 then .undef else .sl (.own 1 0) 7 (w.Dk.map Ev.c))),(32,11,I k),(64,12,.agg p.c),(128,13,.agg (q7 k p).c),(256,14,.sl (.own 896 0) 7 [(q7 k p).c]),(512,15,.sl (.own 960 0) 7 ((w.Dk++[q7 k p]).map Ev.c)),(1024,16,.ptr 63 0),(2048,17,.ptr 63 3)]++[(0,.ptr 63 0),(1,I k),(5,.ptr 320 0)],[(320,p.c),(63,[I w.now,AW w.Aa,.sl (.own 0 0) 16 (w.procs.map Cd.c),(if m / 512%2=1 then (if m / 4096%2=1 then .sl (.own 960 0) 7 ((w.Dk++[q7 k p]).map Ev.c) else .undef) else .sl (.own 1 0) 7 (w.Dk.map Ev.c))])]⟩) ?_ ?_ ?_ B7
 ·exact AS
 ·simp (maxSteps:=100000000)only[C7,C6,DS,DR,and_true,Nat.reduceDiv,Nat.reduceMod,Nat.reduceAnd,Nat.reduceEqDiff,reduceIte,true_and,and_false,false_and,and_self]
  repeat'(with_reducible refine And.intro ?_ ?_)
  all_goals simp(disch:=omega)only[go_sem,map_append,map_cons,map_nil,q7]
  all_goals exact AQ.An (by simp(disch:=omega)only[go_sem,map_append,map_cons,map_nil,q7]) (by simp(disch:=omega)only[go_sem,map_append,map_cons,map_nil,q7])
 refine gO ?_;refine AZ ⟨[(0,0),(960,1)],[(63,63)],[]⟩ _ rfl ⟨rfl,rfl⟩ (by simp[lk]) ?_ ?_
 ·exact gI
 ·simp(disch:=omega)only[go_sem,Cw,map_append]
  try exact .sl (by simp[Ev.c])
def Cj(x:Cd):Cd:={ x with waiting:=false,BQ:=Eg,since:=0 }
def Bd(w:Aw)(i:Nat)(x:Cd):Aw:={ w with procs:=w.procs.set i x }
def dX(w:Aw)(i:Nat)(x:Cd)(hx:w.procs[i]?=some x):Ac C0 271 [.ptr 63 0,I i] [(63,w.c)] (.Bl []) [(63,(Bd w i (Cj x)).c)]:=by
 have hi:=Ay hx;refine Ac.go f271 ?_;unfold f271;simp(disch:=omega)only[go_sem,gm,hx,List.getElem?_set,List.length_map,List.length_set];refine AZ ⟨[(0,0),(1,1)],[(63,63)],[]⟩ _ rfl ⟨rfl,rfl⟩ (by simp[lk]) ?_ ?_
 ·exact gI
 ·simp(disch:=omega)only[go_sem,Bd];rw[map_set,set_set,set_set];refine .qj (Hy.set ?_ _ _);simp only[Cd.c,Cj,Eg,e0,a0,Expr.k,Expr.atom,Expr.kids,K9,bc,map_nil];simp
def C1(x:Cd):Cd:={ x with gen:=MQ x.gen }
theorem JJ(w:Aw)(i:Nat)(x:Cd)(hx:w.procs[i]?=some x):Ac C0 223 [.ptr 63 0,I i] [(63,w.c)] (.Bl []) [(63,(Bd w i (C1 x)).c)]:=by
 have hi:=Ay hx;refine Ac.go f223 ?_;unfold f223;refine gO ?_;refine Av 16 [([],[0]),([],[4]),([],[5]),([],[6]),([],[7]),([],[1]),([],[0]),([],[10]),([],[11]),([],[12]),([],[13]),([],[1]),([],[14,15]),([],[16]),([],[17]),([],[18])] B7 ?_;simp(disch:=omega)only[go_sem,gm,hx]
 first|(refine Ab (Xt x.gen) ?_)|(refine Aq (Xt x.gen) ?_)
 simp(disch:=omega)only[go_sem,gm,hx];refine AZ ⟨[(0,0),(1,1)],[(63,63)],[]⟩ _ rfl ⟨rfl,rfl⟩ (by simp[lk]) ?_ ?_
 ·exact gI
 ·simp(disch:=omega)only[go_sem,Bd];exact .sl (by rw[map_set];rfl)
def Ry{t:List Queue}(h:Ei t)(p:Ad)(n:Bs):(Dd t p n).2.1.length<=100:=by
 unfold Dd;split
 ·simp
 ·cases hf:CA t n with
  |none=>simp
  |some i =>
   simp only;split
   ·simp
   ·obtain⟨hi,b,hb,_⟩:=DB hf;have hg:t.getD i q0=b:=by simp[List.getD,hb]
    rw[hg];simp only[GO];exact Nat.le_trans (Rx b p) (h.q b (mG hb))
def HL{t:List Queue}(h:Ei t)(p:Ad)(a:Atom):(BB t p a).2.1.length<=101:=by
 unfold BB;split
 ·simp
 ·cases hf:CA t a.name with
  |none=>simp
  |some i =>
   simp only;split
   ·simp
   ·obtain⟨hi,b,hb,_⟩:=DB hf;have hg:t.getD i q0=b:=by simp[List.getD,hb]
    rw[hg];have:=Nat.le_trans (Ui b p a.AN) (h.q b (mG hb));simp only[List.length_append,GO];split<;>simp<;>omega
def Tm{t:List Queue}(h:Ei t)(p:Ad)(a:Atom)(prio:Int):(Et t p a prio).2.1.length<=101:=by
 unfold Et;split
 ·simp
 ·cases hf:CA t a.name with
  |none=>simp
  |some i =>
   simp only;split
   ·simp
   ·split
    ·simp
    ·obtain⟨hi,b,hb,_⟩:=DB hf;have hg:t.getD i q0=b:=by simp[List.getD,hb]
     rw[hg];have h1:=Tl b p a.AN prio;have h2:=h.q b (mG hb);simp only[GO];omega
def Fl(w:Aw)(x:Cd)(name:Bs)(k:Nat):Aw:=if (Ar (w.Aa.getD k q0) x.proc).isSome then CU w (Dd w.Aa x.proc name).1 (Dd w.Aa x.proc name).2.1 else w
def Pn(w:Aw)(x:Cd)(name:Bs)(k:Nat):Aw:=if decide (Ap (w.Aa.getD k q0).holds x.proc=AE x.By.entries name) then w else CU w (BB w.Aa x.proc ⟨name,AE x.By.entries name⟩).1 (BB w.Aa x.proc ⟨name,AE x.By.entries name⟩).2.1
def Gf(w:Aw)(x:Cd)(name:Bs):Aw:=match CA w.Aa name with
 |none=>w
 |some k=>Pn (Fl w x name k) x name k
def oM(w:Aw)(x:Cd)(name:Bs)(k:Nat)(hf:CA w.Aa name=some k)(h1:Ei w.Aa)(V1:w.Dk.length<=1000000)(hk:k<(Fl w x name k).Aa.length)(h2:Ei (Fl w x name k).Aa) :
 Ac C0 270 [.ptr 63 0,.agg x.c,.v (.string (str name))] [(63,w.c)] (.Bl []) [(63,(Gf w x name).c)]:=by
 obtain⟨kB,b,hb,_⟩:=DB hf;have hg:w.Aa.getD k q0=b:=by simp[List.getD,hb]
 obtain⟨q1,q2,q3⟩:=Bv (h1.q b (mG hb));have hn:=h1.n;have xL:Gf w x name=Pn (Fl w x name k) x name k:=by simp[Gf,hf]
 rw[xL];have hA:Fl w x name k=if (Ar b x.proc).isSome then CU w (Dd w.Aa x.proc name).1 (Dd w.Aa x.proc name).2.1 else w:=by unfold Fl;rw[hg]
 have NN:=Ry h1 x.proc name;obtain⟨b2,QT⟩:∃ b2,(Fl w x name k).Aa[k]?=some b2:=⟨_,gE hk⟩;have eM:(Fl w x name k).Aa.getD k q0=b2:=by simp[List.getD,QT]
 obtain⟨r1,r2,r3⟩:=Bv (h2.q b2 (mG QT));have hB:Pn (Fl w x name k) x name k=if decide (Ap b2.holds x.proc=AE x.By.entries name) then (Fl w x name k) else CU (Fl w x name k) (BB (Fl w x name k).Aa x.proc ⟨name,AE x.By.entries name⟩).1 (BB (Fl w x name k).Aa x.proc ⟨name,AE x.By.entries name⟩).2.1:=by unfold Pn;rw[eM]
 rw[hB];have vW:=HL h2 x.proc ⟨name,AE x.By.entries name⟩;generalize Fl w x name k=w1 at hA hk h2 QT eM vW ⊢;clear hB;refine Ac.go f270 ?_;unfold f270;refine gO ?_;refine Ab (HE w.Aa name (by omega)) ?_;simp(disch:=omega)only[go_sem,hf,UY];refine C8 131071 [(0,1,0),(1,2,1),(2,4,2),(3,8,4),(4,16,8),(5,32,0),(6,64,48),(7,128,64),(8,256,0),(9,512,256),(10,1024,640),(11,2048,1024),(12,4096,2048),(13,8192,2048),(14,16384,0),(15,32768,24575),(16,65536,65535)] [0,1,32,256,16384,3,33,257,16385,288,16416,768,16640,7,35,259,16387,289,16417,769,16641,800,16672,17152,15,39,263,16391,291,16419,771,16643,801,16673,17153,17184,31,47,271,16399,295,16423,775,16647,803,16675,17155,17185,63,287,16415,303,16431,783,16655,807,16679,17159,17187,127,319,16447,799,16671,815,16687,17167,17191,255,383,16511,831,16703,17183,17199,511,16639,895,16767,17215,1023,16895,17279,2047,17407,4095,18431,8191,12287,20479,16383,24575,28671,32767,57343,65535,131071] (λm=>⟨Vm m [(1,24,.ptr 63 0),(2,25,.ptr 63 0),(4,26,.ptr 63 0),(8,27,.ptr 63 1),(16,28,AW w.Aa),(32,29,I k),(64,30,.ep .no k b.c 0),(128,31,.agg b.c),(256,32,.ptr 256 0),(512,33,.agg x.proc.c),(1024,34,.Bl [.agg ((Ar b x.proc).getD ⟨0,0⟩).c,B (Ar b x.proc).isSome]),(2048,23,.Bl [.agg ((Ar b x.proc).getD ⟨0,0⟩).c,B (Ar b x.proc).isSome]),(4096,35,.agg ((Ar b x.proc).getD ⟨0,0⟩).c),(8192,36,B (Ar b x.proc).isSome),(16384,7,.ptr 448 0),(65536,8,B (Ar b x.proc).isSome)]++[(0,.ptr 63 0),(2,.v (.string (str name))),(4,.ptr 256 0),(6,I k)],((if m / 16384%2=1 then [(448,(if m / 32768%2=1 then ((Ar b x.proc).getD ⟨0,0⟩).c else (⟨0,0⟩:BO).c))] else [])++[(63,w.c),(256,x.c)])⟩) ?_ ?_ ?_ B7
 ·exact AS
 ·simp (maxSteps:=100000000)only[C7,C6,DS,DR,and_true,Nat.reduceDiv,Nat.reduceMod,Nat.reduceAnd,Nat.reduceEqDiff,reduceIte,true_and,and_false,false_and,and_self]
  repeat'(with_reducible refine And.intro ?_ ?_)
  all_goals simp(disch:=omega)only[go_sem,gm,hb,nil_append]
  all_goals first|exact AQ.An gI (by simp(disch:=omega)only[go_sem,nil_append,cons_append])|(refine Ab (Mt b x.proc q2 q3) ?_;simp(disch:=omega)only[go_sem];exact AQ.An gI (by simp(disch:=omega)only[go_sem,nil_append,cons_append]))
 have tT:w1.Dk.length<=1000100:=by
  rw[hA];split
  ·simp[CU];omega
  ·omega
 cases hw:(Ar b x.proc).isSome
 all_goals rw[hw]at hA
 all_goals simp only[false_eq_true,if_false,if_true]at hA
 all_goals simp(disch:=omega)only[go_sem,hw,nil_append,cons_append]
 subst hA;rotate_left;refine Av 15 [([],[0]),([],[39]),([],[40]),([],[41]),([],[42]),([],[4]),([],[44]),([],[2]),([],[43,45,46]),([8],[47]),([8],[38]),([8],[38]),([8],[38]),([8],[48]),([8],[49])] B7 ?_;refine gO ?_
 first|(refine Ab (ek w.Aa x.proc name h1) ?_)|(refine Aq (ek w.Aa x.proc name h1) ?_)
 refine gO ?_;refine call2 ⟨⟨[(0,0),(1,1)],[(63,63)],[]⟩,[],[]⟩ (Lm w (Dd w.Aa x.proc name).1 (Dd w.Aa x.proc name).2.1 (by omega)) ?_;rw[<- hA];simp(disch:=omega)only[go_sem]
 all_goals
  refine Ab (HS x.By.entries name) ?_;refine gO ?_;refine Av 12 [([],[0]),([],[60]),([],[61]),([],[62]),([],[63]),([],[6]),([],[64,65]),([],[66]),([],[4]),([],[68]),([],[67,69]),([],[12])] B7 ?_;simp(disch:=omega)only[go_sem,gm,QT]
  first|(refine Ab (EP b2 x.proc r1) ?_)|(refine Aq (EP b2 x.proc r1) ?_)
  cases hH:decide (Ap b2.holds x.proc=AE x.By.entries name);rotate_left
  ·simp only[if_true];simp(disch:=omega)only[go_sem,hH,Bool.not_true];refine CE ⟨[(0,0),(1,1)],[(63,63)],[]⟩ _ ?_ ?_
   ·exact gI
   ·exact gI
  simp only[false_eq_true,if_false];simp(disch:=omega)only[go_sem,hH,Bool.not_false];refine Av 17 [([],[0]),([],[74]),([],[75]),([],[76]),([],[77]),([],[4]),([],[79]),([],[2]),([],[12]),([],[81,82]),([],[78,80,83]),([10],[84]),([10],[73]),([10],[73]),([10],[73]),([10],[85]),([10],[86])] B7 ?_;refine gO ?_
  first|(refine Ab (JK w1.Aa x.proc ⟨name,AE x.By.entries name⟩ h2) ?_)|(refine Aq (JK w1.Aa x.proc ⟨name,AE x.By.entries name⟩ h2) ?_)
  refine gO ?_;refine call2 ⟨⟨[(0,0),(1,1)],[(63,63)],[]⟩,[],[]⟩ (Lm w1 (BB w1.Aa x.proc ⟨name,AE x.By.entries name⟩).1 (BB w1.Aa x.proc ⟨name,AE x.By.entries name⟩).2.1 (by omega)) ?_;refine gO ?_;refine CE ⟨[(0,0),(1,1)],[(63,63)],[]⟩ _ ?_ ?_
  ·exact gI
  ·exact gI
end Go.Rd
