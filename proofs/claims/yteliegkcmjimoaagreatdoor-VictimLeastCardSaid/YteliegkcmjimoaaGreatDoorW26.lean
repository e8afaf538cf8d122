/- part 26 of the proof -/
import Derived.Test.YteliegkcmjimoaaGreatDoorW25
set_option linter.all false
open Go Go.Abs Go.Proofs
set_option maxRecDepth 100000
namespace Go.Rd
set_option maxHeartbeats 8000000
open List (map_append map_cons map_nil map_set set_set)
open Tryz
def x0:Bu:=⟨p0,0,CI,false,Fc,0,0⟩
def EE(c:Hw)(i:Nat)(x:Bu):Bool:=Fu c.now c.Aa x&&(decide (i=0)||decide (BF (c.procs.getD (i-1) x0).proc x.proc<0))
def Ck(c:Hw):Bool:=decide (0<=c.now)&&decide (c.now<=1073741824)&&IH c.Aa&&decide (c.procs.length<=8)&&(AM c.Aa).all (λp=>decide (0<=E4 c.procs p))&&Cu (EE c) c.procs
def q9(c:Hw)(h:Fa c.Aa):Ad C0 66 [.agg c.c] [] (B (Ck c)) []:=by
 refine Ad.go f66 ?_;unfold f66
 by_cases h1:c.now<0
 ·refine gS ?_;refine Al _ ?_;exact wb (by grind[Ck])
 by_cases h2:1073741824<c.now
 ·refine gS ?_;refine Al _ ?_;exact wb (by grind[Ck])
 refine gS ?_;refine Ab (Rw c.Aa h) ?_;cases h3:IH c.Aa
 ·refine gO ?_;refine Al _ ?_;exact wb (by simp[Ck,h3])
 refine gO ?_
 by_cases h4:8<c.procs.length
 ·have e4:(8<(c.procs.length:Int))=True:=eq_true (by omega);refine gS ?_;refine Al _ ?_;exact wb (by grind[Ck])
 have e4:(8<(c.procs.length:Int))=False:=eq_false (by omega);refine gS ?_;have base:Ck c=((AM c.Aa).all (λp=>decide (0<=E4 c.procs p))&&Cu (EE c) c.procs):=by grind[Ck]
 rw[base];have Sv:(AM c.Aa).length<=8:=by simp_all[IH]
 refine By ⟨⟨[],[],[]⟩,[(0,1792)],[]⟩ (aW c.Aa h.n h.q) gI rfl trivial (.inl rfl) (gO ?_);generalize AM c.Aa=ps at Sv;refine AF (ps) (λi=>⟨[(4,I i),(3,.sl (.own 1792 0) 3 (ps.map Ac.c)),(1,.ptr 64 0)],[(64,c.c)]⟩) (λi=>(ps.take i).all (λp=>decide (0<=E4 c.procs p))=true) rfl ?_ ?_
 ·exact Ce
 rintro i ⟨hi,hP⟩ J hJ;refine gO ?_;refine Bo hi (λAP b hb Cg AX=>?_) λBa=>?_
 ·refine Ay 6 [([],[1]),([],[35]),([],[3]),([],[4]),([],[37,38]),([],[39])] B6 ?_;simp only[go_sem,hb]
  first|(refine Ab (Vd c.procs b) ?_)|(refine Ax (Vd c.procs b) ?_)
  by_cases h5:E4 c.procs b<0
  ·simp only[go_sem,eq_true h5];refine Al _ ?_;exact wb (by grind)
  ·simp(disch:=omega)only[go_sem,eq_false h5];refine hJ _ (i+1) ⟨by omega,(by grind[List.take_add_one])⟩ (by omega) AK
 subst Ba;rw[List.take_length]at hP;rw[hP,Bool.true_and];clear hJ hi;refine AF (c.procs) (λi=>⟨[(5,I i),(1,.ptr 64 0)],[(64,c.c)]⟩) (λi=>Cu (EE c) (c.procs.take i)=true) rfl ?_ ?_
 ·exact Ce
 rintro i ⟨hi,hP⟩ J hJ;refine gO ?_;refine Bo hi (λAP b hb Cg AX=>?_) λBa=>?_
 ·have bad:EE c i b=false->Cu (EE c) c.procs=false:=λh=>B5 hb h
  have FM:EE c i b=true->Cu (EE c) (c.procs.take (i+1))=true:=λh=>by grind[CB]
  refine Ay 25 [([],[1]),([],[1]),([],[51]),([],[5]),([],[52,53]),([],[54]),([],[50,55]),([6],[56]),([6],[57]),([6],[5,58]),([6],[59,58]),([6],[60,58]),([6],[1,61]),([6],[62,61]),([6],[5,61]),([6],[64,61]),([6],[63,65,61]),([6],[66,61]),([6],[67,61]),([6],[1,61]),([6],[69,61]),([6],[5,61]),([6],[70,71,61]),([6],[72,61]),([6],[73,61])] B6 ?_;simp only[go_sem,hb]
  first|(refine Ab (j8 c b h (by omega)) ?_)|(refine Ax (j8 c b h (by omega)) ?_)
  cases h6:Fu c.now c.Aa b
  ·refine gO ?_;refine Al _ ?_;exact wb (by grind[EE])
  by_cases QI:i=0
  ·subst QI;refine gO ?_;refine hJ _ 1 ⟨by omega,FM (by simp[EE,h6])⟩ (by omega) AK
  ·have QJ:(0<(i:Int))=True:=eq_true (by omega);have NP:((i:Int)-1)=((i-1:Nat):Int):=by omega
   obtain⟨a,NZ⟩:∃ a,c.procs[i-1]?=some a:=⟨_,gE (by omega)⟩;have UK:c.procs.getD (i-1) x0=a:=by grind
   simp(disch:=omega)only[go_sem,QJ,NP,NZ,hb]
   first|(refine Ab (LD a.proc b.proc) ?_)|(refine Ax (LD a.proc b.proc) ?_)
   by_cases h7:0<=BF a.proc b.proc
   ·simp only[go_sem,eq_true h7];refine Al _ ?_;exact wb (by grind[EE])
   ·simp(disch:=omega)only[go_sem,eq_false h7];refine hJ _ (i+1) ⟨by omega,FM (by grind[EE])⟩ (by omega) AK
 subst Ba;rw[List.take_length]at hP;refine Al _ ?_;exact wb (by rw[hP])
def pM(e:Expr):Nat->List Bool->List Bool
 | 0,o=>o
 | k+1,o=>pM e k (if o.getD k false then o.set k (!FW (E1 (Ah e) (o.set k false)) e) else o)
theorem mg(e:Expr):∀ k o,(pM e k o).length=o.length
 | 0,_=>rfl
 | k+1,o=>by
  simp only[pM];rw[mg e k];split<;>simp
def Df(e:Expr)(set:List Bool):List Bool:=if BM e&&FW (E1 (Ah e) set) e then pM e (Ah e).length ((List.range (Ah e).length).map λi=>set.getD i false) else List.replicate (Ah e).length false
theorem Xq(e:Expr)(set:List Bool):(Df e set).length=(Ah e).length:=by grind[Df,mg]
def wz(e:Expr)(set:List Bool):Ad C0 273 [.agg e.c,KA set] [] (KA (Df e set)) []:=by
 refine Ad.lens f273 λhlen=>?_
 simp[FZ,lens,Expr.Dg,List.length_map,and_true,true_and]at hlen;have QG:=Dt e;refine Ad.go f273 ?_;unfold f273;refine gO ?_;refine Ai (Rx e) (by exact gI) rfl ?_;cases h1:BM e
 ·have hd:Df e set=List.replicate (Ah e).length false:=by simp[Df,h1]
  rw[hd];refine gO ?_;refine CU ⟨[],[],[1088]⟩ _ (gO ?_);exact .sl (by simp)
 refine gO ?_;refine Ab (Vk (Ah e) set (by omega) _ e (Nat.lt_succ_self _) [] (GC h1)) ?_;cases h2:FW (E1 (Ah e) set) e
 ·have hd:Df e set=List.replicate (Ah e).length false:=by grind[Df]
  rw[hd];refine gO ?_;refine CU ⟨[],[],[1088]⟩ _ (gO ?_);exact .sl (by simp)
 refine gO ?_;have hd:Df e set=pM e (Ah e).length ((List.range (Ah e).length).map λi=>set.getD i false):=by grind[Df]
 rw[hd];obtain⟨G,hG⟩:∃ G,G=(List.range (Ah e).length).map λi=>set.getD i false:=⟨_,rfl⟩
 rw[<- hG];have hGl:G.length=(Ah e).length:=by grind
 have hGi:∀ i,i<(Ah e).length->G[i]?=some (set.getD i false):=λi hi=>by grind
 clear hG hd;refine AF ((Ah e)) (λi=>⟨[(8,I i),(7,.sl (.own 1088 0) 1 ((Jq G i).map λb=>[B b])),(5,BG (Ah e)),(1,KA set),(2,.ptr 128 0)],[(128,e.c)]⟩) (λi=>True) trivial ?_ ?_
 ·have Q4:=@Jq.eq_1;exact Gd
 rintro i ⟨hi,hP⟩ J hJ;refine gO ?_;refine Bo hi (λAP b hb Cg AX=>?_) λBa=>?_
 ·have Me:=YM (G:=G) (i:=i) (by omega);have uw:=YL (G:=G) (i:=i) (by omega);have Su:=YN (hGi i AX);generalize Jq G i=M at Me uw Su ⊢
  by_cases hs:i<set.length
  ·obtain⟨y,hy⟩:∃ y,set[i]?=some y:=⟨_,gE hs⟩;have e4:set.getD i false=y:=by grind
   rw[e4]at Su;simp(disch:=omega)only[go_sem,eq_true (show (i:Int)<(set.length:Int) by omega),hy,uw];refine hJ _ (i+1) ⟨by omega,trivial⟩ (by omega) (AT.Aq ?_ gI);refine gO ?_;exact .sl (by grind[map_set])
  ·have e4:set.getD i false=false:=by grind
   rw[e4]at Su;simp(disch:=omega)only[go_sem,eq_false (show ¬ ((i:Int)<(set.length:Int)) by omega),uw];refine hJ _ (i+1) ⟨by omega,trivial⟩ (by omega) (AT.Aq ?_ gI);refine gO ?_;exact .sl (by grind[map_set])
 subst Ba;have e3:Jq G (Ah e).length=G:=by grind[YK]
 rw[e3];clear hJ hi;refine Ao (α:=Nat × List Bool) (λq=>⟨[(9,I ((q.1:Int)-1)),(7,.sl (.own 1088 0) 1 (q.2.map λb=>[B b])),(5,BG (Ah e)),(2,.ptr 128 0)],[(128,e.c)]⟩) (λq=>q.1<=(Ah e).length/\q.2.length=(Ah e).length/\pM e (Ah e).length G=pM e q.1 q.2) (λq=>q.1) ((Ah e).length,G) ⟨Nat.le_refl _,hGl,rfl⟩ AK ?_;rintro⟨k,o⟩ ⟨hk,oa,ho⟩ J hJ
 replace hk:k<=(Ah e).length:=hk
 replace oa:o.length=(Ah e).length:=oa
 replace ho:pM e (Ah e).length G=pM e k o:=ho
 cases k with
 | zero =>
  refine gO ?_;rw[ho];refine CU ⟨[],[],[1088]⟩ _ ?_;simp only[go_sem,pM]
 | succ k =>
  have e7:(k:Int)+1-1=(k:Int):=by omega
  have e8:(0<=(k:Int))=True:=eq_true (by omega);obtain⟨y,hy⟩:∃ y,o[k]?=some y:=⟨_,gE (by omega)⟩;have hyd:o.getD k false=y:=by grind
  simp only[pM,hyd]at ho;have X7:k<o.length:=by omega
  show _;cases y
  ·simp at ho;refine gS ?_;refine hJ _ (k,o) ⟨show k<=_ by omega,oa,ho⟩ (show k<k+1 by omega) (AT.Aq ?_ gI);exact gI
  ·simp at ho;have hmo:((o.map λb=>[B b]).set k [B false])=(o.set k false).map λb=>[B b]:=by simp
   have iE:(o.set k false)[k]?=some false:=by grind
   have gr:(o.set k false).length=o.length:=by simp
   have hss:(o.set k false).set k (!FW (E1 (Ah e) (o.set k false)) e)=o.set k (!FW (E1 (Ah e) (o.set k false)) e):=by simp
   generalize y8:o.set k false=o2 at hmo iE gr ho hss;refine gS ?_;refine B4 [1088] (Vk (Ah e) o2 (by omega) _ e (Nat.lt_succ_self _) [] (GC h1)) (by exact gI) rfl trivial ?_;refine gS ?_;refine hJ _ (k,o.set k (!FW (E1 (Ah e) o2) e)) ⟨show k<=_ by omega,by grind,ho⟩ (show k<k+1 by omega) (AT.Aq ?_ gI);refine gO ?_
   try exact .sl (by grind[map_set])
def vH(c:Hw)(h1:c.Aa.length<=1000000)(h2:c.procs.length<=1000000):Ad C0 172 [.agg c.c] [] (.agg [I c.now,AN c.Aa,.sl (.own 0 0) 16 (c.procs.map Bu.c)]) []:=by
 refine Ad.go f172 ?_;unfold f172;refine gO ?_;refine CU ⟨[(704,0)],[],[384]⟩ _ ?_;simp(disch:=omega)only[go_sem]
def Da(w:Ap)(t:List Queue)(ev:List Ev):Ap:={ w with Aa:=t,D1:=w.D1++ev }
def Nb(w:Ap)(t:List Queue)(ev:List Ev)(h:w.D1.length+ev.length<=4294967296):Ad C0 269 [.ptr 63 0,AN t,dh ev] [(63,w.c)] (.BC []) [(63,(Da w t ev).c)]:=by
 refine Ad.go f269 ?_;unfold f269;refine gO ?_;refine AY ⟨[(0,0),(1088,1)],[(63,63)],[]⟩ _ rfl ⟨rfl,rfl⟩ (by simp[lk]) ?_ ?_
 ·exact gI
 ·simp(disch:=omega)only[go_sem,Da,map_append]
def yG(k:Int)(p:Ac):Ev:=⟨k,p,[],⟨0,0⟩⟩
def CL(w:Ap)(k:Int)(p:Ac):Ap:={ w with D1:=w.D1++[yG k p] }
def aT(w:Ap)(k:Int)(p:Ac)(h:w.D1.length+1<=4294967296):Ad C0 267 [.ptr 63 0,I k,.agg p.c] [(63,w.c)] (.BC []) [(63,(CL w k p).c)]:=by
 refine Ad.go f267 ?_;unfold f267;refine gO ?_;refine Dj 8191 [(0,1,0),(1,2,0),(2,4,2),(3,8,4),(4,16,8),(5,32,0),(6,64,0),(7,128,96),(8,256,128),(9,512,272),(10,1024,1023),(11,2048,2047),(12,4096,3071)] [0,1,2,32,64,3,33,65,6,34,66,96,7,35,67,97,14,38,70,98,224,15,39,71,99,225,30,46,78,102,226,480,31,47,79,103,227,481,62,94,110,230,482,63,95,111,231,483,126,238,486,127,239,487,254,494,255,495,510,511,1022,1023,2047,4095,8191] (λm=>⟨XE m [(1,6,.ptr 63 0),(2,7,.ptr 63 0),(4,8,.ptr 63 0),(8,9,.ptr 63 3),(16,10,(if m / 512%2=1 then .undef else .sl (.own 1 0) 7 (w.D1.map Ev.c))),(32,11,I k),(64,12,.agg p.c),(128,13,.agg (yG k p).c),(256,14,.sl (.own 896 0) 7 [(yG k p).c]),(512,15,.sl (.own 960 0) 7 ((w.D1++[yG k p]).map Ev.c)),(1024,16,.ptr 63 0),(2048,17,.ptr 63 3)]++[(0,.ptr 63 0),(1,I k),(5,.ptr 320 0)],[(320,p.c),(63,[I w.now,AN w.Aa,.sl (.own 0 0) 16 (w.procs.map Bu.c),(if m / 512%2=1 then (if m / 4096%2=1 then .sl (.own 960 0) 7 ((w.D1++[yG k p]).map Ev.c) else .undef) else .sl (.own 1 0) 7 (w.D1.map Ev.c))])]⟩) ?_ ?_ ?_ B6
 ·exact AK
 ·simp (maxSteps:=100000000)only[Di,Dh,D0,DZ,and_true,Nat.reduceDiv,Nat.reduceMod,Nat.reduceAnd,Nat.reduceEqDiff,reduceIte,true_and,and_false,false_and,and_self]
  repeat'(with_reducible refine And.intro ?_ ?_)
  all_goals simp(disch:=omega)only[go_sem,map_append,map_cons,map_nil,yG]
  all_goals exact AT.Aq (by simp(disch:=omega)only[go_sem,map_append,map_cons,map_nil,yG]) (by simp(disch:=omega)only[go_sem,map_append,map_cons,map_nil,yG])
 refine gO ?_;refine AY ⟨[(0,0),(960,1)],[(63,63)],[]⟩ _ rfl ⟨rfl,rfl⟩ (by simp[lk]) ?_ ?_
 ·exact gI
 ·simp(disch:=omega)only[go_sem,CL,map_append]
  try exact .sl (by simp[Ev.c])
def CH(x:Bu):Bu:={ x with waiting:=false,Bk:=Fc,since:=0 }
def AW(w:Ap)(i:Nat)(x:Bu):Ap:={ w with procs:=w.procs.set i x }
def kZ(w:Ap)(i:Nat)(x:Bu)(hx:w.procs[i]?=some x):Ad C0 271 [.ptr 63 0,I i] [(63,w.c)] (.BC []) [(63,(AW w i (CH x)).c)]:=by
 have hi:=Au hx;refine Ad.go f271 ?_;unfold f271;simp(disch:=omega)only[go_sem,gm,hx,List.getElem?_set,List.length_map,List.length_set];refine AY ⟨[(0,0),(1,1)],[(63,63)],[]⟩ _ rfl ⟨rfl,rfl⟩ (by simp[lk]) ?_ ?_
 ·exact gI
 ·simp(disch:=omega)only[go_sem,AW];rw[map_set,set_set,set_set];refine .xL (II.set ?_ _ _);simp only[Bu.c,CH,Fc,e0,a0,Expr.k,Expr.atom,Expr.kids,MU,gx,map_nil];simp
def CA(x:Bu):Bu:={ x with gen:=OW x.gen }
theorem Ll(w:Ap)(i:Nat)(x:Bu)(hx:w.procs[i]?=some x):Ad C0 223 [.ptr 63 0,I i] [(63,w.c)] (.BC []) [(63,(AW w i (CA x)).c)]:=by
 have hi:=Au hx;refine Ad.go f223 ?_;unfold f223;refine gO ?_;refine Ay 16 [([],[0]),([],[4]),([],[5]),([],[6]),([],[7]),([],[1]),([],[0]),([],[10]),([],[11]),([],[12]),([],[13]),([],[1]),([],[14,15]),([],[16]),([],[17]),([],[18])] B6 ?_;simp(disch:=omega)only[go_sem,gm,hx]
 first|(refine Ab (aJ x.gen) ?_)|(refine Ax (aJ x.gen) ?_)
 simp(disch:=omega)only[go_sem,gm,hx];refine AY ⟨[(0,0),(1,1)],[(63,63)],[]⟩ _ rfl ⟨rfl,rfl⟩ (by simp[lk]) ?_ ?_
 ·exact gI
 ·simp(disch:=omega)only[go_sem,AW];exact .sl (by rw[map_set];rfl)
def TP{t:List Queue}(h:Fa t)(p:Ac)(n:Bs):(Du t p n).2.1.length<=100:=by
 unfold Du;split
 ·simp
 ·cases hf:CG t n with
  |none=>simp
  |some i =>
   simp only;split
   ·simp
   ·obtain⟨hi,b,hb,_⟩:=D2 hf;have hg:t.getD i q0=b:=by grind
    rw[hg];simp only[HN];exact Nat.le_trans (TO b p) (h.q b (mG hb))
theorem IZ{t:List Queue}(h:Fa t)(p:Ac)(a:Atom):(BH t p a).2.1.length<=101:=by
 unfold BH;split
 ·simp
 ·cases hf:CG t a.name with
  |none=>simp
  |some i =>
   simp only;split
   ·simp
   ·obtain⟨hi,b,hb,_⟩:=D2 hf;have hg:t.getD i q0=b:=by grind
    rw[hg];have:=Nat.le_trans (W5 b p a.AH) (h.q b (mG hb));simp only[List.length_append,HN];split<;>simp<;>omega
def VZ{t:List Queue}(h:Fa t)(p:Ac)(a:Atom)(prio:Int):(EK t p a prio).2.1.length<=101:=by
 unfold EK;split
 ·simp
 ·cases hf:CG t a.name with
  |none=>simp
  |some i =>
   simp only;split
   ·simp
   ·split
    ·simp
    ·obtain⟨hi,b,hb,_⟩:=D2 hf;have hg:t.getD i q0=b:=by grind
     rw[hg];have h1:=VY b p a.AH prio;have h2:=h.q b (mG hb);simp only[HN];omega
def EH(w:Ap)(x:Bu)(name:Bs)(k:Nat):Ap:=if (Ar (w.Aa.getD k q0) x.proc).isSome then Da w (Du w.Aa x.proc name).1 (Du w.Aa x.proc name).2.1 else w
def LZ(w:Ap)(x:Bu)(name:Bs)(k:Nat):Ap:=if decide (Am (w.Aa.getD k q0).holds x.proc=An x.AB.entries name) then w else Da w (BH w.Aa x.proc ⟨name,An x.AB.entries name⟩).1 (BH w.Aa x.proc ⟨name,An x.AB.entries name⟩).2.1
def Ed(w:Ap)(x:Bu)(name:Bs):Ap:=match CG w.Aa name with
 |none=>w
 |some k=>LZ (EH w x name k) x name k
def wy(w:Ap)(x:Bu)(name:Bs)(k:Nat)(hf:CG w.Aa name=some k)(h1:Fa w.Aa)(Y1:w.D1.length<=1000000)(hk:k<(EH w x name k).Aa.length)(h2:Fa (EH w x name k).Aa) :
 Ad C0 270 [.ptr 63 0,.agg x.c,.v (.string (str name))] [(63,w.c)] (.BC []) [(63,(Ed w x name).c)]:=by
 obtain⟨Tn,b,hb,_⟩:=D2 hf;have hg:w.Aa.getD k q0=b:=by grind
 obtain⟨q1,q2,q3⟩:=Bt (h1.q b (mG hb));have hn:=h1.n;have hdk:Ed w x name=LZ (EH w x name k) x name k:=by simp[Ed,hf]
 rw[hdk];have hA:EH w x name k=if (Ar b x.proc).isSome then Da w (Du w.Aa x.proc name).1 (Du w.Aa x.proc name).2.1 else w:=by grind[EH]
 have RN:=TP h1 x.proc name;obtain⟨b2,Ss⟩:∃ b2,(EH w x name k).Aa[k]?=some b2:=⟨_,gE hk⟩;have iE:(EH w x name k).Aa.getD k q0=b2:=by grind
 obtain⟨r1,r2,r3⟩:=Bt (h2.q b2 (mG Ss));have hB:LZ (EH w x name k) x name k=if decide (Am b2.holds x.proc=An x.AB.entries name) then (EH w x name k) else Da (EH w x name k) (BH (EH w x name k).Aa x.proc ⟨name,An x.AB.entries name⟩).1 (BH (EH w x name k).Aa x.proc ⟨name,An x.AB.entries name⟩).2.1:=by grind[LZ]
 rw[hB];have rL:=IZ h2 x.proc ⟨name,An x.AB.entries name⟩;generalize EH w x name k=w1 at hA hk h2 Ss iE rL ⊢;clear hB;refine Ad.go f270 ?_;unfold f270;refine gO ?_;refine Ab (IT w.Aa name (by omega)) ?_;simp only[go_sem,hf,XZ];refine Dj 131071 [(0,1,0),(1,2,1),(2,4,2),(3,8,4),(4,16,8),(5,32,0),(6,64,48),(7,128,64),(8,256,0),(9,512,256),(10,1024,640),(11,2048,1024),(12,4096,2048),(13,8192,2048),(14,16384,0),(15,32768,24575),(16,65536,65535)] [0,1,32,256,16384,3,33,257,16385,288,16416,768,16640,7,35,259,16387,289,16417,769,16641,800,16672,17152,15,39,263,16391,291,16419,771,16643,801,16673,17153,17184,31,47,271,16399,295,16423,775,16647,803,16675,17155,17185,63,287,16415,303,16431,783,16655,807,16679,17159,17187,127,319,16447,799,16671,815,16687,17167,17191,255,383,16511,831,16703,17183,17199,511,16639,895,16767,17215,1023,16895,17279,2047,17407,4095,18431,8191,12287,20479,16383,24575,28671,32767,57343,65535,131071] (λm=>⟨XE m [(1,24,.ptr 63 0),(2,25,.ptr 63 0),(4,26,.ptr 63 0),(8,27,.ptr 63 1),(16,28,AN w.Aa),(32,29,I k),(64,30,.ep .no k b.c 0),(128,31,.agg b.c),(256,32,.ptr 256 0),(512,33,.agg x.proc.c),(1024,34,.BC [.agg ((Ar b x.proc).getD ⟨0,0⟩).c,B (Ar b x.proc).isSome]),(2048,23,.BC [.agg ((Ar b x.proc).getD ⟨0,0⟩).c,B (Ar b x.proc).isSome]),(4096,35,.agg ((Ar b x.proc).getD ⟨0,0⟩).c),(8192,36,B (Ar b x.proc).isSome),(16384,7,.ptr 448 0),(65536,8,B (Ar b x.proc).isSome)]++[(0,.ptr 63 0),(2,.v (.string (str name))),(4,.ptr 256 0),(6,I k)],((if m / 16384%2=1 then [(448,(if m / 32768%2=1 then ((Ar b x.proc).getD ⟨0,0⟩).c else (⟨0,0⟩:BR).c))] else [])++[(63,w.c),(256,x.c)])⟩) ?_ ?_ ?_ B6
 ·exact AK
 ·simp (maxSteps:=100000000)only[Di,Dh,D0,DZ,and_true,Nat.reduceDiv,Nat.reduceMod,Nat.reduceAnd,Nat.reduceEqDiff,reduceIte,true_and,and_false,and_self]
  repeat'(with_reducible refine And.intro ?_ ?_)
  all_goals simp(disch:=omega)only[go_sem,gm,hb,List.nil_append]
  all_goals first|exact AT.Aq gI (by simp(disch:=omega)only[go_sem])|(refine Ab (Nc b x.proc q2 q3) ?_;simp(disch:=omega)only[go_sem];exact AT.Aq gI (by simp(disch:=omega)only[go_sem]))
 have Abb:w1.D1.length<=1000100:=by grind[Da]
 cases hw:(Ar b x.proc).isSome
 all_goals rw[hw]at hA
 all_goals simp only[Bool.false_eq_true,if_false,if_true]at hA
 all_goals simp(disch:=omega)only[go_sem,List.nil_append,List.cons_append]
 subst hA;rotate_left;refine Ay 15 [([],[0]),([],[39]),([],[40]),([],[41]),([],[42]),([],[4]),([],[44]),([],[2]),([],[43,45,46]),([8],[47]),([8],[38]),([8],[38]),([8],[38]),([8],[48]),([8],[49])] B6 (gO ?_)
 first|(refine Ab (ln w.Aa x.proc name h1) ?_)|(refine Ax (ln w.Aa x.proc name h1) ?_)
 refine gO ?_;refine call2 ⟨⟨[(0,0),(1,1)],[(63,63)],[]⟩,[],[]⟩ (Nb w (Du w.Aa x.proc name).1 (Du w.Aa x.proc name).2.1 (by omega)) ?_;rw[<- hA];simp(disch:=omega)only[go_sem]
 all_goals
  refine Ab (Ib x.AB.entries name) (gO ?_);refine Ay 12 [([],[0]),([],[60]),([],[61]),([],[62]),([],[63]),([],[6]),([],[64,65]),([],[66]),([],[4]),([],[68]),([],[67,69]),([],[12])] B6 ?_;simp(disch:=omega)only[go_sem,gm,Ss]
  first|(refine Ab (E0 b2 x.proc r1) ?_)|(refine Ax (E0 b2 x.proc r1) ?_)
  cases hH:decide (Am b2.holds x.proc=An x.AB.entries name);rotate_left
  ·simp only[if_true];simp(disch:=omega)only[go_sem,hH,Bool.not_true];refine C8 ⟨[(0,0),(1,1)],[(63,63)],[]⟩ _ ?_ ?_
   ·exact gI
   ·exact gI
  simp only[Bool.false_eq_true,if_false];simp(disch:=omega)only[go_sem,hH,Bool.not_false];refine Ay 17 [([],[0]),([],[74]),([],[75]),([],[76]),([],[77]),([],[4]),([],[79]),([],[2]),([],[12]),([],[81,82]),([],[78,80,83]),([10],[84]),([10],[73]),([10],[73]),([10],[73]),([10],[85]),([10],[86])] B6 (gO ?_)
  first|(refine Ab (Lm w1.Aa x.proc ⟨name,An x.AB.entries name⟩ h2) ?_)|(refine Ax (Lm w1.Aa x.proc ⟨name,An x.AB.entries name⟩ h2) ?_)
  refine gO ?_;refine call2 ⟨⟨[(0,0),(1,1)],[(63,63)],[]⟩,[],[]⟩ (Nb w1 (BH w1.Aa x.proc ⟨name,An x.AB.entries name⟩).1 (BH w1.Aa x.proc ⟨name,An x.AB.entries name⟩).2.1 (by omega)) (gO ?_);refine C8 ⟨[(0,0),(1,1)],[(63,63)],[]⟩ _ ?_ ?_
  ·exact gI
  ·exact gI
end Go.Rd
