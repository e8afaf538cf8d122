/- part 26 of the proof -/
import Derived.Test.YthachdiockkofaaGreatDoorS25
set_option linter.all false
open Go Go.Abs Go.Proofs
set_option maxRecDepth 100000
namespace Go.Rd
set_option maxHeartbeats 8000000
open List (cons_append map_append map_cons map_nil map_set nil_append set_set)
open Bool (false_eq_true)
open Tryz
def x0:Pcs:=⟨p0,0,Cv,false,C6,0,0⟩
def Dg(c:Cen)(i:Nat)(x:Pcs):Bool:=D3 c.now c.queues x&&(decide (i=0)||decide (AT (c.procs.getD (i-1) x0).proc x.proc<0))
def BD(c:Cen):Bool:=decide (0≤c.now)&&decide (c.now≤1073741824)&&Gi c.queues&&decide (c.procs.length≤8)&&(Ar c.queues).all (fun p=>decide (0≤CK c.procs p))&&BO (Dg c) c.procs
theorem f68_ok(c:Cen)(h:CU c.queues):Ac C0 68 [.agg c.c] [] (B (BD c)) []:=by
 refine Ac.go f68 ?_;unfold f68
 by_cases h1:c.now<0
 ·simp(disch:=omega)only[go_sem,eq_true h1,decide_true];refine Ap _ ?_;exact wb (by simp[BD,show ¬ 0≤c.now by omega])
 by_cases h2:1073741824<c.now
 ·simp(disch:=omega)only[go_sem,eq_false h1,eq_true h2,decide_true,decide_false];refine Ap _ ?_;exact wb (by simp[BD,show ¬ c.now≤1073741824 by omega])
 simp(disch:=omega)only[go_sem,eq_false h1,eq_false h2,decide_false];refine Ab (f115_ok c.queues h) ?_;cases h3:Gi c.queues
 ·simp(disch:=omega)only[go_sem,Bool.not_false];refine Ap _ ?_;exact wb (by simp[BD,h3])
 simp(disch:=omega)only[go_sem,Bool.not_true]
 by_cases h4:8<c.procs.length
 ·have e4:(8<(c.procs.length:Int))=True:=eq_true (by omega);simp(disch:=omega)only[go_sem,e4,decide_true];refine Ap _ ?_;exact wb (by simp[BD,show ¬ c.procs.length≤8 by omega])
 have e4:(8<(c.procs.length:Int))=False:=eq_false (by omega);simp(disch:=omega)only[go_sem,e4,decide_false];have base:BD c=((Ar c.queues).all (fun p=>decide (0≤CK c.procs p))&&BO (Dg c) c.procs):=by
  simp[BD,h3,show 0≤c.now by omega,show c.now≤1073741824 by omega,show c.procs.length≤8 by omega]
 rw[base];have hpl:(Ar c.queues).length≤8:=by simp only[Gi,Bool.and_eq_true,decide_eq_true_eq]at h3;exact h3.2
 refine Be ⟨⟨[],[],[]⟩,[(0,1792)],[]⟩ (f75_ok c.queues h.n h.q) gI rfl trivial (.inl rfl) ?_;refine gO ?_;generalize Ar c.queues=ps at hpl;refine Aa (α:=Nat) (fun i=>⟨[(4,I i),(3,.sl (.own 1792 0) 3 (ps.map Proc.c)),(1,.ptr 64 0)],[(64,c.c)]⟩) (fun i=>i≤(ps).length∧(ps.take i).all (fun p=>decide (0≤CK c.procs p))=true) (fun i=>(ps).length-i) 0 ⟨by omega,rfl⟩ ?_ ?_
 ·exact Ca
 rintro i ⟨hi,hP⟩ J hJ;refine gO ?_;refine ⟨fun hlt=>?_,fun hge=>?_⟩;rotate_left;have hil:i=(ps).length:=by simp at hge;omega
 rotate_left;obtain⟨b,hb⟩:∃ b,(ps)[i]?=some b:=⟨_,gE (by simp at hlt;omega)⟩;have hbm:=mG hb;have hlt2:i<(ps).length:=by simp at hlt;omega
 ·refine Aq 6 [([],[1]),([],[35]),([],[3]),([],[4]),([],[37,38]),([],[39])] fol ?_;simp(disch:=omega)only[go_sem,gm,hb]
  first|(refine Ab (f69_ok c.procs b) ?_)|(refine Al (f69_ok c.procs b) ?_)
  by_cases h5:CK c.procs b<0
  ·simp(disch:=omega)only[go_sem,eq_true h5,decide_true];refine Ap _ ?_;exact wb (by rw[List.all_eq_false.2 ⟨b,hbm,by simp;omega⟩];rfl)
  ·simp(disch:=omega)only[go_sem,eq_false h5,decide_false];refine hJ _ (i+1) ⟨by simp at hlt;omega,(by rw[List.take_add_one,hb,List.all_append,hP];simp;omega)⟩ (by simp at hlt;omega) AK
 subst hil;rw[List.take_length]at hP;rw[hP,Bool.true_and];clear hJ hi hge;refine Aa (α:=Nat) (fun i=>⟨[(5,I i),(1,.ptr 64 0)],[(64,c.c)]⟩) (fun i=>i≤(c.procs).length∧BO (Dg c) (c.procs.take i)=true) (fun i=>(c.procs).length-i) 0 ⟨by omega,rfl⟩ ?_ ?_
 ·exact Ca
 rintro i ⟨hi,hP⟩ J hJ;refine gO ?_;refine ⟨fun hlt=>?_,fun hge=>?_⟩;rotate_left;have hil:i=(c.procs).length:=by simp at hge;omega
 rotate_left;obtain⟨b,hb⟩:∃ b,(c.procs)[i]?=some b:=⟨_,gE (by simp at hlt;omega)⟩;have hbm:=mG hb;have hlt2:i<(c.procs).length:=by simp at hlt;omega
 ·have bad:Dg c i b=false→BO (Dg c) c.procs=false:=fun h=>Bj hb h
  have good:Dg c i b=true→BO (Dg c) (c.procs.take (i+1))=true:=fun h=>by rw[B4 hb,hP,h];rfl
  refine Aq 25 [([],[1]),([],[1]),([],[51]),([],[5]),([],[52,53]),([],[54]),([],[50,55]),([6],[56]),([6],[57]),([6],[5,58]),([6],[59,58]),([6],[60,58]),([6],[1,61]),([6],[62,61]),([6],[5,61]),([6],[64,61]),([6],[63,65,61]),([6],[66,61]),([6],[67,61]),([6],[1,61]),([6],[69,61]),([6],[5,61]),([6],[70,71,61]),([6],[72,61]),([6],[73,61])] fol ?_;simp(disch:=omega)only[go_sem,gm,hb]
  first|(refine Ab (f116_ok c b h (by omega)) ?_)|(refine Al (f116_ok c b h (by omega)) ?_)
  cases h6:D3 c.now c.queues b
  ·simp(disch:=omega)only[go_sem,Bool.not_false];refine Ap _ ?_;exact wb (by rw[bad (by simp[Dg,h6])])
  by_cases hi0:i=0
  ·subst hi0;simp(disch:=omega)only[go_sem,Bool.not_true];refine hJ _ 1 ⟨by omega,good (by simp[Dg,h6])⟩ (by omega) AK
  ·have hi1:(0<(i:Int))=True:=eq_true (by omega);have hi2:((i:Int)-1)=((i-1:Nat):Int):=by omega
   obtain⟨a,ha'⟩:∃ a,c.procs[i-1]?=some a:=⟨_,gE (by omega)⟩;have had:c.procs.getD (i-1) x0=a:=by simp[List.getD,ha']
   simp(disch:=omega)only[go_sem,Bool.not_true,hi1,hi2,gm,ha',hb]
   first|(refine Ab (f107_ok a.proc b.proc) ?_)|(refine Al (f107_ok a.proc b.proc) ?_)
   by_cases h7:0≤AT a.proc b.proc
   ·simp(disch:=omega)only[go_sem,eq_true h7,decide_true];refine Ap _ ?_;exact wb (by rw[bad (by simp only[Dg,had,h6];simp[hi0];omega)])
   ·simp(disch:=omega)only[go_sem,eq_false h7,decide_false];refine hJ _ (i+1) ⟨by omega,good (by simp only[Dg,had,h6];simp[hi0];omega)⟩ (by omega) AK
 subst hil;rw[List.take_length]at hP;refine Ap _ ?_;exact wb (by rw[hP])
def prN(e:Expr):Nat→List Bool→List Bool
 | 0,o=>o
 | k+1,o=>prN e k (if o.getD k false then o.set k (!En (DF (Ad e) (o.set k false)) e) else o)
theorem W4(e:Expr):∀ k o,(prN e k o).length=o.length
 | 0,_=>rfl
 | k+1,o=>by
  simp only[prN];rw[W4 e k];split<;>simp
def B9(e:Expr)(set:List Bool):List Bool:=if A5 e&&En (DF (Ad e) set) e then prN e (Ad e).length ((List.range (Ad e).length).map fun i=>set.getD i false) else List.replicate (Ad e).length false
theorem Qz(e:Expr)(set:List Bool):(B9 e set).length=(Ad e).length:=by
 unfold B9;split
 ·rw[W4];simp
 ·simp
theorem f189_ok(e:Expr)(set:List Bool):Ac C0 189 [.agg e.c,It set] [] (It (B9 e set)) []:=by
 refine Ac.lens f189 fun hlen=>?_
 simp only[Fz,lens,Expr.FF,List.length_map,and_true,true_and]at hlen;have hal:=CS e;refine Ac.go f189 ?_;unfold f189;refine gO ?_;refine Af (f150_ok e) (by simp(disch:=omega)only[go_sem,Expr.FF]) rfl ?_;cases h1:A5 e
 ·have hd:B9 e set=List.replicate (Ad e).length false:=by simp[B9,h1]
  rw[hd];simp(disch:=omega)only[go_sem,Bool.not_false];refine CT ⟨[],[],[1088]⟩ _ ?_;refine gO ?_;exact .sl (by simp)
 simp(disch:=omega)only[go_sem,Bool.not_true];refine Ab (f151_ok (Ad e) set (by omega) _ e (Nat.lt_succ_self _) [] (E1 h1)) ?_;cases h2:En (DF (Ad e) set) e
 ·have hd:B9 e set=List.replicate (Ad e).length false:=by simp[B9,h1,h2]
  rw[hd];simp(disch:=omega)only[go_sem,Bool.not_false];refine CT ⟨[],[],[1088]⟩ _ ?_;refine gO ?_;exact .sl (by simp)
 simp(disch:=omega)only[go_sem,Bool.not_true];have hd:B9 e set=prN e (Ad e).length ((List.range (Ad e).length).map fun i=>set.getD i false):=by simp[B9,h1,h2]
 rw[hd];obtain⟨G,hG⟩:∃ G,G=(List.range (Ad e).length).map fun i=>set.getD i false:=⟨_,rfl⟩
 rw[← hG];have hGl:G.length=(Ad e).length:=by rw[hG];simp
 have hGi:∀ i,i<(Ad e).length→G[i]?=some (set.getD i false):=fun i hi=>by rw[hG,gm,List.getElem?_range hi];rfl
 clear hG hd;refine Aa (α:=Nat) (fun i=>⟨[(8,I i),(7,.sl (.own 1088 0) 1 ((FH G i).map fun b=>[B b])),(5,Bn (Ad e)),(1,It set),(2,.ptr 128 0)],[(128,e.c)]⟩) (fun i=>i≤((Ad e)).length∧True) (fun i=>((Ad e)).length-i) 0 ⟨by omega,trivial⟩ ?_ ?_
 ·refine Imp.weak ?_ ?_
  all_goals(try simp(disch:=omega)only[go_sem])
  all_goals(try(repeat'(with_reducible apply And.intro)))
  all_goals(first|exact .AA (by omega)|exact .Az (by omega)|exact .sl (by simp[FH,hGl])|exact .int (by simp[FH,hGl])|exact .eq (by simp[FH,hGl]))
 rintro i ⟨hi,hP⟩ J hJ;refine gO ?_;refine ⟨fun hlt=>?_,fun hge=>?_⟩;rotate_left;have hil:i=((Ad e)).length:=by simp at hge;omega
 rotate_left;obtain⟨b,hb⟩:∃ b,((Ad e))[i]?=some b:=⟨_,gE (by simp at hlt;omega)⟩;have hbm:=mG hb;have hlt2:i<((Ad e)).length:=by simp at hlt;omega
 ·have hfl:=RB (G:=G) (i:=i) (by omega);have hfg:=RA (G:=G) (i:=i) (by omega);have hfs:=RC (hGi i hlt2);generalize FH G i=M at hfl hfg hfs ⊢
  by_cases hs:i<set.length
  ·obtain⟨y,hy⟩:∃ y,set[i]?=some y:=⟨_,gE hs⟩;have e4:set.getD i false=y:=by simp[List.getD,hy]
   rw[e4]at hfs;simp(disch:=omega)only[go_sem,eq_true (show (i:Int)<(set.length:Int) by omega),decide_true,gm,hy,hfg];refine hJ _ (i+1) ⟨by omega,trivial⟩ (by omega) (Imp.weak ?_ gI);refine gO ?_;exact .sl (by rw[← hfs,map_set])
  ·have e4:set.getD i false=false:=by simp[List.getD,List.getElem?_eq_none (by omega:set.length≤i)]
   rw[e4]at hfs;simp(disch:=omega)only[go_sem,eq_false (show ¬ ((i:Int)<(set.length:Int)) by omega),decide_false,gm,hfg];refine hJ _ (i+1) ⟨by omega,trivial⟩ (by omega) (Imp.weak ?_ gI);refine gO ?_;exact .sl (by rw[← hfs,map_set])
 subst hil;have e3:FH G (Ad e).length=G:=by rw[← hGl,Rz]
 rw[e3];clear hJ hi hge;refine Aa (α:=Nat × List Bool) (fun q=>⟨[(9,I ((q.1:Int)-1)),(7,.sl (.own 1088 0) 1 (q.2.map fun b=>[B b])),(5,Bn (Ad e)),(2,.ptr 128 0)],[(128,e.c)]⟩) (fun q=>q.1≤(Ad e).length∧q.2.length=(Ad e).length∧prN e (Ad e).length G=prN e q.1 q.2) (fun q=>q.1) ((Ad e).length,G) ⟨Nat.le_refl _,hGl,rfl⟩ AK ?_;rintro⟨k,o⟩ ⟨hk,hol,ho⟩ J hJ
 replace hk:k≤(Ad e).length:=hk
 replace hol:o.length=(Ad e).length:=hol
 replace ho:prN e (Ad e).length G=prN e k o:=ho
 cases k with
 | zero =>
  have e5:(0≤((0:Nat):Int)-1)=False:=eq_false (by omega);simp(disch:=omega)only[go_sem,e5,decide_false];rw[ho];refine CT ⟨[],[],[1088]⟩ _ ?_;simp(disch:=omega)only[go_sem,prN]
 | succ k =>
  have e5:(0≤((k+1:Nat):Int)-1)=True:=eq_true (by omega);have e6:((k+1:Nat):Int)-1=(k:Int):=by omega
  have e7:(k:Int)+1-1=(k:Int):=by omega
  have e8:(0≤(k:Int))=True:=eq_true (by omega);obtain⟨y,hy⟩:∃ y,o[k]?=some y:=⟨_,gE (by omega)⟩;have hyd:o.getD k false=y:=by simp[List.getD,hy]
  simp only[prN,hyd]at ho;have hkl:k<o.length:=by omega
  show _;cases y
  ·simp only[false_eq_true,if_false]at ho;simp(disch:=omega)only[go_sem,e6,e7,e8,decide_true,gm,hy];refine hJ _ (k,o) ⟨show k≤_ by omega,hol,ho⟩ (show k<k+1 by omega) (Imp.weak ?_ gI);simp(disch:=omega)only[go_sem]
  ·simp only[if_true]at ho;have hmo:((o.map fun b=>[B b]).set k [B false])=(o.set k false).map fun b=>[B b]:=by rw[map_set]
   have hg2:(o.set k false)[k]?=some false:=by simp[hkl]
   have hsl:(o.set k false).length=o.length:=by simp
   have hss:(o.set k false).set k (!En (DF (Ad e) (o.set k false)) e)=o.set k (!En (DF (Ad e) (o.set k false)) e):=by simp
   generalize ho2:o.set k false=o2 at hmo hg2 hsl ho hss;have hkl2:k<o2.length:=by omega
   simp(disch:=omega)only[go_sem,e6,e7,e8,decide_true,gm,hy,hmo];refine Dq [1088] (f151_ok (Ad e) o2 (by omega) _ e (Nat.lt_succ_self _) [] (E1 h1)) (by simp(disch:=omega)only[go_sem,hmo]) rfl trivial ?_;simp(disch:=omega)only[go_sem,gm,hg2,hmo];refine hJ _ (k,o.set k (!En (DF (Ad e) o2) e)) ⟨show k≤_ by omega,by show (o.set k _).length=_;simp[hol],ho⟩ (show k<k+1 by omega) (Imp.weak ?_ gI);simp(disch:=omega)only[go_sem,hmo]
   try exact .sl (by rw[← hss,map_set])
theorem f70_ok(c:Cen)(h1:c.queues.length≤1000000)(h2:c.procs.length≤1000000):Ac C0 70 [.agg c.c] [] (.agg [I c.now,Ay c.queues,.sl (.own 0 0) 16 (c.procs.map Pcs.c)]) []:=by
 refine Ac.go f70 ?_;unfold f70;refine gO ?_;refine CT ⟨[(704,0)],[],[384]⟩ _ ?_;simp(disch:=omega)only[go_sem]
def BS(w:Work)(t:List Queue)(ev:List Ev):Work:={ w with queues:=t,evs:=w.evs++ev }
theorem f184_ok(w:Work)(t:List Queue)(ev:List Ev)(h:w.evs.length+ev.length≤4294967296):Ac C0 184 [.ptr 63 0,Ay t,T8 ev] [(63,w.c)] (.tup []) [(63,(BS w t ev).c)]:=by
 refine Ac.go f184 ?_;unfold f184;refine gO ?_;refine A1 ⟨[(0,0),(1088,1)],[(63,63)],[]⟩ _ rfl ⟨rfl,rfl⟩ (by simp[lk]) ?_ ?_
 ·exact gI
 ·simp(disch:=omega)only[go_sem,BS,map_append]
def evN(k:Int)(p:Proc):Ev:=⟨k,p,[],⟨0,0⟩⟩
def Bv(w:Work)(k:Int)(p:Proc):Work:={ w with evs:=w.evs++[evN k p] }
theorem f182_ok(w:Work)(k:Int)(p:Proc)(h:w.evs.length+1≤4294967296):Ac C0 182 [.ptr 63 0,I k,.agg p.c] [(63,w.c)] (.tup []) [(63,(Bv w k p).c)]:=by
 refine Ac.go f182 ?_;unfold f182;refine gO ?_;refine Dt 8191 [(0,1,0),(1,2,0),(2,4,2),(3,8,4),(4,16,8),(5,32,0),(6,64,0),(7,128,96),(8,256,128),(9,512,272),(10,1024,1023),(11,2048,2047),(12,4096,3071)] [0,1,2,32,64,3,33,65,6,34,66,96,7,35,67,97,14,38,70,98,224,15,39,71,99,225,30,46,78,102,226,480,31,47,79,103,227,481,62,94,110,230,482,63,95,111,231,483,126,238,486,127,239,487,254,494,255,495,510,511,1022,1023,2047,4095,8191] (fun m=>⟨sel m [(1,6,.ptr 63 0),(2,7,.ptr 63 0),(4,8,.ptr 63 0),(8,9,.ptr 63 3),(16,10,(if m / 512%2=1 then .undef else .sl (.own 1 0) 7 (w.evs.map Ev.c))),(32,11,I k),(64,12,.agg p.c),(128,13,.agg (evN k p).c),(256,14,.sl (.own 896 0) 7 [(evN k p).c]),(512,15,.sl (.own 960 0) 7 ((w.evs++[evN k p]).map Ev.c)),(1024,16,.ptr 63 0),(2048,17,.ptr 63 3)]++[(0,.ptr 63 0),(1,I k),(5,.ptr 320 0)],[(320,p.c),(63,[I w.now,Ay w.queues,.sl (.own 0 0) 16 (w.procs.map Pcs.c),(if m / 512%2=1 then (if m / 4096%2=1 then .sl (.own 960 0) 7 ((w.evs++[evN k p]).map Ev.c) else .undef) else .sl (.own 1 0) 7 (w.evs.map Ev.c))])]⟩) ?_ ?_ ?_ fol
 ·exact AK
 ·simp (maxSteps:=100000000)only[Ds,Dr,Ek,Ej,and_true,Nat.reduceDiv,Nat.reduceMod,Nat.reduceAnd,Nat.reduceEqDiff,reduceIte,true_and,and_false,false_and,and_self]
  repeat'(with_reducible refine And.intro ?_ ?_)
  all_goals simp(disch:=omega)only[go_sem,map_append,map_cons,map_nil,evN]
  all_goals exact Imp.weak (by simp(disch:=omega)only[go_sem,map_append,map_cons,map_nil,evN]) (by simp(disch:=omega)only[go_sem,map_append,map_cons,map_nil,evN])
 refine gO ?_;refine A1 ⟨[(0,0),(960,1)],[(63,63)],[]⟩ _ rfl ⟨rfl,rfl⟩ (by simp[lk]) ?_ ?_
 ·exact gI
 ·simp(disch:=omega)only[go_sem,Bv,map_append]
  try exact .sl (by simp[Ev.c])
def A7(x:Pcs):Pcs:={ x with waiting:=false,req:=C6,since:=0 }
def At(w:Work)(i:Nat)(x:Pcs):Work:={ w with procs:=w.procs.set i x }
theorem f186_ok(w:Work)(i:Nat)(x:Pcs)(hx:w.procs[i]?=some x):Ac C0 186 [.ptr 63 0,I i] [(63,w.c)] (.tup []) [(63,(At w i (A7 x)).c)]:=by
 have hi:=Ae hx;refine Ac.go f186 ?_;unfold f186;simp(disch:=omega)only[go_sem,gm,hx,List.getElem?_set,List.length_map,List.length_set];refine A1 ⟨[(0,0),(1,1)],[(63,63)],[]⟩ _ rfl ⟨rfl,rfl⟩ (by simp[lk]) ?_ ?_
 ·exact gI
 ·simp(disch:=omega)only[go_sem,At];rw[map_set,set_set,set_set];refine .bf (Gs.set ?_ _ _);simp only[Pcs.c,A7,C6,e0,a0,Expr.k,Expr.atom,Expr.kids,Jx,Vv,map_nil];simp
def Bf(x:Pcs):Pcs:={ x with gen:=KU x.gen }
theorem f121_ok(w:Work)(i:Nat)(x:Pcs)(hx:w.procs[i]?=some x):Ac C0 121 [.ptr 63 0,I i] [(63,w.c)] (.tup []) [(63,(At w i (Bf x)).c)]:=by
 have hi:=Ae hx;refine Ac.go f121 ?_;unfold f121;refine gO ?_;refine Aq 16 [([],[0]),([],[4]),([],[5]),([],[6]),([],[7]),([],[1]),([],[0]),([],[10]),([],[11]),([],[12]),([],[13]),([],[1]),([],[14,15]),([],[16]),([],[17]),([],[18])] fol ?_;simp(disch:=omega)only[go_sem,gm,hx]
 first|(refine Ab (f187_ok x.gen) ?_)|(refine Al (f187_ok x.gen) ?_)
 simp(disch:=omega)only[go_sem,gm,hx];refine A1 ⟨[(0,0),(1,1)],[(63,63)],[]⟩ _ rfl ⟨rfl,rfl⟩ (by simp[lk]) ?_ ?_
 ·exact gI
 ·simp(disch:=omega)only[go_sem,At];exact .sl (by rw[map_set];rfl)
theorem Ov{t:List Queue}(h:CU t)(p:Proc)(n:Bs):(BZ t p n).2.1.length≤100:=by
 unfold BZ;split
 ·simp
 ·cases hf:By t n with
  |none=>simp
  |some i =>
   simp only;split
   ·simp
   ·obtain⟨hi,b,hb,_⟩:=CH hf;have hg:t.getD i q0=b:=by simp[List.getD,hb]
    rw[hg];simp only[FX];exact Nat.le_trans (Ou b p) (h.q b (mG hb))
theorem GF{t:List Queue}(h:CU t)(p:Proc)(a:Atom):(AO t p a).2.1.length≤101:=by
 unfold AO;split
 ·simp
 ·cases hf:By t a.name with
  |none=>simp
  |some i =>
   simp only;split
   ·simp
   ·obtain⟨hi,b,hb,_⟩:=CH hf;have hg:t.getD i q0=b:=by simp[List.getD,hb]
    rw[hg];have:=Nat.le_trans (Qk b p a.amt) (h.q b (mG hb));simp only[List.length_append,FX];split<;>simp<;>omega
theorem PI{t:List Queue}(h:CU t)(p:Proc)(a:Atom)(prio:Int):(Dp t p a prio).2.1.length≤101:=by
 unfold Dp;split
 ·simp
 ·cases hf:By t a.name with
  |none=>simp
  |some i =>
   simp only;split
   ·simp
   ·split
    ·simp
    ·obtain⟨hi,b,hb,_⟩:=CH hf;have hg:t.getD i q0=b:=by simp[List.getD,hb]
     rw[hg];have h1:=PH b p a.amt prio;have h2:=h.q b (mG hb);simp only[FX];omega
def Dj(w:Work)(x:Pcs)(name:Bs)(k:Nat):Work:=if (Aj (w.queues.getD k q0) x.proc).isSome then BS w (BZ w.queues x.proc name).1 (BZ w.queues x.proc name).2.1 else w
def I1(w:Work)(x:Pcs)(name:Bs)(k:Nat):Work:=if decide (Ak (w.queues.getD k q0).holds x.proc=Ai x.led.entries name) then w else BS w (AO w.queues x.proc ⟨name,Ai x.led.entries name⟩).1 (AO w.queues x.proc ⟨name,Ai x.led.entries name⟩).2.1
def CV(w:Work)(x:Pcs)(name:Bs):Work:=match By w.queues name with
 |none=>w
 |some k=>I1 (Dj w x name k) x name k
theorem f185_ok(w:Work)(x:Pcs)(name:Bs)(k:Nat)(hf:By w.queues name=some k)(h1:CU w.queues)(hev:w.evs.length≤1000000)(hk:k<(Dj w x name k).queues.length)(h2:CU (Dj w x name k).queues) :
 Ac C0 185 [.ptr 63 0,.agg x.c,.v (.string (str name))] [(63,w.c)] (.tup []) [(63,(CV w x name).c)]:=by
 obtain⟨hk0,b,hb,_⟩:=CH hf;have hg:w.queues.getD k q0=b:=by simp[List.getD,hb]
 obtain⟨q1,q2,q3⟩:=Bw (h1.q b (mG hb));have hn:=h1.n;have hdk:CV w x name=I1 (Dj w x name k) x name k:=by simp[CV,hf]
 rw[hdk];have hA:Dj w x name k=if (Aj b x.proc).isSome then BS w (BZ w.queues x.proc name).1 (BZ w.queues x.proc name).2.1 else w:=by unfold Dj;rw[hg]
 have hcl:=Ov h1 x.proc name;obtain⟨b2,hb2⟩:∃ b2,(Dj w x name k).queues[k]?=some b2:=⟨_,gE hk⟩;have hg2:(Dj w x name k).queues.getD k q0=b2:=by simp[List.getD,hb2]
 obtain⟨r1,r2,r3⟩:=Bw (h2.q b2 (mG hb2));have hB:I1 (Dj w x name k) x name k=if decide (Ak b2.holds x.proc=Ai x.led.entries name) then (Dj w x name k) else BS (Dj w x name k) (AO (Dj w x name k).queues x.proc ⟨name,Ai x.led.entries name⟩).1 (AO (Dj w x name k).queues x.proc ⟨name,Ai x.led.entries name⟩).2.1:=by unfold I1;rw[hg2]
 rw[hB];have hll:=GF h2 x.proc ⟨name,Ai x.led.entries name⟩;generalize Dj w x name k=w1 at hA hk h2 hb2 hg2 hll ⊢;clear hB;refine Ac.go f185 ?_;unfold f185;refine gO ?_;refine Ab (I6 w.queues name (by omega)) ?_;simp(disch:=omega)only[go_sem,hf,atI];refine Dt 131071 [(0,1,0),(1,2,1),(2,4,2),(3,8,4),(4,16,8),(5,32,0),(6,64,48),(7,128,64),(8,256,0),(9,512,256),(10,1024,640),(11,2048,1024),(12,4096,2048),(13,8192,2048),(14,16384,0),(15,32768,24575),(16,65536,65535)] [0,1,32,256,16384,3,33,257,16385,288,16416,768,16640,7,35,259,16387,289,16417,769,16641,800,16672,17152,15,39,263,16391,291,16419,771,16643,801,16673,17153,17184,31,47,271,16399,295,16423,775,16647,803,16675,17155,17185,63,287,16415,303,16431,783,16655,807,16679,17159,17187,127,319,16447,799,16671,815,16687,17167,17191,255,383,16511,831,16703,17183,17199,511,16639,895,16767,17215,1023,16895,17279,2047,17407,4095,18431,8191,12287,20479,16383,24575,28671,32767,57343,65535,131071] (fun m=>⟨sel m [(1,24,.ptr 63 0),(2,25,.ptr 63 0),(4,26,.ptr 63 0),(8,27,.ptr 63 1),(16,28,Ay w.queues),(32,29,I k),(64,30,.ep .no k b.c 0),(128,31,.agg b.c),(256,32,.ptr 256 0),(512,33,.agg x.proc.c),(1024,34,.tup [.agg ((Aj b x.proc).getD ⟨0,0⟩).c,B (Aj b x.proc).isSome]),(2048,23,.tup [.agg ((Aj b x.proc).getD ⟨0,0⟩).c,B (Aj b x.proc).isSome]),(4096,35,.agg ((Aj b x.proc).getD ⟨0,0⟩).c),(8192,36,B (Aj b x.proc).isSome),(16384,7,.ptr 448 0),(65536,8,B (Aj b x.proc).isSome)]++[(0,.ptr 63 0),(2,.v (.string (str name))),(4,.ptr 256 0),(6,I k)],((if m / 16384%2=1 then [(448,(if m / 32768%2=1 then ((Aj b x.proc).getD ⟨0,0⟩).c else (⟨0,0⟩:Amt).c))] else [])++[(63,w.c),(256,x.c)])⟩) ?_ ?_ ?_ fol
 ·exact AK
 ·simp (maxSteps:=100000000)only[Ds,Dr,Ek,Ej,and_true,Nat.reduceDiv,Nat.reduceMod,Nat.reduceAnd,Nat.reduceEqDiff,reduceIte,true_and,and_false,false_and,and_self]
  repeat'(with_reducible refine And.intro ?_ ?_)
  all_goals simp(disch:=omega)only[go_sem,gm,hb,nil_append]
  all_goals first|exact Imp.weak gI (by simp(disch:=omega)only[go_sem,nil_append,cons_append])|(refine Ab (f98_ok b x.proc q2 q3) ?_;simp(disch:=omega)only[go_sem];exact Imp.weak gI (by simp(disch:=omega)only[go_sem,nil_append,cons_append]))
 have hev1:w1.evs.length≤1000100:=by
  rw[hA];split
  ·simp[BS];omega
  ·omega
 cases hw:(Aj b x.proc).isSome
 all_goals rw[hw]at hA
 all_goals simp only[false_eq_true,if_false,if_true]at hA
 all_goals simp(disch:=omega)only[go_sem,hw,nil_append,cons_append]
 subst hA;rotate_left;refine Aq 15 [([],[0]),([],[39]),([],[40]),([],[41]),([],[42]),([],[4]),([],[44]),([],[2]),([],[43,45,46]),([8],[47]),([8],[38]),([8],[38]),([8],[38]),([8],[48]),([8],[49])] fol ?_;simp(disch:=omega)only[go_sem]
 first|(refine Ab (f258_ok w.queues x.proc name h1) ?_)|(refine Al (f258_ok w.queues x.proc name h1) ?_)
 refine gO ?_;refine call2 ⟨⟨[(0,0),(1,1)],[(63,63)],[]⟩,[],[]⟩ (f184_ok w (BZ w.queues x.proc name).1 (BZ w.queues x.proc name).2.1 (by omega)) ?_;rw[← hA];simp(disch:=omega)only[go_sem]
 all_goals
  refine Ab (f190_ok x.led.entries name) ?_;refine gO ?_;refine Aq 12 [([],[0]),([],[60]),([],[61]),([],[62]),([],[63]),([],[6]),([],[64,65]),([],[66]),([],[4]),([],[68]),([],[67,69]),([],[12])] fol ?_;simp(disch:=omega)only[go_sem,gm,hb2]
  first|(refine Ab (f163_ok b2 x.proc r1) ?_)|(refine Al (f163_ok b2 x.proc r1) ?_)
  cases hH:decide (Ak b2.holds x.proc=Ai x.led.entries name);rotate_left
  ·simp only[if_true];simp(disch:=omega)only[go_sem,hH,Bool.not_true];refine B1 ⟨[(0,0),(1,1)],[(63,63)],[]⟩ _ ?_ ?_
   ·exact gI
   ·exact gI
  simp only[false_eq_true,if_false];simp(disch:=omega)only[go_sem,hH,Bool.not_false];refine Aq 17 [([],[0]),([],[74]),([],[75]),([],[76]),([],[77]),([],[4]),([],[79]),([],[2]),([],[12]),([],[81,82]),([],[78,80,83]),([10],[84]),([10],[73]),([10],[73]),([10],[73]),([10],[85]),([10],[86])] fol ?_;simp(disch:=omega)only[go_sem]
  first|(refine Ab (f192_ok w1.queues x.proc ⟨name,Ai x.led.entries name⟩ h2) ?_)|(refine Al (f192_ok w1.queues x.proc ⟨name,Ai x.led.entries name⟩ h2) ?_)
  refine gO ?_;refine call2 ⟨⟨[(0,0),(1,1)],[(63,63)],[]⟩,[],[]⟩ (f184_ok w1 (AO w1.queues x.proc ⟨name,Ai x.led.entries name⟩).1 (AO w1.queues x.proc ⟨name,Ai x.led.entries name⟩).2.1 (by omega)) ?_;refine gO ?_;refine B1 ⟨[(0,0),(1,1)],[(63,63)],[]⟩ _ ?_ ?_
  ·exact gI
  ·exact gI
end Go.Rd
