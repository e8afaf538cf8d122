/- part 24 of the proof -/
import Derived.Test.YthachdiockkofaaGreatDoorL23
set_option linter.all false
open Go Go.Abs Go.Proofs
set_option maxRecDepth 100000
namespace Go.Rd
set_option maxHeartbeats 8000000
open List (all_append all_eq_false length_map map_nil map_set)
open Bool (and_eq_true false_eq_true)
open Tryz
def e0:Expr:=.mk 0 a0 []
def D4:Req:=⟨e0,0,0⟩
def QQ(e:Expr):Bool:=e.k==0&&decide (e.atom=a0)&&decide (e.kids.length=0)
def R8(r:Req):Bool:=QQ r.expr&&r.prio==0&&r.BY==0
def fi(e:Expr):Ad C0 137 [.agg e.c,.agg e0.c] [] (B (QQ e)) []:=by
 refine Ad.lens f137 fun hlen=>?_
 simp only[ED,lens,Expr.BV,length_map,and_true,true_and]at hlen;refine Ad.go f137 ?_;unfold f137;have k1:e0.k=0:=rfl;have k2:e0.atom=a0:=rfl;have k3:e0.kids=[]:=rfl;have ez:(e.atom.name==[]&&(e.atom.amt.mode==0&&e.atom.amt.Ax==0))=decide (e.atom=a0):=TM e.atom
 by_cases h1:e.k=0
 rotate_left
 ·have h1':(e.k !=0)=true:=by simp[h1]
  simp(disch:=omega)only[go_sem,k1,k2,k3,a0,map_nil,h1',zF,zT];refine As _ ?_;exact wb (by simp[QQ,h1])
 have h1':(e.k !=0)=false:=by simp[h1]
 by_cases h2:e.atom=a0
 rotate_left
 ·rw[decide_eq_false h2]at ez;simp(disch:=omega)only[go_sem,k1,k2,k3,a0,map_nil,h1',ez,zF,zT];refine As _ ?_;exact wb (by simp[QQ,h2])
 rw[decide_eq_true h2]at ez
 by_cases h3:e.kids.length=0
 rotate_left
 ·have h3':((e.kids.length:Int) !=0)=true:=by simp only[bne_iff_ne,ne_eq];omega
  simp(disch:=omega)only[go_sem,k1,k2,k3,a0,map_nil,h1',ez,h3',zF,zT];refine As _ ?_;exact wb (by simp[QQ,h3])
 have h3':((e.kids.length:Int) !=0)=false:=by simp[h3]
 simp(disch:=omega)only[go_sem,k1,k2,k3,a0,map_nil,h1',ez,h3',zF,zT];refine Ac (α:=Nat) (fun i=>⟨[(5,I i),(2,.ptr 128 0)],[(128,e.c)]⟩) (fun i=>i≤(e.kids).length∧True) (fun i=>(e.kids).length-i) 0 ⟨by omega,trivial⟩ ?_ ?_
 ·exact B0
 rintro i ⟨hi,hP⟩ J hJ;refine gO ?_;refine gR (l:=e.kids) hi (fun b hb hbm hlt=>?_) (fun hil=>?_)
 ·omega
 ·refine As _ ?_;exact wb (by simp[QQ,h1,h2,h3])
def fj(r:Req):Ad C0 172 [.agg r.c,.agg D4.c] [] (B (R8 r)) []:=by
 have k1:D4.expr=e0:=rfl;have k4:D4.prio=0:=rfl;have k5:D4.BY=0:=rfl;refine Ad.go f172 ?_;unfold f172;simp(disch:=omega)only[go_sem,k1,k4,k5];refine Ae (fi r.expr) ?_;cases h1:QQ r.expr
 ·simp(disch:=omega)only[go_sem];refine As _ ?_;exact wb (by simp[R8,h1])
 simp(disch:=omega)only[go_sem,k4,k5];cases h2:(r.prio==0)
 ·simp(disch:=omega)only[go_sem,h2];refine As _ ?_;exact wb (by simp[R8,h1,h2])
 simp(disch:=omega)only[go_sem,h2];refine As _ ?_;exact wb (by simp only[R8,h1,h2];rfl)
def GF(r:Req):Bool:=Bb r.expr&&decide (0≤r.prio)&&decide (r.prio≤7)&&decide (0≤r.BY)&&decide (r.BY≤1000)
def f176_ok(r:Req):Ad C0 176 [.agg r.c] [] (B (GF r)) []:=by
 refine Ad.go f176 ?_;unfold f176;refine gO ?_;refine Ah (f106_ok r.expr) (by simp(disch:=omega)only[go_sem,Expr.BV]) rfl ?_;cases h1:Bb r.expr
 ·simp(disch:=omega)only[go_sem];refine As _ ?_;exact wb (by simp[GF,h1])
 simp(disch:=omega)only[go_sem]
 repeat'(with_reducible refine And.intro (fun h=>?_) (fun h=>?_))
 all_goals(refine Cn _ ?_)
 all_goals(try simp(disch:=omega)only[go_sem])
 all_goals(first|refine wb ?_|refine wi ?_|refine .eq ?_)
 all_goals(first|(simp_all[GF,h1]<;>omega)|(refine Bool.eq_iff_iff.2 ?_;simp_all[GF,h1]<;>omega))
def It(l:List Res)(i:Nat)(r:Res):Bool:=GO r&&(decide (i=0)||BX (l.getD (i-1) r0).name r.name)
def Hj(l:List Res):Bool:=decide (l.length≤8)&&Ca (It l) l
def f168_ok(l:List Res):Ad C0 168 [Fo l] [] (B (Hj l)) []:=by
 refine Ad.go f168 ?_;unfold f168
 by_cases hq:8<l.length
 ·have e1:(8<(l.length:Int))=True:=eq_true (by omega);have e:Hj l=false:=by simp[Hj];omega
  simp(disch:=omega)only[go_sem,e1];refine As _ ?_;exact wb (by simp[e])
 have e1:(8<(l.length:Int))=False:=eq_false (by omega);simp(disch:=omega)only[go_sem,e1,decide_false];refine Ac (α:=Nat) (fun i=>⟨[(3,I i),(0,Fo l)],[]⟩) (fun i=>i≤(l).length∧Ca (It l) (l.take i)=true) (fun i=>(l).length-i) 0 ⟨by omega,rfl⟩ ?_ ?_
 ·exact B0
 rintro i ⟨hi,hP⟩ J hJ;refine gO ?_;refine gR (l:=l) hi (fun b hb hbm hlt=>?_) (fun hil=>?_);refine Aw 21 [([],[0]),([],[3]),([],[13,14]),([],[15]),([],[16]),([4],[17]),([4],[18]),([4],[3,19]),([4],[20,19]),([4],[21,19]),([4],[0,22]),([4],[3,22]),([4],[24,22]),([4],[23,25,22]),([4],[26,22]),([4],[27,22]),([4],[0,22]),([4],[3,22]),([4],[29,30,22]),([4],[31,22]),([4],[32,22])] fol ?_;simp(disch:=omega)only[go_sem,gm,hb]
 ·have bad:It l i b=false→Hj l=false:=fun h=>by simp only[Hj,BI hb h,Bool.and_false]
  have good:It l i b=true→Ca (It l) (l.take (i+1))=true:=fun h=>by rw[Cr hb,hP,h];rfl
  first|(refine Ae (f246_ok b) ?_)|(refine Av (f246_ok b) ?_)
  have hv':(BM b.name&&b.shaped&&AI b.home 0 3)=GO b:=rfl;rw[hv'];cases hv:GO b
  ·simp(disch:=omega)only[go_sem];refine As _ ?_;exact wb (by rw[bad (by simp[It,hv])])
  by_cases hi0:i=0
  ·subst hi0;refine gO ?_;refine hJ _ 1 ⟨by omega,good (by simp[It,hv])⟩ (by omega) AT
  ·have hi1:(0<(i:Int))=True:=eq_true (by omega);have hi2:((i:Int)-1)=((i-1:Nat):Int):=by omega
   obtain⟨a,ha'⟩:∃ a,l[i-1]?=some a:=⟨_,gE (by omega)⟩;have had:l.getD (i-1) r0=a:=by simp[List.getD,ha']
   simp(disch:=omega)only[go_sem,hi1,hi2,gm,ha',hb];refine And.intro (fun hh=>?_) (fun hh=>?_)
   ·refine As _ ?_;exact wb (by rw[bad (by simp only[It,had,hv];simp[hi0];simpa [BX]using hh)])
   ·refine hJ _ (i+1) ⟨by omega,good (by simp only[It,had,hv];simp[hi0];simpa [BX]using hh)⟩ (by omega) AT
 subst hil;rw[tL]at hP;have hqs:Hj l=true:=by simp[Hj,hP];omega
 refine As _ ?_;exact wb (by rw[hqs])
def Gb(l:List Res)(a:Atom):Int:=if !Hj l then 2 else match Pw l a.name with
 |none=>10
 |some r=>if r.fits a.amt then 0 else 12
def f252_ok(l:List Res)(a:Atom):Ad C0 252 [Fo l,.agg a.c] [] (I (Gb l a)) []:=by
 refine Ad.go f252 ?_;unfold f252;refine gO ?_;refine Ae (f168_ok l) ?_;cases h1:Hj l
 ·simp(disch:=omega)only[go_sem,zF];refine As _ ?_;exact wi (by simp[Gb,h1])
 simp(disch:=omega)only[go_sem,zT];refine Ae (f288_ok l a.name) ?_;cases hf:Pw l a.name with
 |none =>
  simp(disch:=omega)only[go_sem,Option.isSome_none,Option.getD_none,r0];refine As _ ?_;exact wi (by simp[Gb,h1,hf])
 |some r =>
  simp(disch:=omega)only[go_sem,Option.isSome_some,Option.getD_some];refine Ae (f171_ok r a.amt) ?_;cases h2:r.fits a.amt
  ·simp(disch:=omega)only[go_sem,zF];refine As _ ?_;exact wi (by simp[Gb,h1,hf,h2])
  ·simp(disch:=omega)only[go_sem,zT];refine As _ ?_;exact wi (by simp[Gb,h1,hf,h2])
def GG(l:List Res):List Atom→Int
 |[]=>0
 | a::az=>if Gb l a=0 then GG l az else Gb l a
def Cm(l:List Res)(e:Expr):Int:=if Bb e then GG l (Ag e) else 1
def f177_ok(l:List Res)(e:Expr):Ad C0 177 [Fo l,.agg e.c] [] (I (Cm l e)) []:=by
 refine Ad.go f177 ?_;unfold f177;refine gO ?_;refine Ae (f150_ok e) ?_;cases h1:Bb e
 ·simp(disch:=omega)only[go_sem,zF];refine As _ ?_;exact wi (by simp[Cm,h1])
 simp(disch:=omega)only[go_sem,zT];have e1:Cm l e=GG l (Ag e):=by simp[Cm,h1]
 rw[e1];have hal:(Ag e).length≤1000000:=by have:=CF e;omega
 generalize Ag e=az at hal;refine Ac (α:=Nat) (fun i=>⟨[(7,I i),(5,BB az),(0,Fo l)],[]⟩) (fun i=>i≤(az).length∧GG l az=GG l (az.drop i)) (fun i=>(az).length-i) 0 ⟨by omega,rfl⟩ ?_ ?_
 ·exact B0
 rintro i ⟨hi,hP⟩ J hJ;refine gO ?_;refine gR (l:=az) hi (fun b hb hbm hlt=>?_) (fun hil=>?_)
 ·have hd:az.drop i=b::az.drop (i+1):=by rw[List.drop_eq_getElem_cons hlt,get_eq hb]
  simp(disch:=omega)only[go_sem,gm,hb];refine Ae (f252_ok l b) ?_;cases hz:(Gb l b !=0)
  ·simp(disch:=omega)only[go_sem,hz];refine hJ _ (i+1) ⟨by omega,(by rw[hP,hd];simp only[GG];rw[if_pos (by simpa using hz)])⟩ (by omega) AT
  ·simp(disch:=omega)only[go_sem,hz];refine As _ ?_;exact wi (by rw[hP,hd];simp only[GG];rw[if_neg (by simpa using hz)])
 ·subst hil;refine As _ ?_;exact wi (by rw[hP,List.drop_length];rfl)
def F6(G:List Bool)(i:Nat):List Bool:=G.take i++List.replicate (G.length-i) false
def SC{G:List Bool}{i:Nat}(h:i≤G.length):(F6 G i).length=G.length:=by simp[F6];omega
def SB{G:List Bool}{i:Nat}(h:i<G.length):(F6 G i)[i]?=some false:=by
 unfold F6;rw[List.getElem?_append_right (by simp;omega),List.getElem?_replicate];simp;omega
def SD{G:List Bool}{i:Nat}{b:Bool}(hb:G[i]?=some b):(F6 G i).set i b=F6 G (i+1):=by
 have hi:=Aj hb;unfold F6;rw[List.set_append_right _ _ (by simp;omega)];simp only[List.length_take,Nat.min_eq_left (Nat.le_of_lt hi),Nat.sub_self];rw[show G.length-i=(G.length-(i+1))+1 by omega,List.replicate_succ,List.set_cons_zero,tA,hb];simp
def SA(G:List Bool):F6 G G.length=G:=by simp[F6]
def DP(l:List Pcs)(p:Ab):Int:=match l.findIdx? (fun x=>decide (x.proc=p)) with|some i=>i|none=>-1
def f69_ok(l:List Pcs)(p:Ab):Ad C0 69 [dF l,.agg p.c] [] (I (DP l p)) []:=by
 refine Ad.lens f69 fun hlen=>?_
 simp only[ED,lens,length_map,and_true,true_and]at hlen;refine Ad.go f69 ?_;unfold f69;refine gO ?_;refine Ac (α:=Nat) (fun i=>⟨[(5,I i),(0,dF l),(3,.ptr 192 0)],[(192,p.c)]⟩) (fun i=>i≤(l).length∧(l.take i).find? (fun x=>decide (x.proc=p))=none) (fun i=>(l).length-i) 0 ⟨by omega,rfl⟩ ?_ ?_
 ·exact B0
 rintro i ⟨hi,hP⟩ J hJ;refine gO ?_;refine gR (l:=l) hi (fun b hb hbm hlt=>?_) (fun hil=>?_);refine Aw 6 [([],[0]),([],[5]),([],[12,13]),([],[14]),([],[15]),([],[3])] fol ?_;simp(disch:=omega)only[go_sem,gm,hb]
 ·refine⟨fun h=>?_,fun h=>?_⟩
  ·have e:DP l p=i:=by unfold DP;rw[F8 hP b hb (by simpa using h)]
   simp(disch:=omega)only[go_sem,e];exact AQ _
  ·refine hJ _ (i+1) ⟨by omega,(by rw[BW hP hb];simp at h;simp[h])⟩ (by omega) AT
 ·subst hil;rw[tL]at hP;have e:DP l p = -1:=by
   have:l.findIdx? (fun x=>decide (x.proc=p))=none:=by
    rw[List.findIdx?_eq_none_iff];rw[List.find?_eq_none]at hP;intro x hx;simpa using hP x hx
   unfold DP;rw[this]
  simp(disch:=omega)only[go_sem,e];exact AQ _
def CB(t:List Queue):List Res:=t.map (·.res)
def f178_ok(t:List Queue)(h:t.length≤1000000):Ad C0 178 [AB t] [] (Fo (CB t)) []:=by
 refine Ad.go f178 ?_;unfold f178;refine gO ?_;refine Ac (α:=Nat) (fun i=>⟨[(4,I i),(3,.sl (.own 1152 0) 4 ((CB (t.take i)).map Res.c)),(0,AB t)],[]⟩) (fun i=>i≤(t).length∧True) (fun i=>(t).length-i) 0 ⟨by omega,trivial⟩ ?_ ?_
 ·refine Imp.Ar ?_ ?_
  all_goals(try simp(disch:=omega)only[go_sem])
  all_goals(try(repeat'(with_reducible apply And.intro)))
  all_goals(first|exact .AO (by omega)|exact .AJ (by omega)|exact .sl (by simp[CB])|exact .int (by simp[CB])|exact .eq (by simp[CB]))
 rintro i ⟨hi,hP⟩ J hJ;refine gO ?_;refine gR (l:=t) hi (fun b hb hbm hlt=>?_) (fun hil=>?_)
 ·have hbd:(CB (t.take i)).length+1≤4294967296:=by simp[CB];omega
  simp(disch:=omega)only[go_sem,gm,hb];refine hJ _ (i+1) ⟨by omega,trivial⟩ (by omega) (Imp.Ar ?_ ?_)
  all_goals(try simp(disch:=omega)only[go_sem])
  all_goals(try(repeat'(with_reducible apply And.intro)))
  all_goals(first|exact .AO (by omega)|exact .AJ (by omega)|exact .sl (by simp[CB,tA,hb,Res.c])|exact .int (by simp[CB,tA,hb,Res.c])|exact .eq (by simp[CB,tA,hb,Res.c]))
 ·subst hil;rw[tL];refine CL ⟨[],[],[1152]⟩ _ ?_;simp(disch:=omega)only[go_sem]
def Ji(t:List Queue)(p:Ab)(a:Atom):Bool:=match BS t a.name with
 |none=>false
 |some k=>(t.getD k q0).res.covers (At (t.getD k q0).holds p) a.amt
def Bh(t:List Queue)(p:Ab)(e:Expr):List Bool:=(Ag e).map (Ji t p)
def f179_ok(t:List Queue)(p:Ab)(e:Expr)(h:D5 t):Ad C0 179 [AB t,.agg p.c,.agg e.c] [] (HR (Bh t p e)) []:=by
 have hn:=h.n;have hal:=CF e;refine Ad.go f179 ?_;unfold f179;refine gO ?_;refine Ah (f93_ok e) (by simp(disch:=omega)only[go_sem,Expr.BV]) rfl ?_;refine gO ?_;have hgl:(Bh t p e).length=(Ag e).length:=by simp[Bh]
 refine Ac (α:=Nat) (fun i=>⟨[(9,I i),(0,AB t),(4,.ptr 256 0),(7,BB (Ag e)),(8,.sl (.own 960 0) 1 ((F6 (Bh t p e) i).map fun b=>[B b]))],[(256,p.c)]⟩) (fun i=>i≤((Ag e)).length∧True) (fun i=>((Ag e)).length-i) 0 ⟨by omega,trivial⟩ ?_ ?_
 ·refine Imp.Ar ?_ ?_
  all_goals(try simp(disch:=omega)only[go_sem])
  all_goals(try(repeat'(with_reducible apply And.intro)))
  all_goals(first|exact .AO (by omega)|exact .AJ (by omega)|exact .sl (by simp[F6,Bh])|exact .int (by simp[F6,Bh])|exact .eq (by simp[F6,Bh]))
 rintro i ⟨hi,hP⟩ J hJ;refine gO ?_;refine gR (l:=(Ag e)) hi (fun b hb hbm hlt=>?_) (fun hil=>?_)
 ·have hfl:=SC (G:=Bh t p e) (i:=i) (by omega);have hfg:=SB (G:=Bh t p e) (i:=i) (by omega);have hgi:(Bh t p e)[i]?=some (Ji t p b):=by simp[Bh,hb]
  have hfs:=SD hgi;generalize F6 (Bh t p e) i=M at hfl hfg hfs ⊢;simp(disch:=omega)only[go_sem,gm,hb];refine Ae (JC t b.name (by omega)) ?_;cases hf:BS t b.name with
  |none =>
   have eg:Ji t p b=false:=by simp[Ji,hf]
   rw[eg]at hfs;have hMs:M.set i false=M:=by
    apply List.ext_getElem?;intro j;rw[List.getElem?_set];split
    ·rename_i hij;subst hij;rw[if_pos (by omega),hfg]
    ·rfl
   rw[hMs]at hfs;simp(disch:=omega)only[go_sem,atI];refine hJ _ (i+1) ⟨by omega,trivial⟩ (by omega) (Imp.Ar ?_ gI);refine gO ?_;exact .sl (by rw[← hfs])
  |some k =>
   obtain⟨hk,q,hq,_⟩:=C5 hf;have eg:Ji t p b=q.res.covers (At q.holds p) b.amt:=by simp[Ji,hf,List.getD,hq]
   rw[eg]at hfs;obtain⟨q1,q2,q3⟩:=Bu (h.q q (mG hq));simp(disch:=omega)only[go_sem,atI,eq_true (show (0:Int)≤(k:Int) by omega),decide_true];refine Aw 19 [([],[8]),([],[9]),([],[0]),([],[10]),([],[33,34]),([],[35]),([],[36]),([],[0]),([],[10]),([],[38,39]),([],[40]),([],[4]),([],[41,42]),([],[7]),([],[9]),([],[44,45]),([],[46]),([],[47]),([12],[37,43,48])] fol ?_;simp(disch:=omega)only[go_sem,gm,hb,hq]
   first|(refine Ae (f163_ok q p q1) ?_)|(refine Av (f163_ok q p q1) ?_)
   simp(disch:=omega)only[go_sem,gm,hb,hq]
   first|(refine Ae (f253_ok q.res (At q.holds p) b.amt) ?_)|(refine Av (f253_ok q.res (At q.holds p) b.amt) ?_)
   simp(disch:=omega)only[go_sem,gm,hfg];refine hJ _ (i+1) ⟨by omega,trivial⟩ (by omega) (Imp.Ar ?_ gI);refine gO ?_;exact .sl (by rw[← hfs,map_set])
 ·subst hil;have e3:F6 (Bh t p e) (Ag e).length=Bh t p e:=by rw[← hgl,SA]
  rw[e3];refine CL ⟨[],[],[960]⟩ _ ?_;simp(disch:=omega)only[go_sem]
def CJ(q:Queue)(x:Pcs):List Atom→Bool
 |[]=>decide (At q.holds x.proc=An x.led.entries q.res.name)&&!(Aq q x.proc).isSome
 | a::az=>if a.name !=q.res.name then CJ q x az else if q.res.covers (An x.led.entries q.res.name) a.amt then CJ q x az
  else if !(Aq q x.proc).isSome then decide (At q.holds x.proc=C8 q.res (An x.led.entries q.res.name) a.amt)
  else if q.waits.any (fun w=>decide (w.proc=x.proc)&&w.prio !=x.req.prio) then false
  else decide (At q.holds x.proc=An x.led.entries q.res.name)&&decide ((Aq q x.proc).getD ⟨0,0⟩=C8 q.res (An x.led.entries q.res.name) a.amt)
def f180_ok(q:Queue)(x:Pcs)(az:List Atom)(h:BG q≤100)(ha:az.length≤1000000):Ad C0 180 [.agg q.c,.agg x.c,BB az] [] (B (CJ q x az)) []:=by
 obtain⟨q1,q2,q3⟩:=Bu h;refine Ad.go f180 ?_;unfold f180;refine gO ?_;refine Ae (f190_ok x.led.entries q.res.name) ?_;refine gO ?_;refine Ae (f163_ok q x.proc q1) ?_;refine gO ?_;refine Ae (f98_ok q x.proc q2 q3) ?_;refine gO ?_;refine Ac (α:=Nat) (fun i=>⟨[(11,I i),(2,BB az),(3,.ptr 192 0),(4,.ptr 256 0),(7,.ptr 448 0),(8,.ptr 512 0),(9,.ptr 576 0),(10,B (Aq q x.proc).isSome)],[(192,q.c),(256,x.c),(448,(An x.led.entries q.res.name).c),(512,(At q.holds x.proc).c),(576,((Aq q x.proc).getD ⟨0,0⟩).c)]⟩) (fun i=>i≤(az).length∧CJ q x az=CJ q x (az.drop i)) (fun i=>(az).length-i) 0 ⟨by omega,rfl⟩ ?_ ?_
 ·exact B0
 rintro i ⟨hi,hP⟩ J hJ;refine gO ?_;refine ⟨fun hlt=>?_,fun hge=>?_⟩;rotate_left;have hil:i=(az).length:=by simp at hge;omega
 rotate_left;obtain⟨b,hb⟩:∃ b,(az)[i]?=some b:=⟨_,gE (by simp at hlt;omega)⟩;have hbm:=mG hb;have hlt2:i<(az).length:=by simp at hlt;omega
 ·have hd:az.drop i=b::az.drop (i+1):=by rw[List.drop_eq_getElem_cons hlt2,get_eq hb]
  rw[hd]at hP;simp only[CJ]at hP;simp(disch:=omega)only[go_sem,gm,hb];cases hn:(b.name==q.res.name)
  ·have h1:(b.name !=q.res.name)=true:=by simp[bne,hn]
   rw[h1,if_pos rfl]at hP;simp(disch:=omega)only[go_sem,h1,hn,zF];refine hJ _ (i+1) ⟨by simp at hlt;omega,hP⟩ (by simp at hlt;omega) AT
  have h1:(b.name !=q.res.name)=false:=by simp[bne,hn]
  rw[h1]at hP;simp only[false_eq_true,if_false]at hP;simp(disch:=omega)only[go_sem,h1,hn,zT];refine Ae (f253_ok q.res (An x.led.entries q.res.name) b.amt) ?_;cases h2:q.res.covers (An x.led.entries q.res.name) b.amt;rotate_left
  ·rw[h2,if_pos rfl]at hP;refine gO ?_;refine hJ _ (i+1) ⟨by simp at hlt;omega,hP⟩ (by simp at hlt;omega) AT
  rw[h2]at hP;simp only[false_eq_true,if_false]at hP;refine gO ?_;refine Ae (f254_ok q.res (An x.led.entries q.res.name) b.amt) ?_;cases h3:(Aq q x.proc).isSome
  ·rw[h3]at hP;simp only[zF,if_true]at hP;simp(disch:=omega)only[go_sem,zF];refine As _ ?_;exact wb hP.symm
  rw[h3]at hP;simp only[zT,false_eq_true,if_false]at hP;simp(disch:=omega)only[go_sem,zT];obtain⟨o,rfl⟩:∃ o,o=i:=⟨i,rfl⟩;obtain⟨bo,rfl⟩:∃ bo,bo=b:=⟨b,rfl⟩;have hPo:=hP;clear hJ hb hlt hlt2;have anyN:∀ (i:Nat) (w:AP),q.waits[i]?=some w→(q.waits.take (i+1)).any (fun w=>decide (w.proc=x.proc)&&w.prio !=x.req.prio)=((q.waits.take i).any (fun w=>decide (w.proc=x.proc)&&w.prio !=x.req.prio)||(decide (w.proc=x.proc)&&w.prio !=x.req.prio)):=fun i w hw=>by
   rw[tA,hw];simp
  have anyT:∀ (w:AP),w∈q.waits→(decide (w.proc=x.proc)&&w.prio !=x.req.prio)=true→q.waits.any (fun w=>decide (w.proc=x.proc)&&w.prio !=x.req.prio)=true:=fun w hw hc=>List.any_eq_true.2 ⟨w,hw,hc⟩
  refine Ac (α:=Nat) (fun i=>⟨[(14,I i),(3,.ptr 192 0),(4,.ptr 256 0),(7,.ptr 448 0),(8,.ptr 512 0),(9,.ptr 576 0),(13,.ptr 832 0)],[(192,q.c),(256,x.c),(448,(An x.led.entries q.res.name).c),(512,(At q.holds x.proc).c),(576,((Aq q x.proc).getD ⟨0,0⟩).c),(832,(C8 q.res (An x.led.entries q.res.name) bo.amt).c)]⟩) (fun i=>i≤(q.waits).length∧(q.waits.take i).any (fun w=>decide (w.proc=x.proc)&&w.prio !=x.req.prio)=false) (fun i=>(q.waits).length-i) 0 ⟨by omega,rfl⟩ ?_ ?_
  ·exact B0
  rintro i ⟨hi,hP⟩ J hJ;refine gO ?_;refine ⟨fun hlt=>?_,fun hge=>?_⟩;rotate_left;have hil:i=(q.waits).length:=by simp at hge;omega
  rotate_left;obtain⟨b,hb⟩:∃ b,(q.waits)[i]?=some b:=⟨_,gE (by simp at hlt;omega)⟩;have hbm:=mG hb;have hlt2:i<(q.waits).length:=by simp at hlt;omega
  ·refine Aw 19 [([],[3]),([],[75]),([],[14]),([],[76,77]),([],[78]),([],[79]),([],[4]),([],[81]),([],[80,82]),([],[83]),([],[3,84]),([],[85,84]),([],[14,84]),([],[86,87,84]),([],[88,84]),([],[89,84]),([],[4,84]),([],[91,84]),([],[92,84])] fol ?_;cases c1:decide (b.proc=x.proc)
   ·simp(disch:=omega)only[go_sem,gm,hb,c1];refine hJ _ (i+1) ⟨by simp at hlt;omega,(by rw[anyN i b hb,hP,c1];rfl)⟩ (by simp at hlt;omega) AT
   cases c2:(b.prio !=x.req.prio)
   ·simp(disch:=omega)only[go_sem,gm,hb,c1,c2];refine hJ _ (i+1) ⟨by simp at hlt;omega,(by rw[anyN i b hb,hP,c1,c2];rfl)⟩ (by simp at hlt;omega) AT
   ·simp(disch:=omega)only[go_sem,gm,hb,c1,c2];refine As _ ?_;exact wb (by rw[hPo,if_pos (anyT b hbm (by rw[c1,c2];rfl))])
  ·subst hil;rw[tL]at hP;rw[hP]at hPo;simp only[false_eq_true,if_false]at hPo;cases c1:decide (At q.holds x.proc=An x.led.entries q.res.name)
   ·simp(disch:=omega)only[go_sem,c1];refine As _ ?_;exact wb (by rw[hPo,c1];rfl)
   ·simp(disch:=omega)only[go_sem,c1];refine As _ ?_;exact wb (by rw[hPo,c1];rfl)
 ·subst hil;rw[List.drop_length]at hP;simp only[CJ]at hP;cases h1:decide (At q.holds x.proc=An x.led.entries q.res.name)
  ·simp(disch:=omega)only[go_sem,h1];refine As _ ?_;exact wb (by rw[hP,h1];rfl)
  ·simp(disch:=omega)only[go_sem,h1];refine As _ ?_;exact wb (by rw[hP,h1];rfl)
def EX(l:Ledger):List Atom:=(B3 l.entries).filterMap fun n=>if (An l.entries n).mode==0&&(An l.entries n).Ax==0 then none else some ⟨n,An l.entries n⟩
def aO{α β:Type}{f:α→Option β}{l:List α}{i:Nat}{b:α}(hb:l[i]?=some b):(l.take (i+1)).filterMap f=(l.take i).filterMap f++(f b).toList:=by
 rw[tA,hb,List.filterMap_append];cases h:f b<;>simp[h]
def L4(l:List Entry):(B3 l).length≤l.length:=by
 have:=MT (l:=l) l.length (Nat.le_refl _)
 rwa [tL]at this
def f170_ok(l:Ledger)(hl:l.entries.length≤1000000):Ad C0 170 [.agg l.c] [] (BB (EX l)) []:=by
 have hnl:=L4 l.entries;refine Ad.go f170 ?_;unfold f170;refine gO ?_;refine Ae (f249_ok l.entries hl) ?_;refine gO ?_;unfold EX;generalize B3 l.entries=ns at hnl;refine Ac (α:=Nat) (fun i=>⟨[(5,I i),(3,.sl (.own 2176 0) 3 (((ns.take i).filterMap fun n=>if (An l.entries n).mode==0&&(An l.entries n).Ax==0 then none else some (⟨n,An l.entries n⟩:Atom)).map Atom.c)),(4,ca ns),(1,.ptr 64 0)],[(64,l.c)]⟩) (fun i=>i≤(ns).length∧True) (fun i=>(ns).length-i) 0 ⟨by omega,trivial⟩ ?_ ?_
 ·exact B0
 rintro i ⟨hi,hP⟩ J hJ;refine gO ?_;refine gR (l:=ns) hi (fun b hb hbm hlt=>?_) (fun hil=>?_)
 ·have hx:=aO (f:=fun n=>if (An l.entries n).mode==0&&(An l.entries n).Ax==0 then none else some (⟨n,An l.entries n⟩:Atom)) hb;have hlen:((ns.take i).filterMap fun n=>if (An l.entries n).mode==0&&(An l.entries n).Ax==0 then none else some (⟨n,An l.entries n⟩:Atom)).length≤ns.length:=Nat.le_trans (List.length_filterMap_le _ _) (by simp;omega);generalize (ns.take i).filterMap (fun n=>if (An l.entries n).mode==0&&(An l.entries n).Ax==0 then none else some (⟨n,An l.entries n⟩:Atom))=L at hx hlen ⊢;have hbd:L.length+1≤4294967296:=by omega
  refine Aw 8 [([],[1]),([],[16]),([],[4]),([],[5]),([],[18,19]),([],[20]),([],[17,21]),([],[])] fol ?_;simp(disch:=omega)only[go_sem,gm,hb]
  first|(refine Ae (f190_ok l.entries b) ?_)|(refine Av (f190_ok l.entries b) ?_)
  refine gO ?_;cases hz:((An l.entries b).mode==0&&(An l.entries b).Ax==0)
  ·simp(disch:=omega)only[go_sem,hz,zF];refine Aw 8 [([],[3]),([],[4]),([],[5]),([],[27,28]),([],[29]),([],[6]),([],[30,31]),([],[32])] fol ?_;simp(disch:=omega)only[go_sem,gm,hb];rw[hz]at hx;refine hJ _ (i+1) ⟨by omega,trivial⟩ (by omega) (Imp.Ar ?_ ?_)
   all_goals(try simp(disch:=omega)only[go_sem])
   exact .sl (by rw[hx];simp[Atom.c])
  ·simp(disch:=omega)only[go_sem,hz,zT];rw[hz]at hx;refine hJ _ (i+1) ⟨by omega,trivial⟩ (by omega) (Imp.Ar ?_ ?_)
   all_goals(try simp(disch:=omega)only[go_sem])
   exact .sl (by rw[hx];simp)
 ·subst hil;rw[tL];refine CL ⟨[],[],[2176]⟩ _ ?_;simp(disch:=omega)only[go_sem]
def KL(l:Ledger)(label:Int):Option (Nat × Nat):=if label=0 then some (0,0) else match l.AG.findIdx? (fun s=>s.label==label) with
 |some i=>some ((l.AG.getD i s0).pos.toNat,i+1)
 |none=>none
def Np(l:Ledger)(at_ n:Nat):Ledger:=⟨l.entries.take at_,l.AG.take n⟩
def Jd(l:Ledger)(at_:Nat):List Atom:=(B3 (l.entries.drop at_)).map fun n=>⟨n,An (l.entries.take at_) n⟩
def Bx(l:Ledger)(label:Int):Ledger × List Atom × Int:=if !A9 l then (CS,[],2) else match KL l label with
 |none=>(CS,[],10)
 |some (a,n)=>(Np l a n,Jd l a,0)
def Sf{α:Type}{f:Nat→α→Bool}{l:List α}{i:Nat}{b:α}(h:Ca f l=true)(hb:l[i]?=some b):f i b=true:=by
 cases hf:f i b
 ·rw[BI hb hf]at h;cases h
 ·rfl
@[go_sem] theorem cS:Eo []=.sl .no 5 []:=rfl
@[go_sem] theorem fR:M1 []=.sl .no 2 []:=rfl
@[go_sem] theorem jb:dF []=.sl .no 16 []:=rfl
@[go_sem] theorem im:Vi []=.sl .no 7 []:=rfl
def LK{l:Ledger}(h:A9 l=true){i:Nat}{s:Save}(hs:l.AG[i]?=some s):0≤s.pos∧s.pos≤(l.entries.length:Int):=by
 simp only[A9,and_eq_true]at h;have:=Sf h.2 hs;simp only[EL,and_eq_true,zD]at this;omega
def f195_ok(l:Ledger)(label:Int):Ad C0 195 [.agg l.c,I label] [] (.tup [.agg (Bx l label).1.c,BB (Bx l label).2.1,I (Bx l label).2.2]) []:=by
 refine Ad.go f195 ?_;unfold f195;refine gO ?_;refine Ae (f169_ok l) ?_;cases hv:A9 l
 ·have e:Bx l label=(CS,[],2):=by simp[Bx,hv]
  simp(disch:=omega)only[go_sem,zF,e,CS,map_nil];exact FQ _
 have hel:l.entries.length≤72∧l.AG.length≤4:=by simp only[A9,and_eq_true,zD]at hv;omega
 have hcase:(KL l label=none∧label≠0∧JD l.AG label<0)∨(label=0∧KL l label=some (0,0))∨(∃ i s,label≠0∧JD l.AG label=((i:Nat):Int)∧l.AG[i]?=some s∧KL l label=some (s.pos.toNat,i+1)):=by
  unfold KL JD
  by_cases h0:label=0
  ·exact .inr (.inl ⟨h0,by simp[h0]⟩)
  ·cases hf:l.AG.findIdx? (fun s=>s.label==label) with
   |none=>exact .inl ⟨by simp[h0],h0,by simp⟩
   |some i =>
    have hi:=(List.findIdx?_eq_some_iff_getElem.1 hf).1;exact .inr (.inr ⟨i,l.AG[i],h0,rfl,gE hi,by simp[h0,List.getD,gE hi]⟩)
 rcases hcase with ⟨h1,h0,h2⟩|hcase
 ·have e:Bx l label=(CS,[],10):=by simp[Bx,hv,h1]
  have e0:(label !=0)=true:=by simpa using h0
  simp(disch:=omega)only[go_sem,zT,e0];refine Ae (f194_ok l.AG label) ?_;simp(disch:=omega)only[go_sem,eq_true h2,decide_true,e,CS,map_nil];exact FQ _
 have hget:∃ a n,a≤l.entries.length∧n≤l.AG.length∧Bx l label=(Np l a n,Jd l a,0)∧KL l label=some (a,n):=by
  rcases hcase with ⟨h0,h1⟩|⟨i,s,h0,h1,h2,h3⟩
  ·exact⟨0,0,by omega,by omega,by simp[Bx,hv,h1],h1⟩
  ·have:=LK hv h2;have:=Aj h2;exact⟨s.pos.toNat,i+1,by omega,by omega,by simp[Bx,hv,h3],h3⟩
 obtain⟨a,n,ha,hn,e,hbk⟩:=hget;rw[e];rcases hcase with ⟨h0,h1⟩|⟨i,s,h0,h1,h2,h3⟩
 all_goals first
  |(have e0:(label !=0)=true:=by simpa using h0
    have hpos:=LK hv h2;rw[h3]at hbk;have hi1:(i:Int)+1=((i+1:Nat):Int):=by omega
    have hps:s.pos=((s.pos.toNat:Nat):Int):=by omega
    obtain⟨ha2,hn2⟩:s.pos.toNat=a∧i+1=n:=by simpa using hbk
    simp(disch:=omega)only[go_sem,zT,e0];refine Ae (f194_ok l.AG label) ?_;simp(disch:=omega)only[go_sem,h1,eq_false (show ¬ ((i:Int)<0) by omega),decide_false,gm,h2])
  |(have e0:(label !=0)=false:=by simp[h0]
    rw[h1]at hbk;obtain⟨ha2,hn2⟩:0=a∧0=n:=by simpa using hbk
    simp(disch:=omega)only[go_sem,zT,e0])
 all_goals
  refine En (st':=⟨[(7,I (a:Int)),(8,I (n:Int)),(2,.ptr 128 0),(4,.ptr 256 0)],[(128,l.c),(256,CS.c)]⟩) (Imp.Ar ?_ ?_) ?_
  ·simp(disch:=omega)only[go_sem];exact⟨.int (by omega),.int (by omega)⟩
  ·simp(disch:=omega)only[go_sem,CS]
  have hdr:(l.entries.drop a).take (l.entries.length-a)=l.entries.drop a:=List.take_of_length_le (by simp);refine Aw 14 [([],[]),([],[2]),([],[36]),([],[7]),([],[37,38]),([],[35,39]),([],[]),([],[2]),([],[42]),([],[8]),([],[43,44]),([],[41,45]),([],[40,46]),([],[])] fol ?_;refine gO ?_;refine Ah (f249_ok (l.entries.drop a) (by simp;omega)) (by simp(disch:=omega)only[go_sem,hdr]) rfl ?_;have hnl:=L4 (l.entries.drop a);have hdl:(l.entries.drop a).length≤72:=by simp;omega
  refine gO ?_;unfold Jd;generalize B3 (l.entries.drop a)=ns at hnl ⊢;refine Ac (α:=Nat) (fun i=>⟨[(13,I i),(11,.sl (.own 4672 0) 3 (((ns.take i).map fun n=>(⟨n,An (l.entries.take a) n⟩:Atom)).map Atom.c)),(12,ca ns),(10,.ptr 640 0),(4,.ptr 256 0)],[(640,(Np l a n).c),(256,CS.c)]⟩) (fun i=>i≤(ns).length∧True) (fun i=>(ns).length-i) 0 ⟨by omega,trivial⟩ ?_ ?_
  ·refine Imp.Ar ?_ ?_
   all_goals(try simp(disch:=omega)only[go_sem,Np,CS])
   all_goals(try(repeat'(with_reducible apply And.intro)))
   all_goals(first|exact .AO (by omega)|exact .AJ (by omega)|exact .sl (by simp[Np,CS])|exact .int (by simp[Np,CS])|exact .eq (by simp[Np,CS]))
  rintro i ⟨hi,hP⟩ J hJ;refine gO ?_;refine gR (l:=ns) hi (fun b hb hbm hlt=>?_) (fun hil=>?_)
  ·refine Aw 14 [([],[11]),([],[12]),([],[13]),([],[60,61]),([],[62]),([],[10]),([],[64]),([],[12]),([],[13]),([],[66,67]),([],[68]),([],[65,69]),([11],[63,70]),([11],[71])] fol ?_;have hbd:((ns.take i).map fun n=>(⟨n,An (l.entries.take a) n⟩:Atom)).length+1≤4294967296:=by simp;omega
   simp(disch:=omega)only[go_sem,gm,hb,Np]
   first|(refine Ae (f190_ok (l.entries.take a) b) ?_)|(refine Av (f190_ok (l.entries.take a) b) ?_)
   simp(disch:=omega)only[go_sem,gm,hb];refine hJ _ (i+1) ⟨by omega,trivial⟩ (by omega) (Imp.Ar ?_ ?_)
   ·simp(disch:=omega)only[go_sem];exact .sl (by simp[tA,hb,Atom.c])
   ·simp(disch:=omega)only[go_sem,Np,CS]
  ·subst hil;rw[tL];refine CL ⟨[],[],[4672]⟩ _ ?_;refine gO ?_;exact .eq (by simp[Ledger.c])
def Ge(t:List Queue)(a:Atom):Bool:=match BS t a.name with
 |none=>false
 |some k=>(t.getD k q0).res.fits a.amt
def EI(x:Pcs):Bool:=x.proc.ok&&decide (1≤x.cost)&&decide (x.cost≤1000)&&A9 x.led&&decide (0≤x.gen)&&decide (x.gen≤1073741824)
def G0(t:List Queue)(x:Pcs):Bool:=R8 x.req&&x.since==0&&decide (EX x.led=Gz t x.proc)&&((Eh t x.proc).length:Int)==0
def F3(now:Int)(t:List Queue)(x:Pcs):Bool:=GF x.req&&Cm (CB t) x.req.expr==0&&decide (0≤x.since)&&decide (x.since≤now)&&(x.req.BY==0||decide (now<x.since+x.req.BY))&&!Fb x.req.expr (Bh t x.proc x.req.expr)&&t.all (fun q=>CJ q x (Ag x.req.expr))
def Es(now:Int)(t:List Queue)(x:Pcs):Bool:=EI x&&(EX x.led).all (Ge t)&&(if x.waiting then F3 now t x else G0 t x)
def Zk(l:Ledger)(h:A9 l=true):(EX l).length≤72:=by
 have h1:=L4 l.entries;have h2:l.entries.length≤72:=by simp only[A9,and_eq_true,zD]at h;omega
 exact Nat.le_trans (List.length_filterMap_le _ _) (by omega)
def f116_ok(c:Cen)(x:Pcs)(h:D5 c.Aa)(hnow:c.now≤1073741824):Ad C0 116 [.agg c.c,.agg x.c] [] (B (Es c.now c.Aa x)) []:=by
 have hn:=h.n;have bad:EI x=false→Es c.now c.Aa x=false:=fun e=>by simp[Es,e]
 refine Ad.go f116 ?_;unfold f116;refine gO ?_;refine Ae (f105_ok x.proc) ?_;cases h1:x.proc.ok
 ·simp(disch:=omega)only[go_sem,zF];refine As _ ?_;exact wb (by rw[bad (by simp[EI,h1])])
 simp(disch:=omega)only[go_sem,zT]
 by_cases h2:x.cost<1
 ·simp(disch:=omega)only[go_sem,eq_true h2,decide_true];refine As _ ?_;exact wb (by rw[bad (by simp[EI];omega)])
 by_cases h3:1000<x.cost
 ·simp(disch:=omega)only[go_sem,eq_false h2,eq_true h3,decide_true,decide_false];refine As _ ?_;exact wb (by rw[bad (by simp[EI];omega)])
 simp(disch:=omega)only[go_sem,eq_false h2,eq_false h3,decide_false];refine Ae (f169_ok x.led) ?_;cases h4:A9 x.led
 ·simp(disch:=omega)only[go_sem,zF];refine As _ ?_;exact wb (by rw[bad (by simp[EI,h4])])
 simp(disch:=omega)only[go_sem,zT]
 by_cases h5:x.gen<0
 ·simp(disch:=omega)only[go_sem,eq_true h5,decide_true];refine As _ ?_;exact wb (by rw[bad (by simp[EI];omega)])
 by_cases h6:1073741824<x.gen
 ·simp(disch:=omega)only[go_sem,eq_false h5,eq_true h6,decide_true,decide_false];refine As _ ?_;exact wb (by rw[bad (by simp[EI];omega)])
 have hhd:EI x=true:=by simp[EI,h1,h4];omega
 have hhl:=Zk x.led h4;have hel:x.led.entries.length≤72:=by simp only[A9,and_eq_true,zD]at h4;omega
 simp(disch:=omega)only[go_sem,eq_false h5,eq_false h6,decide_false];refine Ae (f170_ok x.led (by omega)) ?_;refine gO ?_;have hpo:Es c.now c.Aa x=((EX x.led).all (Ge c.Aa)&&(if x.waiting then F3 c.now c.Aa x else G0 c.Aa x)):=by simp[Es,hhd]
 rw[hpo];refine Ac (α:=Nat) (fun i=>⟨[(6,I i),(2,.ptr 128 0),(3,.ptr 192 0),(5,BB (EX x.led))],[(128,c.c),(192,x.c)]⟩) (fun i=>i≤((EX x.led)).length∧((EX x.led).take i).all (Ge c.Aa)=true) (fun i=>((EX x.led)).length-i) 0 ⟨by omega,rfl⟩ ?_ ?_
 ·exact B0
 rintro i ⟨hi,hP⟩ J hJ;refine gO ?_;refine ⟨fun hlt=>?_,fun hge=>?_⟩;rotate_left;have hil:i=((EX x.led)).length:=by simp at hge;omega
 rotate_left;obtain⟨b,hb⟩:∃ b,((EX x.led))[i]?=some b:=⟨_,gE (by simp at hlt;omega)⟩;have hbm:=mG hb;have hlt2:i<((EX x.led)).length:=by simp at hlt;omega
 ·have bad2:Ge c.Aa b=false→(EX x.led).all (Ge c.Aa)=false:=fun e=>all_eq_false.2 ⟨b,hbm,by simp[e]⟩
  refine Aw 7 [([],[2]),([],[50]),([],[5]),([],[6]),([],[52,53]),([],[54]),([],[55])] fol ?_;simp(disch:=omega)only[go_sem,gm,hb]
  first|(refine Ae (JC c.Aa b.name (by omega)) ?_)|(refine Av (JC c.Aa b.name (by omega)) ?_)
  refine gO ?_;cases hf:BS c.Aa b.name with
  |none =>
   refine Aw 14 [([],[7]),([],[58]),([],[59]),([],[2,60]),([],[61,60]),([],[7,60]),([],[62,63,60]),([],[64,60]),([],[65,60]),([],[5,60]),([],[6,60]),([],[67,68,60]),([],[69,60]),([],[70,60])] fol ?_;simp(disch:=omega)only[go_sem,atI];refine As _ ?_;exact wb (by rw[bad2 (by simp[Ge,hf])];rfl)
  |some k =>
   obtain⟨hk,q,hq,_⟩:=C5 hf;have eg:Ge c.Aa b=q.res.fits b.amt:=by simp[Ge,hf,List.getD,hq]
   refine Aw 14 [([],[7]),([],[58]),([],[59]),([],[2,60]),([],[61,60]),([],[7,60]),([],[62,63,60]),([],[64,60]),([],[65,60]),([],[5,60]),([],[6,60]),([],[67,68,60]),([],[69,60]),([],[70,60])] fol ?_;simp(disch:=omega)only[go_sem,atI,eq_false (show ¬ ((k:Int)<0) by omega),decide_false,gm,hq,hb]
   first|(refine Ae (f171_ok q.res b.amt) ?_)|(refine Av (f171_ok q.res b.amt) ?_)
   cases h7:q.res.fits b.amt
   ·simp(disch:=omega)only[go_sem,zF];refine As _ ?_;exact wb (by rw[bad2 (eg.trans h7)];rfl)
   ·simp(disch:=omega)only[go_sem,zT];refine hJ _ (i+1) ⟨by simp at hlt;omega,(by rw[tA,hb,all_append,hP];simp[eg,h7])⟩ (by simp at hlt;omega) AT
 subst hil;rw[tL]at hP;rw[hP,Bool.true_and];clear hJ hi hge;cases hw:x.waiting
 ·simp only[false_eq_true,if_false];simp(disch:=omega)only[go_sem,hw,zF];refine Ah (fj x.req) (by simp(disch:=omega)only[go_sem,D4,e0,a0,Expr.k,Expr.atom,Expr.kids];exact .agg (Ai.AR gI)) rfl ?_;cases c1:R8 x.req
  ·simp(disch:=omega)only[go_sem];refine As _ ?_;exact wb (by simp[G0,c1])
  cases c2:(x.since==0)
  ·simp(disch:=omega)only[go_sem,c2];refine As _ ?_;exact wb (by simp[G0,c2])
  simp(disch:=omega)only[go_sem,c2];refine Ae (f174_ok c.Aa x.proc h) ?_;refine gO ?_;refine Ae (f173_ok (EX x.led) (Gz c.Aa x.proc)) ?_;cases c3:decide (EX x.led=Gz c.Aa x.proc)
  ·simp(disch:=omega)only[go_sem];refine As _ ?_;exact wb (by simp only[G0,c1,c2,c3];rfl)
  refine gO ?_;refine Ae (f175_ok c.Aa x.proc h) ?_;refine gO ?_;refine As _ ?_;exact wb (by simp only[G0,c1,c2,c3];simp)
 ·simp only[if_true];simp(disch:=omega)only[go_sem,hw,zT];refine Aw 49 [([],[8]),([],[107]),([1],[108]),([1],[109]),([1],[2,110]),([1],[111,110]),([1],[112,110]),([1],[8,110]),([1],[114,110]),([1,6],[113,115,110]),([1,6,9],[116,110]),([1,6,9],[110,117]),([1,6,9],[118]),([1,6,9],[3,119]),([1,6,9],[120,119]),([1,6,9],[121,119]),([1,6,9],[119,122]),([1,6,9],[123]),([1,6,9],[3,124]),([1,6,9],[125,124]),([1,6,9],[2,124]),([1,6,9],[127,124]),([1,6,9],[126,128,124]),([1,6,9],[124,129]),([1,6,9],[130]),([1,6,9],[8,131]),([1,6,9],[132,131]),([1,6,9],[133,131]),([1,6,9],[134,131]),([1,6,9],[3,135]),([1,6,9],[136,135]),([1,6,9],[8,135]),([1,6,9],[138,135]),([1,6,9],[137,139,135]),([1,6,9],[2,135]),([1,6,9],[141,135]),([1,6,9],[140,142,135]),([1,6,9],[135,143,131]),([1,6,9],[131,144]),([1,6,9],[145]),([1,6,9],[8,146]),([1,6,9],[147,146]),([1,6,9],[2,146]),([1,6,9],[149,146]),([1,6,9],[3,146]),([1,6,9],[151,146]),([1,6,9],[8,146]),([1,6,9],[153,146]),([1,6,9],[150,152,154,146])] fol ?_;refine gO ?_
  first|(refine Ae (f176_ok x.req) ?_)|(refine Av (f176_ok x.req) ?_)
  cases d1:GF x.req
  ·simp(disch:=omega)only[go_sem,zF];refine As _ ?_;exact wb (by simp[F3,d1])
  have hlim:0≤x.req.BY∧x.req.BY≤1000:=by simp only[GF,and_eq_true,zD]at d1;omega
  have hex:Bb x.req.expr=true:=by simp only[GF,and_eq_true]at d1;exact d1.1.1.1.1
  simp(disch:=omega)only[go_sem,zT]
  first|(refine Ae (f178_ok c.Aa (by omega)) ?_)|(refine Av (f178_ok c.Aa (by omega)) ?_)
  refine gO ?_
  first|(refine Ae (f177_ok (CB c.Aa) x.req.expr) ?_)|(refine Av (f177_ok (CB c.Aa) x.req.expr) ?_)
  by_cases d2:Cm (CB c.Aa) x.req.expr=0
  rotate_left
  ·have d2':(Cm (CB c.Aa) x.req.expr !=0)=true:=by simpa using d2
   simp(disch:=omega)only[go_sem,d2'];refine As _ ?_;exact wb (by simp[F3,d2])
  have d2':(Cm (CB c.Aa) x.req.expr !=0)=false:=by simp[d2]
  simp(disch:=omega)only[go_sem,d2']
  by_cases d3:x.since<0
  ·simp(disch:=omega)only[go_sem,eq_true d3,decide_true];refine As _ ?_;exact wb (by simp[F3,show ¬ (0≤x.since) by omega])
  by_cases d4:c.now<x.since
  ·simp(disch:=omega)only[go_sem,eq_false d3,eq_true d4,decide_true,decide_false];refine As _ ?_;exact wb (by simp[F3,show ¬ (x.since≤c.now) by omega])
  simp(disch:=omega)only[go_sem,eq_false d3,eq_false d4,decide_false];have base:F3 c.now c.Aa x=((x.req.BY==0||decide (c.now<x.since+x.req.BY))&&!Fb x.req.expr (Bh c.Aa x.proc x.req.expr)&&c.Aa.all (fun q=>CJ q x (Ag x.req.expr))):=by
   simp[F3,d1,d2,show 0≤x.since by omega,show x.since≤c.now by omega,Bool.and_assoc]
  rw[base];have hcase:(x.req.BY≠0∧x.since+x.req.BY≤c.now)∨x.req.BY=0∨(x.req.BY≠0∧c.now<x.since+x.req.BY):=by omega
  rcases hcase with ⟨d5,d6⟩|hcase
  ·have d5':(x.req.BY !=0)=true:=by simpa using d5
   simp(disch:=omega)only[go_sem,d5',eq_true d6,decide_true];refine As _ ?_;exact wb (by simp[d5];omega)
  have ok:(x.req.BY==0||decide (c.now<x.since+x.req.BY))=true:=by
   rcases hcase with d5|⟨d5,d6⟩
   ·simp[d5]
   ·simp[d6]
  rw[ok,Bool.true_and];rcases hcase with d5|⟨d5,d6⟩
  all_goals first
   |(have d5':(x.req.BY !=0)=true:=by simpa using d5
     simp(disch:=omega)only[go_sem,d5',eq_false (show ¬ (x.since+x.req.BY≤c.now) by omega),decide_false])
   |(have d5':(x.req.BY !=0)=false:=by simp[d5]
     simp(disch:=omega)only[go_sem,d5'])
  all_goals
   first|(refine Ae (f179_ok c.Aa x.proc x.req.expr h) ?_)|(refine Av (f179_ok c.Aa x.proc x.req.expr h) ?_)
   refine gO ?_
   first|(refine Ae (f160_ok x.req.expr (Bh c.Aa x.proc x.req.expr) hex) ?_)|(refine Av (f160_ok x.req.expr (Bh c.Aa x.proc x.req.expr) hex) ?_)
   cases d7:Fb x.req.expr (Bh c.Aa x.proc x.req.expr);rotate_left
   ·simp(disch:=omega)only[go_sem];refine Cn _ ?_;simp(disch:=omega)only[go_sem]
    all_goals exact wb (by simp)
   refine gO ?_;refine Ae (f93_ok x.req.expr) ?_;have hal:=CF x.req.expr;refine gO ?_;refine Ac (α:=Nat) (fun i=>⟨[(10,I i),(9,BB (Ag x.req.expr)),(2,.ptr 128 0),(3,.ptr 192 0)],[(128,c.c),(192,x.c)]⟩) (fun i=>i≤(c.Aa).length∧(c.Aa.take i).all (fun q=>CJ q x (Ag x.req.expr))=true) (fun i=>(c.Aa).length-i) 0 ⟨by omega,rfl⟩ ?_ ?_
   ·refine Imp.Ar ?_ ?_
    all_goals(try simp(disch:=omega)only[go_sem])
    all_goals(try(repeat'(with_reducible apply And.intro)))
    all_goals(first|exact .AO (by omega)|exact .AJ (by omega)|exact .sl (by simp[hw])|exact .int (by simp[hw])|exact .eq (by simp[hw]))
   rintro i ⟨hi,hP⟩ J hJ;refine gO ?_;refine ⟨fun hlt=>?_,fun hge=>?_⟩;rotate_left;have hil:i=(c.Aa).length:=by simp at hge;omega
   rotate_left;obtain⟨b,hb⟩:∃ b,(c.Aa)[i]?=some b:=⟨_,gE (by simp at hlt;omega)⟩;have hbm:=mG hb;have hlt2:i<(c.Aa).length:=by simp at hlt;omega
   ·refine Aw 7 [([],[2]),([],[168]),([],[10]),([],[169,170]),([],[171]),([],[3]),([],[9])] fol ?_;simp(disch:=omega)only[go_sem,gm,hb]
    first|(refine Ae (f180_ok b x (Ag x.req.expr) (h.q b hbm) (by omega)) ?_)|(refine Av (f180_ok b x (Ag x.req.expr) (h.q b hbm) (by omega)) ?_)
    cases d8:CJ b x (Ag x.req.expr)
    ·simp(disch:=omega)only[go_sem,zF];refine As _ ?_;exact wb (by rw[all_eq_false.2 ⟨b,hbm,by simp[d8]⟩])
    ·simp(disch:=omega)only[go_sem,zT];refine hJ _ (i+1) ⟨by simp at hlt;omega,(by rw[tA,hb,all_append,hP];simp[d8])⟩ (by simp at hlt;omega) AT
   ·subst hil;rw[tL]at hP;refine As _ ?_;exact wb (by rw[hP])
def x0:Pcs:=⟨p0,0,CS,false,D4,0,0⟩
def DG(c:Cen)(i:Nat)(x:Pcs):Bool:=Es c.now c.Aa x&&(decide (i=0)||decide (Bc (c.procs.getD (i-1) x0).proc x.proc<0))
def Cw(c:Cen):Bool:=decide (0≤c.now)&&decide (c.now≤1073741824)&&GJ c.Aa&&decide (c.procs.length≤8)&&(Ay c.Aa).all (fun p=>decide (0≤DP c.procs p))&&Ca (DG c) c.procs
def f68_ok(c:Cen)(h:D5 c.Aa):Ad C0 68 [.agg c.c] [] (B (Cw c)) []:=by
 refine Ad.go f68 ?_;unfold f68
 by_cases h1:c.now<0
 ·simp(disch:=omega)only[go_sem,eq_true h1,decide_true];refine As _ ?_;exact wb (by simp[Cw,show ¬ 0≤c.now by omega])
 by_cases h2:1073741824<c.now
 ·simp(disch:=omega)only[go_sem,eq_false h1,eq_true h2,decide_true,decide_false];refine As _ ?_;exact wb (by simp[Cw,show ¬ c.now≤1073741824 by omega])
 simp(disch:=omega)only[go_sem,eq_false h1,eq_false h2,decide_false];refine Ae (f115_ok c.Aa h) ?_;cases h3:GJ c.Aa
 ·simp(disch:=omega)only[go_sem,zF];refine As _ ?_;exact wb (by simp[Cw,h3])
 simp(disch:=omega)only[go_sem,zT]
 by_cases h4:8<c.procs.length
 ·have e4:(8<(c.procs.length:Int))=True:=eq_true (by omega);simp(disch:=omega)only[go_sem,e4,decide_true];refine As _ ?_;exact wb (by simp[Cw,show ¬ c.procs.length≤8 by omega])
 have e4:(8<(c.procs.length:Int))=False:=eq_false (by omega);simp(disch:=omega)only[go_sem,e4,decide_false];have base:Cw c=((Ay c.Aa).all (fun p=>decide (0≤DP c.procs p))&&Ca (DG c) c.procs):=by
  simp[Cw,h3,show 0≤c.now by omega,show c.now≤1073741824 by omega,show c.procs.length≤8 by omega]
 rw[base];have hpl:(Ay c.Aa).length≤8:=by simp only[GJ,and_eq_true,zD]at h3;exact h3.2
 refine Bq ⟨⟨[],[],[]⟩,[(0,1792)],[]⟩ (f75_ok c.Aa h.n h.q) gI rfl trivial (.inl rfl) ?_;refine gO ?_;generalize Ay c.Aa=ps at hpl;refine Ac (α:=Nat) (fun i=>⟨[(4,I i),(3,.sl (.own 1792 0) 3 (ps.map Ab.c)),(1,.ptr 64 0)],[(64,c.c)]⟩) (fun i=>i≤(ps).length∧(ps.take i).all (fun p=>decide (0≤DP c.procs p))=true) (fun i=>(ps).length-i) 0 ⟨by omega,rfl⟩ ?_ ?_
 ·exact B0
 rintro i ⟨hi,hP⟩ J hJ;refine gO ?_;refine ⟨fun hlt=>?_,fun hge=>?_⟩;rotate_left;have hil:i=(ps).length:=by simp at hge;omega
 rotate_left;obtain⟨b,hb⟩:∃ b,(ps)[i]?=some b:=⟨_,gE (by simp at hlt;omega)⟩;have hbm:=mG hb;have hlt2:i<(ps).length:=by simp at hlt;omega
 ·refine Aw 6 [([],[1]),([],[35]),([],[3]),([],[4]),([],[37,38]),([],[39])] fol ?_;simp(disch:=omega)only[go_sem,gm,hb]
  first|(refine Ae (f69_ok c.procs b) ?_)|(refine Av (f69_ok c.procs b) ?_)
  by_cases h5:DP c.procs b<0
  ·simp(disch:=omega)only[go_sem,eq_true h5,decide_true];refine As _ ?_;exact wb (by rw[all_eq_false.2 ⟨b,hbm,by simp;omega⟩];rfl)
  ·simp(disch:=omega)only[go_sem,eq_false h5,decide_false];refine hJ _ (i+1) ⟨by simp at hlt;omega,(by rw[tA,hb,all_append,hP];simp;omega)⟩ (by simp at hlt;omega) AT
 subst hil;rw[tL]at hP;rw[hP,Bool.true_and];clear hJ hi hge;refine Ac (α:=Nat) (fun i=>⟨[(5,I i),(1,.ptr 64 0)],[(64,c.c)]⟩) (fun i=>i≤(c.procs).length∧Ca (DG c) (c.procs.take i)=true) (fun i=>(c.procs).length-i) 0 ⟨by omega,rfl⟩ ?_ ?_
 ·exact B0
 rintro i ⟨hi,hP⟩ J hJ;refine gO ?_;refine ⟨fun hlt=>?_,fun hge=>?_⟩;rotate_left;have hil:i=(c.procs).length:=by simp at hge;omega
 rotate_left;obtain⟨b,hb⟩:∃ b,(c.procs)[i]?=some b:=⟨_,gE (by simp at hlt;omega)⟩;have hbm:=mG hb;have hlt2:i<(c.procs).length:=by simp at hlt;omega
 ·have bad:DG c i b=false→Ca (DG c) c.procs=false:=fun h=>BI hb h
  have good:DG c i b=true→Ca (DG c) (c.procs.take (i+1))=true:=fun h=>by rw[Cr hb,hP,h];rfl
  refine Aw 25 [([],[1]),([],[1]),([],[51]),([],[5]),([],[52,53]),([],[54]),([],[50,55]),([6],[56]),([6],[57]),([6],[5,58]),([6],[59,58]),([6],[60,58]),([6],[1,61]),([6],[62,61]),([6],[5,61]),([6],[64,61]),([6],[63,65,61]),([6],[66,61]),([6],[67,61]),([6],[1,61]),([6],[69,61]),([6],[5,61]),([6],[70,71,61]),([6],[72,61]),([6],[73,61])] fol ?_;simp(disch:=omega)only[go_sem,gm,hb]
  first|(refine Ae (f116_ok c b h (by omega)) ?_)|(refine Av (f116_ok c b h (by omega)) ?_)
  cases h6:Es c.now c.Aa b
  ·simp(disch:=omega)only[go_sem,zF];refine As _ ?_;exact wb (by rw[bad (by simp[DG,h6])])
  by_cases hi0:i=0
  ·subst hi0;simp(disch:=omega)only[go_sem,zT];refine hJ _ 1 ⟨by omega,good (by simp[DG,h6])⟩ (by omega) AT
  ·have hi1:(0<(i:Int))=True:=eq_true (by omega);have hi2:((i:Int)-1)=((i-1:Nat):Int):=by omega
   obtain⟨a,ha'⟩:∃ a,c.procs[i-1]?=some a:=⟨_,gE (by omega)⟩;have had:c.procs.getD (i-1) x0=a:=by simp[List.getD,ha']
   simp(disch:=omega)only[go_sem,zT,hi1,hi2,gm,ha',hb]
   first|(refine Ae (f107_ok a.proc b.proc) ?_)|(refine Av (f107_ok a.proc b.proc) ?_)
   by_cases h7:0≤Bc a.proc b.proc
   ·simp(disch:=omega)only[go_sem,eq_true h7,decide_true];refine As _ ?_;exact wb (by rw[bad (by simp only[DG,had,h6];simp[hi0];omega)])
   ·simp(disch:=omega)only[go_sem,eq_false h7,decide_false];refine hJ _ (i+1) ⟨by omega,good (by simp only[DG,had,h6];simp[hi0];omega)⟩ (by omega) AT
 subst hil;rw[tL]at hP;refine As _ ?_;exact wb (by rw[hP])
def prN(e:Expr):Nat→List Bool→List Bool
 | 0,o=>o
 | k+1,o=>prN e k (if o.getD k false then o.set k (!Ez (D0 (Ag e) (o.set k false)) e) else o)
def Yr(e:Expr):∀ k o,(prN e k o).length=o.length
 | 0,_=>rfl
 | k+1,o=>by
  simp only[prN];rw[Yr e k];split<;>simp
def Cv(e:Expr)(set:List Bool):List Bool:=if Bb e&&Ez (D0 (Ag e) set) e then prN e (Ag e).length ((List.range (Ag e).length).map fun i=>set.getD i false) else List.replicate (Ag e).length false
def Ru(e:Expr)(set:List Bool):(Cv e set).length=(Ag e).length:=by
 unfold Cv;split
 ·rw[Yr];simp
 ·simp
def f189_ok(e:Expr)(set:List Bool):Ad C0 189 [.agg e.c,HR set] [] (HR (Cv e set)) []:=by
 refine Ad.lens f189 fun hlen=>?_
 simp only[ED,lens,Expr.BV,length_map,and_true,true_and]at hlen;have hal:=CF e;refine Ad.go f189 ?_;unfold f189;refine gO ?_;refine Ah (f150_ok e) (by simp(disch:=omega)only[go_sem,Expr.BV]) rfl ?_;cases h1:Bb e
 ·have hd:Cv e set=List.replicate (Ag e).length false:=by simp[Cv,h1]
  rw[hd];simp(disch:=omega)only[go_sem,zF];refine CL ⟨[],[],[1088]⟩ _ ?_;refine gO ?_;exact .sl (by simp)
 simp(disch:=omega)only[go_sem,zT];refine Ae (f151_ok (Ag e) set (by omega) _ e (Nat.lt_succ_self _) [] (EA h1)) ?_;cases h2:Ez (D0 (Ag e) set) e
 ·have hd:Cv e set=List.replicate (Ag e).length false:=by simp[Cv,h1,h2]
  rw[hd];simp(disch:=omega)only[go_sem,zF];refine CL ⟨[],[],[1088]⟩ _ ?_;refine gO ?_;exact .sl (by simp)
 simp(disch:=omega)only[go_sem,zT];have hd:Cv e set=prN e (Ag e).length ((List.range (Ag e).length).map fun i=>set.getD i false):=by simp[Cv,h1,h2]
 rw[hd];obtain⟨G,hG⟩:∃ G,G=(List.range (Ag e).length).map fun i=>set.getD i false:=⟨_,rfl⟩
 rw[← hG];have hGl:G.length=(Ag e).length:=by rw[hG];simp
 have hGi:∀ i,i<(Ag e).length→G[i]?=some (set.getD i false):=fun i hi=>by rw[hG,gm,List.getElem?_range hi];rfl
 clear hG hd;refine Ac (α:=Nat) (fun i=>⟨[(8,I i),(7,.sl (.own 1088 0) 1 ((F6 G i).map fun b=>[B b])),(5,BB (Ag e)),(1,HR set),(2,.ptr 128 0)],[(128,e.c)]⟩) (fun i=>i≤((Ag e)).length∧True) (fun i=>((Ag e)).length-i) 0 ⟨by omega,trivial⟩ ?_ ?_
 ·refine Imp.Ar ?_ ?_
  all_goals(try simp(disch:=omega)only[go_sem])
  all_goals(try(repeat'(with_reducible apply And.intro)))
  all_goals(first|exact .AO (by omega)|exact .AJ (by omega)|exact .sl (by simp[F6,hGl])|exact .int (by simp[F6,hGl])|exact .eq (by simp[F6,hGl]))
 rintro i ⟨hi,hP⟩ J hJ;refine gO ?_;refine ⟨fun hlt=>?_,fun hge=>?_⟩;rotate_left;have hil:i=((Ag e)).length:=by simp at hge;omega
 rotate_left;obtain⟨b,hb⟩:∃ b,((Ag e))[i]?=some b:=⟨_,gE (by simp at hlt;omega)⟩;have hbm:=mG hb;have hlt2:i<((Ag e)).length:=by simp at hlt;omega
 ·have hfl:=SC (G:=G) (i:=i) (by omega);have hfg:=SB (G:=G) (i:=i) (by omega);have hfs:=SD (hGi i hlt2);generalize F6 G i=M at hfl hfg hfs ⊢
  by_cases hs:i<set.length
  ·obtain⟨y,hy⟩:∃ y,set[i]?=some y:=⟨_,gE hs⟩;have e4:set.getD i false=y:=by simp[List.getD,hy]
   rw[e4]at hfs;simp(disch:=omega)only[go_sem,eq_true (show (i:Int)<(set.length:Int) by omega),decide_true,gm,hy,hfg];refine hJ _ (i+1) ⟨by omega,trivial⟩ (by omega) (Imp.Ar ?_ gI);refine gO ?_;exact .sl (by rw[← hfs,map_set])
  ·have e4:set.getD i false=false:=by simp[List.getD,List.getElem?_eq_none (by omega:set.length≤i)]
   rw[e4]at hfs;simp(disch:=omega)only[go_sem,eq_false (show ¬ ((i:Int)<(set.length:Int)) by omega),decide_false,gm,hfg];refine hJ _ (i+1) ⟨by omega,trivial⟩ (by omega) (Imp.Ar ?_ gI);refine gO ?_;exact .sl (by rw[← hfs,map_set])
 subst hil;have e3:F6 G (Ag e).length=G:=by rw[← hGl,SA]
 rw[e3];clear hJ hi hge;refine Ac (α:=Nat × List Bool) (fun q=>⟨[(9,I ((q.1:Int)-1)),(7,.sl (.own 1088 0) 1 (q.2.map fun b=>[B b])),(5,BB (Ag e)),(2,.ptr 128 0)],[(128,e.c)]⟩) (fun q=>q.1≤(Ag e).length∧q.2.length=(Ag e).length∧prN e (Ag e).length G=prN e q.1 q.2) (fun q=>q.1) ((Ag e).length,G) ⟨Nat.le_refl _,hGl,rfl⟩ AT ?_;rintro⟨k,o⟩ ⟨hk,hol,ho⟩ J hJ
 replace hk:k≤(Ag e).length:=hk
 replace hol:o.length=(Ag e).length:=hol
 replace ho:prN e (Ag e).length G=prN e k o:=ho
 cases k with
 | zero =>
  have e5:(0≤((0:Nat):Int)-1)=False:=eq_false (by omega);simp(disch:=omega)only[go_sem,e5,decide_false];rw[ho];refine CL ⟨[],[],[1088]⟩ _ ?_;simp(disch:=omega)only[go_sem,prN]
 | succ k =>
  have e5:(0≤((k+1:Nat):Int)-1)=True:=eq_true (by omega);have e6:((k+1:Nat):Int)-1=(k:Int):=by omega
  have e7:(k:Int)+1-1=(k:Int):=by omega
  have e8:(0≤(k:Int))=True:=eq_true (by omega);obtain⟨y,hy⟩:∃ y,o[k]?=some y:=⟨_,gE (by omega)⟩;have hyd:o.getD k false=y:=by simp[List.getD,hy]
  simp only[prN,hyd]at ho;have hkl:k<o.length:=by omega
  show _;cases y
  ·simp only[false_eq_true,if_false]at ho;simp(disch:=omega)only[go_sem,e6,e7,e8,decide_true,gm,hy];refine hJ _ (k,o) ⟨show k≤_ by omega,hol,ho⟩ (show k<k+1 by omega) (Imp.Ar ?_ gI);simp(disch:=omega)only[go_sem]
  ·simp only[if_true]at ho;have hmo:((o.map fun b=>[B b]).set k [B false])=(o.set k false).map fun b=>[B b]:=by rw[map_set]
   have hg2:(o.set k false)[k]?=some false:=by simp[hkl]
   have hsl:(o.set k false).length=o.length:=by simp
   have hss:(o.set k false).set k (!Ez (D0 (Ag e) (o.set k false)) e)=o.set k (!Ez (D0 (Ag e) (o.set k false)) e):=by simp
   generalize ho2:o.set k false=o2 at hmo hg2 hsl ho hss;have hkl2:k<o2.length:=by omega
   simp(disch:=omega)only[go_sem,e6,e7,e8,decide_true,gm,hy,hmo];refine Dd [1088] (f151_ok (Ag e) o2 (by omega) _ e (Nat.lt_succ_self _) [] (EA h1)) (by simp(disch:=omega)only[go_sem,hmo]) rfl trivial ?_;simp(disch:=omega)only[go_sem,gm,hg2,hmo];refine hJ _ (k,o.set k (!Ez (D0 (Ag e) o2) e)) ⟨show k≤_ by omega,by show (o.set k _).length=_;simp[hol],ho⟩ (show k<k+1 by omega) (Imp.Ar ?_ gI);simp(disch:=omega)only[go_sem,hmo]
   try exact .sl (by rw[← hss,map_set])
end Go.Rd
