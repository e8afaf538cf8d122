/- part 28 of the proof -/
import Derived.Test.YthachdiockkofaaGreatDoorW27
set_option linter.all false
open Go Go.Abs Go.Proofs
set_option maxRecDepth 100000
namespace Go.Rd
set_option maxHeartbeats 8000000
open List (all_append all_eq_false length_map map_nil map_set take_add_one take_length)
open Bool (and_eq_true false_eq_true)
open Tryz
def e0:Expr:=.mk 0 a0 []
def Dg:Req:=⟨e0,0,0⟩
def Qe(e:Expr):Bool:=e.k==0&&decide (e.atom=a0)&&decide (e.kids.length=0)
def Yl(r:Req):Bool:=Qe r.expr&&r.prio==0&&r.Dq==0
theorem cK(e:Expr):Ad C0 137 [.agg e.c,.agg e0.c] [] (B (Qe e)) []:=by
 refine Ad.lens f137 fun hlen=>?_
 simp only[D9,lens,Expr.By,length_map,and_true,true_and]at hlen;refine Ad.go f137 ?_;unfold f137;have k1:e0.k=0:=rfl;have k2:e0.atom=a0:=rfl;have k3:e0.kids=[]:=rfl;have ez:(e.atom.name==[]&&(e.atom.amt.mode==0&&e.atom.amt.AA==0))=decide (e.atom=a0):=SO e.atom
 by_cases h1:e.k=0
 rotate_left
 ·have h1':(e.k !=0)=true:=by simp[h1]
  simp(disch:=omega)only[go_sem,k1,k2,k3,a0,map_nil,h1',Bool.not_false,Bool.not_true];refine Ap _ ?_;exact wb (by simp[Qe,h1])
 have h1':(e.k !=0)=false:=by simp[h1]
 by_cases h2:e.atom=a0
 rotate_left
 ·rw[decide_eq_false h2]at ez;simp(disch:=omega)only[go_sem,k1,k2,k3,a0,map_nil,h1',ez,Bool.not_false,Bool.not_true];refine Ap _ ?_;exact wb (by simp[Qe,h2])
 rw[decide_eq_true h2]at ez
 by_cases h3:e.kids.length=0
 rotate_left
 ·have h3':((e.kids.length:Int) !=0)=true:=by simp only[bne_iff_ne,ne_eq];omega
  simp(disch:=omega)only[go_sem,k1,k2,k3,a0,map_nil,h1',ez,h3',Bool.not_false,Bool.not_true];refine Ap _ ?_;exact wb (by simp[Qe,h3])
 have h3':((e.kids.length:Int) !=0)=false:=by simp[h3]
 simp(disch:=omega)only[go_sem,k1,k2,k3,a0,map_nil,h1',ez,h3',Bool.not_false,Bool.not_true];refine Ab (α:=Nat) (fun i=>⟨[(5,I i),(2,.ptr 128 0)],[(128,e.c)]⟩) (fun i=>i≤(e.kids).length∧True) (fun i=>(e.kids).length-i) 0 ⟨by omega,trivial⟩ ?_ ?_
 ·exact BB
 rintro i ⟨hi,hP⟩ J hJ;refine gO ?_;refine ⟨fun hlt=>?_,fun hge=>?_⟩;rotate_left;have hil:i=(e.kids).length:=by simp at hge;omega
 rotate_left;obtain⟨b,hb⟩:∃ b,(e.kids)[i]?=some b:=⟨_,gE (by simp at hlt;omega)⟩;have hbm:=mG hb;have hlt2:i<(e.kids).length:=by simp at hlt;omega
 ·omega
 ·refine Ap _ ?_;exact wb (by simp[Qe,h1,h2,h3])
theorem cL(r:Req):Ad C0 172 [.agg r.c,.agg Dg.c] [] (B (Yl r)) []:=by
 have k1:Dg.expr=e0:=rfl;have k4:Dg.prio=0:=rfl;have k5:Dg.Dq=0:=rfl;refine Ad.go f172 ?_;unfold f172;simp(disch:=omega)only[go_sem,k1,k4,k5];refine Ac (cK r.expr) ?_;cases h1:Qe r.expr
 ·simp(disch:=omega)only[go_sem];refine Ap _ ?_;exact wb (by simp[Yl,h1])
 simp(disch:=omega)only[go_sem,k4,k5];cases h2:(r.prio==0)
 ·simp(disch:=omega)only[go_sem,h2];refine Ap _ ?_;exact wb (by simp[Yl,h1,h2])
 simp(disch:=omega)only[go_sem,h2];refine Ap _ ?_;exact wb (by simp only[Yl,h1,h2];rfl)
def Iw(r:Req):Bool:=A4 r.expr&&decide (0≤r.prio)&&decide (r.prio≤7)&&decide (0≤r.Dq)&&decide (r.Dq≤1000)
theorem f176_ok(r:Req):Ad C0 176 [.agg r.c] [] (B (Iw r)) []:=by
 refine Ad.go f176 ?_;unfold f176;refine gO ?_;refine Ai (f106_ok r.expr) (by simp(disch:=omega)only[go_sem,Expr.By]) rfl ?_;cases h1:A4 r.expr
 ·simp(disch:=omega)only[go_sem];refine Ap _ ?_;exact wb (by simp[Iw,h1])
 simp(disch:=omega)only[go_sem]
 repeat'(with_reducible refine And.intro (fun h=>?_) (fun h=>?_))
 all_goals(refine B8 _ ?_)
 all_goals(try simp(disch:=omega)only[go_sem])
 all_goals(first|refine wb ?_|refine wi ?_|refine .eq ?_)
 all_goals(first|(simp_all[Iw,h1]<;>omega)|(refine Bool.eq_iff_iff.2 ?_;simp_all[Iw,h1]<;>omega))
def Jw(l:List Res)(i:Nat)(r:Res):Bool:=LS r&&(decide (i=0)||DM (l.getD (i-1) r0).name r.name)
def Kl(l:List Res):Bool:=decide (l.length≤8)&&B2 (Jw l) l
theorem f168_ok(l:List Res):Ad C0 168 [Fa l] [] (B (Kl l)) []:=by
 refine Ad.go f168 ?_;unfold f168
 by_cases hq:8<l.length
 ·have e1:(8<(l.length:Int))=True:=eq_true (by omega);have e:Kl l=false:=by simp[Kl];omega
  simp(disch:=omega)only[go_sem,e1];refine Ap _ ?_;exact wb (by simp[e])
 have e1:(8<(l.length:Int))=False:=eq_false (by omega);simp(disch:=omega)only[go_sem,e1,decide_false];refine Ab (α:=Nat) (fun i=>⟨[(3,I i),(0,Fa l)],[]⟩) (fun i=>i≤(l).length∧B2 (Jw l) (l.take i)=true) (fun i=>(l).length-i) 0 ⟨by omega,rfl⟩ ?_ ?_
 ·exact BB
 rintro i ⟨hi,hP⟩ J hJ;refine gO ?_;refine ⟨fun hlt=>?_,fun hge=>?_⟩;rotate_left;have hil:i=(l).length:=by simp at hge;omega
 rotate_left;obtain⟨b,hb⟩:∃ b,(l)[i]?=some b:=⟨_,gE (by simp at hlt;omega)⟩;have hbm:=mG hb;have hlt2:i<(l).length:=by simp at hlt;omega
 refine Aq 21 [([],[0]),([],[3]),([],[13,14]),([],[15]),([],[16]),([4],[17]),([4],[18]),([4],[3,19]),([4],[20,19]),([4],[21,19]),([4],[0,22]),([4],[3,22]),([4],[24,22]),([4],[23,25,22]),([4],[26,22]),([4],[27,22]),([4],[0,22]),([4],[3,22]),([4],[29,30,22]),([4],[31,22]),([4],[32,22])] fol ?_;simp(disch:=omega)only[go_sem,gm,hb]
 ·have bad:Jw l i b=false→Kl l=false:=fun h=>by simp only[Kl,Bx hb h,Bool.and_false]
  have good:Jw l i b=true→B2 (Jw l) (l.take (i+1))=true:=fun h=>by rw[B7 hb,hP,h];rfl
  first|(refine Ac (f246_ok b) ?_)|(refine Ar (f246_ok b) ?_)
  have hv':(Dd b.name&&b.shaped&&AL b.home 0 3)=LS b:=rfl;rw[hv'];cases hv:LS b
  ·simp(disch:=omega)only[go_sem];refine Ap _ ?_;exact wb (by rw[bad (by simp[Jw,hv])])
  by_cases hi0:i=0
  ·subst hi0;refine gO ?_;refine hJ _ 1 ⟨by simp at hlt;omega,good (by simp[Jw,hv])⟩ (by simp at hlt;omega) AR
  ·have hi1:(0<(i:Int))=True:=eq_true (by omega);have hi2:((i:Int)-1)=((i-1:Nat):Int):=by omega
   obtain⟨a,ha'⟩:∃ a,l[i-1]?=some a:=⟨_,gE (by simp at hlt;omega)⟩;have had:l.getD (i-1) r0=a:=by simp[List.getD,ha']
   simp(disch:=omega)only[go_sem,hi1,hi2,gm,ha',hb];refine And.intro (fun hh=>?_) (fun hh=>?_)
   ·refine Ap _ ?_;exact wb (by rw[bad (by simp only[Jw,had,hv];simp[hi0];simpa [DM]using hh)])
   ·refine hJ _ (i+1) ⟨by simp at hlt;omega,good (by simp only[Jw,had,hv];simp[hi0];simpa [DM]using hh)⟩ (by simp at hlt;omega) AR
 subst hil;rw[take_length]at hP;have hqs:Kl l=true:=by simp[Kl,hP];omega
 refine Ap _ ?_;exact wb (by rw[hqs])
def FC(l:List Res)(a:Atom):Int:=if !Kl l then 2 else match OV l a.name with
 |none=>10
 |some r=>if r.fits a.amt then 0 else 12
theorem f252_ok(l:List Res)(a:Atom):Ad C0 252 [Fa l,.agg a.c] [] (I (FC l a)) []:=by
 refine Ad.go f252 ?_;unfold f252;refine gO ?_;refine Ac (f168_ok l) ?_;cases h1:Kl l
 ·simp(disch:=omega)only[go_sem,Bool.not_false];refine Ap _ ?_;exact wi (by simp[FC,h1])
 simp(disch:=omega)only[go_sem,Bool.not_true];refine Ac (f288_ok l a.name) ?_;cases hf:OV l a.name with
 |none =>
  simp(disch:=omega)only[go_sem,Option.isSome_none,Option.getD_none,r0];refine Ap _ ?_;exact wi (by simp[FC,h1,hf])
 |some r =>
  simp(disch:=omega)only[go_sem,Option.isSome_some,Option.getD_some];refine Ac (f171_ok r a.amt) ?_;cases h2:r.fits a.amt
  ·simp(disch:=omega)only[go_sem,Bool.not_false];refine Ap _ ?_;exact wi (by simp[FC,h1,hf,h2])
  ·simp(disch:=omega)only[go_sem,Bool.not_true];refine Ap _ ?_;exact wi (by simp[FC,h1,hf,h2])
def F8(l:List Res):List Atom→Int
 |[]=>0
 | a::az=>if FC l a=0 then F8 l az else FC l a
def CZ(l:List Res)(e:Expr):Int:=if A4 e then F8 l (Ag e) else 1
theorem f177_ok(l:List Res)(e:Expr):Ad C0 177 [Fa l,.agg e.c] [] (I (CZ l e)) []:=by
 refine Ad.go f177 ?_;unfold f177;refine gO ?_;refine Ac (f150_ok e) ?_;cases h1:A4 e
 ·simp(disch:=omega)only[go_sem,Bool.not_false];refine Ap _ ?_;exact wi (by simp[CZ,h1])
 simp(disch:=omega)only[go_sem,Bool.not_true];have e1:CZ l e=F8 l (Ag e):=by simp[CZ,h1]
 rw[e1];have hal:(Ag e).length≤1000000:=by have:=Cj e;omega
 generalize Ag e=az at hal;refine Ab (α:=Nat) (fun i=>⟨[(7,I i),(5,Bv az),(0,Fa l)],[]⟩) (fun i=>i≤(az).length∧F8 l az=F8 l (az.drop i)) (fun i=>(az).length-i) 0 ⟨by omega,rfl⟩ ?_ ?_
 ·exact BB
 rintro i ⟨hi,hP⟩ J hJ;refine gO ?_;refine ⟨fun hlt=>?_,fun hge=>?_⟩;rotate_left;have hil:i=(az).length:=by simp at hge;omega
 rotate_left;obtain⟨b,hb⟩:∃ b,(az)[i]?=some b:=⟨_,gE (by simp at hlt;omega)⟩;have hbm:=mG hb;have hlt2:i<(az).length:=by simp at hlt;omega
 ·have hd:az.drop i=b::az.drop (i+1):=by rw[List.drop_eq_getElem_cons hlt2,get_eq hb]
  simp(disch:=omega)only[go_sem,gm,hb];refine Ac (f252_ok l b) ?_;cases hz:(FC l b !=0)
  ·simp(disch:=omega)only[go_sem,hz];refine hJ _ (i+1) ⟨by simp at hlt;omega,(by rw[hP,hd];simp only[F8];rw[if_pos (by simpa using hz)])⟩ (by simp at hlt;omega) AR
  ·simp(disch:=omega)only[go_sem,hz];refine Ap _ ?_;exact wi (by rw[hP,hd];simp only[F8];rw[if_neg (by simpa using hz)])
 ·subst hil;refine Ap _ ?_;exact wi (by rw[hP,List.drop_length];rfl)
def Fy(G:List Bool)(i:Nat):List Bool:=G.take i++List.replicate (G.length-i) false
theorem RR{G:List Bool}{i:Nat}(h:i≤G.length):(Fy G i).length=G.length:=by simp[Fy];omega
theorem RQ{G:List Bool}{i:Nat}(h:i<G.length):(Fy G i)[i]?=some false:=by
 unfold Fy;rw[List.getElem?_append_right (by simp;omega),List.getElem?_replicate];simp;omega
theorem RS{G:List Bool}{i:Nat}{b:Bool}(hb:G[i]?=some b):(Fy G i).set i b=Fy G (i+1):=by
 have hi:=At hb;unfold Fy;rw[List.set_append_right _ _ (by simp;omega)];simp only[List.length_take,Nat.min_eq_left (Nat.le_of_lt hi),Nat.sub_self];rw[show G.length-i=(G.length-(i+1))+1 by omega,List.replicate_succ,List.set_cons_zero,take_add_one,hb];simp
theorem RP(G:List Bool):Fy G G.length=G:=by simp[Fy]
def E5(l:List Pcs)(p:Ae):Int:=match l.findIdx? (fun x=>decide (x.proc=p)) with|some i=>i|none=>-1
theorem f69_ok(l:List Pcs)(p:Ae):Ad C0 69 [bE l,.agg p.c] [] (I (E5 l p)) []:=by
 refine Ad.lens f69 fun hlen=>?_
 simp only[D9,lens,length_map,and_true,true_and]at hlen;refine Ad.go f69 ?_;unfold f69;refine gO ?_;refine Ab (α:=Nat) (fun i=>⟨[(5,I i),(0,bE l),(3,.ptr 192 0)],[(192,p.c)]⟩) (fun i=>i≤(l).length∧(l.take i).find? (fun x=>decide (x.proc=p))=none) (fun i=>(l).length-i) 0 ⟨by omega,rfl⟩ ?_ ?_
 ·exact BB
 rintro i ⟨hi,hP⟩ J hJ;refine gO ?_;refine ⟨fun hlt=>?_,fun hge=>?_⟩;rotate_left;have hil:i=(l).length:=by simp at hge;omega
 rotate_left;obtain⟨b,hb⟩:∃ b,(l)[i]?=some b:=⟨_,gE (by simp at hlt;omega)⟩;have hbm:=mG hb;have hlt2:i<(l).length:=by simp at hlt;omega
 refine Aq 6 [([],[0]),([],[5]),([],[12,13]),([],[14]),([],[15]),([],[3])] fol ?_;simp(disch:=omega)only[go_sem,gm,hb]
 ·refine⟨fun h=>?_,fun h=>?_⟩
  ·have e:E5 l p=i:=by unfold E5;rw[FA hP b hb (by simpa using h)]
   simp(disch:=omega)only[go_sem,e];exact AE _
  ·refine hJ _ (i+1) ⟨by simp at hlt;omega,(by rw[BS hP hb];simp at h;simp[h])⟩ (by simp at hlt;omega) AR
 ·subst hil;rw[take_length]at hP;have e:E5 l p = -1:=by
   have:l.findIdx? (fun x=>decide (x.proc=p))=none:=by
    rw[List.findIdx?_eq_none_iff];rw[List.find?_eq_none]at hP;intro x hx;simpa using hP x hx
   unfold E5;rw[this]
  simp(disch:=omega)only[go_sem,e];exact AE _
def Gd(t:List Queue):List Res:=t.map (·.res)
theorem f178_ok(t:List Queue)(h:t.length≤1000000):Ad C0 178 [Ay t] [] (Fa (Gd t)) []:=by
 refine Ad.go f178 ?_;unfold f178;refine gO ?_;refine Ab (α:=Nat) (fun i=>⟨[(4,I i),(3,.sl (.own 1152 0) 4 ((Gd (t.take i)).map Res.c)),(0,Ay t)],[]⟩) (fun i=>i≤(t).length∧True) (fun i=>(t).length-i) 0 ⟨by omega,trivial⟩ ?_ ?_
 ·refine Imp.Am ?_ ?_
  all_goals(try simp(disch:=omega)only[go_sem])
  all_goals(try(repeat'(with_reducible apply And.intro)))
  all_goals(first|exact .AG (by omega)|exact .Az (by omega)|exact .sl (by simp[Gd])|exact .int (by simp[Gd])|exact .eq (by simp[Gd]))
 rintro i ⟨hi,hP⟩ J hJ;refine gO ?_;refine ⟨fun hlt=>?_,fun hge=>?_⟩;rotate_left;have hil:i=(t).length:=by simp at hge;omega
 rotate_left;obtain⟨b,hb⟩:∃ b,(t)[i]?=some b:=⟨_,gE (by simp at hlt;omega)⟩;have hbm:=mG hb;have hlt2:i<(t).length:=by simp at hlt;omega
 ·have hbd:(Gd (t.take i)).length+1≤4294967296:=by simp[Gd];omega
  simp(disch:=omega)only[go_sem,gm,hb];refine hJ _ (i+1) ⟨by simp at hlt;omega,trivial⟩ (by simp at hlt;omega) (Imp.Am ?_ ?_)
  all_goals(try simp(disch:=omega)only[go_sem])
  all_goals(try(repeat'(with_reducible apply And.intro)))
  all_goals(first|exact .AG (by omega)|exact .Az (by omega)|exact .sl (by simp[Gd,take_add_one,hb,Res.c])|exact .int (by simp[Gd,take_add_one,hb,Res.c])|exact .eq (by simp[Gd,take_add_one,hb,Res.c]))
 ·subst hil;rw[take_length];refine Cf ⟨[],[],[1152]⟩ _ ?_;simp(disch:=omega)only[go_sem]
def N5(t:List Queue)(p:Ae)(a:Atom):Bool:=match Cg t a.name with
 |none=>false
 |some k=>(t.getD k q0).res.covers (AB (t.getD k q0).holds p) a.amt
def BI(t:List Queue)(p:Ae)(e:Expr):List Bool:=(Ag e).map (N5 t p)
theorem f179_ok(t:List Queue)(p:Ae)(e:Expr)(h:DZ t):Ad C0 179 [Ay t,.agg p.c,.agg e.c] [] (GN (BI t p e)) []:=by
 have hn:=h.n;have hal:=Cj e;refine Ad.go f179 ?_;unfold f179;refine gO ?_;refine Ai (f93_ok e) (by simp(disch:=omega)only[go_sem,Expr.By]) rfl ?_;refine gO ?_;have hgl:(BI t p e).length=(Ag e).length:=by simp[BI]
 refine Ab (α:=Nat) (fun i=>⟨[(9,I i),(0,Ay t),(4,.ptr 256 0),(7,Bv (Ag e)),(8,.sl (.own 960 0) 1 ((Fy (BI t p e) i).map fun b=>[B b]))],[(256,p.c)]⟩) (fun i=>i≤((Ag e)).length∧True) (fun i=>((Ag e)).length-i) 0 ⟨by omega,trivial⟩ ?_ ?_
 ·refine Imp.Am ?_ ?_
  all_goals(try simp(disch:=omega)only[go_sem])
  all_goals(try(repeat'(with_reducible apply And.intro)))
  all_goals(first|exact .AG (by omega)|exact .Az (by omega)|exact .sl (by simp[Fy,BI])|exact .int (by simp[Fy,BI])|exact .eq (by simp[Fy,BI]))
 rintro i ⟨hi,hP⟩ J hJ;refine gO ?_;refine ⟨fun hlt=>?_,fun hge=>?_⟩;rotate_left;have hil:i=((Ag e)).length:=by simp at hge;omega
 rotate_left;obtain⟨b,hb⟩:∃ b,((Ag e))[i]?=some b:=⟨_,gE (by simp at hlt;omega)⟩;have hbm:=mG hb;have hlt2:i<((Ag e)).length:=by simp at hlt;omega
 ·have hfl:=RR (G:=BI t p e) (i:=i) (by omega);have hfg:=RQ (G:=BI t p e) (i:=i) (by omega);have hgi:(BI t p e)[i]?=some (N5 t p b):=by simp[BI,hb]
  have hfs:=RS hgi;generalize Fy (BI t p e) i=M at hfl hfg hfs ⊢;simp(disch:=omega)only[go_sem,gm,hb];refine Ac (I2 t b.name (by omega)) ?_;cases hf:Cg t b.name with
  |none =>
   have eg:N5 t p b=false:=by simp[N5,hf]
   rw[eg]at hfs;have hMs:M.set i false=M:=by
    apply List.ext_getElem?;intro j;rw[List.getElem?_set];split
    ·rename_i hij;subst hij;rw[if_pos (by omega),hfg]
    ·rfl
   rw[hMs]at hfs;simp(disch:=omega)only[go_sem,atI];refine hJ _ (i+1) ⟨by omega,trivial⟩ (by omega) (Imp.Am ?_ gI);refine gO ?_;exact .sl (by rw[← hfs])
  |some k =>
   obtain⟨hk,q,hq,_⟩:=Dk hf;have eg:N5 t p b=q.res.covers (AB q.holds p) b.amt:=by simp[N5,hf,List.getD,hq]
   rw[eg]at hfs;obtain⟨q1,q2,q3⟩:=Bb (h.q q (mG hq));simp(disch:=omega)only[go_sem,atI,eq_true (show (0:Int)≤(k:Int) by omega),decide_true];refine Aq 19 [([],[8]),([],[9]),([],[0]),([],[10]),([],[33,34]),([],[35]),([],[36]),([],[0]),([],[10]),([],[38,39]),([],[40]),([],[4]),([],[41,42]),([],[7]),([],[9]),([],[44,45]),([],[46]),([],[47]),([12],[37,43,48])] fol ?_;simp(disch:=omega)only[go_sem,gm,hb,hq]
   first|(refine Ac (f163_ok q p q1) ?_)|(refine Ar (f163_ok q p q1) ?_)
   simp(disch:=omega)only[go_sem,gm,hb,hq]
   first|(refine Ac (f253_ok q.res (AB q.holds p) b.amt) ?_)|(refine Ar (f253_ok q.res (AB q.holds p) b.amt) ?_)
   simp(disch:=omega)only[go_sem,gm,hfg];refine hJ _ (i+1) ⟨by omega,trivial⟩ (by omega) (Imp.Am ?_ gI);refine gO ?_;exact .sl (by rw[← hfs,map_set])
 ·subst hil;have e3:Fy (BI t p e) (Ag e).length=BI t p e:=by rw[← hgl,RP]
  rw[e3];refine Cf ⟨[],[],[960]⟩ _ ?_;simp(disch:=omega)only[go_sem]
def Gi(q:Queue)(x:Pcs):List Atom→Bool
 |[]=>decide (AB q.holds x.proc=AF x.led.entries q.res.name)&&!(As q x.proc).isSome
 | a::az=>if a.name !=q.res.name then Gi q x az else if q.res.covers (AF x.led.entries q.res.name) a.amt then Gi q x az
  else if !(As q x.proc).isSome then decide (AB q.holds x.proc=ES q.res (AF x.led.entries q.res.name) a.amt)
  else if q.waits.any (fun w=>decide (w.proc=x.proc)&&w.prio !=x.req.prio) then false
  else decide (AB q.holds x.proc=AF x.led.entries q.res.name)&&decide ((As q x.proc).getD ⟨0,0⟩=ES q.res (AF x.led.entries q.res.name) a.amt)
theorem f180_ok(q:Queue)(x:Pcs)(az:List Atom)(h:BC q≤100)(ha:az.length≤1000000):Ad C0 180 [.agg q.c,.agg x.c,Bv az] [] (B (Gi q x az)) []:=by
 obtain⟨q1,q2,q3⟩:=Bb h;refine Ad.go f180 ?_;unfold f180;refine gO ?_;refine Ac (f190_ok x.led.entries q.res.name) ?_;refine gO ?_;refine Ac (f163_ok q x.proc q1) ?_;refine gO ?_;refine Ac (f98_ok q x.proc q2 q3) ?_;refine gO ?_;refine Ab (α:=Nat) (fun i=>⟨[(11,I i),(2,Bv az),(3,.ptr 192 0),(4,.ptr 256 0),(7,.ptr 448 0),(8,.ptr 512 0),(9,.ptr 576 0),(10,B (As q x.proc).isSome)],[(192,q.c),(256,x.c),(448,(AF x.led.entries q.res.name).c),(512,(AB q.holds x.proc).c),(576,((As q x.proc).getD ⟨0,0⟩).c)]⟩) (fun i=>i≤(az).length∧Gi q x az=Gi q x (az.drop i)) (fun i=>(az).length-i) 0 ⟨by omega,rfl⟩ ?_ ?_
 ·exact BB
 rintro i ⟨hi,hP⟩ J hJ;refine gO ?_;refine ⟨fun hlt=>?_,fun hge=>?_⟩;rotate_left;have hil:i=(az).length:=by simp at hge;omega
 rotate_left;obtain⟨b,hb⟩:∃ b,(az)[i]?=some b:=⟨_,gE (by simp at hlt;omega)⟩;have hbm:=mG hb;have hlt2:i<(az).length:=by simp at hlt;omega
 ·have hd:az.drop i=b::az.drop (i+1):=by rw[List.drop_eq_getElem_cons hlt2,get_eq hb]
  rw[hd]at hP;simp only[Gi]at hP;simp(disch:=omega)only[go_sem,gm,hb];cases hn:(b.name==q.res.name)
  ·have h1:(b.name !=q.res.name)=true:=by simp[bne,hn]
   rw[h1,if_pos rfl]at hP;simp(disch:=omega)only[go_sem,h1,hn,Bool.not_false];refine hJ _ (i+1) ⟨by simp at hlt;omega,hP⟩ (by simp at hlt;omega) AR
  have h1:(b.name !=q.res.name)=false:=by simp[bne,hn]
  rw[h1]at hP;simp only[false_eq_true,if_false]at hP;simp(disch:=omega)only[go_sem,h1,hn,Bool.not_true];refine Ac (f253_ok q.res (AF x.led.entries q.res.name) b.amt) ?_;cases h2:q.res.covers (AF x.led.entries q.res.name) b.amt;rotate_left
  ·rw[h2,if_pos rfl]at hP;refine gO ?_;refine hJ _ (i+1) ⟨by simp at hlt;omega,hP⟩ (by simp at hlt;omega) AR
  rw[h2]at hP;simp only[false_eq_true,if_false]at hP;refine gO ?_;refine Ac (f254_ok q.res (AF x.led.entries q.res.name) b.amt) ?_;cases h3:(As q x.proc).isSome
  ·rw[h3]at hP;simp only[Bool.not_false,if_true]at hP;simp(disch:=omega)only[go_sem,Bool.not_false];refine Ap _ ?_;exact wb hP.symm
  rw[h3]at hP;simp only[Bool.not_true,false_eq_true,if_false]at hP;simp(disch:=omega)only[go_sem,Bool.not_true];obtain⟨o,rfl⟩:∃ o,o=i:=⟨i,rfl⟩;obtain⟨bo,rfl⟩:∃ bo,bo=b:=⟨b,rfl⟩;have hPo:=hP;clear hJ hb hlt hlt2;have anyN:∀ (i:Nat) (w:AS),q.waits[i]?=some w→(q.waits.take (i+1)).any (fun w=>decide (w.proc=x.proc)&&w.prio !=x.req.prio)=((q.waits.take i).any (fun w=>decide (w.proc=x.proc)&&w.prio !=x.req.prio)||(decide (w.proc=x.proc)&&w.prio !=x.req.prio)):=fun i w hw=>by
   rw[take_add_one,hw];simp
  have anyT:∀ (w:AS),w∈q.waits→(decide (w.proc=x.proc)&&w.prio !=x.req.prio)=true→q.waits.any (fun w=>decide (w.proc=x.proc)&&w.prio !=x.req.prio)=true:=fun w hw hc=>List.any_eq_true.2 ⟨w,hw,hc⟩
  refine Ab (α:=Nat) (fun i=>⟨[(14,I i),(3,.ptr 192 0),(4,.ptr 256 0),(7,.ptr 448 0),(8,.ptr 512 0),(9,.ptr 576 0),(13,.ptr 832 0)],[(192,q.c),(256,x.c),(448,(AF x.led.entries q.res.name).c),(512,(AB q.holds x.proc).c),(576,((As q x.proc).getD ⟨0,0⟩).c),(832,(ES q.res (AF x.led.entries q.res.name) bo.amt).c)]⟩) (fun i=>i≤(q.waits).length∧(q.waits.take i).any (fun w=>decide (w.proc=x.proc)&&w.prio !=x.req.prio)=false) (fun i=>(q.waits).length-i) 0 ⟨by omega,rfl⟩ ?_ ?_
  ·exact BB
  rintro i ⟨hi,hP⟩ J hJ;refine gO ?_;refine ⟨fun hlt=>?_,fun hge=>?_⟩;rotate_left;have hil:i=(q.waits).length:=by simp at hge;omega
  rotate_left;obtain⟨b,hb⟩:∃ b,(q.waits)[i]?=some b:=⟨_,gE (by simp at hlt;omega)⟩;have hbm:=mG hb;have hlt2:i<(q.waits).length:=by simp at hlt;omega
  ·refine Aq 19 [([],[3]),([],[75]),([],[14]),([],[76,77]),([],[78]),([],[79]),([],[4]),([],[81]),([],[80,82]),([],[83]),([],[3,84]),([],[85,84]),([],[14,84]),([],[86,87,84]),([],[88,84]),([],[89,84]),([],[4,84]),([],[91,84]),([],[92,84])] fol ?_;cases c1:decide (b.proc=x.proc)
   ·simp(disch:=omega)only[go_sem,gm,hb,c1];refine hJ _ (i+1) ⟨by simp at hlt;omega,(by rw[anyN i b hb,hP,c1];rfl)⟩ (by simp at hlt;omega) AR
   cases c2:(b.prio !=x.req.prio)
   ·simp(disch:=omega)only[go_sem,gm,hb,c1,c2];refine hJ _ (i+1) ⟨by simp at hlt;omega,(by rw[anyN i b hb,hP,c1,c2];rfl)⟩ (by simp at hlt;omega) AR
   ·simp(disch:=omega)only[go_sem,gm,hb,c1,c2];refine Ap _ ?_;exact wb (by rw[hPo,if_pos (anyT b hbm (by rw[c1,c2];rfl))])
  ·subst hil;rw[take_length]at hP;rw[hP]at hPo;simp only[false_eq_true,if_false]at hPo;cases c1:decide (AB q.holds x.proc=AF x.led.entries q.res.name)
   ·simp(disch:=omega)only[go_sem,c1];refine Ap _ ?_;exact wb (by rw[hPo,c1];rfl)
   ·simp(disch:=omega)only[go_sem,c1];refine Ap _ ?_;exact wb (by rw[hPo,c1];rfl)
 ·subst hil;rw[List.drop_length]at hP;simp only[Gi]at hP;cases h1:decide (AB q.holds x.proc=AF x.led.entries q.res.name)
  ·simp(disch:=omega)only[go_sem,h1];refine Ap _ ?_;exact wb (by rw[hP,h1];rfl)
  ·simp(disch:=omega)only[go_sem,h1];refine Ap _ ?_;exact wb (by rw[hP,h1];rfl)
def Fz(l:Ledger):List Atom:=(De l.entries).filterMap fun n=>if (AF l.entries n).mode==0&&(AF l.entries n).AA==0 then none else some ⟨n,AF l.entries n⟩
theorem Zh{α β:Type}{f:α→Option β}{l:List α}{i:Nat}{b:α}(hb:l[i]?=some b):(l.take (i+1)).filterMap f=(l.take i).filterMap f++(f b).toList:=by
 rw[take_add_one,hb,List.filterMap_append];cases h:f b<;>simp[h]
theorem Lz(l:List Entry):(De l).length≤l.length:=by
 have:=Mm (l:=l) l.length (Nat.le_refl _)
 rwa [take_length]at this
theorem f170_ok(l:Ledger)(hl:l.entries.length≤1000000):Ad C0 170 [.agg l.c] [] (Bv (Fz l)) []:=by
 have hnl:=Lz l.entries;refine Ad.go f170 ?_;unfold f170;refine gO ?_;refine Ac (f249_ok l.entries hl) ?_;refine gO ?_;unfold Fz;generalize De l.entries=ns at hnl;refine Ab (α:=Nat) (fun i=>⟨[(5,I i),(3,.sl (.own 2176 0) 3 (((ns.take i).filterMap fun n=>if (AF l.entries n).mode==0&&(AF l.entries n).AA==0 then none else some (⟨n,AF l.entries n⟩:Atom)).map Atom.c)),(4,ak ns),(1,.ptr 64 0)],[(64,l.c)]⟩) (fun i=>i≤(ns).length∧True) (fun i=>(ns).length-i) 0 ⟨by omega,trivial⟩ ?_ ?_
 ·exact BB
 rintro i ⟨hi,hP⟩ J hJ;refine gO ?_;refine ⟨fun hlt=>?_,fun hge=>?_⟩;rotate_left;have hil:i=(ns).length:=by simp at hge;omega
 rotate_left;obtain⟨b,hb⟩:∃ b,(ns)[i]?=some b:=⟨_,gE (by simp at hlt;omega)⟩;have hbm:=mG hb;have hlt2:i<(ns).length:=by simp at hlt;omega
 ·have hx:=Zh (f:=fun n=>if (AF l.entries n).mode==0&&(AF l.entries n).AA==0 then none else some (⟨n,AF l.entries n⟩:Atom)) hb;have hlen:((ns.take i).filterMap fun n=>if (AF l.entries n).mode==0&&(AF l.entries n).AA==0 then none else some (⟨n,AF l.entries n⟩:Atom)).length≤ns.length:=Nat.le_trans (List.length_filterMap_le _ _) (by simp;omega);generalize (ns.take i).filterMap (fun n=>if (AF l.entries n).mode==0&&(AF l.entries n).AA==0 then none else some (⟨n,AF l.entries n⟩:Atom))=L at hx hlen ⊢;have hbd:L.length+1≤4294967296:=by omega
  refine Aq 8 [([],[1]),([],[16]),([],[4]),([],[5]),([],[18,19]),([],[20]),([],[17,21]),([],[])] fol ?_;simp(disch:=omega)only[go_sem,gm,hb]
  first|(refine Ac (f190_ok l.entries b) ?_)|(refine Ar (f190_ok l.entries b) ?_)
  refine gO ?_;cases hz:((AF l.entries b).mode==0&&(AF l.entries b).AA==0)
  ·simp(disch:=omega)only[go_sem,hz,Bool.not_false];refine Aq 8 [([],[3]),([],[4]),([],[5]),([],[27,28]),([],[29]),([],[6]),([],[30,31]),([],[32])] fol ?_;simp(disch:=omega)only[go_sem,gm,hb];rw[hz]at hx;refine hJ _ (i+1) ⟨by omega,trivial⟩ (by omega) (Imp.Am ?_ ?_)
   all_goals(try simp(disch:=omega)only[go_sem])
   exact .sl (by rw[hx];simp[Atom.c])
  ·simp(disch:=omega)only[go_sem,hz,Bool.not_true];rw[hz]at hx;refine hJ _ (i+1) ⟨by omega,trivial⟩ (by omega) (Imp.Am ?_ ?_)
   all_goals(try simp(disch:=omega)only[go_sem])
   exact .sl (by rw[hx];simp)
 ·subst hil;rw[take_length];refine Cf ⟨[],[],[2176]⟩ _ ?_;simp(disch:=omega)only[go_sem]
def OF(l:Ledger)(label:Int):Option (Nat × Nat):=if label=0 then some (0,0) else match l.A3.findIdx? (fun s=>s.label==label) with
 |some i=>some ((l.A3.getD i s0).pos.toNat,i+1)
 |none=>none
def Rb(l:Ledger)(at_ n:Nat):Ledger:=⟨l.entries.take at_,l.A3.take n⟩
def Q1(l:Ledger)(at_:Nat):List Atom:=(De (l.entries.drop at_)).map fun n=>⟨n,AF (l.entries.take at_) n⟩
def Cx(l:Ledger)(label:Int):Ledger × List Atom × Int:=if !Bk l then (CO,[],2) else match OF l label with
 |none=>(CO,[],10)
 |some (a,n)=>(Rb l a n,Q1 l a,0)
theorem Rw{α:Type}{f:Nat→α→Bool}{l:List α}{i:Nat}{b:α}(h:B2 f l=true)(hb:l[i]?=some b):f i b=true:=by
 cases hf:f i b
 ·rw[Bx hb hf]at h;cases h
 ·rfl
@[go_sem] theorem aR:D8 []=.sl .no 5 []:=rfl
@[go_sem] theorem df:Mt []=.sl .no 2 []:=rfl
@[go_sem] theorem fx:bE []=.sl .no 16 []:=rfl
@[go_sem] theorem eJ:Ug []=.sl .no 7 []:=rfl
theorem La{l:Ledger}(h:Bk l=true){i:Nat}{s:Save}(hs:l.A3[i]?=some s):0≤s.pos∧s.pos≤(l.entries.length:Int):=by
 simp only[Bk,and_eq_true]at h;have:=Rw h.2 hs;simp only[Fm,and_eq_true,decide_eq_true_eq]at this;omega
theorem f195_ok(l:Ledger)(label:Int):Ad C0 195 [.agg l.c,I label] [] (.tup [.agg (Cx l label).1.c,Bv (Cx l label).2.1,I (Cx l label).2.2]) []:=by
 refine Ad.go f195 ?_;unfold f195;refine gO ?_;refine Ac (f169_ok l) ?_;cases hv:Bk l
 ·have e:Cx l label=(CO,[],2):=by simp[Cx,hv]
  simp(disch:=omega)only[go_sem,Bool.not_false,e,CO,map_nil];exact EL _
 have hel:l.entries.length≤72∧l.A3.length≤4:=by simp only[Bk,and_eq_true,decide_eq_true_eq]at hv;omega
 have hcase:(OF l label=none∧label≠0∧KA l.A3 label<0)∨(label=0∧OF l label=some (0,0))∨(∃ i s,label≠0∧KA l.A3 label=((i:Nat):Int)∧l.A3[i]?=some s∧OF l label=some (s.pos.toNat,i+1)):=by
  unfold OF KA
  by_cases h0:label=0
  ·exact .inr (.inl ⟨h0,by simp[h0]⟩)
  ·cases hf:l.A3.findIdx? (fun s=>s.label==label) with
   |none=>exact .inl ⟨by simp[h0],h0,by simp⟩
   |some i =>
    have hi:=(List.findIdx?_eq_some_iff_getElem.1 hf).1;exact .inr (.inr ⟨i,l.A3[i],h0,rfl,gE hi,by simp[h0,List.getD,gE hi]⟩)
 rcases hcase with ⟨h1,h0,h2⟩|hcase
 ·have e:Cx l label=(CO,[],10):=by simp[Cx,hv,h1]
  have e0:(label !=0)=true:=by simpa using h0
  simp(disch:=omega)only[go_sem,Bool.not_true,e0];refine Ac (f194_ok l.A3 label) ?_;simp(disch:=omega)only[go_sem,eq_true h2,decide_true,e,CO,map_nil];exact EL _
 have hget:∃ a n,a≤l.entries.length∧n≤l.A3.length∧Cx l label=(Rb l a n,Q1 l a,0)∧OF l label=some (a,n):=by
  rcases hcase with ⟨h0,h1⟩|⟨i,s,h0,h1,h2,h3⟩
  ·exact⟨0,0,by omega,by omega,by simp[Cx,hv,h1],h1⟩
  ·have:=La hv h2;have:=At h2;exact⟨s.pos.toNat,i+1,by omega,by omega,by simp[Cx,hv,h3],h3⟩
 obtain⟨a,n,ha,hn,e,hbk⟩:=hget;rw[e];rcases hcase with ⟨h0,h1⟩|⟨i,s,h0,h1,h2,h3⟩
 all_goals first
  |(have e0:(label !=0)=true:=by simpa using h0
    have hpos:=La hv h2;rw[h3]at hbk;have hi1:(i:Int)+1=((i+1:Nat):Int):=by omega
    have hps:s.pos=((s.pos.toNat:Nat):Int):=by omega
    obtain⟨ha2,hn2⟩:s.pos.toNat=a∧i+1=n:=by simpa using hbk
    simp(disch:=omega)only[go_sem,Bool.not_true,e0];refine Ac (f194_ok l.A3 label) ?_;simp(disch:=omega)only[go_sem,h1,eq_false (show ¬ ((i:Int)<0) by omega),decide_false,gm,h2])
  |(have e0:(label !=0)=false:=by simp[h0]
    rw[h1]at hbk;obtain⟨ha2,hn2⟩:0=a∧0=n:=by simpa using hbk
    simp(disch:=omega)only[go_sem,Bool.not_true,e0])
 all_goals
  refine D7 (st':=⟨[(7,I (a:Int)),(8,I (n:Int)),(2,.ptr 128 0),(4,.ptr 256 0)],[(128,l.c),(256,CO.c)]⟩) (Imp.Am ?_ ?_) ?_
  ·simp(disch:=omega)only[go_sem];exact⟨.int (by omega),.int (by omega)⟩
  ·simp(disch:=omega)only[go_sem,CO]
  have hdr:(l.entries.drop a).take (l.entries.length-a)=l.entries.drop a:=List.take_of_length_le (by simp);refine Aq 14 [([],[]),([],[2]),([],[36]),([],[7]),([],[37,38]),([],[35,39]),([],[]),([],[2]),([],[42]),([],[8]),([],[43,44]),([],[41,45]),([],[40,46]),([],[])] fol ?_;refine gO ?_;refine Ai (f249_ok (l.entries.drop a) (by simp;omega)) (by simp(disch:=omega)only[go_sem,hdr]) rfl ?_;have hnl:=Lz (l.entries.drop a);have hdl:(l.entries.drop a).length≤72:=by simp;omega
  refine gO ?_;unfold Q1;generalize De (l.entries.drop a)=ns at hnl ⊢;refine Ab (α:=Nat) (fun i=>⟨[(13,I i),(11,.sl (.own 4672 0) 3 (((ns.take i).map fun n=>(⟨n,AF (l.entries.take a) n⟩:Atom)).map Atom.c)),(12,ak ns),(10,.ptr 640 0),(4,.ptr 256 0)],[(640,(Rb l a n).c),(256,CO.c)]⟩) (fun i=>i≤(ns).length∧True) (fun i=>(ns).length-i) 0 ⟨by omega,trivial⟩ ?_ ?_
  ·refine Imp.Am ?_ ?_
   all_goals(try simp(disch:=omega)only[go_sem,Rb,CO])
   all_goals(try(repeat'(with_reducible apply And.intro)))
   all_goals(first|exact .AG (by omega)|exact .Az (by omega)|exact .sl (by simp[Rb,CO])|exact .int (by simp[Rb,CO])|exact .eq (by simp[Rb,CO]))
  rintro i ⟨hi,hP⟩ J hJ;refine gO ?_;refine ⟨fun hlt=>?_,fun hge=>?_⟩;rotate_left;have hil:i=(ns).length:=by simp at hge;omega
  rotate_left;obtain⟨b,hb⟩:∃ b,(ns)[i]?=some b:=⟨_,gE (by simp at hlt;omega)⟩;have hbm:=mG hb;have hlt2:i<(ns).length:=by simp at hlt;omega
  ·refine Aq 14 [([],[11]),([],[12]),([],[13]),([],[60,61]),([],[62]),([],[10]),([],[64]),([],[12]),([],[13]),([],[66,67]),([],[68]),([],[65,69]),([11],[63,70]),([11],[71])] fol ?_;have hbd:((ns.take i).map fun n=>(⟨n,AF (l.entries.take a) n⟩:Atom)).length+1≤4294967296:=by simp;omega
   simp(disch:=omega)only[go_sem,gm,hb,Rb]
   first|(refine Ac (f190_ok (l.entries.take a) b) ?_)|(refine Ar (f190_ok (l.entries.take a) b) ?_)
   simp(disch:=omega)only[go_sem,gm,hb];refine hJ _ (i+1) ⟨by omega,trivial⟩ (by omega) (Imp.Am ?_ ?_)
   ·simp(disch:=omega)only[go_sem];exact .sl (by simp[take_add_one,hb,Atom.c])
   ·simp(disch:=omega)only[go_sem,Rb,CO]
  ·subst hil;rw[take_length];refine Cf ⟨[],[],[4672]⟩ _ ?_;refine gO ?_;exact .eq (by simp[Ledger.c])
def F2(t:List Queue)(a:Atom):Bool:=match Cg t a.name with
 |none=>false
 |some k=>(t.getD k q0).res.fits a.amt
def Gv(x:Pcs):Bool:=x.proc.ok&&decide (1≤x.cost)&&decide (x.cost≤1000)&&Bk x.led&&decide (0≤x.gen)&&decide (x.gen≤1073741824)
def JH(t:List Queue)(x:Pcs):Bool:=Yl x.req&&x.since==0&&decide (Fz x.led=Hj t x.proc)&&((EO t x.proc).length:Int)==0
def IL(now:Int)(t:List Queue)(x:Pcs):Bool:=Iw x.req&&CZ (Gd t) x.req.expr==0&&decide (0≤x.since)&&decide (x.since≤now)&&(x.req.Dq==0||decide (now<x.since+x.req.Dq))&&!DR x.req.expr (BI t x.proc x.req.expr)&&t.all (fun q=>Gi q x (Ag x.req.expr))
def Fk(now:Int)(t:List Queue)(x:Pcs):Bool:=Gv x&&(Fz x.led).all (F2 t)&&(if x.waiting then IL now t x else JH t x)
theorem X3(l:Ledger)(h:Bk l=true):(Fz l).length≤72:=by
 have h1:=Lz l.entries;have h2:l.entries.length≤72:=by simp only[Bk,and_eq_true,decide_eq_true_eq]at h;omega
 exact Nat.le_trans (List.length_filterMap_le _ _) (by omega)
theorem f116_ok(c:Cen)(x:Pcs)(h:DZ c.Aa)(hnow:c.now≤1073741824):Ad C0 116 [.agg c.c,.agg x.c] [] (B (Fk c.now c.Aa x)) []:=by
 have hn:=h.n;have bad:Gv x=false→Fk c.now c.Aa x=false:=fun e=>by simp[Fk,e]
 refine Ad.go f116 ?_;unfold f116;refine gO ?_;refine Ac (f105_ok x.proc) ?_;cases h1:x.proc.ok
 ·simp(disch:=omega)only[go_sem,Bool.not_false];refine Ap _ ?_;exact wb (by rw[bad (by simp[Gv,h1])])
 simp(disch:=omega)only[go_sem,Bool.not_true]
 by_cases h2:x.cost<1
 ·simp(disch:=omega)only[go_sem,eq_true h2,decide_true];refine Ap _ ?_;exact wb (by rw[bad (by simp[Gv];omega)])
 by_cases h3:1000<x.cost
 ·simp(disch:=omega)only[go_sem,eq_false h2,eq_true h3,decide_true,decide_false];refine Ap _ ?_;exact wb (by rw[bad (by simp[Gv];omega)])
 simp(disch:=omega)only[go_sem,eq_false h2,eq_false h3,decide_false];refine Ac (f169_ok x.led) ?_;cases h4:Bk x.led
 ·simp(disch:=omega)only[go_sem,Bool.not_false];refine Ap _ ?_;exact wb (by rw[bad (by simp[Gv,h4])])
 simp(disch:=omega)only[go_sem,Bool.not_true]
 by_cases h5:x.gen<0
 ·simp(disch:=omega)only[go_sem,eq_true h5,decide_true];refine Ap _ ?_;exact wb (by rw[bad (by simp[Gv];omega)])
 by_cases h6:1073741824<x.gen
 ·simp(disch:=omega)only[go_sem,eq_false h5,eq_true h6,decide_true,decide_false];refine Ap _ ?_;exact wb (by rw[bad (by simp[Gv];omega)])
 have hhd:Gv x=true:=by simp[Gv,h1,h4];omega
 have hhl:=X3 x.led h4;have hel:x.led.entries.length≤72:=by simp only[Bk,and_eq_true,decide_eq_true_eq]at h4;omega
 simp(disch:=omega)only[go_sem,eq_false h5,eq_false h6,decide_false];refine Ac (f170_ok x.led (by omega)) ?_;refine gO ?_;have hpo:Fk c.now c.Aa x=((Fz x.led).all (F2 c.Aa)&&(if x.waiting then IL c.now c.Aa x else JH c.Aa x)):=by simp[Fk,hhd]
 rw[hpo];refine Ab (α:=Nat) (fun i=>⟨[(6,I i),(2,.ptr 128 0),(3,.ptr 192 0),(5,Bv (Fz x.led))],[(128,c.c),(192,x.c)]⟩) (fun i=>i≤((Fz x.led)).length∧((Fz x.led).take i).all (F2 c.Aa)=true) (fun i=>((Fz x.led)).length-i) 0 ⟨by omega,rfl⟩ ?_ ?_
 ·exact BB
 rintro i ⟨hi,hP⟩ J hJ;refine gO ?_;refine ⟨fun hlt=>?_,fun hge=>?_⟩;rotate_left;have hil:i=((Fz x.led)).length:=by simp at hge;omega
 rotate_left;obtain⟨b,hb⟩:∃ b,((Fz x.led))[i]?=some b:=⟨_,gE (by simp at hlt;omega)⟩;have hbm:=mG hb;have hlt2:i<((Fz x.led)).length:=by simp at hlt;omega
 ·have bad2:F2 c.Aa b=false→(Fz x.led).all (F2 c.Aa)=false:=fun e=>all_eq_false.2 ⟨b,hbm,by simp[e]⟩
  refine Aq 7 [([],[2]),([],[50]),([],[5]),([],[6]),([],[52,53]),([],[54]),([],[55])] fol ?_;simp(disch:=omega)only[go_sem,gm,hb]
  first|(refine Ac (I2 c.Aa b.name (by omega)) ?_)|(refine Ar (I2 c.Aa b.name (by omega)) ?_)
  refine gO ?_;cases hf:Cg c.Aa b.name with
  |none =>
   refine Aq 14 [([],[7]),([],[58]),([],[59]),([],[2,60]),([],[61,60]),([],[7,60]),([],[62,63,60]),([],[64,60]),([],[65,60]),([],[5,60]),([],[6,60]),([],[67,68,60]),([],[69,60]),([],[70,60])] fol ?_;simp(disch:=omega)only[go_sem,atI];refine Ap _ ?_;exact wb (by rw[bad2 (by simp[F2,hf])];rfl)
  |some k =>
   obtain⟨hk,q,hq,_⟩:=Dk hf;have eg:F2 c.Aa b=q.res.fits b.amt:=by simp[F2,hf,List.getD,hq]
   refine Aq 14 [([],[7]),([],[58]),([],[59]),([],[2,60]),([],[61,60]),([],[7,60]),([],[62,63,60]),([],[64,60]),([],[65,60]),([],[5,60]),([],[6,60]),([],[67,68,60]),([],[69,60]),([],[70,60])] fol ?_;simp(disch:=omega)only[go_sem,atI,eq_false (show ¬ ((k:Int)<0) by omega),decide_false,gm,hq,hb]
   first|(refine Ac (f171_ok q.res b.amt) ?_)|(refine Ar (f171_ok q.res b.amt) ?_)
   cases h7:q.res.fits b.amt
   ·simp(disch:=omega)only[go_sem,Bool.not_false];refine Ap _ ?_;exact wb (by rw[bad2 (eg.trans h7)];rfl)
   ·simp(disch:=omega)only[go_sem,Bool.not_true];refine hJ _ (i+1) ⟨by simp at hlt;omega,(by rw[take_add_one,hb,all_append,hP];simp[eg,h7])⟩ (by simp at hlt;omega) AR
 subst hil;rw[take_length]at hP;rw[hP,Bool.true_and];clear hJ hi hge;cases hw:x.waiting
 ·simp only[false_eq_true,if_false];simp(disch:=omega)only[go_sem,hw,Bool.not_false];refine Ai (cL x.req) (by simp(disch:=omega)only[go_sem,Dg,e0,a0,Expr.k,Expr.atom,Expr.kids];exact .agg (Aj.AM gI)) rfl ?_;cases c1:Yl x.req
  ·simp(disch:=omega)only[go_sem];refine Ap _ ?_;exact wb (by simp[JH,c1])
  cases c2:(x.since==0)
  ·simp(disch:=omega)only[go_sem,c2];refine Ap _ ?_;exact wb (by simp[JH,c2])
  simp(disch:=omega)only[go_sem,c2];refine Ac (f174_ok c.Aa x.proc h) ?_;refine gO ?_;refine Ac (f173_ok (Fz x.led) (Hj c.Aa x.proc)) ?_;cases c3:decide (Fz x.led=Hj c.Aa x.proc)
  ·simp(disch:=omega)only[go_sem];refine Ap _ ?_;exact wb (by simp only[JH,c1,c2,c3];rfl)
  refine gO ?_;refine Ac (f175_ok c.Aa x.proc h) ?_;refine gO ?_;refine Ap _ ?_;exact wb (by simp only[JH,c1,c2,c3];simp)
 ·simp only[if_true];simp(disch:=omega)only[go_sem,hw,Bool.not_true];refine Aq 49 [([],[8]),([],[107]),([1],[108]),([1],[109]),([1],[2,110]),([1],[111,110]),([1],[112,110]),([1],[8,110]),([1],[114,110]),([1,6],[113,115,110]),([1,6,9],[116,110]),([1,6,9],[110,117]),([1,6,9],[118]),([1,6,9],[3,119]),([1,6,9],[120,119]),([1,6,9],[121,119]),([1,6,9],[119,122]),([1,6,9],[123]),([1,6,9],[3,124]),([1,6,9],[125,124]),([1,6,9],[2,124]),([1,6,9],[127,124]),([1,6,9],[126,128,124]),([1,6,9],[124,129]),([1,6,9],[130]),([1,6,9],[8,131]),([1,6,9],[132,131]),([1,6,9],[133,131]),([1,6,9],[134,131]),([1,6,9],[3,135]),([1,6,9],[136,135]),([1,6,9],[8,135]),([1,6,9],[138,135]),([1,6,9],[137,139,135]),([1,6,9],[2,135]),([1,6,9],[141,135]),([1,6,9],[140,142,135]),([1,6,9],[135,143,131]),([1,6,9],[131,144]),([1,6,9],[145]),([1,6,9],[8,146]),([1,6,9],[147,146]),([1,6,9],[2,146]),([1,6,9],[149,146]),([1,6,9],[3,146]),([1,6,9],[151,146]),([1,6,9],[8,146]),([1,6,9],[153,146]),([1,6,9],[150,152,154,146])] fol ?_;simp(disch:=omega)only[go_sem]
  first|(refine Ac (f176_ok x.req) ?_)|(refine Ar (f176_ok x.req) ?_)
  cases d1:Iw x.req
  ·simp(disch:=omega)only[go_sem,Bool.not_false];refine Ap _ ?_;exact wb (by simp[IL,d1])
  have hlim:0≤x.req.Dq∧x.req.Dq≤1000:=by simp only[Iw,and_eq_true,decide_eq_true_eq]at d1;omega
  have hex:A4 x.req.expr=true:=by simp only[Iw,and_eq_true]at d1;exact d1.1.1.1.1
  simp(disch:=omega)only[go_sem,Bool.not_true]
  first|(refine Ac (f178_ok c.Aa (by omega)) ?_)|(refine Ar (f178_ok c.Aa (by omega)) ?_)
  simp(disch:=omega)only[go_sem]
  first|(refine Ac (f177_ok (Gd c.Aa) x.req.expr) ?_)|(refine Ar (f177_ok (Gd c.Aa) x.req.expr) ?_)
  by_cases d2:CZ (Gd c.Aa) x.req.expr=0
  rotate_left
  ·have d2':(CZ (Gd c.Aa) x.req.expr !=0)=true:=by simpa using d2
   simp(disch:=omega)only[go_sem,d2'];refine Ap _ ?_;exact wb (by simp[IL,d2])
  have d2':(CZ (Gd c.Aa) x.req.expr !=0)=false:=by simp[d2]
  simp(disch:=omega)only[go_sem,d2']
  by_cases d3:x.since<0
  ·simp(disch:=omega)only[go_sem,eq_true d3,decide_true];refine Ap _ ?_;exact wb (by simp[IL,show ¬ (0≤x.since) by omega])
  by_cases d4:c.now<x.since
  ·simp(disch:=omega)only[go_sem,eq_false d3,eq_true d4,decide_true,decide_false];refine Ap _ ?_;exact wb (by simp[IL,show ¬ (x.since≤c.now) by omega])
  simp(disch:=omega)only[go_sem,eq_false d3,eq_false d4,decide_false];have base:IL c.now c.Aa x=((x.req.Dq==0||decide (c.now<x.since+x.req.Dq))&&!DR x.req.expr (BI c.Aa x.proc x.req.expr)&&c.Aa.all (fun q=>Gi q x (Ag x.req.expr))):=by
   simp[IL,d1,d2,show 0≤x.since by omega,show x.since≤c.now by omega,Bool.and_assoc]
  rw[base];have hcase:(x.req.Dq≠0∧x.since+x.req.Dq≤c.now)∨x.req.Dq=0∨(x.req.Dq≠0∧c.now<x.since+x.req.Dq):=by omega
  rcases hcase with ⟨d5,d6⟩|hcase
  ·have d5':(x.req.Dq !=0)=true:=by simpa using d5
   simp(disch:=omega)only[go_sem,d5',eq_true d6,decide_true];refine Ap _ ?_;exact wb (by simp[d5];omega)
  have ok:(x.req.Dq==0||decide (c.now<x.since+x.req.Dq))=true:=by
   rcases hcase with d5|⟨d5,d6⟩
   ·simp[d5]
   ·simp[d6]
  rw[ok,Bool.true_and];rcases hcase with d5|⟨d5,d6⟩
  all_goals first
   |(have d5':(x.req.Dq !=0)=true:=by simpa using d5
     simp(disch:=omega)only[go_sem,d5',eq_false (show ¬ (x.since+x.req.Dq≤c.now) by omega),decide_false])
   |(have d5':(x.req.Dq !=0)=false:=by simp[d5]
     simp(disch:=omega)only[go_sem,d5'])
  all_goals
   first|(refine Ac (f179_ok c.Aa x.proc x.req.expr h) ?_)|(refine Ar (f179_ok c.Aa x.proc x.req.expr h) ?_)
   simp(disch:=omega)only[go_sem]
   first|(refine Ac (f160_ok x.req.expr (BI c.Aa x.proc x.req.expr) hex) ?_)|(refine Ar (f160_ok x.req.expr (BI c.Aa x.proc x.req.expr) hex) ?_)
   cases d7:DR x.req.expr (BI c.Aa x.proc x.req.expr);rotate_left
   ·simp(disch:=omega)only[go_sem];refine B8 _ ?_;simp(disch:=omega)only[go_sem]
    all_goals exact wb (by simp)
   refine gO ?_;refine Ac (f93_ok x.req.expr) ?_;have hal:=Cj x.req.expr;refine gO ?_;refine Ab (α:=Nat) (fun i=>⟨[(10,I i),(9,Bv (Ag x.req.expr)),(2,.ptr 128 0),(3,.ptr 192 0)],[(128,c.c),(192,x.c)]⟩) (fun i=>i≤(c.Aa).length∧(c.Aa.take i).all (fun q=>Gi q x (Ag x.req.expr))=true) (fun i=>(c.Aa).length-i) 0 ⟨by omega,rfl⟩ ?_ ?_
   ·refine Imp.Am ?_ ?_
    all_goals(try simp(disch:=omega)only[go_sem])
    all_goals(try(repeat'(with_reducible apply And.intro)))
    all_goals(first|exact .AG (by omega)|exact .Az (by omega)|exact .sl (by simp[hw])|exact .int (by simp[hw])|exact .eq (by simp[hw]))
   rintro i ⟨hi,hP⟩ J hJ;refine gO ?_;refine ⟨fun hlt=>?_,fun hge=>?_⟩;rotate_left;have hil:i=(c.Aa).length:=by simp at hge;omega
   rotate_left;obtain⟨b,hb⟩:∃ b,(c.Aa)[i]?=some b:=⟨_,gE (by simp at hlt;omega)⟩;have hbm:=mG hb;have hlt2:i<(c.Aa).length:=by simp at hlt;omega
   ·refine Aq 7 [([],[2]),([],[168]),([],[10]),([],[169,170]),([],[171]),([],[3]),([],[9])] fol ?_;simp(disch:=omega)only[go_sem,gm,hb]
    first|(refine Ac (f180_ok b x (Ag x.req.expr) (h.q b hbm) (by omega)) ?_)|(refine Ar (f180_ok b x (Ag x.req.expr) (h.q b hbm) (by omega)) ?_)
    cases d8:Gi b x (Ag x.req.expr)
    ·simp(disch:=omega)only[go_sem,Bool.not_false];refine Ap _ ?_;exact wb (by rw[all_eq_false.2 ⟨b,hbm,by simp[d8]⟩])
    ·simp(disch:=omega)only[go_sem,Bool.not_true];refine hJ _ (i+1) ⟨by simp at hlt;omega,(by rw[take_add_one,hb,all_append,hP];simp[d8])⟩ (by simp at hlt;omega) AR
   ·subst hil;rw[take_length]at hP;refine Ap _ ?_;exact wb (by rw[hP])
def x0:Pcs:=⟨p0,0,CO,false,Dg,0,0⟩
def Ep(c:Cen)(i:Nat)(x:Pcs):Bool:=Fk c.now c.Aa x&&(decide (i=0)||decide (Bo (c.procs.getD (i-1) x0).proc x.proc<0))
def Gf(c:Cen):Bool:=decide (0≤c.now)&&decide (c.now≤1073741824)&&Gb c.Aa&&decide (c.procs.length≤8)&&(AN c.Aa).all (fun p=>decide (0≤E5 c.procs p))&&B2 (Ep c) c.procs
theorem f68_ok(c:Cen)(h:DZ c.Aa):Ad C0 68 [.agg c.c] [] (B (Gf c)) []:=by
 refine Ad.go f68 ?_;unfold f68
 by_cases h1:c.now<0
 ·simp(disch:=omega)only[go_sem,eq_true h1,decide_true];refine Ap _ ?_;exact wb (by simp[Gf,show ¬ 0≤c.now by omega])
 by_cases h2:1073741824<c.now
 ·simp(disch:=omega)only[go_sem,eq_false h1,eq_true h2,decide_true,decide_false];refine Ap _ ?_;exact wb (by simp[Gf,show ¬ c.now≤1073741824 by omega])
 simp(disch:=omega)only[go_sem,eq_false h1,eq_false h2,decide_false];refine Ac (f115_ok c.Aa h) ?_;cases h3:Gb c.Aa
 ·simp(disch:=omega)only[go_sem,Bool.not_false];refine Ap _ ?_;exact wb (by simp[Gf,h3])
 simp(disch:=omega)only[go_sem,Bool.not_true]
 by_cases h4:8<c.procs.length
 ·have e4:(8<(c.procs.length:Int))=True:=eq_true (by omega);simp(disch:=omega)only[go_sem,e4,decide_true];refine Ap _ ?_;exact wb (by simp[Gf,show ¬ c.procs.length≤8 by omega])
 have e4:(8<(c.procs.length:Int))=False:=eq_false (by omega);simp(disch:=omega)only[go_sem,e4,decide_false];have base:Gf c=((AN c.Aa).all (fun p=>decide (0≤E5 c.procs p))&&B2 (Ep c) c.procs):=by
  simp[Gf,h3,show 0≤c.now by omega,show c.now≤1073741824 by omega,show c.procs.length≤8 by omega]
 rw[base];have hpl:(AN c.Aa).length≤8:=by simp only[Gb,and_eq_true,decide_eq_true_eq]at h3;exact h3.2
 refine Bn ⟨⟨[],[],[]⟩,[(0,1792)],[]⟩ (f75_ok c.Aa h.n h.q) gI rfl trivial (.inl rfl) ?_;refine gO ?_;generalize AN c.Aa=ps at hpl;refine Ab (α:=Nat) (fun i=>⟨[(4,I i),(3,.sl (.own 1792 0) 3 (ps.map Ae.c)),(1,.ptr 64 0)],[(64,c.c)]⟩) (fun i=>i≤(ps).length∧(ps.take i).all (fun p=>decide (0≤E5 c.procs p))=true) (fun i=>(ps).length-i) 0 ⟨by omega,rfl⟩ ?_ ?_
 ·exact BB
 rintro i ⟨hi,hP⟩ J hJ;refine gO ?_;refine ⟨fun hlt=>?_,fun hge=>?_⟩;rotate_left;have hil:i=(ps).length:=by simp at hge;omega
 rotate_left;obtain⟨b,hb⟩:∃ b,(ps)[i]?=some b:=⟨_,gE (by simp at hlt;omega)⟩;have hbm:=mG hb;have hlt2:i<(ps).length:=by simp at hlt;omega
 ·refine Aq 6 [([],[1]),([],[35]),([],[3]),([],[4]),([],[37,38]),([],[39])] fol ?_;simp(disch:=omega)only[go_sem,gm,hb]
  first|(refine Ac (f69_ok c.procs b) ?_)|(refine Ar (f69_ok c.procs b) ?_)
  by_cases h5:E5 c.procs b<0
  ·simp(disch:=omega)only[go_sem,eq_true h5,decide_true];refine Ap _ ?_;exact wb (by rw[all_eq_false.2 ⟨b,hbm,by simp;omega⟩];rfl)
  ·simp(disch:=omega)only[go_sem,eq_false h5,decide_false];refine hJ _ (i+1) ⟨by simp at hlt;omega,(by rw[take_add_one,hb,all_append,hP];simp;omega)⟩ (by simp at hlt;omega) AR
 subst hil;rw[take_length]at hP;rw[hP,Bool.true_and];clear hJ hi hge;refine Ab (α:=Nat) (fun i=>⟨[(5,I i),(1,.ptr 64 0)],[(64,c.c)]⟩) (fun i=>i≤(c.procs).length∧B2 (Ep c) (c.procs.take i)=true) (fun i=>(c.procs).length-i) 0 ⟨by omega,rfl⟩ ?_ ?_
 ·exact BB
 rintro i ⟨hi,hP⟩ J hJ;refine gO ?_;refine ⟨fun hlt=>?_,fun hge=>?_⟩;rotate_left;have hil:i=(c.procs).length:=by simp at hge;omega
 rotate_left;obtain⟨b,hb⟩:∃ b,(c.procs)[i]?=some b:=⟨_,gE (by simp at hlt;omega)⟩;have hbm:=mG hb;have hlt2:i<(c.procs).length:=by simp at hlt;omega
 ·have bad:Ep c i b=false→B2 (Ep c) c.procs=false:=fun h=>Bx hb h
  have good:Ep c i b=true→B2 (Ep c) (c.procs.take (i+1))=true:=fun h=>by rw[B7 hb,hP,h];rfl
  refine Aq 25 [([],[1]),([],[1]),([],[51]),([],[5]),([],[52,53]),([],[54]),([],[50,55]),([6],[56]),([6],[57]),([6],[5,58]),([6],[59,58]),([6],[60,58]),([6],[1,61]),([6],[62,61]),([6],[5,61]),([6],[64,61]),([6],[63,65,61]),([6],[66,61]),([6],[67,61]),([6],[1,61]),([6],[69,61]),([6],[5,61]),([6],[70,71,61]),([6],[72,61]),([6],[73,61])] fol ?_;simp(disch:=omega)only[go_sem,gm,hb]
  first|(refine Ac (f116_ok c b h (by omega)) ?_)|(refine Ar (f116_ok c b h (by omega)) ?_)
  cases h6:Fk c.now c.Aa b
  ·simp(disch:=omega)only[go_sem,Bool.not_false];refine Ap _ ?_;exact wb (by rw[bad (by simp[Ep,h6])])
  by_cases hi0:i=0
  ·subst hi0;simp(disch:=omega)only[go_sem,Bool.not_true];refine hJ _ 1 ⟨by omega,good (by simp[Ep,h6])⟩ (by omega) AR
  ·have hi1:(0<(i:Int))=True:=eq_true (by omega);have hi2:((i:Int)-1)=((i-1:Nat):Int):=by omega
   obtain⟨a,ha'⟩:∃ a,c.procs[i-1]?=some a:=⟨_,gE (by omega)⟩;have had:c.procs.getD (i-1) x0=a:=by simp[List.getD,ha']
   simp(disch:=omega)only[go_sem,Bool.not_true,hi1,hi2,gm,ha',hb]
   first|(refine Ac (f107_ok a.proc b.proc) ?_)|(refine Ar (f107_ok a.proc b.proc) ?_)
   by_cases h7:0≤Bo a.proc b.proc
   ·simp(disch:=omega)only[go_sem,eq_true h7,decide_true];refine Ap _ ?_;exact wb (by rw[bad (by simp only[Ep,had,h6];simp[hi0];omega)])
   ·simp(disch:=omega)only[go_sem,eq_false h7,decide_false];refine hJ _ (i+1) ⟨by omega,good (by simp only[Ep,had,h6];simp[hi0];omega)⟩ (by omega) AR
 subst hil;rw[take_length]at hP;refine Ap _ ?_;exact wb (by rw[hP])
def prN(e:Expr):Nat→List Bool→List Bool
 | 0,o=>o
 | k+1,o=>prN e k (if o.getD k false then o.set k (!DL (DD (Ag e) (o.set k false)) e) else o)
theorem W8(e:Expr):∀ k o,(prN e k o).length=o.length
 | 0,_=>rfl
 | k+1,o=>by
  simp only[prN];rw[W8 e k];split<;>simp
def DV(e:Expr)(set:List Bool):List Bool:=if A4 e&&DL (DD (Ag e) set) e then prN e (Ag e).length ((List.range (Ag e).length).map fun i=>set.getD i false) else List.replicate (Ag e).length false
theorem Wp(e:Expr)(set:List Bool):(DV e set).length=(Ag e).length:=by
 unfold DV;split
 ·rw[W8];simp
 ·simp
theorem f189_ok(e:Expr)(set:List Bool):Ad C0 189 [.agg e.c,GN set] [] (GN (DV e set)) []:=by
 refine Ad.lens f189 fun hlen=>?_
 simp only[D9,lens,Expr.By,length_map,and_true,true_and]at hlen;have hal:=Cj e;refine Ad.go f189 ?_;unfold f189;refine gO ?_;refine Ai (f150_ok e) (by simp(disch:=omega)only[go_sem,Expr.By]) rfl ?_;cases h1:A4 e
 ·have hd:DV e set=List.replicate (Ag e).length false:=by simp[DV,h1]
  rw[hd];simp(disch:=omega)only[go_sem,Bool.not_false];refine Cf ⟨[],[],[1088]⟩ _ ?_;refine gO ?_;exact .sl (by simp)
 simp(disch:=omega)only[go_sem,Bool.not_true];refine Ac (f151_ok (Ag e) set (by omega) _ e (Nat.lt_succ_self _) [] (Eh h1)) ?_;cases h2:DL (DD (Ag e) set) e
 ·have hd:DV e set=List.replicate (Ag e).length false:=by simp[DV,h1,h2]
  rw[hd];simp(disch:=omega)only[go_sem,Bool.not_false];refine Cf ⟨[],[],[1088]⟩ _ ?_;refine gO ?_;exact .sl (by simp)
 simp(disch:=omega)only[go_sem,Bool.not_true];have hd:DV e set=prN e (Ag e).length ((List.range (Ag e).length).map fun i=>set.getD i false):=by simp[DV,h1,h2]
 rw[hd];obtain⟨G,hG⟩:∃ G,G=(List.range (Ag e).length).map fun i=>set.getD i false:=⟨_,rfl⟩
 rw[← hG];have hGl:G.length=(Ag e).length:=by rw[hG];simp
 have hGi:∀ i,i<(Ag e).length→G[i]?=some (set.getD i false):=fun i hi=>by rw[hG,gm,List.getElem?_range hi];rfl
 clear hG hd;refine Ab (α:=Nat) (fun i=>⟨[(8,I i),(7,.sl (.own 1088 0) 1 ((Fy G i).map fun b=>[B b])),(5,Bv (Ag e)),(1,GN set),(2,.ptr 128 0)],[(128,e.c)]⟩) (fun i=>i≤((Ag e)).length∧True) (fun i=>((Ag e)).length-i) 0 ⟨by omega,trivial⟩ ?_ ?_
 ·refine Imp.Am ?_ ?_
  all_goals(try simp(disch:=omega)only[go_sem])
  all_goals(try(repeat'(with_reducible apply And.intro)))
  all_goals(first|exact .AG (by omega)|exact .Az (by omega)|exact .sl (by simp[Fy,hGl])|exact .int (by simp[Fy,hGl])|exact .eq (by simp[Fy,hGl]))
 rintro i ⟨hi,hP⟩ J hJ;refine gO ?_;refine ⟨fun hlt=>?_,fun hge=>?_⟩;rotate_left;have hil:i=((Ag e)).length:=by simp at hge;omega
 rotate_left;obtain⟨b,hb⟩:∃ b,((Ag e))[i]?=some b:=⟨_,gE (by simp at hlt;omega)⟩;have hbm:=mG hb;have hlt2:i<((Ag e)).length:=by simp at hlt;omega
 ·have hfl:=RR (G:=G) (i:=i) (by omega);have hfg:=RQ (G:=G) (i:=i) (by omega);have hfs:=RS (hGi i hlt2);generalize Fy G i=M at hfl hfg hfs ⊢
  by_cases hs:i<set.length
  ·obtain⟨y,hy⟩:∃ y,set[i]?=some y:=⟨_,gE hs⟩;have e4:set.getD i false=y:=by simp[List.getD,hy]
   rw[e4]at hfs;simp(disch:=omega)only[go_sem,eq_true (show (i:Int)<(set.length:Int) by omega),decide_true,gm,hy,hfg];refine hJ _ (i+1) ⟨by omega,trivial⟩ (by omega) (Imp.Am ?_ gI);refine gO ?_;exact .sl (by rw[← hfs,map_set])
  ·have e4:set.getD i false=false:=by simp[List.getD,List.getElem?_eq_none (by omega:set.length≤i)]
   rw[e4]at hfs;simp(disch:=omega)only[go_sem,eq_false (show ¬ ((i:Int)<(set.length:Int)) by omega),decide_false,gm,hfg];refine hJ _ (i+1) ⟨by omega,trivial⟩ (by omega) (Imp.Am ?_ gI);refine gO ?_;exact .sl (by rw[← hfs,map_set])
 subst hil;have e3:Fy G (Ag e).length=G:=by rw[← hGl,RP]
 rw[e3];clear hJ hi hge;refine Ab (α:=Nat × List Bool) (fun q=>⟨[(9,I ((q.1:Int)-1)),(7,.sl (.own 1088 0) 1 (q.2.map fun b=>[B b])),(5,Bv (Ag e)),(2,.ptr 128 0)],[(128,e.c)]⟩) (fun q=>q.1≤(Ag e).length∧q.2.length=(Ag e).length∧prN e (Ag e).length G=prN e q.1 q.2) (fun q=>q.1) ((Ag e).length,G) ⟨Nat.le_refl _,hGl,rfl⟩ AR ?_;rintro⟨k,o⟩ ⟨hk,hol,ho⟩ J hJ
 replace hk:k≤(Ag e).length:=hk
 replace hol:o.length=(Ag e).length:=hol
 replace ho:prN e (Ag e).length G=prN e k o:=ho
 cases k with
 | zero =>
  have e5:(0≤((0:Nat):Int)-1)=False:=eq_false (by omega);simp(disch:=omega)only[go_sem,e5,decide_false];rw[ho];refine Cf ⟨[],[],[1088]⟩ _ ?_;simp(disch:=omega)only[go_sem,prN]
 | succ k =>
  have e5:(0≤((k+1:Nat):Int)-1)=True:=eq_true (by omega);have e6:((k+1:Nat):Int)-1=(k:Int):=by omega
  have e7:(k:Int)+1-1=(k:Int):=by omega
  have e8:(0≤(k:Int))=True:=eq_true (by omega);obtain⟨y,hy⟩:∃ y,o[k]?=some y:=⟨_,gE (by omega)⟩;have hyd:o.getD k false=y:=by simp[List.getD,hy]
  simp only[prN,hyd]at ho;have hkl:k<o.length:=by omega
  show _;cases y
  ·simp only[false_eq_true,if_false]at ho;simp(disch:=omega)only[go_sem,e6,e7,e8,decide_true,gm,hy];refine hJ _ (k,o) ⟨show k≤_ by omega,hol,ho⟩ (show k<k+1 by omega) (Imp.Am ?_ gI);simp(disch:=omega)only[go_sem]
  ·simp only[if_true]at ho;have hmo:((o.map fun b=>[B b]).set k [B false])=(o.set k false).map fun b=>[B b]:=by rw[map_set]
   have hg2:(o.set k false)[k]?=some false:=by simp[hkl]
   have hsl:(o.set k false).length=o.length:=by simp
   have hss:(o.set k false).set k (!DL (DD (Ag e) (o.set k false)) e)=o.set k (!DL (DD (Ag e) (o.set k false)) e):=by simp
   generalize ho2:o.set k false=o2 at hmo hg2 hsl ho hss;have hkl2:k<o2.length:=by omega
   simp(disch:=omega)only[go_sem,e6,e7,e8,decide_true,gm,hy,hmo];refine C2 [1088] (f151_ok (Ag e) o2 (by omega) _ e (Nat.lt_succ_self _) [] (Eh h1)) (by simp(disch:=omega)only[go_sem,hmo]) rfl trivial ?_;simp(disch:=omega)only[go_sem,gm,hg2,hmo];refine hJ _ (k,o.set k (!DL (DD (Ag e) o2) e)) ⟨show k≤_ by omega,by show (o.set k _).length=_;simp[hol],ho⟩ (show k<k+1 by omega) (Imp.Am ?_ gI);simp(disch:=omega)only[go_sem,hmo]
   try exact .sl (by rw[← hss,map_set])
end Go.Rd
