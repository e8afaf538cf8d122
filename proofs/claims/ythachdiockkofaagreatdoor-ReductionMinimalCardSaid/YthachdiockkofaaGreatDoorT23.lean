/- part 23 of the proof -/
import Derived.Test.YthachdiockkofaaGreatDoorT17
import Derived.Test.YthachdiockkofaaGreatDoorT22
set_option linter.all false
open Go Go.Abs Go.Proofs
set_option maxRecDepth 100000
namespace Go.Rd
set_option maxHeartbeats 8000000
open List (all_append all_eq_false length_map map_nil map_set take_add_one take_length)
open Bool (and_eq_true false_eq_true)
open Tryz
theorem DR23{X:Env}{st:St}{y:AV}{rs:List ResultVar}(xs:List AV)(h1:CX X.C st rs=some xs:=by(try simp(disch:=omega)only[go_sem,CX,Jm])<;>rfl)(h4:Bz ((pack xs).ren ⟨[],[],[]⟩) y:=by
 refine gO ?_
 refine .tup (Af.AD ?_)
 simp(disch:=omega)only[go_sem]
 repeat'(with_reducible apply And.intro)
 all_goals(first|exact .Au (by omega)|exact .agg (Af.AD (by simp(disch:=omega)only[go_sem]))))(h3:∀ s∈X.ext,lk s []=some s:=by simp):PZ X rs y [] .ret st:=BP xs h4 h1 h3
def e0:Expr:=.mk 0 a0 []
def Df:Req:=⟨e0,0,0⟩
def OO(e:Expr):Bool:=e.k==0&&decide (e.atom=a0)&&decide (e.kids.length=0)
def Wj(r:Req):Bool:=OO r.expr&&r.prio==0&&r.limit==0
theorem ZD(e:Expr):Ac C0 137 [.agg e.c,.agg e0.c] [] (B (OO e)) []:=by
 refine Ac.lens f137 fun hlen=>?_
 simp only[Ec,lens,Expr.Cb,length_map,and_true,true_and]at hlen
 refine Ac.go f137 ?_
 unfold f137
 have k1:e0.k=0:=rfl
 have k2:e0.atom=a0:=rfl
 have k3:e0.kids=[]:=rfl
 have ez:(e.atom.name==[]&&(e.atom.amt.mode==0&&e.atom.amt.units==0))=decide (e.atom=a0):=Rl e.atom
 by_cases h1:e.k=0
 rotate_left
 ·have h1':(e.k !=0)=true:=by simp[h1]
  simp(disch:=omega)only[go_sem,k1,k2,k3,a0,map_nil,h1',Bool.not_false,Bool.not_true]
  refine Ak _ ?_
  exact wb (by simp[OO,h1])
 have h1':(e.k !=0)=false:=by simp[h1]
 by_cases h2:e.atom=a0
 rotate_left
 ·rw[decide_eq_false h2]at ez
  simp(disch:=omega)only[go_sem,k1,k2,k3,a0,map_nil,h1',ez,Bool.not_false,Bool.not_true]
  refine Ak _ ?_
  exact wb (by simp[OO,h2])
 rw[decide_eq_true h2]at ez
 by_cases h3:e.kids.length=0
 rotate_left
 ·have h3':((e.kids.length:Int) !=0)=true:=by simp only[bne_iff_ne,ne_eq];omega
  simp(disch:=omega)only[go_sem,k1,k2,k3,a0,map_nil,h1',ez,h3',Bool.not_false,Bool.not_true]
  refine Ak _ ?_
  exact wb (by simp[OO,h3])
 have h3':((e.kids.length:Int) !=0)=false:=by simp[h3]
 simp(disch:=omega)only[go_sem,k1,k2,k3,a0,map_nil,h1',ez,h3',Bool.not_false,Bool.not_true]
 refine Ab (α:=Nat) (fun i=>⟨[(5,I i),(2,.ptr 128 0)],[(128,e.c)]⟩) (fun i=>i≤(e.kids).length∧True) (fun i=>(e.kids).length-i) 0 ⟨by omega,trivial⟩ ?_ ?_
 ·exact Bu
 rintro i ⟨hi,hP⟩ J hJ
 refine gO ?_
 refine ⟨fun hlt=>?_,fun hge=>?_⟩
 rotate_left
 have hil:i=(e.kids).length:=by simp at hge;omega
 rotate_left
 obtain⟨b,hb⟩:∃ b,(e.kids)[i]?=some b:=⟨_,gE (by simp at hlt;omega)⟩
 have hbm:=mG hb
 have hlt2:i<(e.kids).length:=by simp at hlt;omega
 ·omega
 ·refine Ak _ ?_
  exact wb (by simp[OO,h1,h2,h3])
theorem ZE(r:Req):Ac C0 172 [.agg r.c,.agg Df.c] [] (B (Wj r)) []:=by
 have k1:Df.expr=e0:=rfl
 have k4:Df.prio=0:=rfl
 have k5:Df.limit=0:=rfl
 refine Ac.go f172 ?_
 unfold f172
 simp(disch:=omega)only[go_sem,k1,k4,k5]
 refine Aa (ZD r.expr) ?_
 cases h1:OO r.expr
 ·simp(disch:=omega)only[go_sem]
  refine Ak _ ?_
  exact wb (by simp[Wj,h1])
 simp(disch:=omega)only[go_sem,k4,k5]
 cases h2:(r.prio==0)
 ·simp(disch:=omega)only[go_sem,h2]
  refine Ak _ ?_
  exact wb (by simp[Wj,h1,h2])
 simp(disch:=omega)only[go_sem,h2]
 refine Ak _ ?_
 exact wb (by simp only[Wj,h1,h2];rfl)
def HH(r:Req):Bool:=AQ r.expr&&decide (0≤r.prio)&&decide (r.prio≤7)&&decide (0≤r.limit)&&decide (r.limit≤1000)
theorem f176_ok(r:Req):Ac C0 176 [.agg r.c] [] (B (HH r)) []:=by
 refine Ac.go f176 ?_
 unfold f176
 refine gO ?_
 refine Ae (f106_ok r.expr) (by simp(disch:=omega)only[go_sem,Expr.Cb]) rfl ?_
 cases h1:AQ r.expr
 ·simp(disch:=omega)only[go_sem]
  refine Ak _ ?_
  exact wb (by simp[HH,h1])
 simp(disch:=omega)only[go_sem]
 repeat'(with_reducible refine And.intro (fun h=>?_) (fun h=>?_))
 all_goals(refine BP _ ?_)
 all_goals(try simp(disch:=omega)only[go_sem])
 all_goals(first|refine wb ?_|refine wi ?_|refine .eq ?_)
 all_goals(first|(simp_all[HH,h1]<;>omega)|(refine Bool.eq_iff_iff.2 ?_;simp_all[HH,h1]<;>omega))
def II(l:List Res)(i:Nat)(r:Res):Bool:=KM r&&(decide (i=0)||Dg (l.getD (i-1) r0).name r.name)
def Ju(l:List Res):Bool:=decide (l.length≤8)&&BE (II l) l
theorem f168_ok(l:List Res):Ac C0 168 [EA l] [] (B (Ju l)) []:=by
 refine Ac.go f168 ?_
 unfold f168
 by_cases hq:8<l.length
 ·have e1:(8<(l.length:Int))=True:=eq_true (by omega)
  have e:Ju l=false:=by simp[Ju];omega
  simp(disch:=omega)only[go_sem,e1]
  refine Ak _ ?_
  exact wb (by simp[e])
 have e1:(8<(l.length:Int))=False:=eq_false (by omega)
 simp(disch:=omega)only[go_sem,e1,decide_false]
 refine Ab (α:=Nat) (fun i=>⟨[(3,I i),(0,EA l)],[]⟩) (fun i=>i≤(l).length∧BE (II l) (l.take i)=true) (fun i=>(l).length-i) 0 ⟨by omega,rfl⟩ ?_ ?_
 ·exact Bu
 rintro i ⟨hi,hP⟩ J hJ
 refine gO ?_
 refine ⟨fun hlt=>?_,fun hge=>?_⟩
 rotate_left
 have hil:i=(l).length:=by simp at hge;omega
 rotate_left
 obtain⟨b,hb⟩:∃ b,(l)[i]?=some b:=⟨_,gE (by simp at hlt;omega)⟩
 have hbm:=mG hb
 have hlt2:i<(l).length:=by simp at hlt;omega
 refine Aj 21 [([],[0]),([],[3]),([],[13,14]),([],[15]),([],[16]),([4],[17]),([4],[18]),([4],[3,19]),([4],[20,19]),([4],[21,19]),([4],[0,22]),([4],[3,22]),([4],[24,22]),([4],[23,25,22]),([4],[26,22]),([4],[27,22]),([4],[0,22]),([4],[3,22]),([4],[29,30,22]),([4],[31,22]),([4],[32,22])] fol ?_
 simp(disch:=omega)only[go_sem,gm,hb]
 ·have bad:II l i b=false→Ju l=false:=fun h=>by simp only[Ju,Ba hb h,Bool.and_false]
  have good:II l i b=true→BE (II l) (l.take (i+1))=true:=fun h=>by rw[BI hb,hP,h];rfl
  first|(refine Aa (f246_ok b) ?_)|(refine Ai (f246_ok b) ?_)
  have hv':(CH b.name&&b.shaped&&between b.home 0 3)=KM b:=rfl
  rw[hv']
  cases hv:KM b
  ·simp(disch:=omega)only[go_sem]
   refine Ak _ ?_
   exact wb (by rw[bad (by simp[II,hv])])
  by_cases hi0:i=0
  ·subst hi0
   refine gO ?_
   refine hJ _ 1 ⟨by simp at hlt;omega,good (by simp[II,hv])⟩ (by simp at hlt;omega) AE
  ·have hi1:(0<(i:Int))=True:=eq_true (by omega)
   have hi2:((i:Int)-1)=((i-1:Nat):Int):=by omega
   obtain⟨a,ha'⟩:∃ a,l[i-1]?=some a:=⟨_,gE (by simp at hlt;omega)⟩
   have had:l.getD (i-1) r0=a:=by simp[List.getD,ha']
   simp(disch:=omega)only[go_sem,hi1,hi2,gm,ha',hb]
   refine And.intro (fun hh=>?_) (fun hh=>?_)
   ·refine Ak _ ?_
    exact wb (by rw[bad (by simp only[II,had,hv];simp[hi0];simpa [Dg]using hh)])
   ·refine hJ _ (i+1) ⟨by simp at hlt;omega,good (by simp only[II,had,hv];simp[hi0];simpa [Dg]using hh)⟩ (by simp at hlt;omega) AE
 subst hil
 rw[take_length]at hP
 have hqs:Ju l=true:=by simp[Ju,hP];omega
 refine Ak _ ?_
 exact wb (by rw[hqs])
def E1(l:List Res)(a:Atom):Int:=if !Ju l then 2 else match Nx l a.name with
 |none=>10
 |some r=>if r.fits a.amt then 0 else 12
theorem f252_ok(l:List Res)(a:Atom):Ac C0 252 [EA l,.agg a.c] [] (I (E1 l a)) []:=by
 refine Ac.go f252 ?_
 unfold f252
 refine gO ?_
 refine Aa (f168_ok l) ?_
 cases h1:Ju l
 ·simp(disch:=omega)only[go_sem,Bool.not_false]
  refine Ak _ ?_
  exact wi (by simp[E1,h1])
 simp(disch:=omega)only[go_sem,Bool.not_true]
 refine Aa (f288_ok l a.name) ?_
 cases hf:Nx l a.name with
 |none =>
  simp(disch:=omega)only[go_sem,Option.isSome_none,Option.getD_none,r0]
  refine Ak _ ?_
  exact wi (by simp[E1,h1,hf])
 |some r =>
  simp(disch:=omega)only[go_sem,Option.isSome_some,Option.getD_some]
  refine Aa (f171_ok r a.amt) ?_
  cases h2:r.fits a.amt
  ·simp(disch:=omega)only[go_sem,Bool.not_false]
   refine Ak _ ?_
   exact wi (by simp[E1,h1,hf,h2])
  ·simp(disch:=omega)only[go_sem,Bool.not_true]
   refine Ak _ ?_
   exact wi (by simp[E1,h1,hf,h2])
def Fu(l:List Res):List Atom→Int
 |[]=>0
 | a::az=>if E1 l a=0 then Fu l az else E1 l a
def Cu(l:List Res)(e:Expr):Int:=if AQ e then Fu l (Ag e) else 1
theorem f177_ok(l:List Res)(e:Expr):Ac C0 177 [EA l,.agg e.c] [] (I (Cu l e)) []:=by
 refine Ac.go f177 ?_
 unfold f177
 refine gO ?_
 refine Aa (f150_ok e) ?_
 cases h1:AQ e
 ·simp(disch:=omega)only[go_sem,Bool.not_false]
  refine Ak _ ?_
  exact wi (by simp[Cu,h1])
 simp(disch:=omega)only[go_sem,Bool.not_true]
 have e1:Cu l e=Fu l (Ag e):=by simp[Cu,h1]
 rw[e1]
 have hal:(Ag e).length≤1000000:=by have:=Ci e;omega
 generalize Ag e=az at hal
 refine Ab (α:=Nat) (fun i=>⟨[(7,I i),(5,Be az),(0,EA l)],[]⟩) (fun i=>i≤(az).length∧Fu l az=Fu l (az.drop i)) (fun i=>(az).length-i) 0 ⟨by omega,rfl⟩ ?_ ?_
 ·exact Bu
 rintro i ⟨hi,hP⟩ J hJ
 refine gO ?_
 refine ⟨fun hlt=>?_,fun hge=>?_⟩
 rotate_left
 have hil:i=(az).length:=by simp at hge;omega
 rotate_left
 obtain⟨b,hb⟩:∃ b,(az)[i]?=some b:=⟨_,gE (by simp at hlt;omega)⟩
 have hbm:=mG hb
 have hlt2:i<(az).length:=by simp at hlt;omega
 ·have hd:az.drop i=b::az.drop (i+1):=by rw[List.drop_eq_getElem_cons hlt2,get_eq hb]
  simp(disch:=omega)only[go_sem,gm,hb]
  refine Aa (f252_ok l b) ?_
  cases hz:(E1 l b !=0)
  ·simp(disch:=omega)only[go_sem,hz]
   refine hJ _ (i+1) ⟨by simp at hlt;omega,(by rw[hP,hd];simp only[Fu];rw[if_pos (by simpa using hz)])⟩ (by simp at hlt;omega) AE
  ·simp(disch:=omega)only[go_sem,hz]
   refine Ak _ ?_
   exact wi (by rw[hP,hd];simp only[Fu];rw[if_neg (by simpa using hz)])
 ·subst hil
  refine Ak _ ?_
  exact wi (by rw[hP,List.drop_length];rfl)
def EY(G:List Bool)(i:Nat):List Bool:=G.take i++List.replicate (G.length-i) false
theorem Qn{G:List Bool}{i:Nat}(h:i≤G.length):(EY G i).length=G.length:=by simp[EY];omega
theorem Qm{G:List Bool}{i:Nat}(h:i<G.length):(EY G i)[i]?=some false:=by
 unfold EY
 rw[List.getElem?_append_right (by simp;omega),List.getElem?_replicate]
 simp;omega
theorem Qo{G:List Bool}{i:Nat}{b:Bool}(hb:G[i]?=some b):(EY G i).set i b=EY G (i+1):=by
 have hi:=Al hb
 unfold EY
 rw[List.set_append_right _ _ (by simp;omega)]
 simp only[List.length_take,Nat.min_eq_left (Nat.le_of_lt hi),Nat.sub_self]
 rw[show G.length-i=(G.length-(i+1))+1 by omega,List.replicate_succ,List.set_cons_zero,take_add_one,hb]
 simp
theorem Ql(G:List Bool):EY G G.length=G:=by simp[EY]
def Es(l:List Pcs)(p:Proc):Int:=match l.findIdx? (fun x=>decide (x.proc=p)) with|some i=>i|none=>-1
theorem f69_ok(l:List Pcs)(p:Proc):Ac C0 69 [YS l,.agg p.c] [] (I (Es l p)) []:=by
 refine Ac.lens f69 fun hlen=>?_
 simp only[Ec,lens,length_map,and_true,true_and]at hlen
 refine Ac.go f69 ?_
 unfold f69
 refine gO ?_
 refine Ab (α:=Nat) (fun i=>⟨[(5,I i),(0,YS l),(3,.ptr 192 0)],[(192,p.c)]⟩) (fun i=>i≤(l).length∧(l.take i).find? (fun x=>decide (x.proc=p))=none) (fun i=>(l).length-i) 0 ⟨by omega,rfl⟩ ?_ ?_
 ·exact Bu
 rintro i ⟨hi,hP⟩ J hJ
 refine gO ?_
 refine ⟨fun hlt=>?_,fun hge=>?_⟩
 rotate_left
 have hil:i=(l).length:=by simp at hge;omega
 rotate_left
 obtain⟨b,hb⟩:∃ b,(l)[i]?=some b:=⟨_,gE (by simp at hlt;omega)⟩
 have hbm:=mG hb
 have hlt2:i<(l).length:=by simp at hlt;omega
 refine Aj 6 [([],[0]),([],[5]),([],[12,13]),([],[14]),([],[15]),([],[3])] fol ?_
 simp(disch:=omega)only[go_sem,gm,hb]
 ·refine⟨fun h=>?_,fun h=>?_⟩
  ·have e:Es l p=i:=by unfold Es;rw[Fp hP b hb (by simpa using h)]
   simp(disch:=omega)only[go_sem,e]
   exact Av _
  ·refine hJ _ (i+1) ⟨by simp at hlt;omega,(by rw[BA hP hb];simp at h;simp[h])⟩ (by simp at hlt;omega) AE
 ·subst hil
  rw[take_length]at hP
  have e:Es l p = -1:=by
   have:l.findIdx? (fun x=>decide (x.proc=p))=none:=by
    rw[List.findIdx?_eq_none_iff]
    rw[List.find?_eq_none]at hP
    intro x hx
    simpa using hP x hx
   unfold Es;rw[this]
  simp(disch:=omega)only[go_sem,e]
  exact Av _
def FA(t:List Queue):List Res:=t.map (·.res)
theorem f178_ok(t:List Queue)(h:t.length≤1000000):Ac C0 178 [At t] [] (EA (FA t)) []:=by
 refine Ac.go f178 ?_
 unfold f178
 refine gO ?_
 refine Ab (α:=Nat) (fun i=>⟨[(4,I i),(3,.sl (.own 1152 0) 4 ((FA (t.take i)).map Res.c)),(0,At t)],[]⟩) (fun i=>i≤(t).length∧True) (fun i=>(t).length-i) 0 ⟨by omega,trivial⟩ ?_ ?_
 ·refine Imp.weak ?_ ?_
  all_goals(try simp(disch:=omega)only[go_sem])
  all_goals(try(repeat'(with_reducible apply And.intro)))
  all_goals(first|exact .AA (by omega)|exact .Au (by omega)|exact .sl (by simp[FA])|exact .int (by simp[FA])|exact .eq (by simp[FA]))
 rintro i ⟨hi,hP⟩ J hJ
 refine gO ?_
 refine ⟨fun hlt=>?_,fun hge=>?_⟩
 rotate_left
 have hil:i=(t).length:=by simp at hge;omega
 rotate_left
 obtain⟨b,hb⟩:∃ b,(t)[i]?=some b:=⟨_,gE (by simp at hlt;omega)⟩
 have hbm:=mG hb
 have hlt2:i<(t).length:=by simp at hlt;omega
 ·have hbd:(FA (t.take i)).length+1≤4294967296:=by simp[FA];omega
  simp(disch:=omega)only[go_sem,gm,hb]
  refine hJ _ (i+1) ⟨by simp at hlt;omega,trivial⟩ (by simp at hlt;omega) (Imp.weak ?_ ?_)
  all_goals(try simp(disch:=omega)only[go_sem])
  all_goals(try(repeat'(with_reducible apply And.intro)))
  all_goals(first|exact .AA (by omega)|exact .Au (by omega)|exact .sl (by simp[FA,take_add_one,hb,Res.c])|exact .int (by simp[FA,take_add_one,hb,Res.c])|exact .eq (by simp[FA,take_add_one,hb,Res.c]))
 ·subst hil
  rw[take_length]
  refine B3 ⟨[],[],[1152]⟩ _ ?_
  simp(disch:=omega)only[go_sem]
def MK(t:List Queue)(p:Proc)(a:Atom):Bool:=match BR t a.name with
 |none=>false
 |some k=>(t.getD k q0).res.covers (Ap (t.getD k q0).holds p) a.amt
def Bf(t:List Queue)(p:Proc)(e:Expr):List Bool:=(Ag e).map (MK t p)
theorem f179_ok(t:List Queue)(p:Proc)(e:Expr)(h:Di t):Ac C0 179 [At t,.agg p.c,.agg e.c] [] (G5 (Bf t p e)) []:=by
 have hn:=h.n
 have hal:=Ci e
 refine Ac.go f179 ?_
 unfold f179
 refine gO ?_
 refine Ae (f93_ok e) (by simp(disch:=omega)only[go_sem,Expr.Cb]) rfl ?_
 refine gO ?_
 have hgl:(Bf t p e).length=(Ag e).length:=by simp[Bf]
 refine Ab (α:=Nat) (fun i=>⟨[(9,I i),(0,At t),(4,.ptr 256 0),(7,Be (Ag e)),(8,.sl (.own 960 0) 1 ((EY (Bf t p e) i).map fun b=>[B b]))],[(256,p.c)]⟩) (fun i=>i≤((Ag e)).length∧True) (fun i=>((Ag e)).length-i) 0 ⟨by omega,trivial⟩ ?_ ?_
 ·refine Imp.weak ?_ ?_
  all_goals(try simp(disch:=omega)only[go_sem])
  all_goals(try(repeat'(with_reducible apply And.intro)))
  all_goals(first|exact .AA (by omega)|exact .Au (by omega)|exact .sl (by simp[EY,Bf])|exact .int (by simp[EY,Bf])|exact .eq (by simp[EY,Bf]))
 rintro i ⟨hi,hP⟩ J hJ
 refine gO ?_
 refine ⟨fun hlt=>?_,fun hge=>?_⟩
 rotate_left
 have hil:i=((Ag e)).length:=by simp at hge;omega
 rotate_left
 obtain⟨b,hb⟩:∃ b,((Ag e))[i]?=some b:=⟨_,gE (by simp at hlt;omega)⟩
 have hbm:=mG hb
 have hlt2:i<((Ag e)).length:=by simp at hlt;omega
 ·have hfl:=Qn (G:=Bf t p e) (i:=i) (by omega)
  have hfg:=Qm (G:=Bf t p e) (i:=i) (by omega)
  have hgi:(Bf t p e)[i]?=some (MK t p b):=by simp[Bf,hb]
  have hfs:=Qo hgi
  generalize EY (Bf t p e) i=M at hfl hfg hfs ⊢
  simp(disch:=omega)only[go_sem,gm,hb]
  refine Aa (Ia t b.name (by omega)) ?_
  cases hf:BR t b.name with
  |none =>
   have eg:MK t p b=false:=by simp[MK,hf]
   rw[eg]at hfs
   have hMs:M.set i false=M:=by
    apply List.ext_getElem?
    intro j
    rw[List.getElem?_set]
    split
    ·rename_i hij;subst hij;rw[if_pos (by omega),hfg]
    ·rfl
   rw[hMs]at hfs
   simp(disch:=omega)only[go_sem,atI]
   refine hJ _ (i+1) ⟨by omega,trivial⟩ (by omega) (Imp.weak ?_ (by simp(disch:=omega)only[go_sem]))
   refine gO ?_
   exact .sl (by rw[← hfs])
  |some k =>
   obtain⟨hk,q,hq,_⟩:=CK hf
   have eg:MK t p b=q.res.covers (Ap q.holds p) b.amt:=by simp[MK,hf,List.getD,hq]
   rw[eg]at hfs
   obtain⟨q1,q2,q3⟩:=A5 (h.q q (mG hq))
   simp(disch:=omega)only[go_sem,atI,eq_true (show (0:Int)≤(k:Int) by omega),decide_true]
   refine Aj 19 [([],[8]),([],[9]),([],[0]),([],[10]),([],[33,34]),([],[35]),([],[36]),([],[0]),([],[10]),([],[38,39]),([],[40]),([],[4]),([],[41,42]),([],[7]),([],[9]),([],[44,45]),([],[46]),([],[47]),([12],[37,43,48])] fol ?_
   simp(disch:=omega)only[go_sem,gm,hb,hq]
   first|(refine Aa (f163_ok q p q1) ?_)|(refine Ai (f163_ok q p q1) ?_)
   simp(disch:=omega)only[go_sem,gm,hb,hq]
   first|(refine Aa (f253_ok q.res (Ap q.holds p) b.amt) ?_)|(refine Ai (f253_ok q.res (Ap q.holds p) b.amt) ?_)
   simp(disch:=omega)only[go_sem,gm,hfg]
   refine hJ _ (i+1) ⟨by omega,trivial⟩ (by omega) (Imp.weak ?_ (by simp(disch:=omega)only[go_sem]))
   refine gO ?_
   exact .sl (by rw[← hfs,map_set])
 ·subst hil
  have e3:EY (Bf t p e) (Ag e).length=Bf t p e:=by rw[← hgl,Ql]
  rw[e3]
  refine B3 ⟨[],[],[960]⟩ _ ?_
  simp(disch:=omega)only[go_sem]
def FD(q:Queue)(x:Pcs):List Atom→Bool
 |[]=>decide (Ap q.holds x.proc=Ar x.led.entries q.res.name)&&!(Ao q x.proc).isSome
 | a::az=>if a.name !=q.res.name then FD q x az else if q.res.covers (Ar x.led.entries q.res.name) a.amt then FD q x az
  else if !(Ao q x.proc).isSome then decide (Ap q.holds x.proc=Ea q.res (Ar x.led.entries q.res.name) a.amt)
  else if q.waits.any (fun w=>decide (w.proc=x.proc)&&w.prio !=x.req.prio) then false
  else decide (Ap q.holds x.proc=Ar x.led.entries q.res.name)&&decide ((Ao q x.proc).getD ⟨0,0⟩=Ea q.res (Ar x.led.entries q.res.name) a.amt)
theorem f180_ok(q:Queue)(x:Pcs)(az:List Atom)(h:Br q≤100)(ha:az.length≤1000000):Ac C0 180 [.agg q.c,.agg x.c,Be az] [] (B (FD q x az)) []:=by
 obtain⟨q1,q2,q3⟩:=A5 h
 refine Ac.go f180 ?_
 unfold f180
 refine gO ?_
 refine Aa (f190_ok x.led.entries q.res.name) ?_
 refine gO ?_
 refine Aa (f163_ok q x.proc q1) ?_
 refine gO ?_
 refine Aa (f98_ok q x.proc q2 q3) ?_
 refine gO ?_
 refine Ab (α:=Nat) (fun i=>⟨[(11,I i),(2,Be az),(3,.ptr 192 0),(4,.ptr 256 0),(7,.ptr 448 0),(8,.ptr 512 0),(9,.ptr 576 0),(10,B (Ao q x.proc).isSome)],[(192,q.c),(256,x.c),(448,(Ar x.led.entries q.res.name).c),(512,(Ap q.holds x.proc).c),(576,((Ao q x.proc).getD ⟨0,0⟩).c)]⟩) (fun i=>i≤(az).length∧FD q x az=FD q x (az.drop i)) (fun i=>(az).length-i) 0 ⟨by omega,rfl⟩ ?_ ?_
 ·exact Bu
 rintro i ⟨hi,hP⟩ J hJ
 refine gO ?_
 refine ⟨fun hlt=>?_,fun hge=>?_⟩
 rotate_left
 have hil:i=(az).length:=by simp at hge;omega
 rotate_left
 obtain⟨b,hb⟩:∃ b,(az)[i]?=some b:=⟨_,gE (by simp at hlt;omega)⟩
 have hbm:=mG hb
 have hlt2:i<(az).length:=by simp at hlt;omega
 ·have hd:az.drop i=b::az.drop (i+1):=by rw[List.drop_eq_getElem_cons hlt2,get_eq hb]
  rw[hd]at hP
  simp only[FD]at hP
  simp(disch:=omega)only[go_sem,gm,hb]
  cases hn:(b.name==q.res.name)
  ·have h1:(b.name !=q.res.name)=true:=by simp[bne,hn]
   rw[h1,if_pos rfl]at hP
   simp(disch:=omega)only[go_sem,h1,hn,Bool.not_false]
   refine hJ _ (i+1) ⟨by simp at hlt;omega,hP⟩ (by simp at hlt;omega) AE
  have h1:(b.name !=q.res.name)=false:=by simp[bne,hn]
  rw[h1]at hP
  simp only[false_eq_true,if_false]at hP
  simp(disch:=omega)only[go_sem,h1,hn,Bool.not_true]
  refine Aa (f253_ok q.res (Ar x.led.entries q.res.name) b.amt) ?_
  cases h2:q.res.covers (Ar x.led.entries q.res.name) b.amt
  rotate_left
  ·rw[h2,if_pos rfl]at hP
   refine gO ?_
   refine hJ _ (i+1) ⟨by simp at hlt;omega,hP⟩ (by simp at hlt;omega) AE
  rw[h2]at hP
  simp only[false_eq_true,if_false]at hP
  refine gO ?_
  refine Aa (f254_ok q.res (Ar x.led.entries q.res.name) b.amt) ?_
  cases h3:(Ao q x.proc).isSome
  ·rw[h3]at hP
   simp only[Bool.not_false,if_true]at hP
   simp(disch:=omega)only[go_sem,Bool.not_false]
   refine Ak _ ?_
   exact wb hP.symm
  rw[h3]at hP
  simp only[Bool.not_true,false_eq_true,if_false]at hP
  simp(disch:=omega)only[go_sem,Bool.not_true]
  obtain⟨o,rfl⟩:∃ o,o=i:=⟨i,rfl⟩
  obtain⟨bo,rfl⟩:∃ bo,bo=b:=⟨b,rfl⟩
  have hPo:=hP
  clear hJ hb hlt hlt2
  have anyN:∀ (i:Nat) (w:Wait),q.waits[i]?=some w→(q.waits.take (i+1)).any (fun w=>decide (w.proc=x.proc)&&w.prio !=x.req.prio)=((q.waits.take i).any (fun w=>decide (w.proc=x.proc)&&w.prio !=x.req.prio)||(decide (w.proc=x.proc)&&w.prio !=x.req.prio)):=fun i w hw=>by
   rw[take_add_one,hw];simp
  have anyT:∀ (w:Wait),w∈q.waits→(decide (w.proc=x.proc)&&w.prio !=x.req.prio)=true→q.waits.any (fun w=>decide (w.proc=x.proc)&&w.prio !=x.req.prio)=true:=fun w hw hc=>List.any_eq_true.2 ⟨w,hw,hc⟩
  refine Ab (α:=Nat) (fun i=>⟨[(14,I i),(3,.ptr 192 0),(4,.ptr 256 0),(7,.ptr 448 0),(8,.ptr 512 0),(9,.ptr 576 0),(13,.ptr 832 0)],[(192,q.c),(256,x.c),(448,(Ar x.led.entries q.res.name).c),(512,(Ap q.holds x.proc).c),(576,((Ao q x.proc).getD ⟨0,0⟩).c),(832,(Ea q.res (Ar x.led.entries q.res.name) bo.amt).c)]⟩) (fun i=>i≤(q.waits).length∧(q.waits.take i).any (fun w=>decide (w.proc=x.proc)&&w.prio !=x.req.prio)=false) (fun i=>(q.waits).length-i) 0 ⟨by omega,rfl⟩ ?_ ?_
  ·exact Bu
  rintro i ⟨hi,hP⟩ J hJ
  refine gO ?_
  refine ⟨fun hlt=>?_,fun hge=>?_⟩
  rotate_left
  have hil:i=(q.waits).length:=by simp at hge;omega
  rotate_left
  obtain⟨b,hb⟩:∃ b,(q.waits)[i]?=some b:=⟨_,gE (by simp at hlt;omega)⟩
  have hbm:=mG hb
  have hlt2:i<(q.waits).length:=by simp at hlt;omega
  ·refine Aj 19 [([],[3]),([],[75]),([],[14]),([],[76,77]),([],[78]),([],[79]),([],[4]),([],[81]),([],[80,82]),([],[83]),([],[3,84]),([],[85,84]),([],[14,84]),([],[86,87,84]),([],[88,84]),([],[89,84]),([],[4,84]),([],[91,84]),([],[92,84])] fol ?_
   cases c1:decide (b.proc=x.proc)
   ·simp(disch:=omega)only[go_sem,gm,hb,c1]
    refine hJ _ (i+1) ⟨by simp at hlt;omega,(by rw[anyN i b hb,hP,c1];rfl)⟩ (by simp at hlt;omega) AE
   cases c2:(b.prio !=x.req.prio)
   ·simp(disch:=omega)only[go_sem,gm,hb,c1,c2]
    refine hJ _ (i+1) ⟨by simp at hlt;omega,(by rw[anyN i b hb,hP,c1,c2];rfl)⟩ (by simp at hlt;omega) AE
   ·simp(disch:=omega)only[go_sem,gm,hb,c1,c2]
    refine Ak _ ?_
    exact wb (by rw[hPo,if_pos (anyT b hbm (by rw[c1,c2];rfl))])
  ·subst hil
   rw[take_length]at hP
   rw[hP]at hPo
   simp only[false_eq_true,if_false]at hPo
   cases c1:decide (Ap q.holds x.proc=Ar x.led.entries q.res.name)
   ·simp(disch:=omega)only[go_sem,c1]
    refine Ak _ ?_
    exact wb (by rw[hPo,c1];rfl)
   ·simp(disch:=omega)only[go_sem,c1]
    refine Ak _ ?_
    exact wb (by rw[hPo,c1];rfl)
 ·subst hil
  rw[List.drop_length]at hP
  simp only[FD]at hP
  cases h1:decide (Ap q.holds x.proc=Ar x.led.entries q.res.name)
  ·simp(disch:=omega)only[go_sem,h1]
   refine Ak _ ?_
   exact wb (by rw[hP,h1];rfl)
  ·simp(disch:=omega)only[go_sem,h1]
   refine Ak _ ?_
   exact wb (by rw[hP,h1];rfl)
def EZ(l:Ledger):List Atom:=(CI l.entries).filterMap fun n=>if (Ar l.entries n).mode==0&&(Ar l.entries n).units==0 then none else some ⟨n,Ar l.entries n⟩
theorem W5{α β:Type}{f:α→Option β}{l:List α}{i:Nat}{b:α}(hb:l[i]?=some b):(l.take (i+1)).filterMap f=(l.take i).filterMap f++(f b).toList:=by
 rw[take_add_one,hb,List.filterMap_append]
 cases h:f b<;>simp[h]
theorem Ku(l:List Entry):(CI l).length≤l.length:=by
 have:=Lh (l:=l) l.length (Nat.le_refl _)
 rwa [take_length]at this
theorem f170_ok(l:Ledger)(hl:l.entries.length≤1000000):Ac C0 170 [.agg l.c] [] (Be (EZ l)) []:=by
 have hnl:=Ku l.entries
 refine Ac.go f170 ?_
 unfold f170
 refine gO ?_
 refine Aa (f249_ok l.entries hl) ?_
 refine gO ?_
 unfold EZ
 generalize CI l.entries=ns at hnl
 refine Ab (α:=Nat) (fun i=>⟨[(5,I i),(3,.sl (.own 2176 0) 3 (((ns.take i).filterMap fun n=>if (Ar l.entries n).mode==0&&(Ar l.entries n).units==0 then none else some (⟨n,Ar l.entries n⟩:Atom)).map Atom.c)),(4,XX ns),(1,.ptr 64 0)],[(64,l.c)]⟩) (fun i=>i≤(ns).length∧True) (fun i=>(ns).length-i) 0 ⟨by omega,trivial⟩ ?_ ?_
 ·exact Bu
 rintro i ⟨hi,hP⟩ J hJ
 refine gO ?_
 refine ⟨fun hlt=>?_,fun hge=>?_⟩
 rotate_left
 have hil:i=(ns).length:=by simp at hge;omega
 rotate_left
 obtain⟨b,hb⟩:∃ b,(ns)[i]?=some b:=⟨_,gE (by simp at hlt;omega)⟩
 have hbm:=mG hb
 have hlt2:i<(ns).length:=by simp at hlt;omega
 ·have hx:=W5 (f:=fun n=>if (Ar l.entries n).mode==0&&(Ar l.entries n).units==0 then none else some (⟨n,Ar l.entries n⟩:Atom)) hb
  have hlen:((ns.take i).filterMap fun n=>if (Ar l.entries n).mode==0&&(Ar l.entries n).units==0 then none else some (⟨n,Ar l.entries n⟩:Atom)).length≤ns.length:=Nat.le_trans (List.length_filterMap_le _ _) (by simp;omega)
  generalize (ns.take i).filterMap (fun n=>if (Ar l.entries n).mode==0&&(Ar l.entries n).units==0 then none else some (⟨n,Ar l.entries n⟩:Atom))=L at hx hlen ⊢
  have hbd:L.length+1≤4294967296:=by omega
  refine Aj 8 [([],[1]),([],[16]),([],[4]),([],[5]),([],[18,19]),([],[20]),([],[17,21]),([],[])] fol ?_
  simp(disch:=omega)only[go_sem,gm,hb]
  first|(refine Aa (f190_ok l.entries b) ?_)|(refine Ai (f190_ok l.entries b) ?_)
  refine gO ?_
  cases hz:((Ar l.entries b).mode==0&&(Ar l.entries b).units==0)
  ·simp(disch:=omega)only[go_sem,hz,Bool.not_false]
   refine Aj 8 [([],[3]),([],[4]),([],[5]),([],[27,28]),([],[29]),([],[6]),([],[30,31]),([],[32])] fol ?_
   simp(disch:=omega)only[go_sem,gm,hb]
   rw[hz]at hx
   refine hJ _ (i+1) ⟨by omega,trivial⟩ (by omega) (Imp.weak ?_ ?_)
   all_goals(try simp(disch:=omega)only[go_sem])
   exact .sl (by rw[hx];simp[Atom.c])
  ·simp(disch:=omega)only[go_sem,hz,Bool.not_true]
   rw[hz]at hx
   refine hJ _ (i+1) ⟨by omega,trivial⟩ (by omega) (Imp.weak ?_ ?_)
   all_goals(try simp(disch:=omega)only[go_sem])
   exact .sl (by rw[hx];simp)
 ·subst hil
  rw[take_length]
  refine B3 ⟨[],[],[2176]⟩ _ ?_
  simp(disch:=omega)only[go_sem]
def Ni(l:Ledger)(label:Int):Option (Nat × Nat):=if label=0 then some (0,0) else match l.saves.findIdx? (fun s=>s.label==label) with
 |some i=>some ((l.saves.getD i s0).pos.toNat,i+1)
 |none=>none
def PK(l:Ledger)(at_ n:Nat):Ledger:=⟨l.entries.take at_,l.saves.take n⟩
def PA(l:Ledger)(at_:Nat):List Atom:=(CI (l.entries.drop at_)).map fun n=>⟨n,Ar (l.entries.take at_) n⟩
def B9(l:Ledger)(label:Int):Ledger × List Atom × Int:=if !AX l then (Cp,[],2) else match Ni l label with
 |none=>(Cp,[],10)
 |some (a,n)=>(PK l a n,PA l a,0)
theorem P6{α:Type}{f:Nat→α→Bool}{l:List α}{i:Nat}{b:α}(h:BE f l=true)(hb:l[i]?=some b):f i b=true:=by
 cases hf:f i b
 ·rw[Ba hb hf]at h;cases h
 ·rfl
@[go_sem] theorem Yp:Dt []=.sl .no 5 []:=rfl
@[go_sem] theorem Z1:Lp []=.sl .no 2 []:=rfl
@[go_sem] theorem bR:YS []=.sl .no 16 []:=rfl
@[go_sem] theorem bc:SF []=.sl .no 7 []:=rfl
theorem Kd{l:Ledger}(h:AX l=true){i:Nat}{s:Save}(hs:l.saves[i]?=some s):0≤s.pos∧s.pos≤(l.entries.length:Int):=by
 simp only[AX,and_eq_true]at h
 have:=P6 h.2 hs
 simp only[EM,and_eq_true,decide_eq_true_eq]at this
 omega
theorem f195_ok(l:Ledger)(label:Int):Ac C0 195 [.agg l.c,I label] [] (.tup [.agg (B9 l label).1.c,Be (B9 l label).2.1,I (B9 l label).2.2]) []:=by
 refine Ac.go f195 ?_
 unfold f195
 refine gO ?_
 refine Aa (f169_ok l) ?_
 cases hv:AX l
 ·have e:B9 l label=(Cp,[],2):=by simp[B9,hv]
  simp(disch:=omega)only[go_sem,Bool.not_false,e,Cp,map_nil]
  exact DR23 _
 have hel:l.entries.length≤72∧l.saves.length≤4:=by simp only[AX,and_eq_true,decide_eq_true_eq]at hv;omega
 have hcase:(Ni l label=none∧label≠0∧JH l.saves label<0)∨(label=0∧Ni l label=some (0,0))∨(∃ i s,label≠0∧JH l.saves label=((i:Nat):Int)∧l.saves[i]?=some s∧Ni l label=some (s.pos.toNat,i+1)):=by
  unfold Ni JH
  by_cases h0:label=0
  ·exact .inr (.inl ⟨h0,by simp[h0]⟩)
  ·cases hf:l.saves.findIdx? (fun s=>s.label==label) with
   |none=>exact .inl ⟨by simp[h0],h0,by simp⟩
   |some i =>
    have hi:=(List.findIdx?_eq_some_iff_getElem.1 hf).1
    exact .inr (.inr ⟨i,l.saves[i],h0,rfl,gE hi,by simp[h0,List.getD,gE hi]⟩)
 rcases hcase with ⟨h1,h0,h2⟩|hcase
 ·have e:B9 l label=(Cp,[],10):=by simp[B9,hv,h1]
  have e0:(label !=0)=true:=by simpa using h0
  simp(disch:=omega)only[go_sem,Bool.not_true,e0]
  refine Aa (f194_ok l.saves label) ?_
  simp(disch:=omega)only[go_sem,eq_true h2,decide_true,e,Cp,map_nil]
  exact DR23 _
 have hget:∃ a n,a≤l.entries.length∧n≤l.saves.length∧B9 l label=(PK l a n,PA l a,0)∧Ni l label=some (a,n):=by
  rcases hcase with ⟨h0,h1⟩|⟨i,s,h0,h1,h2,h3⟩
  ·exact⟨0,0,by omega,by omega,by simp[B9,hv,h1],h1⟩
  ·have:=Kd hv h2
   have:=Al h2
   exact⟨s.pos.toNat,i+1,by omega,by omega,by simp[B9,hv,h3],h3⟩
 obtain⟨a,n,ha,hn,e,hbk⟩:=hget
 rw[e]
 rcases hcase with ⟨h0,h1⟩|⟨i,s,h0,h1,h2,h3⟩
 all_goals first
  |(have e0:(label !=0)=true:=by simpa using h0
    have hpos:=Kd hv h2
    rw[h3]at hbk
    have hi1:(i:Int)+1=((i+1:Nat):Int):=by omega
    have hps:s.pos=((s.pos.toNat:Nat):Int):=by omega
    obtain⟨ha2,hn2⟩:s.pos.toNat=a∧i+1=n:=by simpa using hbk
    simp(disch:=omega)only[go_sem,Bool.not_true,e0]
    refine Aa (f194_ok l.saves label) ?_
    simp(disch:=omega)only[go_sem,h1,eq_false (show ¬ ((i:Int)<0) by omega),decide_false,gm,h2])
  |(have e0:(label !=0)=false:=by simp[h0]
    rw[h1]at hbk
    obtain⟨ha2,hn2⟩:0=a∧0=n:=by simpa using hbk
    simp(disch:=omega)only[go_sem,Bool.not_true,e0])
 all_goals
  refine CP (st':=⟨[(7,I (a:Int)),(8,I (n:Int)),(2,.ptr 128 0),(4,.ptr 256 0)],[(128,l.c),(256,Cp.c)]⟩) (Imp.weak ?_ ?_) ?_
  ·simp(disch:=omega)only[go_sem]
   exact⟨.int (by omega),.int (by omega)⟩
  ·simp(disch:=omega)only[go_sem,Cp]
  have hdr:(l.entries.drop a).take (l.entries.length-a)=l.entries.drop a:=List.take_of_length_le (by simp)
  refine Aj 14 [([],[]),([],[2]),([],[36]),([],[7]),([],[37,38]),([],[35,39]),([],[]),([],[2]),([],[42]),([],[8]),([],[43,44]),([],[41,45]),([],[40,46]),([],[])] fol ?_
  refine gO ?_
  refine Ae (f249_ok (l.entries.drop a) (by simp;omega)) (by simp(disch:=omega)only[go_sem,hdr]) rfl ?_
  have hnl:=Ku (l.entries.drop a)
  have hdl:(l.entries.drop a).length≤72:=by simp;omega
  refine gO ?_
  unfold PA
  generalize CI (l.entries.drop a)=ns at hnl ⊢
  refine Ab (α:=Nat) (fun i=>⟨[(13,I i),(11,.sl (.own 4672 0) 3 (((ns.take i).map fun n=>(⟨n,Ar (l.entries.take a) n⟩:Atom)).map Atom.c)),(12,XX ns),(10,.ptr 640 0),(4,.ptr 256 0)],[(640,(PK l a n).c),(256,Cp.c)]⟩) (fun i=>i≤(ns).length∧True) (fun i=>(ns).length-i) 0 ⟨by omega,trivial⟩ ?_ ?_
  ·refine Imp.weak ?_ ?_
   all_goals(try simp(disch:=omega)only[go_sem,PK,Cp])
   all_goals(try(repeat'(with_reducible apply And.intro)))
   all_goals(first|exact .AA (by omega)|exact .Au (by omega)|exact .sl (by simp[PK,Cp])|exact .int (by simp[PK,Cp])|exact .eq (by simp[PK,Cp]))
  rintro i ⟨hi,hP⟩ J hJ
  refine gO ?_
  refine ⟨fun hlt=>?_,fun hge=>?_⟩
  rotate_left
  have hil:i=(ns).length:=by simp at hge;omega
  rotate_left
  obtain⟨b,hb⟩:∃ b,(ns)[i]?=some b:=⟨_,gE (by simp at hlt;omega)⟩
  have hbm:=mG hb
  have hlt2:i<(ns).length:=by simp at hlt;omega
  ·refine Aj 14 [([],[11]),([],[12]),([],[13]),([],[60,61]),([],[62]),([],[10]),([],[64]),([],[12]),([],[13]),([],[66,67]),([],[68]),([],[65,69]),([11],[63,70]),([11],[71])] fol ?_
   have hbd:((ns.take i).map fun n=>(⟨n,Ar (l.entries.take a) n⟩:Atom)).length+1≤4294967296:=by simp;omega
   simp(disch:=omega)only[go_sem,gm,hb,PK]
   first|(refine Aa (f190_ok (l.entries.take a) b) ?_)|(refine Ai (f190_ok (l.entries.take a) b) ?_)
   simp(disch:=omega)only[go_sem,gm,hb]
   refine hJ _ (i+1) ⟨by omega,trivial⟩ (by omega) (Imp.weak ?_ ?_)
   ·simp(disch:=omega)only[go_sem]
    exact .sl (by simp[take_add_one,hb,Atom.c])
   ·simp(disch:=omega)only[go_sem,PK,Cp]
  ·subst hil
   rw[take_length]
   refine B3 ⟨[],[],[4672]⟩ _ ?_
   refine gO ?_
   exact .eq (by simp[Ledger.c])
def Fo(t:List Queue)(a:Atom):Bool:=match BR t a.name with
 |none=>false
 |some k=>(t.getD k q0).res.fits a.amt
def FO(x:Pcs):Bool:=x.proc.ok&&decide (1≤x.cost)&&decide (x.cost≤1000)&&AX x.led&&decide (0≤x.gen)&&decide (x.gen≤1073741824)
def IQ(t:List Queue)(x:Pcs):Bool:=Wj x.req&&x.since==0&&decide (EZ x.led=GA t x.proc)&&((D7 t x.proc).length:Int)==0
def HV(now:Int)(t:List Queue)(x:Pcs):Bool:=HH x.req&&Cu (FA t) x.req.expr==0&&decide (0≤x.since)&&decide (x.since≤now)&&(x.req.limit==0||decide (now<x.since+x.req.limit))&&!D2 x.req.expr (Bf t x.proc x.req.expr)&&t.all (fun q=>FD q x (Ag x.req.expr))
def EK(now:Int)(t:List Queue)(x:Pcs):Bool:=FO x&&(EZ x.led).all (Fo t)&&(if x.waiting then HV now t x else IQ t x)
theorem V3(l:Ledger)(h:AX l=true):(EZ l).length≤72:=by
 have h1:=Ku l.entries
 have h2:l.entries.length≤72:=by simp only[AX,and_eq_true,decide_eq_true_eq]at h;omega
 exact Nat.le_trans (List.length_filterMap_le _ _) (by omega)
theorem f116_ok(c:Cen)(x:Pcs)(h:Di c.queues)(hnow:c.now≤1073741824):Ac C0 116 [.agg c.c,.agg x.c] [] (B (EK c.now c.queues x)) []:=by
 have hn:=h.n
 have bad:FO x=false→EK c.now c.queues x=false:=fun e=>by simp[EK,e]
 refine Ac.go f116 ?_
 unfold f116
 refine gO ?_
 refine Aa (f105_ok x.proc) ?_
 cases h1:x.proc.ok
 ·simp(disch:=omega)only[go_sem,Bool.not_false]
  refine Ak _ ?_
  exact wb (by rw[bad (by simp[FO,h1])])
 simp(disch:=omega)only[go_sem,Bool.not_true]
 by_cases h2:x.cost<1
 ·simp(disch:=omega)only[go_sem,eq_true h2,decide_true]
  refine Ak _ ?_
  exact wb (by rw[bad (by simp[FO];omega)])
 by_cases h3:1000<x.cost
 ·simp(disch:=omega)only[go_sem,eq_false h2,eq_true h3,decide_true,decide_false]
  refine Ak _ ?_
  exact wb (by rw[bad (by simp[FO];omega)])
 simp(disch:=omega)only[go_sem,eq_false h2,eq_false h3,decide_false]
 refine Aa (f169_ok x.led) ?_
 cases h4:AX x.led
 ·simp(disch:=omega)only[go_sem,Bool.not_false]
  refine Ak _ ?_
  exact wb (by rw[bad (by simp[FO,h4])])
 simp(disch:=omega)only[go_sem,Bool.not_true]
 by_cases h5:x.gen<0
 ·simp(disch:=omega)only[go_sem,eq_true h5,decide_true]
  refine Ak _ ?_
  exact wb (by rw[bad (by simp[FO];omega)])
 by_cases h6:1073741824<x.gen
 ·simp(disch:=omega)only[go_sem,eq_false h5,eq_true h6,decide_true,decide_false]
  refine Ak _ ?_
  exact wb (by rw[bad (by simp[FO];omega)])
 have hhd:FO x=true:=by simp[FO,h1,h4];omega
 have hhl:=V3 x.led h4
 have hel:x.led.entries.length≤72:=by simp only[AX,and_eq_true,decide_eq_true_eq]at h4;omega
 simp(disch:=omega)only[go_sem,eq_false h5,eq_false h6,decide_false]
 refine Aa (f170_ok x.led (by omega)) ?_
 refine gO ?_
 have hpo:EK c.now c.queues x=((EZ x.led).all (Fo c.queues)&&(if x.waiting then HV c.now c.queues x else IQ c.queues x)):=by simp[EK,hhd]
 rw[hpo]
 refine Ab (α:=Nat) (fun i=>⟨[(6,I i),(2,.ptr 128 0),(3,.ptr 192 0),(5,Be (EZ x.led))],[(128,c.c),(192,x.c)]⟩) (fun i=>i≤((EZ x.led)).length∧((EZ x.led).take i).all (Fo c.queues)=true) (fun i=>((EZ x.led)).length-i) 0 ⟨by omega,rfl⟩ ?_ ?_
 ·exact Bu
 rintro i ⟨hi,hP⟩ J hJ
 refine gO ?_
 refine ⟨fun hlt=>?_,fun hge=>?_⟩
 rotate_left
 have hil:i=((EZ x.led)).length:=by simp at hge;omega
 rotate_left
 obtain⟨b,hb⟩:∃ b,((EZ x.led))[i]?=some b:=⟨_,gE (by simp at hlt;omega)⟩
 have hbm:=mG hb
 have hlt2:i<((EZ x.led)).length:=by simp at hlt;omega
 ·have bad2:Fo c.queues b=false→(EZ x.led).all (Fo c.queues)=false:=fun e=>all_eq_false.2 ⟨b,hbm,by simp[e]⟩
  refine Aj 7 [([],[2]),([],[50]),([],[5]),([],[6]),([],[52,53]),([],[54]),([],[55])] fol ?_
  simp(disch:=omega)only[go_sem,gm,hb]
  first|(refine Aa (Ia c.queues b.name (by omega)) ?_)|(refine Ai (Ia c.queues b.name (by omega)) ?_)
  refine gO ?_
  cases hf:BR c.queues b.name with
  |none =>
   refine Aj 14 [([],[7]),([],[58]),([],[59]),([],[2,60]),([],[61,60]),([],[7,60]),([],[62,63,60]),([],[64,60]),([],[65,60]),([],[5,60]),([],[6,60]),([],[67,68,60]),([],[69,60]),([],[70,60])] fol ?_
   simp(disch:=omega)only[go_sem,atI]
   refine Ak _ ?_
   exact wb (by rw[bad2 (by simp[Fo,hf])];rfl)
  |some k =>
   obtain⟨hk,q,hq,_⟩:=CK hf
   have eg:Fo c.queues b=q.res.fits b.amt:=by simp[Fo,hf,List.getD,hq]
   refine Aj 14 [([],[7]),([],[58]),([],[59]),([],[2,60]),([],[61,60]),([],[7,60]),([],[62,63,60]),([],[64,60]),([],[65,60]),([],[5,60]),([],[6,60]),([],[67,68,60]),([],[69,60]),([],[70,60])] fol ?_
   simp(disch:=omega)only[go_sem,atI,eq_false (show ¬ ((k:Int)<0) by omega),decide_false,gm,hq,hb]
   first|(refine Aa (f171_ok q.res b.amt) ?_)|(refine Ai (f171_ok q.res b.amt) ?_)
   cases h7:q.res.fits b.amt
   ·simp(disch:=omega)only[go_sem,Bool.not_false]
    refine Ak _ ?_
    exact wb (by rw[bad2 (eg.trans h7)];rfl)
   ·simp(disch:=omega)only[go_sem,Bool.not_true]
    refine hJ _ (i+1) ⟨by simp at hlt;omega,(by rw[take_add_one,hb,all_append,hP];simp[eg,h7])⟩ (by simp at hlt;omega) AE
 subst hil
 rw[take_length]at hP
 rw[hP,Bool.true_and]
 clear hJ hi hge
 cases hw:x.waiting
 ·simp only[false_eq_true,if_false]
  simp(disch:=omega)only[go_sem,hw,Bool.not_false]
  refine Ae (ZE x.req) (by simp(disch:=omega)only[go_sem,Df,e0,a0,Expr.k,Expr.atom,Expr.kids];exact .agg (Af.AD (by simp(disch:=omega)only[go_sem]))) rfl ?_
  cases c1:Wj x.req
  ·simp(disch:=omega)only[go_sem]
   refine Ak _ ?_
   exact wb (by simp[IQ,c1])
  cases c2:(x.since==0)
  ·simp(disch:=omega)only[go_sem,c2]
   refine Ak _ ?_
   exact wb (by simp[IQ,c2])
  simp(disch:=omega)only[go_sem,c2]
  refine Aa (f174_ok c.queues x.proc h) ?_
  refine gO ?_
  refine Aa (f173_ok (EZ x.led) (GA c.queues x.proc)) ?_
  cases c3:decide (EZ x.led=GA c.queues x.proc)
  ·simp(disch:=omega)only[go_sem]
   refine Ak _ ?_
   exact wb (by simp only[IQ,c1,c2,c3];rfl)
  refine gO ?_
  refine Aa (f175_ok c.queues x.proc h) ?_
  refine gO ?_
  refine Ak _ ?_
  exact wb (by simp only[IQ,c1,c2,c3];simp)
 ·simp only[if_true]
  simp(disch:=omega)only[go_sem,hw,Bool.not_true]
  refine Aj 49 [([],[8]),([],[107]),([1],[108]),([1],[109]),([1],[2,110]),([1],[111,110]),([1],[112,110]),([1],[8,110]),([1],[114,110]),([1,6],[113,115,110]),([1,6,9],[116,110]),([1,6,9],[110,117]),([1,6,9],[118]),([1,6,9],[3,119]),([1,6,9],[120,119]),([1,6,9],[121,119]),([1,6,9],[119,122]),([1,6,9],[123]),([1,6,9],[3,124]),([1,6,9],[125,124]),([1,6,9],[2,124]),([1,6,9],[127,124]),([1,6,9],[126,128,124]),([1,6,9],[124,129]),([1,6,9],[130]),([1,6,9],[8,131]),([1,6,9],[132,131]),([1,6,9],[133,131]),([1,6,9],[134,131]),([1,6,9],[3,135]),([1,6,9],[136,135]),([1,6,9],[8,135]),([1,6,9],[138,135]),([1,6,9],[137,139,135]),([1,6,9],[2,135]),([1,6,9],[141,135]),([1,6,9],[140,142,135]),([1,6,9],[135,143,131]),([1,6,9],[131,144]),([1,6,9],[145]),([1,6,9],[8,146]),([1,6,9],[147,146]),([1,6,9],[2,146]),([1,6,9],[149,146]),([1,6,9],[3,146]),([1,6,9],[151,146]),([1,6,9],[8,146]),([1,6,9],[153,146]),([1,6,9],[150,152,154,146])] fol ?_
  refine gO ?_
  first|(refine Aa (f176_ok x.req) ?_)|(refine Ai (f176_ok x.req) ?_)
  cases d1:HH x.req
  ·simp(disch:=omega)only[go_sem,Bool.not_false]
   refine Ak _ ?_
   exact wb (by simp[HV,d1])
  have hlim:0≤x.req.limit∧x.req.limit≤1000:=by simp only[HH,and_eq_true,decide_eq_true_eq]at d1;omega
  have hex:AQ x.req.expr=true:=by simp only[HH,and_eq_true]at d1;exact d1.1.1.1.1
  simp(disch:=omega)only[go_sem,Bool.not_true]
  first|(refine Aa (f178_ok c.queues (by omega)) ?_)|(refine Ai (f178_ok c.queues (by omega)) ?_)
  refine gO ?_
  first|(refine Aa (f177_ok (FA c.queues) x.req.expr) ?_)|(refine Ai (f177_ok (FA c.queues) x.req.expr) ?_)
  by_cases d2:Cu (FA c.queues) x.req.expr=0
  rotate_left
  ·have d2':(Cu (FA c.queues) x.req.expr !=0)=true:=by simpa using d2
   simp(disch:=omega)only[go_sem,d2']
   refine Ak _ ?_
   exact wb (by simp[HV,d2])
  have d2':(Cu (FA c.queues) x.req.expr !=0)=false:=by simp[d2]
  simp(disch:=omega)only[go_sem,d2']
  by_cases d3:x.since<0
  ·simp(disch:=omega)only[go_sem,eq_true d3,decide_true]
   refine Ak _ ?_
   exact wb (by simp[HV,show ¬ (0≤x.since) by omega])
  by_cases d4:c.now<x.since
  ·simp(disch:=omega)only[go_sem,eq_false d3,eq_true d4,decide_true,decide_false]
   refine Ak _ ?_
   exact wb (by simp[HV,show ¬ (x.since≤c.now) by omega])
  simp(disch:=omega)only[go_sem,eq_false d3,eq_false d4,decide_false]
  have base:HV c.now c.queues x=((x.req.limit==0||decide (c.now<x.since+x.req.limit))&&!D2 x.req.expr (Bf c.queues x.proc x.req.expr)&&c.queues.all (fun q=>FD q x (Ag x.req.expr))):=by
   simp[HV,d1,d2,show 0≤x.since by omega,show x.since≤c.now by omega,Bool.and_assoc]
  rw[base]
  have hcase:(x.req.limit≠0∧x.since+x.req.limit≤c.now)∨x.req.limit=0∨(x.req.limit≠0∧c.now<x.since+x.req.limit):=by omega
  rcases hcase with ⟨d5,d6⟩|hcase
  ·have d5':(x.req.limit !=0)=true:=by simpa using d5
   simp(disch:=omega)only[go_sem,d5',eq_true d6,decide_true]
   refine Ak _ ?_
   exact wb (by simp[d5];omega)
  have ok:(x.req.limit==0||decide (c.now<x.since+x.req.limit))=true:=by
   rcases hcase with d5|⟨d5,d6⟩
   ·simp[d5]
   ·simp[d6]
  rw[ok,Bool.true_and]
  rcases hcase with d5|⟨d5,d6⟩
  all_goals first
   |(have d5':(x.req.limit !=0)=true:=by simpa using d5
     simp(disch:=omega)only[go_sem,d5',eq_false (show ¬ (x.since+x.req.limit≤c.now) by omega),decide_false])
   |(have d5':(x.req.limit !=0)=false:=by simp[d5]
     simp(disch:=omega)only[go_sem,d5'])
  all_goals
   first|(refine Aa (f179_ok c.queues x.proc x.req.expr h) ?_)|(refine Ai (f179_ok c.queues x.proc x.req.expr h) ?_)
   refine gO ?_
   first|(refine Aa (f160_ok x.req.expr (Bf c.queues x.proc x.req.expr) hex) ?_)|(refine Ai (f160_ok x.req.expr (Bf c.queues x.proc x.req.expr) hex) ?_)
   cases d7:D2 x.req.expr (Bf c.queues x.proc x.req.expr)
   rotate_left
   ·simp(disch:=omega)only[go_sem]
    refine BP _ ?_
    simp(disch:=omega)only[go_sem]
    all_goals exact wb (by simp)
   refine gO ?_
   refine Aa (f93_ok x.req.expr) ?_
   have hal:=Ci x.req.expr
   refine gO ?_
   refine Ab (α:=Nat) (fun i=>⟨[(10,I i),(9,Be (Ag x.req.expr)),(2,.ptr 128 0),(3,.ptr 192 0)],[(128,c.c),(192,x.c)]⟩) (fun i=>i≤(c.queues).length∧(c.queues.take i).all (fun q=>FD q x (Ag x.req.expr))=true) (fun i=>(c.queues).length-i) 0 ⟨by omega,rfl⟩ ?_ ?_
   ·refine Imp.weak ?_ ?_
    all_goals(try simp(disch:=omega)only[go_sem])
    all_goals(try(repeat'(with_reducible apply And.intro)))
    all_goals(first|exact .AA (by omega)|exact .Au (by omega)|exact .sl (by simp[hw])|exact .int (by simp[hw])|exact .eq (by simp[hw]))
   rintro i ⟨hi,hP⟩ J hJ
   refine gO ?_
   refine ⟨fun hlt=>?_,fun hge=>?_⟩
   rotate_left
   have hil:i=(c.queues).length:=by simp at hge;omega
   rotate_left
   obtain⟨b,hb⟩:∃ b,(c.queues)[i]?=some b:=⟨_,gE (by simp at hlt;omega)⟩
   have hbm:=mG hb
   have hlt2:i<(c.queues).length:=by simp at hlt;omega
   ·refine Aj 7 [([],[2]),([],[168]),([],[10]),([],[169,170]),([],[171]),([],[3]),([],[9])] fol ?_
    simp(disch:=omega)only[go_sem,gm,hb]
    first|(refine Aa (f180_ok b x (Ag x.req.expr) (h.q b hbm) (by omega)) ?_)|(refine Ai (f180_ok b x (Ag x.req.expr) (h.q b hbm) (by omega)) ?_)
    cases d8:FD b x (Ag x.req.expr)
    ·simp(disch:=omega)only[go_sem,Bool.not_false]
     refine Ak _ ?_
     exact wb (by rw[all_eq_false.2 ⟨b,hbm,by simp[d8]⟩])
    ·simp(disch:=omega)only[go_sem,Bool.not_true]
     refine hJ _ (i+1) ⟨by simp at hlt;omega,(by rw[take_add_one,hb,all_append,hP];simp[d8])⟩ (by simp at hlt;omega) AE
   ·subst hil
    rw[take_length]at hP
    refine Ak _ ?_
    exact wb (by rw[hP])
def x0:Pcs:=⟨p0,0,Cp,false,Df,0,0⟩
def DK(c:Cen)(i:Nat)(x:Pcs):Bool:=EK c.now c.queues x&&(decide (i=0)||decide (A2 (c.procs.getD (i-1) x0).proc x.proc<0))
def Gy(c:Cen):Bool:=decide (0≤c.now)&&decide (c.now≤1073741824)&&Fy c.queues&&decide (c.procs.length≤8)&&(Aw c.queues).all (fun p=>decide (0≤Es c.procs p))&&BE (DK c) c.procs
theorem f68_ok(c:Cen)(h:Di c.queues):Ac C0 68 [.agg c.c] [] (B (Gy c)) []:=by
 refine Ac.go f68 ?_
 unfold f68
 by_cases h1:c.now<0
 ·simp(disch:=omega)only[go_sem,eq_true h1,decide_true]
  refine Ak _ ?_
  exact wb (by simp[Gy,show ¬ 0≤c.now by omega])
 by_cases h2:1073741824<c.now
 ·simp(disch:=omega)only[go_sem,eq_false h1,eq_true h2,decide_true,decide_false]
  refine Ak _ ?_
  exact wb (by simp[Gy,show ¬ c.now≤1073741824 by omega])
 simp(disch:=omega)only[go_sem,eq_false h1,eq_false h2,decide_false]
 refine Aa (f115_ok c.queues h) ?_
 cases h3:Fy c.queues
 ·simp(disch:=omega)only[go_sem,Bool.not_false]
  refine Ak _ ?_
  exact wb (by simp[Gy,h3])
 simp(disch:=omega)only[go_sem,Bool.not_true]
 by_cases h4:8<c.procs.length
 ·have e4:(8<(c.procs.length:Int))=True:=eq_true (by omega)
  simp(disch:=omega)only[go_sem,e4,decide_true]
  refine Ak _ ?_
  exact wb (by simp[Gy,show ¬ c.procs.length≤8 by omega])
 have e4:(8<(c.procs.length:Int))=False:=eq_false (by omega)
 simp(disch:=omega)only[go_sem,e4,decide_false]
 have base:Gy c=((Aw c.queues).all (fun p=>decide (0≤Es c.procs p))&&BE (DK c) c.procs):=by
  simp[Gy,h3,show 0≤c.now by omega,show c.now≤1073741824 by omega,show c.procs.length≤8 by omega]
 rw[base]
 have hpl:(Aw c.queues).length≤8:=by simp only[Fy,and_eq_true,decide_eq_true_eq]at h3;exact h3.2
 refine A7 ⟨⟨[],[],[]⟩,[(0,1792)],[]⟩ (f75_ok c.queues h.n h.q) (by simp(disch:=omega)only[go_sem]) rfl trivial (.inl rfl) ?_
 refine gO ?_
 generalize Aw c.queues=ps at hpl
 refine Ab (α:=Nat) (fun i=>⟨[(4,I i),(3,.sl (.own 1792 0) 3 (ps.map Proc.c)),(1,.ptr 64 0)],[(64,c.c)]⟩) (fun i=>i≤(ps).length∧(ps.take i).all (fun p=>decide (0≤Es c.procs p))=true) (fun i=>(ps).length-i) 0 ⟨by omega,rfl⟩ ?_ ?_
 ·exact Bu
 rintro i ⟨hi,hP⟩ J hJ
 refine gO ?_
 refine ⟨fun hlt=>?_,fun hge=>?_⟩
 rotate_left
 have hil:i=(ps).length:=by simp at hge;omega
 rotate_left
 obtain⟨b,hb⟩:∃ b,(ps)[i]?=some b:=⟨_,gE (by simp at hlt;omega)⟩
 have hbm:=mG hb
 have hlt2:i<(ps).length:=by simp at hlt;omega
 ·refine Aj 6 [([],[1]),([],[35]),([],[3]),([],[4]),([],[37,38]),([],[39])] fol ?_
  simp(disch:=omega)only[go_sem,gm,hb]
  first|(refine Aa (f69_ok c.procs b) ?_)|(refine Ai (f69_ok c.procs b) ?_)
  by_cases h5:Es c.procs b<0
  ·simp(disch:=omega)only[go_sem,eq_true h5,decide_true]
   refine Ak _ ?_
   exact wb (by rw[all_eq_false.2 ⟨b,hbm,by simp;omega⟩];rfl)
  ·simp(disch:=omega)only[go_sem,eq_false h5,decide_false]
   refine hJ _ (i+1) ⟨by simp at hlt;omega,(by rw[take_add_one,hb,all_append,hP];simp;omega)⟩ (by simp at hlt;omega) AE
 subst hil
 rw[take_length]at hP
 rw[hP,Bool.true_and]
 clear hJ hi hge
 refine Ab (α:=Nat) (fun i=>⟨[(5,I i),(1,.ptr 64 0)],[(64,c.c)]⟩) (fun i=>i≤(c.procs).length∧BE (DK c) (c.procs.take i)=true) (fun i=>(c.procs).length-i) 0 ⟨by omega,rfl⟩ ?_ ?_
 ·exact Bu
 rintro i ⟨hi,hP⟩ J hJ
 refine gO ?_
 refine ⟨fun hlt=>?_,fun hge=>?_⟩
 rotate_left
 have hil:i=(c.procs).length:=by simp at hge;omega
 rotate_left
 obtain⟨b,hb⟩:∃ b,(c.procs)[i]?=some b:=⟨_,gE (by simp at hlt;omega)⟩
 have hbm:=mG hb
 have hlt2:i<(c.procs).length:=by simp at hlt;omega
 ·have bad:DK c i b=false→BE (DK c) c.procs=false:=fun h=>Ba hb h
  have good:DK c i b=true→BE (DK c) (c.procs.take (i+1))=true:=fun h=>by rw[BI hb,hP,h];rfl
  refine Aj 25 [([],[1]),([],[1]),([],[51]),([],[5]),([],[52,53]),([],[54]),([],[50,55]),([6],[56]),([6],[57]),([6],[5,58]),([6],[59,58]),([6],[60,58]),([6],[1,61]),([6],[62,61]),([6],[5,61]),([6],[64,61]),([6],[63,65,61]),([6],[66,61]),([6],[67,61]),([6],[1,61]),([6],[69,61]),([6],[5,61]),([6],[70,71,61]),([6],[72,61]),([6],[73,61])] fol ?_
  simp(disch:=omega)only[go_sem,gm,hb]
  first|(refine Aa (f116_ok c b h (by omega)) ?_)|(refine Ai (f116_ok c b h (by omega)) ?_)
  cases h6:EK c.now c.queues b
  ·simp(disch:=omega)only[go_sem,Bool.not_false]
   refine Ak _ ?_
   exact wb (by rw[bad (by simp[DK,h6])])
  by_cases hi0:i=0
  ·subst hi0
   simp(disch:=omega)only[go_sem,Bool.not_true]
   refine hJ _ 1 ⟨by omega,good (by simp[DK,h6])⟩ (by omega) AE
  ·have hi1:(0<(i:Int))=True:=eq_true (by omega)
   have hi2:((i:Int)-1)=((i-1:Nat):Int):=by omega
   obtain⟨a,ha'⟩:∃ a,c.procs[i-1]?=some a:=⟨_,gE (by omega)⟩
   have had:c.procs.getD (i-1) x0=a:=by simp[List.getD,ha']
   simp(disch:=omega)only[go_sem,Bool.not_true,hi1,hi2,gm,ha',hb]
   first|(refine Aa (f107_ok a.proc b.proc) ?_)|(refine Ai (f107_ok a.proc b.proc) ?_)
   by_cases h7:0≤A2 a.proc b.proc
   ·simp(disch:=omega)only[go_sem,eq_true h7,decide_true]
    refine Ak _ ?_
    exact wb (by rw[bad (by simp only[DK,had,h6];simp[hi0];omega)])
   ·simp(disch:=omega)only[go_sem,eq_false h7,decide_false]
    refine hJ _ (i+1) ⟨by omega,good (by simp only[DK,had,h6];simp[hi0];omega)⟩ (by omega) AE
 subst hil
 rw[take_length]at hP
 refine Ak _ ?_
 exact wb (by rw[hP])
def prN(e:Expr):Nat→List Bool→List Bool
 | 0,o=>o
 | k+1,o=>prN e k (if o.getD k false then o.set k (!DO (Dc (Ag e) (o.set k false)) e) else o)
theorem U8(e:Expr):∀ k o,(prN e k o).length=o.length
 | 0,_=>rfl
 | k+1,o=>by
  simp only[prN]
  rw[U8 e k]
  split<;>simp
def De(e:Expr)(set:List Bool):List Bool:=if AQ e&&DO (Dc (Ag e) set) e then prN e (Ag e).length ((List.range (Ag e).length).map fun i=>set.getD i false) else List.replicate (Ag e).length false
theorem Uy(e:Expr)(set:List Bool):(De e set).length=(Ag e).length:=by
 unfold De
 split
 ·rw[U8];simp
 ·simp
theorem f189_ok(e:Expr)(set:List Bool):Ac C0 189 [.agg e.c,G5 set] [] (G5 (De e set)) []:=by
 refine Ac.lens f189 fun hlen=>?_
 simp only[Ec,lens,Expr.Cb,length_map,and_true,true_and]at hlen
 have hal:=Ci e
 refine Ac.go f189 ?_
 unfold f189
 refine gO ?_
 refine Ae (f150_ok e) (by simp(disch:=omega)only[go_sem,Expr.Cb]) rfl ?_
 cases h1:AQ e
 ·have hd:De e set=List.replicate (Ag e).length false:=by simp[De,h1]
  rw[hd]
  simp(disch:=omega)only[go_sem,Bool.not_false]
  refine B3 ⟨[],[],[1088]⟩ _ ?_
  refine gO ?_
  exact .sl (by simp)
 simp(disch:=omega)only[go_sem,Bool.not_true]
 refine Aa (f151_ok (Ag e) set (by omega) _ e (Nat.lt_succ_self _) [] (En h1)) ?_
 cases h2:DO (Dc (Ag e) set) e
 ·have hd:De e set=List.replicate (Ag e).length false:=by simp[De,h1,h2]
  rw[hd]
  simp(disch:=omega)only[go_sem,Bool.not_false]
  refine B3 ⟨[],[],[1088]⟩ _ ?_
  refine gO ?_
  exact .sl (by simp)
 simp(disch:=omega)only[go_sem,Bool.not_true]
 have hd:De e set=prN e (Ag e).length ((List.range (Ag e).length).map fun i=>set.getD i false):=by simp[De,h1,h2]
 rw[hd]
 obtain⟨G,hG⟩:∃ G,G=(List.range (Ag e).length).map fun i=>set.getD i false:=⟨_,rfl⟩
 rw[← hG]
 have hGl:G.length=(Ag e).length:=by rw[hG];simp
 have hGi:∀ i,i<(Ag e).length→G[i]?=some (set.getD i false):=fun i hi=>by rw[hG,gm,List.getElem?_range hi];rfl
 clear hG hd
 refine Ab (α:=Nat) (fun i=>⟨[(8,I i),(7,.sl (.own 1088 0) 1 ((EY G i).map fun b=>[B b])),(5,Be (Ag e)),(1,G5 set),(2,.ptr 128 0)],[(128,e.c)]⟩) (fun i=>i≤((Ag e)).length∧True) (fun i=>((Ag e)).length-i) 0 ⟨by omega,trivial⟩ ?_ ?_
 ·refine Imp.weak ?_ ?_
  all_goals(try simp(disch:=omega)only[go_sem])
  all_goals(try(repeat'(with_reducible apply And.intro)))
  all_goals(first|exact .AA (by omega)|exact .Au (by omega)|exact .sl (by simp[EY,hGl])|exact .int (by simp[EY,hGl])|exact .eq (by simp[EY,hGl]))
 rintro i ⟨hi,hP⟩ J hJ
 refine gO ?_
 refine ⟨fun hlt=>?_,fun hge=>?_⟩
 rotate_left
 have hil:i=((Ag e)).length:=by simp at hge;omega
 rotate_left
 obtain⟨b,hb⟩:∃ b,((Ag e))[i]?=some b:=⟨_,gE (by simp at hlt;omega)⟩
 have hbm:=mG hb
 have hlt2:i<((Ag e)).length:=by simp at hlt;omega
 ·have hfl:=Qn (G:=G) (i:=i) (by omega)
  have hfg:=Qm (G:=G) (i:=i) (by omega)
  have hfs:=Qo (hGi i hlt2)
  generalize EY G i=M at hfl hfg hfs ⊢
  by_cases hs:i<set.length
  ·obtain⟨y,hy⟩:∃ y,set[i]?=some y:=⟨_,gE hs⟩
   have e4:set.getD i false=y:=by simp[List.getD,hy]
   rw[e4]at hfs
   simp(disch:=omega)only[go_sem,eq_true (show (i:Int)<(set.length:Int) by omega),decide_true,gm,hy,hfg]
   refine hJ _ (i+1) ⟨by omega,trivial⟩ (by omega) (Imp.weak ?_ (by simp(disch:=omega)only[go_sem]))
   refine gO ?_
   exact .sl (by rw[← hfs,map_set])
  ·have e4:set.getD i false=false:=by simp[List.getD,List.getElem?_eq_none (by omega:set.length≤i)]
   rw[e4]at hfs
   simp(disch:=omega)only[go_sem,eq_false (show ¬ ((i:Int)<(set.length:Int)) by omega),decide_false,gm,hfg]
   refine hJ _ (i+1) ⟨by omega,trivial⟩ (by omega) (Imp.weak ?_ (by simp(disch:=omega)only[go_sem]))
   refine gO ?_
   exact .sl (by rw[← hfs,map_set])
 subst hil
 have e3:EY G (Ag e).length=G:=by rw[← hGl,Ql]
 rw[e3]
 clear hJ hi hge
 refine Ab (α:=Nat × List Bool) (fun q=>⟨[(9,I ((q.1:Int)-1)),(7,.sl (.own 1088 0) 1 (q.2.map fun b=>[B b])),(5,Be (Ag e)),(2,.ptr 128 0)],[(128,e.c)]⟩) (fun q=>q.1≤(Ag e).length∧q.2.length=(Ag e).length∧prN e (Ag e).length G=prN e q.1 q.2) (fun q=>q.1) ((Ag e).length,G) ⟨Nat.le_refl _,hGl,rfl⟩ AE ?_
 rintro⟨k,o⟩ ⟨hk,hol,ho⟩ J hJ
 replace hk:k≤(Ag e).length:=hk
 replace hol:o.length=(Ag e).length:=hol
 replace ho:prN e (Ag e).length G=prN e k o:=ho
 cases k with
 | zero =>
  have e5:(0≤((0:Nat):Int)-1)=False:=eq_false (by omega)
  simp(disch:=omega)only[go_sem,e5,decide_false]
  rw[ho]
  refine B3 ⟨[],[],[1088]⟩ _ ?_
  simp(disch:=omega)only[go_sem,prN]
 | succ k =>
  have e5:(0≤((k+1:Nat):Int)-1)=True:=eq_true (by omega)
  have e6:((k+1:Nat):Int)-1=(k:Int):=by omega
  have e7:(k:Int)+1-1=(k:Int):=by omega
  have e8:(0≤(k:Int))=True:=eq_true (by omega)
  obtain⟨y,hy⟩:∃ y,o[k]?=some y:=⟨_,gE (by omega)⟩
  have hyd:o.getD k false=y:=by simp[List.getD,hy]
  simp only[prN,hyd]at ho
  have hkl:k<o.length:=by omega
  show _
  cases y
  ·simp only[false_eq_true,if_false]at ho
   simp(disch:=omega)only[go_sem,e6,e7,e8,decide_true,gm,hy]
   refine hJ _ (k,o) ⟨show k≤_ by omega,hol,ho⟩ (show k<k+1 by omega) (Imp.weak ?_ (by simp(disch:=omega)only[go_sem]))
   simp(disch:=omega)only[go_sem]
  ·simp only[if_true]at ho
   have hmo:((o.map fun b=>[B b]).set k [B false])=(o.set k false).map fun b=>[B b]:=by rw[map_set]
   have hg2:(o.set k false)[k]?=some false:=by simp[hkl]
   have hsl:(o.set k false).length=o.length:=by simp
   have hss:(o.set k false).set k (!DO (Dc (Ag e) (o.set k false)) e)=o.set k (!DO (Dc (Ag e) (o.set k false)) e):=by simp
   generalize ho2:o.set k false=o2 at hmo hg2 hsl ho hss
   have hkl2:k<o2.length:=by omega
   simp(disch:=omega)only[go_sem,e6,e7,e8,decide_true,gm,hy,hmo]
   refine Dr [1088] (f151_ok (Ag e) o2 (by omega) _ e (Nat.lt_succ_self _) [] (En h1)) (by simp(disch:=omega)only[go_sem,hmo]) rfl trivial ?_
   simp(disch:=omega)only[go_sem,gm,hg2,hmo]
   refine hJ _ (k,o.set k (!DO (Dc (Ag e) o2) e)) ⟨show k≤_ by omega,by show (o.set k _).length=_;simp[hol],ho⟩ (show k<k+1 by omega) (Imp.weak ?_ (by simp(disch:=omega)only[go_sem]))
   simp(disch:=omega)only[go_sem,hmo]
   try exact .sl (by rw[← hss,map_set])
end Go.Rd
