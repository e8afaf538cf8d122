/- part 20 of the proof -/
import Derived.Test.YthachdiockkofaaGreatDoorT16
set_option linter.all false
open Go Go.Abs Go.Proofs
set_option maxRecDepth 100000
namespace Go.Rd
set_option maxHeartbeats 8000000
open List (length_map map_set mem_append mem_cons mem_filter mem_map mem_singleton nil_append nodup_append pairwise_cons take_add_one take_length)
open Bool (and_eq_true)
open Tryz
structure Entry where
 name:Bs
 before:Amt
 after:Amt
structure Save where
 label:Int
 pos:Int
structure Ledger where
 entries:List Entry
 saves:List Save
structure Req where
 expr:Expr
 prio:Int
 limit:Int
structure Pcs where
 proc:Proc
 cost:Int
 led:Ledger
 waiting:Bool
 req:Req
 since:Int
 gen:Int
structure Cen where
 now:Int
 queues:List Queue
 procs:List Pcs
structure Cmd where
 kind:Int
 proc:Proc
 req:Req
 name:Bs
 n:Int
structure Ev where
 kind:Int
 proc:Proc
 name:Bs
 amt:Amt
structure Work where
 now:Int
 queues:List Queue
 procs:List Pcs
 evs:List Ev
def Entry.c(e:Entry):List AV:=[.v (.string (str e.name)),.v (.int .i64 e.before.mode),.v (.int .i64 e.before.units),.v (.int .i64 e.after.mode),.v (.int .i64 e.after.units)]
def Save.c(s:Save):List AV:=[.v (.int .i64 s.label),.v (.int .i64 s.pos)]
@[reducible] def Dt(l:List Entry):AV:=.sl .no 5 (l.map Entry.c)
@[reducible] def Lp(l:List Save):AV:=.sl .no 2 (l.map Save.c)
def Ledger.c(l:Ledger):List AV:=[Dt l.entries,Lp l.saves]
def Req.c(r:Req):List AV:=[.v (.int .i64 r.expr.k),.v (.string (str r.expr.atom.name)),.v (.int .i64 r.expr.atom.amt.mode),.v (.int .i64 r.expr.atom.amt.units),Fj r.expr.kids,.v (.int .i64 r.prio),.v (.int .i64 r.limit)]
def Pcs.c(p:Pcs):List AV:=[.v (.int .i64 p.proc.site),.v (.int .i64 p.proc.inc),.v (.int .i64 p.proc.num),.v (.int .i64 p.cost),Dt p.led.entries,Lp p.led.saves,.v (.bool p.waiting),
 .v (.int .i64 p.req.expr.k),.v (.string (str p.req.expr.atom.name)),.v (.int .i64 p.req.expr.atom.amt.mode),.v (.int .i64 p.req.expr.atom.amt.units),Fj p.req.expr.kids,.v (.int .i64 p.req.prio),.v (.int .i64 p.req.limit),.v (.int .i64 p.since),.v (.int .i64 p.gen)]
@[reducible] def YS(l:List Pcs):AV:=.sl .no 16 (l.map Pcs.c)
def Cen.c(c:Cen):List AV:=[.v (.int .i64 c.now),At c.queues,YS c.procs]
def Cmd.c(k:Cmd):List AV:=[.v (.int .i64 k.kind),.v (.int .i64 k.proc.site),.v (.int .i64 k.proc.inc),.v (.int .i64 k.proc.num),.v (.int .i64 k.req.expr.k),.v (.string (str k.req.expr.atom.name)),.v (.int .i64 k.req.expr.atom.amt.mode),.v (.int .i64 k.req.expr.atom.amt.units),Fj k.req.expr.kids,.v (.int .i64 k.req.prio),.v (.int .i64 k.req.limit),.v (.string (str k.name)),.v (.int .i64 k.n)]
def Ev.c(e:Ev):List AV:=[.v (.int .i64 e.kind),.v (.int .i64 e.proc.site),.v (.int .i64 e.proc.inc),.v (.int .i64 e.proc.num),.v (.string (str e.name)),.v (.int .i64 e.amt.mode),.v (.int .i64 e.amt.units)]
@[reducible] def SF(l:List Ev):AV:=.sl .no 7 (l.map Ev.c)
def Work.c(w:Work):List AV:=[.v (.int .i64 w.now),At w.queues,.sl (.own 0 0) 16 (w.procs.map Pcs.c),.sl (.own 1 0) 7 (w.evs.map Ev.c)]
attribute [go_sem] Entry.c Save.c Ledger.c Req.c Pcs.c Cen.c Cmd.c Ev.c Work.c
@[go_sem] theorem Zc{α:Type}(a:α):(∃ x,some a=some x)=True:=by simp
@[go_sem] theorem aN{α β:Type}(f:α→β)(l:List α)(i:Nat):(l.map f).take i=(l.take i).map f:=by simp
@[go_sem] theorem al{α β:Type}(f:α→β)(l:List α)(i:Nat):(l.map f).drop i=(l.drop i).map f:=by simp
def Ar(l:List Entry)(n:Bs):Amt:=l.foldl (fun a e=>if e.name==n then e.after else a) ⟨0,0⟩
theorem DI{l:List Entry}{n:Bs}{i:Nat}{b:Entry}(hb:l[i]?=some b):Ar (l.take (i+1)) n=if b.name==n then b.after else Ar (l.take i) n:=by
 simp[Ar,take_add_one,hb,List.foldl_append]
theorem f190_ok(l:List Entry)(n:Bs):Ac C0 190 [Dt l,.v (.string (str n))] [] (.agg (Ar l n).c) []:=by
 refine Ac.lens f190 fun hlen=>?_
 simp only[Ec,lens,length_map,and_true,true_and]at hlen
 refine Ac.go f190 ?_
 unfold f190
 refine gO ?_
 refine Ab (α:=Nat) (fun i=>⟨[(6,I i),(0,Dt l),(1,.v (.string (str n))),(4,.ptr 256 0),(5,.ptr 320 0)],[(256,(⟨0,0⟩:Amt).c),(320,(Ar (l.take i) n).c)]⟩) (fun i=>i≤(l).length∧True) (fun i=>(l).length-i) 0 ⟨by omega,trivial⟩ ?_ ?_
 ·refine Imp.weak ?_ ?_
  all_goals(try simp(disch:=omega)only[go_sem])
  all_goals(try(repeat'(with_reducible apply And.intro)))
  all_goals(first|exact .AA (by omega)|exact .Au (by omega)|exact .sl (by simp[Ar])|exact .int (by simp[Ar])|exact .eq (by simp[Ar]))
 rintro i ⟨hi,hP⟩ J hJ
 refine gO ?_
 refine ⟨fun hlt=>?_,fun hge=>?_⟩
 rotate_left
 have hil:i=(l).length:=by simp at hge;omega
 rotate_left
 obtain⟨b,hb⟩:∃ b,(l)[i]?=some b:=⟨_,gE (by simp at hlt;omega)⟩
 have hbm:=mG hb
 have hlt2:i<(l).length:=by simp at hlt;omega
 simp(disch:=omega)only[go_sem,gm,hb]
 ·refine⟨fun h=>?_,fun h=>?_⟩
  ·refine hJ _ (i+1) ⟨by simp at hlt;omega,trivial⟩ (by simp at hlt;omega) (Imp.weak ?_ ?_)
   all_goals(try simp(disch:=omega)only[go_sem])
   all_goals(try(repeat'(with_reducible apply And.intro)))
   all_goals(first|exact .AA (by omega)|exact .Au (by omega)|exact .sl (by simp[DI hb,h])|exact .int (by simp[DI hb,h])|exact .eq (by simp[DI hb,h]))
  ·refine hJ _ (i+1) ⟨by simp at hlt;omega,trivial⟩ (by simp at hlt;omega) (Imp.weak ?_ ?_)
   all_goals(try simp(disch:=omega)only[go_sem])
   all_goals(try(repeat'(with_reducible apply And.intro)))
   all_goals(first|exact .AA (by omega)|exact .Au (by omega)|exact .sl (by simp[DI hb,h])|exact .int (by simp[DI hb,h])|exact .eq (by simp[DI hb,h]))
 ·subst hil
  simp(disch:=omega)only[go_sem,take_length]
  exact Av _
def JH(l:List Save)(lab:Int):Int:=match l.findIdx? (fun s=>s.label==lab) with|some i=>i|none=>-1
theorem f194_ok(l:List Save)(lab:Int):Ac C0 194 [Lp l,I lab] [] (I (JH l lab)) []:=by
 refine Ac.lens f194 fun hlen=>?_
 simp only[Ec,lens,length_map,and_true,true_and]at hlen
 refine Ac.go f194 ?_
 unfold f194
 refine gO ?_
 refine Ab (α:=Nat) (fun i=>⟨[(5,I i),(0,Lp l),(1,I lab)],[]⟩) (fun i=>i≤(l).length∧(l.take i).find? (fun s=>s.label==lab)=none) (fun i=>(l).length-i) 0 ⟨by omega,rfl⟩ ?_ ?_
 ·exact Bu
 rintro i ⟨hi,hP⟩ J hJ
 refine gO ?_
 refine ⟨fun hlt=>?_,fun hge=>?_⟩
 rotate_left
 have hil:i=(l).length:=by simp at hge;omega
 rotate_left
 obtain⟨b,hb⟩:∃ b,(l)[i]?=some b:=⟨_,gE (by simp at hlt;omega)⟩
 have hbm:=mG hb
 have hlt2:i<(l).length:=by simp at hlt;omega
 simp(disch:=omega)only[go_sem,gm,hb]
 ·refine⟨fun h=>?_,fun h=>?_⟩
  ·have e:=Fp hP b hb (by simpa using h)
   simp(disch:=omega)only[go_sem,e,JH]
   exact Av _
  ·refine hJ _ (i+1) ⟨by simp at hlt;omega,(by rw[BA hP hb];simp at h;simp[h])⟩ (by simp at hlt;omega) AE
 ·subst hil
  rw[take_length]at hP
  have e:l.findIdx? (fun s=>s.label==lab)=none:=by
   rw[List.findIdx?_eq_none_iff]
   rw[List.find?_eq_none]at hP
   intro x hx
   simpa using hP x hx
  simp(disch:=omega)only[go_sem,e,JH]
  exact Av _
def usable(a:Amt):Bool:=Gd.fits a||Gg.fits a
def Gv(a b:Amt):Bool:=if !usable b||decide (a=b) then false else if a.mode==0&&a.units==0 then true else if !usable a then false else if a.mode !=0 then AP b.mode a.mode else decide (a.units<b.units)
theorem W0(a:Amt):Ac C0 274 [.agg a.c] [] (B (usable a)) []:=f274_ok a
theorem f248_ok(a b:Amt):Ac C0 248 [.agg a.c,.agg b.c] [] (B (Gv a b)) []:=by
 refine Ac.go f248 ?_
 unfold f248
 refine gO ?_
 refine Aa (W0 b) ?_
 cases h1:usable b
 ·simp(disch:=omega)only[go_sem]
  refine Ak _ ?_
  exact wb (by simp[Gv,h1])
 refine gO ?_
 cases h2:decide (a=b)
 rotate_left
 ·simp(disch:=omega)only[go_sem,h2]
  refine Ak _ ?_
  exact wb (by simp[Gv,h1,h2])
 simp(disch:=omega)only[go_sem,h2]
 cases h3:(a.mode==0&&a.units==0)
 rotate_left
 ·simp(disch:=omega)only[go_sem,h3]
  refine Ak _ ?_
  exact wb (by simp[Gv,h1,h2,h3])
 simp(disch:=omega)only[go_sem,h3]
 refine Aa (W0 a) ?_
 cases h4:usable a
 ·simp(disch:=omega)only[go_sem]
  refine Ak _ ?_
  exact wb (by simp[Gv,h1,h2,h3,h4])
 refine gO ?_
 cases h5:(a.mode !=0)
 ·simp(disch:=omega)only[go_sem,h5]
  refine Ak _ ?_
  exact wb (by simp only[Gv,h1,h2,h3,h4,h5];rfl)
 ·simp(disch:=omega)only[go_sem,h5]
  refine Aa (f287_ok b.mode a.mode) ?_
  refine gO ?_
  refine Ak _ ?_
  exact wb (by simp only[Gv,h1,h2,h3,h4,h5];rfl)
def NX(a b:Int):Int:=match (List.range 5).find? (fun k=>AP ((k+1:Nat):Int) a&&AP ((k+1:Nat):Int) b) with|some k=>((k+1:Nat):Int)|none=>0
theorem f290_ok(a b:Int):Ac C0 290 [I a,I b] [] (I (NX a b)) []:=by
 have hr:∀ i,i<5→(List.range 5)[i]?=some i:=fun i hi=>by rw[List.getElem?_range hi]
 refine Ac.go f290 ?_
 unfold f290
 refine gO ?_
 refine Ab (α:=Nat) (fun i=>⟨[(5,I ((i+1:Nat):Int)),(0,I a),(1,I b)],[]⟩) (fun i=>i≤5∧((List.range 5).take i).find? (fun k=>AP ((k+1:Nat):Int) a&&AP ((k+1:Nat):Int) b)=none) (fun i=>5-i) 0 ⟨by omega,rfl⟩ AE ?_
 rintro i ⟨hi,hP⟩ J hJ
 by_cases h5:i<5
 rotate_left
 ·have e5:i=5:=by omega
  subst e5
  have e:NX a b=0:=by unfold NX;rw[show List.range 5=(List.range 5).take 5 from rfl,hP]
  simp(disch:=omega)only[go_sem,e]
  exact Av _
 have e1:((i:Int)+1≤5)=True:=eq_true (by omega)
 simp(disch:=omega)only[go_sem,e1]
 refine Aa (f287_ok ((i+1:Nat):Int) a) ?_
 have st:(AP ((i+1:Nat):Int) a&&AP ((i+1:Nat):Int) b)=false→((List.range 5).take (i+1)).find? (fun k=>AP ((k+1:Nat):Int) a&&AP ((k+1:Nat):Int) b)=none:=fun h=>by
  rw[take_add_one,hr i h5,List.find?_append,hP]
  simp only[Option.toList,List.find?_cons,h,List.find?_nil,Option.none_or]
 cases h1:AP ((i+1:Nat):Int) a
 ·simp(disch:=omega)only[go_sem]
  exact hJ _ (i+1) ⟨by omega,st (by rw[h1];rfl)⟩ (by omega) AE
 refine gO ?_
 refine Aa (f287_ok ((i+1:Nat):Int) b) ?_
 cases h2:AP ((i+1:Nat):Int) b
 ·simp(disch:=omega)only[go_sem]
  exact hJ _ (i+1) ⟨by omega,st (by rw[h1,h2];rfl)⟩ (by omega) AE
 ·have e:NX a b=((i+1:Nat):Int):=by
   unfold NX
   have:=GK (f:=fun k=>AP ((k+1:Nat):Int) a&&AP ((k+1:Nat):Int) b) hP (hr i h5) (by rw[h1,h2];rfl)
   rw[this]
  simp(disch:=omega)only[go_sem,e]
  exact Av _
def Ea(r:Res)(a b:Amt):Amt:=if !(r.permits a&&r.permits b) then ⟨0,0⟩ else if r.covers a b then a else if r.covers b a then b else ⟨NX a.mode b.mode,0⟩
theorem f254_ok(r:Res)(a b:Amt):Ac C0 254 [.agg r.c,.agg a.c,.agg b.c] [] (.agg (Ea r a b).c) []:=by
 refine Ac.go f254 ?_
 unfold f254
 refine gO ?_
 refine Aa (f289_ok r a) ?_
 cases h1:r.permits a
 ·have e:Ea r a b=⟨0,0⟩:=by simp[Ea,h1]
  simp(disch:=omega)only[go_sem,e]
  exact Av _
 refine gO ?_
 refine Aa (f289_ok r b) ?_
 cases h2:r.permits b
 ·have e:Ea r a b=⟨0,0⟩:=by simp[Ea,h2]
  simp(disch:=omega)only[go_sem,e]
  exact Av _
 refine gO ?_
 refine Aa (f253_ok r a b) ?_
 cases h3:r.covers a b
 rotate_left
 ·have e:Ea r a b=a:=by simp[Ea,h1,h2,h3]
  simp(disch:=omega)only[go_sem,e]
  exact Av _
 refine gO ?_
 refine Aa (f253_ok r b a) ?_
 cases h4:r.covers b a
 rotate_left
 ·have e:Ea r a b=b:=by simp[Ea,h1,h2,h3,h4]
  simp(disch:=omega)only[go_sem,e]
  exact Av _
 refine gO ?_
 have e:Ea r a b=⟨NX a.mode b.mode,0⟩:=by simp[Ea,h1,h2,h3,h4]
 rw[e]
 refine Aa (f290_ok a.mode b.mode) ?_
 refine gO ?_
 exact Av _
def r0:Res:=⟨[],0,0,0⟩
@[reducible] def EA(l:List Res):AV:=.sl .no 4 (l.map Res.c)
def Nx(l:List Res)(n:Bs):Option Res:=l.find? fun r=>r.name==n
theorem f288_ok(l:List Res)(n:Bs):Ac C0 288 [EA l,.v (.string (str n))] [] (.tup [.agg ((Nx l n).getD r0).c,B (Nx l n).isSome]) []:=by
 refine Ac.lens f288 fun hlen=>?_
 simp only[Ec,lens,length_map,and_true,true_and]at hlen
 refine Ac.go f288 ?_
 unfold f288
 refine gO ?_
 refine Ab (α:=Nat) (fun i=>⟨[(6,I i),(0,EA l),(1,.v (.string (str n))),(4,.ptr 256 0)],[(256,r0.c)]⟩) (fun i=>i≤(l).length∧(l.take i).find? (fun r=>r.name==n)=none) (fun i=>(l).length-i) 0 ⟨by omega,rfl⟩ ?_ ?_
 ·refine Imp.weak ?_ ?_
  all_goals(try simp(disch:=omega)only[go_sem,r0])
  all_goals(try(repeat'(with_reducible apply And.intro)))
  all_goals(first|exact .AA (by omega)|exact .Au (by omega)|exact .sl (by simp[r0])|exact .int (by simp[r0])|exact .eq (by simp[r0]))
 rintro i ⟨hi,hP⟩ J hJ
 refine gO ?_
 refine ⟨fun hlt=>?_,fun hge=>?_⟩
 rotate_left
 have hil:i=(l).length:=by simp at hge;omega
 rotate_left
 obtain⟨b,hb⟩:∃ b,(l)[i]?=some b:=⟨_,gE (by simp at hlt;omega)⟩
 have hbm:=mG hb
 have hlt2:i<(l).length:=by simp at hlt;omega
 simp(disch:=omega)only[go_sem,gm,hb]
 ·refine⟨fun h=>?_,fun h=>?_⟩
  ·have e:Nx l n=some b:=GK hP hb (by simpa using h)
   simp(disch:=omega)only[go_sem,e,gm,hb,Option.isSome_some,Option.getD_some]
   exact Av _
  ·refine hJ _ (i+1) ⟨by simp at hlt;omega,(by rw[BA hP hb];simp at h;simp[h])⟩ (by simp at hlt;omega) AE
 ·subst hil
  rw[take_length]at hP
  have e:Nx l n=none:=hP
  simp(disch:=omega)only[go_sem,e,Option.isSome_none,Option.getD_none,r0]
  exact Av _
def Kq(q:Queue)(p:Proc)(l:Amt):Prop:=((Ao q p).isSome=true→Ap q.holds p=l)∧(Ap q.holds p=l∨((Ap q.holds p).zero=false∧q.res.covers (Ap q.holds p) l=true))
theorem zero_eq{a:Amt}(h:a.zero=true):a=⟨0,0⟩:=by
 obtain⟨m,u⟩:=a
 simp[Amt.zero]at h
 simp[h]
theorem Hu{r:Res}{a:Amt}(h:r.fits a=true):r.covers a ⟨0,0⟩=true:=by
 have hs:r.shaped=true:=by simp only[Res.fits,and_eq_true]at h;exact h.1
 have hz:(⟨0,0⟩:Amt).zero=true:=rfl
 simp[Res.covers,Res.permits,hs,h,hz]
theorem VW{l:List Hold}{p:Proc}{a:Amt}(ha:a.zero=false):Ap (BQ l p a) p=a:=by
 unfold BQ Ap
 rw[ha]
 simp only[Bool.false_eq_true,if_false]
 rw[List.find?_append]
 have:((Az l p).take (BW (Az l p) p)).find? (fun h=>decide (h.proc=p))=none:=by
  rw[List.find?_eq_none]
  intro x hx
  have:=List.mem_of_mem_take hx
  simp[Az]at this
  simpa using this.2
 rw[this]
 simp
theorem VV{l:List Hold}{p:Proc}:Ap (Az l p) p=⟨0,0⟩:=by
 unfold Ap
 have:(Az l p).find? (fun h=>decide (h.proc=p))=none:=by
  rw[List.find?_eq_none]
  intro x hx
  simp[Az]at hx
  simpa using hx.2
 rw[this]
theorem KE{l:List Hold}{p:Proc}{a:Amt}:Ap (BQ l p a) p=a:=by
 cases h:a.zero
 ·exact VW h
 ·rw[zero_eq h,Fe,VV]
theorem Jf{l:List Wait}{p p':Proc}(h:p'≠p):(A8 l p).find? (fun w=>decide (w.proc=p'))=l.find? fun w=>decide (w.proc=p'):=by
 unfold A8
 rw[F8]
 intro x hx
 simp at hx ⊢
 rw[hx];exact h
theorem OQ{l:List Wait}{p:Proc}:(A8 l p).find? (fun w=>decide (w.proc=p))=none:=by
 rw[List.find?_eq_none]
 intro x hx
 simp[A8]at hx
 simpa using hx.2
theorem IA{q:Queue}{p:Proc}:Ao q p=none↔∀ w,w∈q.convs++q.waits→w.proc≠p:=by
 unfold Ao
 rw[Option.map_eq_none_iff,List.find?_eq_none]
 simp
theorem FP{q:Queue}{w:Wait}(h:A4 q=some w):(∃ l,q.convs=w::l∧Cm q w = { q with holds:=BQ q.holds w.proc w.amt,convs:=l })∨(q.convs=[]∧∃ l,q.waits=w::l∧Cm q w = { q with holds:=BQ q.holds w.proc w.amt,waits:=l }):=by
 cases hc:q.convs with
 | cons w' l =>
  have hw':w'=w:=by simp[A4,hc]at h;exact h
  subst hw'
  exact .inl ⟨l,rfl,by unfold Cm;simp only[hc]⟩
 | nil =>
  cases hw:q.waits with
  | nil=>simp[A4,hc,hw]at h
  | cons w' l =>
   have hw':w'=w:=by simp[A4,hc,hw]at h;exact h
   subst hw'
   exact .inr ⟨rfl,l,rfl,by unfold Cm;simp only[hc,hw];rfl⟩
theorem Ke{q:Queue}{w:Wait}{p:Proc}(h:A4 q=some w)(hp:p≠w.proc):Ao (Cm q w) p=Ao q p:=by
 have hd:decide (w.proc=p)=false:=by simpa using Ne.symm hp
 rcases FP h with ⟨l,hc,e⟩|⟨hc,l,hw,e⟩
 ·rw[e];unfold Ao;simp only[hc,List.cons_append,List.find?_cons,hd]
 ·rw[e];unfold Ao;simp only[hc,hw,nil_append,List.find?_cons,hd]
theorem Qw{q:Queue}{w:Wait}(h:A4 q=some w):Ao q w.proc=some w.amt:=by
 rcases FP h with ⟨l,hc,e⟩|⟨hc,l,hw,e⟩
 ·unfold Ao;simp[hc]
 ·unfold Ao;simp[hc,hw]
theorem P0{q:Queue}{w:Wait}(hs:Sound q)(h:A4 q=some w):Ao (Cm q w) w.proc=none:=by
 have hcv:=(Bq q).1 hs.convs
 obtain⟨a,b,c⟩:=(Bi q).1 hs.waits
 rw[Cl]at a
 rw[IA]
 rcases FP h with ⟨l,hc,e⟩|⟨hc,l,hw,e⟩
 ·rw[e]
  intro x hx
  have hu:=hcv.2.1
  rw[hc]at hu
  have hu':=pairwise_cons.1 hu
  simp only[mem_append]at hx
  rcases hx with hx|hx
  ·exact fun e=>hu'.1 x hx e.symm
  ·have hh:=(hcv.2.2 w (by rw[hc];simp)).1
   have hz:=(c x hx).2
   intro e2
   rw[e2,hh]at hz
   cases hz
 ·rw[e]
  intro x hx
  simp only[hc,nil_append]at hx
  have hu:=a.2.1
  rw[hw]at hu
  exact fun e=>(pairwise_cons.1 hu).1 x hx e.symm
theorem aT{q:Queue}{w:Wait}{p:Proc}{l:Amt}(hs:Sound q)(h:A4 q=some w)(hr:EC q.res q.holds w.proc w.amt=true)(hk:Kq q p l):Kq (Cm q w) p l:=by
 by_cases hp:p=w.proc
 ·subst hp
  have hl:=hk.1 (by rw[Qw h];rfl)
  have hf:=(Ky hr).1
  have e:Ap (Cm q w).holds w.proc=w.amt:=by
   rcases FP h with ⟨l,hc,e⟩|⟨hc,l,hw,e⟩<;>rw[e]<;>exact KE
  refine⟨fun hh=>absurd hh (by rw[P0 hs h];simp),.inr ?_⟩
  rw[e,(L7 q w).1]
  refine⟨GL hf,?_⟩
  rcases FP h with ⟨l',hc,_⟩|⟨hc,l',hw,_⟩
  ·have:=((Bq q).1 hs.convs).2.2 w (by rw[hc];simp)
   rw[← hl];exact this.2.2.1
  ·have:=((Bi q).1 hs.waits).2.2 w (by rw[hw];simp)
   rw[← hl,zero_eq this.2]
   exact Hu hf
 ·have e:Ap (Cm q w).holds p=Ap q.holds p:=by
   rcases FP h with ⟨l,hc,e⟩|⟨hc,l,hw,e⟩<;>rw[e]<;>exact Fm hp
  unfold Kq at hk ⊢
  rw[Ke h hp,e,(L7 q w).1]
  exact hk
theorem aS{q:Queue}{p:Proc}{l:Amt}(hs:Sound q)(hk:Kq q p l):Kq (BD q).1 p l :=
 (GF (P:=fun x=>Sound x∧Kq x p l) (fun _ _ h hh hr=>⟨KB h.1 hh hr,aT h.1 hh hr h.2⟩) _ q rfl ⟨hs,hk⟩).1.2
theorem W7{q:Queue}{p:Proc}(hw:Ao q p=none):Ao (BD q).1 p=none∧Ap (BD q).1.holds p=Ap q.holds p :=
 (GF (P:=fun x=>Ao x p=none∧Ap x.holds p=Ap q.holds p) (fun x w h hh hr=>by
  have hp:p≠w.proc:=fun e=>by rw[e,Qw hh]at h;cases h.1
  refine⟨by rw[Ke hh hp];exact h.1,?_⟩
  rw[← h.2]
  rcases FP hh with ⟨l,hc,e⟩|⟨hc,l,hw,e⟩<;>rw[e]<;>exact Fm hp) _ q rfl ⟨hw,rfl⟩).1
theorem Xv(g:Int):0≤JX g∧JX g≤1073741824:=by unfold JX;split<;>omega
theorem VK{q:Queue}(h:Sound q):valid (EH q)=true:=by
 rw[CF]
 exact Q9 (Q3 h) (Xv _)
theorem Yo(q:Queue):(EH q).res=q.res:=(NZ q).1
theorem WU{q:Queue}{p:Proc}{l:Amt}(hs:Sound q)(hk:Kq q p l):Kq (EH q) p l:=aS hs hk
theorem SE{q:Queue}{p:Proc}(hw:Ao q p=none):Ao (EH q) p=none∧Ap (EH q).holds p=Ap q.holds p:=W7 hw
theorem Rv(q:Queue)(x:Proc):inQ (EH q) x↔inQ q x:=Xa q x
theorem DY{α:Type}[DecidableEq α]:∀ (l' l:List α),l'.Nodup→(∀ x∈l',x∈l)→l'.length≤l.length
 |[],_,_,_=>Nat.zero_le _
 | a::l',l,hn,hs=>by
  have hn':=List.nodup_cons.1 hn
  have ha:=hs a (by simp)
  have:=DY l' (l.erase a) hn'.2 fun x hx=>(List.mem_erase_of_ne (fun e=>hn'.1 (by rw[← e];exact hx))).2 (hs x (by simp[hx]))
  have h2:=List.length_erase_of_mem ha
  have h3:0<l.length:=List.length_pos_of_mem ha
  simp only[List.length_cons]
  omega
theorem HN{l:List Wait}:PB l↔(l.map (·.proc)).Nodup:=by
 unfold PB List.Nodup
 rw[List.pairwise_map]
def D9(q:Queue)(p:Proc):Queue:={ q with convs:=A8 q.convs p,waits:=A8 q.waits p }
theorem NQ{q:Queue}(h:Sound q)(p:Proc):Sound (D9 q p):=by
 have hw:=Bk q.waits p
 have hc:=Bk q.convs p
 refine⟨h.res,h.holds,?_,?_,h.gen⟩
 ·have:=(Bq q).1 h.convs
  rw[Bq]
  simp only[D9]
  refine⟨by omega,this.2.1.sublist List.filter_sublist,fun w hw=>?_⟩
  simp only[A8,mem_filter,decide_eq_true_eq]at hw
  exact this.2.2 w hw.1
 ·have:=(Bi q).1 h.waits
  rw[Bi]
  obtain⟨a,b,c⟩:=this
  rw[Cl]at a
  simp only[D9,Cl]
  refine⟨⟨by omega,a.2.1.sublist List.filter_sublist,fun w hw=>?_⟩,by omega,fun w hw=>?_⟩
  ·simp only[A8,mem_filter]at hw
   exact a.2.2 w hw.1
  ·simp only[A8,mem_filter,decide_eq_true_eq]at hw
   exact c w hw.1
theorem V2{q:Queue}(h:Sound q){p:Proc}(hz:(Ap q.holds p).zero=false):q.res.fits (Ap q.holds p)=true∧p.ok=true∧∃ x∈q.holds,x.proc=p:=by
 obtain⟨h1,h2,h3,h4,h5⟩:=(DD _ _).1 h.holds
 unfold Ap at hz ⊢
 cases hf:q.holds.find? (fun h=>decide (h.proc=p)) with
 |none=>rw[hf]at hz;simp[Amt.zero]at hz
 |some x =>
  have hm:=List.mem_of_find?_eq_some hf
  have hx:x.proc=p:=by simpa using List.find?_some hf
  exact⟨(h3 x hm).2,hx▸(h3 x hm).1,x,hm,hx⟩
theorem Wt{m n:Int}(hm:A1 m=true)(hn:A1 n=true):A1 (NX m n)=true∧AP (NX m n) m=true∧AP (NX m n) n=true:=by
 rcases AF hm with rfl|rfl|rfl|rfl|rfl<;>rcases AF hn with rfl|rfl|rfl|rfl|rfl<;>decide
theorem LJ{m:Int}(hm:A1 m=true):AP m m=true:=by
 rcases AF hm with rfl|rfl|rfl|rfl|rfl<;>decide
theorem PJ{a b c:Int}(h1:AP a b=true)(h2:AP b c=true):AP a c=true:=by
 have ha:A1 a=true:=by simp only[AP,and_eq_true]at h1;exact h1.1.1
 have hb:A1 b=true:=by simp only[AP,and_eq_true]at h1;exact h1.1.2
 have hc:A1 c=true:=by simp only[AP,and_eq_true]at h2;exact h2.1.2
 revert h1 h2
 rcases AF ha with rfl|rfl|rfl|rfl|rfl<;>rcases AF hb with rfl|rfl|rfl|rfl|rfl<;>rcases AF hc with rfl|rfl|rfl|rfl|rfl<;>decide
theorem B6{r:Res}{a:Amt}(h:r.fits a=true):r.shaped=true∧((r.kind=1∧A1 a.mode=true∧a.units=0)∨(r.kind≠1∧a.mode=0∧1≤a.units∧a.units≤r.units∧r.units≤8)):=by
 simp only[Res.fits,and_eq_true]at h
 obtain⟨h1,h2⟩:=h
 refine⟨h1,?_⟩
 split at h2
 ·rename_i hk
  simp at h2
  exact .inl ⟨hk,h2.1,h2.2⟩
 ·rename_i hk
  simp[between]at h2
  have:r.units≤8:=by
   simp only[Res.shaped,if_neg hk]at h1
   split at h1
   ·simp[between]at h1;omega
   ·cases h1
  exact .inr ⟨hk,h2.1,h2.2.1,h2.2.2,this⟩
theorem DB{r:Res}{a b:Amt}(ha:r.fits a=true)(hb:r.fits b=true):r.covers a b=if r.kind=1 then AP a.mode b.mode else decide (b.units≤a.units):=by
 have z1:=GL ha
 have z2:=GL hb
 have hs:=(B6 ha).1
 simp[Res.covers,Res.permits,hs,ha,hb,z1,z2]
theorem Ny{r:Res}{a:Amt}(h:r.fits a=true):(Gd.fits a||Gg.fits a)=true:=by
 rcases(B6 h).2 with ⟨_,h2,h3⟩|⟨_,h2,h3,h4,h5⟩
 ·simp[Res.fits,Gd,Res.shaped,h2,h3]
 ·have:between a.units 1 8=true:=by simp[between];omega
  simp[Res.fits,Gg,Res.shaped,h2,this,show between (8:Int) 1 8=true by decide]
theorem OZ{r:Res}{h a:Amt}(hh:r.fits h=true)(ha:r.fits a=true)(hc:r.covers h a=false):r.fits (Ea r h a)=true∧r.covers (Ea r h a) h=true∧Ea r h a≠h∧r.covers (Ea r h a) a=true:=by
 have hs:=(B6 hh).1
 have hp1:r.permits h=true:=by simp[Res.permits,hs,hh]
 have hp2:r.permits a=true:=by simp[Res.permits,hs,ha]
 unfold Ea
 simp only[hp1,hp2,hc,Bool.and_self,Bool.not_true,Bool.false_eq_true,if_false]
 by_cases h2:r.covers a h=true
 ·rw[if_pos h2]
  refine⟨ha,h2,(fun e=>by rw[e]at h2 hc;rw[h2]at hc;cases hc),?_⟩
  rw[DB ha ha]
  rcases(B6 ha).2 with ⟨k1,k2,k3⟩|⟨k1,k2,k3,k4,_⟩
  ·rw[if_pos k1];exact LJ k2
  ·rw[if_neg k1];simp
 ·rw[if_neg h2]
  rw[DB hh ha]at hc
  rw[DB ha hh]at h2
  rcases(B6 hh).2 with ⟨k1,k2,k3⟩|⟨k1,k2,k3,k4,_⟩
  ·rcases(B6 ha).2 with ⟨_,j2,j3⟩|⟨j1,_⟩
   ·obtain⟨s1,s2,s3⟩:=Wt k2 j2
    rw[if_pos k1]at hc
    have hf:r.fits ⟨NX h.mode a.mode,0⟩=true:=by simp[Res.fits,hs,k1,s1]
    refine⟨hf,(by rw[DB hf hh,if_pos k1];exact s2),fun e=>?_,by rw[DB hf ha,if_pos k1];exact s3⟩
    have:NX h.mode a.mode=h.mode:=congrArg Amt.mode e
    rw[this]at s3
    rw[s3]at hc;cases hc
   ·exact absurd k1 j1
  ·rw[if_neg k1]at hc h2
   simp at hc h2
   omega
theorem Px{q:Queue}(h:Sound q){p:Proc}{a:Amt}(ha:q.res.fits a=true)(hw:Ao q p=none)(hz:(Ap q.holds p).zero=false)(hc:q.res.covers (Ap q.holds p) a=false) :
 Sound { q with convs:=q.convs++[⟨p,Ea q.res (Ap q.holds p) a,0,0⟩] }:=by
 obtain⟨hf,hpo,x,hx,hxp⟩:=V2 h hz
 obtain⟨j1,j2,j3,_⟩:=OZ hf ha hc
 obtain⟨c1,c2,c3⟩:=(Bq q).1 h.convs
 have hn:=IA.1 hw
 have hlen:q.holds.length≤8:=((DD _ _).1 h.holds).2.1
 have hnd:(q.convs.map (·.proc)++[p]).Nodup:=by
  rw[nodup_append]
  refine⟨HN.1 c2,by simp,fun y hy z hz=>?_⟩
  simp only[mem_singleton]at hz
  simp only[mem_map]at hy
  obtain⟨w,hw1,hw2⟩:=hy
  rw[hz,← hw2]
  exact hn w (by simp[hw1])
 have hle:=DY _ (q.holds.map (·.proc)) hnd fun y hy=>by
  rw[mem_append]at hy
  rcases hy with hy|hy
  ·simp only[mem_map]at hy
   obtain⟨w,hw1,hw2⟩:=hy
   obtain⟨x',h1,h2⟩:=Kp (c3 w hw1).1
   exact mem_map.2 ⟨x',h1,by rw[h2,hw2]⟩
  ·rw[mem_singleton.1 hy]
   exact mem_map.2 ⟨x,hx,hxp⟩
 simp only[List.length_append,length_map,List.length_singleton]at hle
 refine⟨h.res,h.holds,?_,h.waits,h.gen⟩
 rw[Bq]
 refine⟨by simp;omega,?_,fun w hw=>?_⟩
 ·rw[HN]
  simpa using hnd
 ·simp only[mem_append,mem_singleton]at hw
  rcases hw with hw|rfl
  ·exact c3 w hw
  ·exact⟨hz,j1,j2,j3,rfl,rfl⟩
def Eh(l:List Wait)(w:Wait):Nat→Nat
 | 0=>0
 | k+1=>if (l.getD k w0).prio<w.prio∧(l.getD k w0).passed<3 then Eh l w k else k+1
def Ln(l:List Wait)(w:Wait):List Wait:=l.take (Eh l w l.length)++w::(l.drop (Eh l w l.length)).map fun x=>{ x with passed:=x.passed+1 }
theorem TI(l:List Wait)(w:Wait):∀ k,Eh l w k≤k
 | 0=>by simp[Eh]
 | k+1=>by
  simp only[Eh]
  split
  ·have:=TI l w k;omega
  ·omega
theorem Py(l:List Wait)(w:Wait):∀ k,k≤l.length→(∀ y∈l.drop k,y.passed<3)→∀ y∈l.drop (Eh l w k),y.passed<3
 | 0,_,h=>by simpa [Eh]using h
 | k+1,hk,h=>by
  simp only[Eh]
  split
  ·rename_i hc
   refine Py l w k (by omega) fun y hy=>?_
   rw[List.drop_eq_getElem_cons (by omega)]at hy
   rcases mem_cons.1 hy with rfl|hy
   ·have:=hc.2
    simpa [List.getD,gE (show k<l.length by omega)]using this
   ·exact h y hy
  ·exact h
theorem Uz(l:List Wait)(w:Wait):(Ln l w).map (·.proc)=(l.map (·.proc)).take (Eh l w l.length)++w.proc::(l.map (·.proc)).drop (Eh l w l.length):=by
 simp[Ln,List.map_take,List.map_drop,Function.comp_def]
theorem Pp(l:List Wait)(w:Wait):(Ln l w).length=l.length+1:=by
 have:=TI l w l.length
 simp[Ln];omega
theorem Pq{l:List Wait}{w x:Wait}(h:x∈Ln l w):x=w∨x∈l∨∃ y∈l,y.passed<3∧x = { y with passed:=y.passed+1 }:=by
 simp only[Ln,mem_append,mem_cons,mem_map]at h
 rcases h with h|h|⟨y,hy,h⟩
 ·exact .inr (.inl (List.mem_of_mem_take h))
 ·exact .inl h
 ·exact .inr (.inr ⟨y,List.mem_of_mem_drop hy,Py l w _ (Nat.le_refl _) (by simp) y hy,h.symm⟩)
theorem Q6{q:Queue}(h:Sound q){p:Proc}{a:Amt}{prio:Int}(hp:p.ok=true)(hpr:0≤prio∧prio≤7)(ha:q.res.fits a=true)(hw:Ao q p=none)(hz:(Ap q.holds p).zero=true)(hl:q.holds.length+q.waits.length<8) :
 Sound { q with waits:=Ln q.waits ⟨p,a,prio,0⟩ }:=by
 obtain⟨a1,a2,a3⟩:=(Bi q).1 h.waits
 rw[Cl]at a1
 have hn:=IA.1 hw
 have hlen:=Pp q.waits ⟨p,a,prio,0⟩
 refine⟨h.res,h.holds,h.convs,?_,h.gen⟩
 rw[Bi]
 simp only[Cl]
 refine⟨⟨by omega,?_,fun x hx=>?_⟩,by omega,fun x hx=>?_⟩
 ·rw[HN,Uz]
  have hu:=HN.1 a1.2.1
  have hpn:p∉q.waits.map (·.proc):=fun hm=>by
   obtain⟨w,h1,h2⟩:=mem_map.1 hm
   exact hn w (by simp[h1]) h2
  generalize q.waits.map (·.proc)=ps at hu hpn
  generalize Eh q.waits ⟨p,a,prio,0⟩ q.waits.length=k
  have hu2:=hu
  rw[← List.take_append_drop k ps,nodup_append]at hu2
  rw[nodup_append]
  refine⟨hu2.1,List.nodup_cons.2 ⟨fun hm=>hpn (List.mem_of_mem_drop hm),hu2.2.1⟩,fun y hy z hz=>?_⟩
  rcases mem_cons.1 hz with rfl|hz
  ·exact fun e=>hpn (e▸List.mem_of_mem_take hy)
  ·exact hu2.2.2 y hy z hz
 ·rcases Pq hx with rfl|hx|⟨y,hy,hy3,rfl⟩
  ·simp[Wait.ok,hp,Ny ha,between,hpr]
  ·exact a1.2.2 x hx
  ·have:=a1.2.2 y hy
   simp only[Wait.ok,and_eq_true,between,decide_eq_true_eq]at this ⊢
   exact⟨this.1,by omega,by omega⟩
 ·rcases Pq hx with rfl|hx|⟨y,hy,hy3,rfl⟩
  ·exact⟨ha,hz⟩
  ·exact a3 x hx
  ·exact a3 y hy
theorem Rx{l1 l2:List Hold}{p:Proc}(h1:∀ y∈l1,A2 y.proc p<0)(h2:∀ y∈l2,A2 p y.proc<0):Az (l1++l2) p=l1++l2∧BW (l1++l2) p=l1.length:=by
 have n1:∀ y∈l1++l2,y.proc≠p:=fun y hy e=>by
  rcases mem_append.1 hy with hy|hy
  ·have:=h1 y hy;rw[e,C6]at this;omega
  ·have:=h2 y hy;rw[e,C6]at this;omega
 refine⟨by unfold Az;rw[List.filter_eq_self];intro y hy;simpa using n1 y hy,?_⟩
 unfold BW
 rw[List.findIdx?_append]
 have e1:l1.findIdx? (after' p)=none:=by
  rw[List.findIdx?_eq_none_iff]
  intro y hy
  have:=h1 y hy
  simp[after'];omega
 rw[e1]
 cases l2 with
 | nil=>simp
 | cons y l2 =>
  have:=h2 y (by simp)
  have hs:=Cx p y.proc
  have:after' p y=true:=by simp[after'];omega
  simp[List.findIdx?_cons,this]
theorem Vq{l:List Hold}(h:K0 l){x:Hold}(hx:x∈l):∃ l1 l2,l=l1++x::l2∧∀ a:Amt,a.zero=false→BQ l x.proc a=l1++⟨x.proc,a⟩::l2:=by
 obtain⟨l1,l2,rfl⟩:=List.append_of_mem hx
 unfold K0 at h
 rw[List.pairwise_append]at h
 obtain⟨h1,h2,h3⟩:=h
 have h2':=pairwise_cons.1 h2
 have b1:∀ y∈l1,A2 y.proc x.proc<0:=fun y hy=>h3 y hy x (by simp)
 have b2:∀ y∈l2,A2 x.proc y.proc<0:=fun y hy=>h2'.1 y hy
 obtain⟨e1,e2⟩:=Rx b1 b2
 refine⟨l1,l2,rfl,fun a ha=>?_⟩
 have e3:Az (l1++x::l2) x.proc=l1++l2:=by
  rw[← e1]
  simp[Az]
 unfold BQ
 rw[ha,e3,e2]
 simp
theorem LH{a b c:Int}(h1:AP a b=true)(h2:Bt a c=true):Bt b c=true:=by
 have ha:A1 a=true:=by simp only[AP,and_eq_true]at h1;exact h1.1.1
 have hb:A1 b=true:=by simp only[AP,and_eq_true]at h1;exact h1.1.2
 have hc:A1 c=true:=by simp only[Bt,and_eq_true]at h2;exact h2.1.2
 revert h1 h2
 rcases AF ha with rfl|rfl|rfl|rfl|rfl<;>rcases AF hb with rfl|rfl|rfl|rfl|rfl<;>rcases AF hc with rfl|rfl|rfl|rfl|rfl<;>decide
theorem LI{a b:Int}(h:Bt a b=true):Bt b a=true:=by
 have ha:A1 a=true:=by simp only[Bt,and_eq_true]at h;exact h.1.1
 have hb:A1 b=true:=by simp only[Bt,and_eq_true]at h;exact h.1.2
 revert h
 rcases AF ha with rfl|rfl|rfl|rfl|rfl<;>rcases AF hb with rfl|rfl|rfl|rfl|rfl<;>decide
def S4(s' s:List Bool):Prop:=∀ k:Nat,s'.getD k false=true→s.getD k false=true∨∃ k':Nat,s.getD k' false=true∧k'<6∧AP k' k=true
theorem Ty{s s':List Bool}{m:Int}(h:S4 s' s)(hs:Dy s m=true):Dy s' m=true:=by
 unfold Dy at *
 rw[List.all_eq_true]at *
 intro k hk
 cases h1:s'.getD k false
 ·rfl
 ·rcases h k h1 with h2|⟨k',h2,h4,h3⟩
  ·have:=hs k hk
   rw[h2]at this
   simpa using this
  ·have:=hs k' (List.mem_range.2 h4)
   rw[h2]at this
   have:=LH h3 (by simpa using this)
   simp[this]
theorem Tz{s:List Bool}{m m':Int}(h:AP m m'=true)(hs:Dy s m=true):Dy s m'=true:=by
 unfold Dy at *
 rw[List.all_eq_true]at *
 intro k hk
 have:=hs k hk
 cases h1:s.getD k false
 ·rfl
 ·rw[h1]at this
  have h2:Bt k m=true:=by simpa using this
  have:=LI (LH h (LI h2))
  simp[this]
theorem V7{s s':List Bool}(h:S4 s' s)(hl:s'.length=s.length)(i:Nat):S4 (s'.set i true) (s.set i true):=by
 intro k hk
 rw[Fl]at hk
 split at hk
 ·rename_i hc
  exact .inl (by rw[Fl,if_pos ⟨hc.1,by omega⟩])
 ·rcases h k hk with h2|⟨k',h2,h4,h3⟩
  ·refine .inl ?_
   rw[Fl];split
   ·rfl
   ·exact h2
  ·refine .inr ⟨k',?_,h4,h3⟩
   rw[Fl];split
   ·rfl
   ·exact h2
theorem GG{r:Res}:∀ (l:List Amt) {s s':Int} {seen seen':List Bool},s'≤s→seen'.length=seen.length→S4 seen' seen→Bj r l s seen=true→Bj r l s' seen'=true
 |[],_,_,_,_,_,_,_,_=>rfl
 | a::l,s,s',seen,seen',hs,hl,hk,h=>by
  simp only[Bj,and_eq_true,Bool.not_eq_true',decide_eq_false_iff_not]at h ⊢
  obtain⟨⟨h1,h2⟩,h3⟩:=h
  refine⟨⟨h1,by omega⟩,?_⟩
  split at h3
  ·rename_i hm
   rw[if_pos hm]
   exact GG l (by omega) hl hk h3
  ·rename_i hm
   rw[if_neg hm]
   rw[and_eq_true]at h3 ⊢
   exact⟨Ty hk h3.1,GG l (by omega) (by simpa using hl) (V7 hk hl _) h3.2⟩
theorem Uj(s:List Bool):S4 s s:=fun _ h=>.inl h
theorem HR{r:Res}{a b:Amt}(ha:r.fits a=true)(hb:r.fits b=true)(hc:r.covers a b=true)(l2:List Amt):∀ (l1:List Amt) {s:Int} {seen:List Bool},seen.length=6→Bj r (l1++a::l2) s seen=true→Bj r (l1++b::l2) s seen=true
 |[],s,seen,hl,h=>by
  rw[DB ha hb]at hc
  have hs:=(B6 ha).1
  have hpb:r.permits b=true:=by simp[Res.permits,hs,hb]
  simp only[nil_append,Bj,and_eq_true,Bool.not_eq_true',decide_eq_false_iff_not]at h ⊢
  obtain⟨⟨h1,h2⟩,h3⟩:=h
  rcases(B6 ha).2 with ⟨k1,k2,k3⟩|⟨k1,k2,k3,k4,_⟩
  ·rcases(B6 hb).2 with ⟨_,j2,j3⟩|⟨j1,_⟩
   ·rw[if_pos k1]at hc
    have m1:a.mode≠0:=by rcases AF k2 with e|e|e|e|e<;>omega
    have m2:b.mode≠0:=by rcases AF j2 with e|e|e|e|e<;>omega
    rw[if_neg m1,and_eq_true]at h3
    rw[if_neg m2,and_eq_true]
    refine⟨⟨hpb,by omega⟩,Tz hc h3.1,GG l2 (by omega) (by simp) (fun k hk=>?_) h3.2⟩
    rw[Fl]at hk
    split at hk
    ·rename_i hk'
     refine .inr ⟨a.mode.toNat,?_,?_,?_⟩
     ·rw[Fl,if_pos ⟨rfl,by rcases AF k2 with e|e|e|e|e<;>omega⟩]
     ·rcases AF k2 with e|e|e|e|e<;>omega
     ·rw[← hk'.1]
      have e1:((a.mode.toNat:Nat):Int)=a.mode:=by rcases AF k2 with e|e|e|e|e<;>omega
      have e2:((b.mode.toNat:Nat):Int)=b.mode:=by rcases AF j2 with e|e|e|e|e<;>omega
      rw[e1,e2];exact hc
    ·refine .inl ?_
     rw[Fl];split
     ·rfl
     ·exact hk
   ·exact absurd k1 j1
  ·rcases(B6 hb).2 with ⟨j1,_⟩|⟨_,j2,j3,j4,_⟩
   ·exact absurd j1 k1
   ·rw[if_neg k1]at hc
    simp only[decide_eq_true_eq]at hc
    rw[if_pos k2]at h3
    rw[if_pos j2]
    exact⟨⟨hpb,by omega⟩,GG l2 (by omega) rfl (Uj _) h3⟩
 | x::l1,s,seen,hl,h=>by
  simp only[List.cons_append,Bj,and_eq_true]at h ⊢
  refine⟨h.1,?_⟩
  have h3:=h.2
  split at h3
  ·rename_i hm
   rw[if_pos hm]
   exact HR ha hb hc l2 l1 hl h3
  ·rename_i hm
   rw[and_eq_true]at h3
   rw[if_neg hm,and_eq_true]
   exact⟨h3.1,HR ha hb hc l2 l1 (by simpa using hl) h3.2⟩
theorem PT{r:Res}{l:List Hold}(h:AZ r l=true){p:Proc}{a:Amt}(hz:(Ap l p).zero=false)(hc:r.covers (Ap l p) a=true)(ha:a.zero=false):AZ r (BQ l p a)=true:=by
 obtain⟨h1,h2,h3,h4,h5⟩:=(DD _ _).1 h
 obtain⟨x,hx,hxp,hg⟩:∃ x∈l,x.proc=p∧Ap l p=x.amt:=by
  unfold Ap at hz ⊢
  cases hf:l.find? (fun h=>decide (h.proc=p)) with
  |none=>rw[hf]at hz;simp[Amt.zero]at hz
  |some x=>exact⟨x,List.mem_of_find?_eq_some hf,by simpa using List.find?_some hf,rfl⟩
 have hfx:=(h3 x hx).2
 rw[hg]at hc
 have hfa:r.fits a=true:=by
  simp only[Res.covers,Res.permits,and_eq_true,Bool.or_eq_true]at hc
  have:=hc.1.2.2
  rw[ha]at this
  simpa using this
 subst hxp
 obtain⟨l1,l2,rfl,hset⟩:=Vq h4 hx
 rw[hset a ha,DD]
 refine⟨h1,by simpa using h2,fun y hy=>?_,?_,?_⟩
 ·simp only[mem_append,mem_cons]at hy
  rcases hy with hy|rfl|hy
  ·exact h3 y (by simp[hy])
  ·exact⟨(h3 x hx).1,hfa⟩
  ·exact h3 y (by simp[hy])
 ·unfold K0 at h4 ⊢
  rw[List.pairwise_append]at h4 ⊢
  have h4':=pairwise_cons.1 h4.2.1
  refine⟨h4.1,pairwise_cons.2 ⟨fun y hy=>h4'.1 y hy,h4'.2⟩,fun y hy z hz=>?_⟩
  rcases mem_cons.1 hz with rfl|hz
  ·exact h4.2.2 y hy x (by simp)
  ·exact h4.2.2 y hy z (by simp[hz])
 ·simp only[Res.compat,and_eq_true,List.map_append,List.map_cons]at h5 ⊢
  exact⟨h5.1,HR hfx hfa hc _ _ rfl h5.2⟩
def IX(q:Queue)(p:Proc)(a:Amt):Queue:={ q with holds:=BQ q.holds p a }
theorem Q5{q:Queue}(h:Sound q){p:Proc}{a:Amt}(hz:(Ap q.holds p).zero=false)(hw:Ao q p=none)(hc:q.res.covers (Ap q.holds p) a=true):Sound (IX q p a):=by
 have hn:=IA.1 hw
 have hlen:(BQ q.holds p a).length≤q.holds.length:=by
  have h1:=MC hz
  have h2:=Oc (l:=q.holds) (p:=p) (a:=a)
  omega
 refine⟨h.res,?_,?_,?_,h.gen⟩
 ·cases ha:a.zero
  ·exact PT h.holds hz hc ha
  ·simp only[IX,zero_eq ha,Fe]
   exact Hy List.filter_sublist h.holds
 ·obtain⟨c1,c2,c3⟩:=(Bq q).1 h.convs
  rw[Bq]
  simp only[IX]
  refine⟨c1,c2,fun w hw=>?_⟩
  rw[Fm (hn w (by simp[hw]))]
  exact c3 w hw
 ·obtain⟨a1,a2,a3⟩:=(Bi q).1 h.waits
  rw[Bi]
  simp only[IX]
  refine⟨a1,by omega,fun w hw=>?_⟩
  rw[Fm (hn w (by simp[hw]))]
  exact a3 w hw
def mid{α:Type}(l:List α)(k:Nat)(p:α):List α:=l.take k++p::l.drop k
section
variable {α:Type}
theorem RM(l:List α)(k:Nat)(p:α)(h:k≤l.length):(mid l k p).length=l.length+1:=by simp[mid];omega
theorem U4(l:List α)(k:Nat)(p:α)(h:k≤l.length):(mid l k p)[k]?=some p:=by
 unfold mid
 rw[List.getElem?_append_right (by simp;omega)]
 simp[Nat.min_eq_left h]
theorem Tc(l:List α)(k:Nat)(p:α)(h:k+1≤l.length):(mid l (k+1) p)[k]?=l[k]?:=by
 unfold mid
 rw[List.getElem?_append_left (by simp;omega),List.getElem?_take,if_pos (by omega)]
theorem Td{l:List α}{k:Nat}{p x:α}(hx:l[k]?=some x):((mid l (k+1) p).set (k+1) x).set k p=mid l k p:=by
 have hk:=Al hx
 have hd:l.drop k=x::l.drop (k+1):=by rw[List.drop_eq_getElem_cons hk,get_eq hx]
 have ht:l.take (k+1)=l.take k++[x]:=by rw[take_add_one,hx];rfl
 unfold mid
 rw[ht,hd]
 have hl:(l.take k).length=k:=by simp;omega
 rw[List.append_assoc,List.set_append_right _ _ (by omega),hl]
 simp only[List.singleton_append,Nat.add_sub_cancel_left,List.set_cons_succ,List.set_cons_zero]
 rw[List.set_append_right _ _ (by omega),hl]
 simp
theorem YD(l:List α)(k:Nat)(p x:α):x∈mid l k p↔x∈l∨x=p:=by
 unfold mid
 conv=>rhs;rw[← List.take_append_drop k l]
 simp only[mem_append,mem_cons]
 constructor
 ·rintro(h|h|h)
  ·exact .inl (.inl h)
  ·exact .inr h
  ·exact .inl (.inr h)
 ·rintro((h|h)|h)
  ·exact .inl h
  ·exact .inr (.inr h)
  ·exact .inr (.inl h)
end
@[reducible] def XX(l:List Bs):AV:=.sl .no 1 (l.map fun s=>[.v (.string (str s))])
@[reducible] def Vf(r:Nat)(l:List Bs):AV:=.sl (.own r 0) 1 (l.map fun s=>[.v (.string (str s))])
def KT(l:List Bs)(n:Bs):Nat→Nat
 | 0=>0
 | k+1=>if Dg n (l.getD k []) then KT l n k else k+1
def RB(l:List Bs)(n:Bs):List Bs:=if n∈l then l else mid l (KT l n l.length) n
def CI(l:List Entry):List Bs:=(l.map (·.name)).foldl RB []
theorem TH(l:List Bs)(n:Bs):∀ k,KT l n k≤k
 | 0=>by simp[KT]
 | k+1=>by
  simp only[KT]
  split
  ·have:=TH l n k;omega
  ·omega
theorem Xe(l:List Bs)(n:Bs):(RB l n).length≤l.length+1:=by
 unfold RB
 split
 ·omega
 ·rw[RM _ _ _ (TH l n _)];omega
theorem JV{l:List Entry}{i:Nat}{b:Entry}(hb:l[i]?=some b):CI (l.take (i+1))=RB (CI (l.take i)) b.name:=by
 simp[CI,take_add_one,hb,List.foldl_append]
theorem Lh{l:List Entry}:∀ i,i≤l.length→(CI (l.take i)).length≤i
 | 0,_=>by simp[CI]
 | i+1,h=>by
  obtain⟨b,hb⟩:∃ b,l[i]?=some b:=⟨_,gE (by omega)⟩
  rw[JV hb]
  have:=Xe (CI (l.take i)) b.name
  have:=Lh (l:=l) i (by omega)
  omega
theorem f249_ok(l:List Entry)(hl:l.length≤1000000):Ac C0 249 [Dt l] [] (XX (CI l)) []:=by
 refine Ac.go f249 ?_
 unfold f249
 refine gO ?_
 refine Ab (α:=Nat) (fun i=>⟨[(4,I i),(3,Vf 2688 (CI (l.take i))),(0,Dt l)],[]⟩) (fun i=>i≤(l).length∧True) (fun i=>(l).length-i) 0 ⟨by omega,trivial⟩ ?_ ?_
 ·refine Imp.weak ?_ ?_
  all_goals(try simp(disch:=omega)only[go_sem])
  all_goals(try(repeat'(with_reducible apply And.intro)))
  all_goals(first|exact .AA (by omega)|exact .Au (by omega)|exact .sl (by simp[CI])|exact .int (by simp[CI])|exact .eq (by simp[CI]))
 rintro i ⟨hi,hP⟩ J hJ
 refine gO ?_
 refine ⟨fun hlt=>?_,fun hge=>?_⟩
 rotate_left
 have hil:i=(l).length:=by simp at hge;omega
 rotate_left
 obtain⟨b,hb⟩:∃ b,(l)[i]?=some b:=⟨_,gE (by simp at hlt;omega)⟩
 have hbm:=mG hb
 have hlt2:i<(l).length:=by simp at hlt;omega
 ·have hnl:=Lh i hi
  generalize hout:CI (l.take i)=out at hnl ⊢
  refine Ab (α:=Nat) (fun k=>⟨[(6,I k),(5,B (decide (b.name∈out.take k))),(4,I i),(3,Vf 2688 out),(0,Dt l)],[]⟩) (fun k=>k≤out.length) (fun k=>out.length-k) 0 (by omega) ?_ ?_
  ·refine Imp.weak ?_ ?_
   all_goals simp(disch:=omega)only[go_sem]
  rintro k hk J2 hJ2
  refine gO ?_
  refine And.intro (fun hlt3=>?_) (fun hge3=>?_)
  ·obtain⟨x,hx⟩:∃ x,out[k]?=some x:=⟨_,gE (by simp at hlt3;omega)⟩
   refine Aj 11 [([],[5]),([],[21]),([],[3,22]),([],[6,22]),([],[23,24,22]),([],[25,22]),([],[0,22]),([],[4,22]),([],[27,28,22]),([],[29,22]),([],[30,22])] fol ?_
   have nxt:decide (b.name∈out.take (k+1))=(decide (b.name∈out.take k)||x==b.name):=by
    rw[take_add_one,hx]
    by_cases h2:x=b.name
    ·simp[h2]
    ·have h3:b.name≠x:=Ne.symm h2
     simp[h2,h3]
   cases hc:decide (b.name∈out.take k)
   ·simp(disch:=omega)only[go_sem,gm,hx,hb]
    refine hJ2 _ (k+1) (by simp at hlt3;omega) (by simp at hlt3;omega) (Imp.weak ?_ ?_)
    all_goals(try simp(disch:=omega)only[go_sem])
    rw[nxt,hc,Bool.false_or]
    exact .rfl
   ·simp(disch:=omega)only[go_sem,gm,hx,hb]
    refine hJ2 _ (k+1) (by simp at hlt3;omega) (by simp at hlt3;omega) (Imp.weak ?_ ?_)
    all_goals(try simp(disch:=omega)only[go_sem])
    rw[nxt,hc,Bool.true_or]
    exact .rfl
  have hke:k=out.length:=by simp at hge3;omega
  subst hke
  rw[take_length]
  cases hin:decide (b.name∈out)
  rotate_left
  ·simp(disch:=omega)only[go_sem]
   have e:CI (l.take (i+1))=out:=by rw[JV hb,hout,RB,if_pos (by simpa using hin)]
   refine hJ _ (i+1) ⟨by simp at hlt;omega,trivial⟩ (by simp at hlt;omega) (Imp.weak ?_ ?_)
   all_goals(try simp(disch:=omega)only[go_sem])
   all_goals(try(repeat'(with_reducible apply And.intro)))
   all_goals(first|exact .AA (by omega)|exact .Au (by omega)|exact .sl (by simp[e])|exact .int (by simp[e])|exact .eq (by simp[e]))
  have hbd:out.length+1≤4294967296:=by omega
  have hnin:b.name∉out:=by simpa using hin
  simp(disch:=omega)only[go_sem,gm,hb]
  refine Ab (α:=Nat) (fun k=>⟨[(7,I k),(4,I i),(3,Vf 2688 (mid out k b.name)),(0,Dt l)],[]⟩) (fun k=>k≤out.length∧KT out b.name out.length=KT out b.name k) (fun k=>k) out.length ⟨by omega,rfl⟩ ?_ ?_
  ·refine Imp.weak ?_ ?_
   all_goals(try simp(disch:=omega)only[go_sem])
   all_goals(try(repeat'(with_reducible apply And.intro)))
   all_goals(first|exact .int (by simp;omega)|exact .int (by simp)|exact .sl (by simp[mid]))
  rintro k ⟨hk,hs⟩ J2 hJ2
  have fin:KT out b.name k=k→∀ st',Imp ⟨C0,[],[]⟩ st' ⟨[(4,I (i+1:Nat)),(3,Vf 2688 (mid out k b.name)),(0,Dt l)],[]⟩→J st':=fun hst st' him =>
   hJ st' (i+1) ⟨by omega,trivial⟩ (by omega) (by
    have e:CI (l.take (i+1))=mid out k b.name:=by rw[JV hb,hout,RB,if_neg hnin,hs,hst]
    rw[e];exact him)
  refine Aj 12 [([],[7]),([],[46]),([],[47]),([],[3,48]),([],[7,48]),([],[49,50,48]),([],[51,48]),([],[3,48]),([],[7,48]),([],[54,48]),([],[53,55,48]),([],[56,48])] fol ?_
  cases k with
  | zero =>
   have e0:(0<((0:Nat):Int))=False:=by simp
   simp(disch:=omega)only[go_sem,e0,decide_false]
   exact fin rfl _ AE
  | succ k =>
   have e0:(0<(((k+1:Nat)):Int))=True:=eq_true (by omega)
   have e1:(0<(k:Int)+1)=True:=eq_true (by omega)
   have e2:((k:Int)+1-1)=(k:Int):=by omega
   obtain⟨x,hx⟩:∃ x,out[k]?=some x:=⟨_,gE (by omega)⟩
   have g1:=U4 out (k+1) b.name hk
   have g2:=Tc out k b.name hk
   rw[hx]at g2
   have hml:=RM out (k+1) b.name hk
   have z1:k<(mid out (k+1) b.name).length:=by omega
   have z2:k+1<(mid out (k+1) b.name).length:=by omega
   simp(disch:=omega)only[go_sem,e0,e1,e2,gm,g1,g2,length_map,hml]
   cases hc:Op.bytesLess b.name x
   ·simp(disch:=omega)only[go_sem]
    exact fin (by simp[KT,Dg,List.getD,hx,hc]) _ AE
   ·have e4:(k=k+1)=False:=eq_false (by omega)
    have e5:(k+1=k)=False:=eq_false (by omega)
    simp(disch:=omega)only[go_sem,e2,gm,g1,g2,length_map,hml,List.length_set,List.getElem?_set,e4,e5]
    refine hJ2 _ k ⟨by omega,by rw[hs];simp[KT,Dg,List.getD,hx,hc]⟩ (by omega) (Imp.weak ?_ (by simp(disch:=omega)only[go_sem]))
    refine gO ?_
    refine .sl ?_
    rw[← Td hx,map_set,map_set]
 ·subst hil
  simp(disch:=omega)only[go_sem,take_length]
  refine B3 ⟨[],[],[2688]⟩ _ ?_
  simp(disch:=omega)only[go_sem]
def s0:Save:=⟨0,0⟩
def Cp:Ledger:=⟨[],[]⟩
def EW(l:List Entry)(i:Nat)(e:Entry):Bool:=CH e.name&&decide (e.before=Ar (l.take i) e.name)&&Gv e.before e.after
def EM(l:Ledger)(i:Nat)(s:Save):Bool:=decide (1≤s.label)&&decide (s.label≤99)&&decide (0≤s.pos)&&decide (s.pos≤l.entries.length)&&(decide (i=0)||decide ((l.saves.getD (i-1) s0).pos≤s.pos))&&decide (JH l.saves s.label=(i:Int))
def AX(l:Ledger):Bool:=decide (l.entries.length≤72)&&decide (l.saves.length≤4)&&BE (EW l.entries) l.entries&&decide ((CI l.entries).length≤8)&&BE (EM l) l.saves
theorem f169_ok(l:Ledger):Ac C0 169 [.agg l.c] [] (B (AX l)) []:=by
 have bad:AX l=false→Bz (B false) (B (AX l)):=fun h=>wb h.symm
 refine Ac.go f169 ?_
 unfold f169
 by_cases h1:72<l.entries.length
 ·have e1:(72<(l.entries.length:Int))=True:=eq_true (by omega)
  simp(disch:=omega)only[go_sem,e1,decide_true]
  refine Ak _ ?_
  exact wb (by simp[AX];omega)
 have e1:(72<(l.entries.length:Int))=False:=eq_false (by omega)
 by_cases h2:4<l.saves.length
 ·have e2:(4<(l.saves.length:Int))=True:=eq_true (by omega)
  simp(disch:=omega)only[go_sem,e1,e2,decide_true,decide_false]
  refine Ak _ ?_
  exact wb (by simp[AX];omega)
 have e2:(4<(l.saves.length:Int))=False:=eq_false (by omega)
 simp(disch:=omega)only[go_sem,e1,e2,decide_false]
 refine Ab (α:=Nat) (fun i=>⟨[(3,I i),(1,.ptr 64 0)],[(64,l.c)]⟩) (fun i=>i≤(l.entries).length∧BE (EW l.entries) (l.entries.take i)=true) (fun i=>(l.entries).length-i) 0 ⟨by omega,rfl⟩ ?_ ?_
 ·exact Bu
 rintro i ⟨hi,hP⟩ J hJ
 refine gO ?_
 refine ⟨fun hlt=>?_,fun hge=>?_⟩
 rotate_left
 have hil:i=(l.entries).length:=by simp at hge;omega
 rotate_left
 obtain⟨b,hb⟩:∃ b,(l.entries)[i]?=some b:=⟨_,gE (by simp at hlt;omega)⟩
 have hbm:=mG hb
 have hlt2:i<(l.entries).length:=by simp at hlt;omega
 simp(disch:=omega)only[go_sem,gm,hb]
 ·refine Aj 21 [([],[4]),([],[29]),([],[30]),([2],[31]),([2],[32]),([2],[4,33]),([2],[34,33]),([2],[1,33]),([2],[36,33]),([2],[3,33]),([2],[37,38,33]),([2],[4,33]),([2],[40,33]),([2],[39,41,33]),([2,13],[35,42,33]),([2,13],[33,43]),([2,13],[44]),([2,13],[4,45]),([2,13],[46,45]),([2,13],[4,45]),([2,13],[48,45])] fol ?_
  refine gO ?_
  have no:EW l.entries i b=false→AX l=false:=fun h=>by simp only[AX,Ba hb h,Bool.and_false,Bool.false_and]
  have yes:EW l.entries i b=true→BE (EW l.entries) (l.entries.take (i+1))=true:=fun h=>by rw[BI hb,hP,h];rfl
  first|(refine Aa (f247_ok b.name) ?_)|(refine Ai (f247_ok b.name) ?_)
  cases h3:CH b.name
  ·simp(disch:=omega)only[go_sem]
   refine Ak _ ?_
   exact wb (by rw[no (by simp[EW,h3])])
  simp(disch:=omega)only[go_sem,gm,hb]
  first|(refine Aa (f190_ok (l.entries.take i) b.name) ?_)|(refine Ai (f190_ok (l.entries.take i) b.name) ?_)
  refine gO ?_
  cases h4:decide (b.before=Ar (l.entries.take i) b.name)
  ·simp(disch:=omega)only[go_sem,h4]
   refine Ak _ ?_
   exact wb (by rw[no (by simp only[EW,h3,h4];rfl)])
  simp(disch:=omega)only[go_sem,h4]
  first|(refine Aa (f248_ok b.before b.after) ?_)|(refine Ai (f248_ok b.before b.after) ?_)
  cases h5:Gv b.before b.after
  ·simp(disch:=omega)only[go_sem]
   refine Ak _ ?_
   exact wb (by rw[no (by simp only[EW,h3,h4,h5];rfl)])
  refine gO ?_
  refine hJ _ (i+1) ⟨by simp at hlt;omega,yes (by simp only[EW,h3,h4,h5];rfl)⟩ (by simp at hlt;omega) AE
 subst hil
 rw[take_length]at hP
 refine Aa (f249_ok l.entries (by omega)) ?_
 by_cases h6:8<(CI l.entries).length
 ·have e6:(8<((CI l.entries).length:Int))=True:=eq_true (by omega)
  simp(disch:=omega)only[go_sem,e6,decide_true]
  refine Ak _ ?_
  exact wb (by simp[AX];omega)
 have e6:(8<((CI l.entries).length:Int))=False:=eq_false (by omega)
 simp(disch:=omega)only[go_sem,e6,decide_false]
 have hP1:=hP
 clear hP hJ hi hge
 refine Ab (α:=Nat) (fun i=>⟨[(5,I i),(1,.ptr 64 0)],[(64,l.c)]⟩) (fun i=>i≤(l.saves).length∧BE (EM l) (l.saves.take i)=true) (fun i=>(l.saves).length-i) 0 ⟨by omega,rfl⟩ ?_ ?_
 ·exact Bu
 rintro i ⟨hi,hP⟩ J hJ
 refine gO ?_
 refine ⟨fun hlt=>?_,fun hge=>?_⟩
 rotate_left
 have hil:i=(l.saves).length:=by simp at hge;omega
 rotate_left
 obtain⟨b,hb⟩:∃ b,(l.saves)[i]?=some b:=⟨_,gE (by simp at hlt;omega)⟩
 have hbm:=mG hb
 have hlt2:i<(l.saves).length:=by simp at hlt;omega
 simp(disch:=omega)only[go_sem,gm,hb]
 ·have no:EM l i b=false→AX l=false:=fun h=>by simp only[AX,Ba hb h,Bool.and_false]
  have yes:EM l i b=true→BE (EM l) (l.saves.take (i+1))=true:=fun h=>by rw[BI hb,hP,h];rfl
  refine Aj 44 [([],[6]),([],[70]),([],[71]),([],[72]),([],[6,73]),([],[74,73]),([],[75,73]),([],[73,76]),([],[77]),([],[6,78]),([],[79,78]),([],[80,78]),([],[78,81]),([],[82]),([],[6,83]),([],[84,83]),([],[1,83]),([],[86,83]),([],[87,83]),([],[85,88,83]),([],[83,89]),([],[90]),([],[5,91]),([],[92,91]),([],[93,91]),([],[1,94]),([],[95,94]),([],[5,94]),([],[97,94]),([],[96,98,94]),([],[99,94]),([],[100,94]),([],[6,94]),([],[102,94]),([],[101,103,94]),([],[94,104,91]),([],[91,105]),([],[106]),([],[1,107]),([],[108,107]),([],[6,107]),([],[110,107]),([],[109,111,107]),([],[5,107])] fol ?_
  by_cases c1:b.label<1
  ·have f1:=eq_true c1
   simp(disch:=omega)only[go_sem,f1,decide_true]
   refine Ak _ ?_
   exact wb (by rw[no (by simp[EM,show ¬ (1≤b.label) by omega])])
  have f1:=eq_false c1
  by_cases c2:99<b.label
  ·have f2:=eq_true c2
   simp(disch:=omega)only[go_sem,f1,f2,decide_true,decide_false]
   refine Ak _ ?_
   exact wb (by rw[no (by simp[EM,show ¬ (b.label≤99) by omega])])
  have f2:=eq_false c2
  by_cases c3:b.pos<0
  ·have f3:=eq_true c3
   simp(disch:=omega)only[go_sem,f1,f2,f3,decide_true,decide_false]
   refine Ak _ ?_
   exact wb (by rw[no (by simp[EM,show ¬ (0≤b.pos) by omega])])
  have f3:=eq_false c3
  by_cases c4:(l.entries.length:Int)<b.pos
  ·have f4:=eq_true c4
   simp(disch:=omega)only[go_sem,f1,f2,f3,f4,decide_true,decide_false]
   refine Ak _ ?_
   exact wb (by rw[no (by simp[EM,show ¬ (b.pos≤(l.entries.length:Int)) by omega])])
  have f4:=eq_false c4
  have base:EM l i b=((decide (i=0)||decide ((l.saves.getD (i-1) s0).pos≤b.pos))&&decide (JH l.saves b.label=(i:Int))):=by
   simp[EM,show 1≤b.label by omega,show b.label≤99 by omega,show 0≤b.pos by omega,show b.pos≤(l.entries.length:Int) by omega]
  have last:(decide (i=0)||decide ((l.saves.getD (i-1) s0).pos≤b.pos))=true→EM l i b=decide (JH l.saves b.label=(i:Int)):=fun h=>by rw[base,h,Bool.true_and]
  by_cases hi0:i=0
  ·subst hi0
   have g0:=last (by simp)
   simp(disch:=omega)only[go_sem,f1,f2,f3,f4,decide_false]
   first|(refine Aa (f194_ok l.saves b.label) ?_)|(refine Ai (f194_ok l.saves b.label) ?_)
   refine gO ?_
   refine And.intro (fun hh=>?_) (fun hh=>?_)
   ·refine Ak _ ?_
    exact wb (by rw[no (by rw[g0];simpa using hh)])
   ·refine hJ _ 1 ⟨by omega,yes (by rw[g0];simpa using hh)⟩ (by omega) AE
  have hi1:(0<(i:Int))=True:=eq_true (by omega)
  have hi2:((i:Int)-1)=((i-1:Nat):Int):=by omega
  obtain⟨a,ha'⟩:∃ a,l.saves[i-1]?=some a:=⟨_,gE (by omega)⟩
  have had:l.saves.getD (i-1) s0=a:=by simp[List.getD,ha']
  by_cases c5:b.pos<a.pos
  ·have f5:=eq_true c5
   simp(disch:=omega)only[go_sem,f1,f2,f3,f4,f5,hi1,hi2,gm,ha',hb,decide_true,decide_false]
   refine Ak _ ?_
   exact wb (by rw[no (by rw[base,had];simp[hi0];omega)])
  have f5:=eq_false c5
  have g0:=last (by rw[had];simp;omega)
  simp(disch:=omega)only[go_sem,f1,f2,f3,f4,f5,hi1,hi2,gm,ha',hb,decide_true,decide_false]
  first|(refine Aa (f194_ok l.saves b.label) ?_)|(refine Ai (f194_ok l.saves b.label) ?_)
  refine gO ?_
  refine And.intro (fun hh=>?_) (fun hh=>?_)
  ·refine Ak _ ?_
   exact wb (by rw[no (by rw[g0];simpa using hh)])
  ·refine hJ _ (i+1) ⟨by omega,yes (by rw[g0];simpa using hh)⟩ (by omega) AE
 subst hil
 rw[take_length]at hP
 refine Ak _ ?_
 exact wb (by simp[AX,hP,hP1];omega)
end Go.Rd
