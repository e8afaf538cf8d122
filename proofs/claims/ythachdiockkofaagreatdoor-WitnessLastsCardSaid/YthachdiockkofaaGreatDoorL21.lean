/- part 21 of the proof -/
import Derived.Test.YthachdiockkofaaGreatDoorL20
set_option linter.all false
open Go Go.Abs Go.Proofs
set_option maxRecDepth 100000
namespace Go.Rd
set_option maxHeartbeats 8000000
open List (map_cons map_nil)
open Tryz
def f80_ok(name:Bs)(p q:Ab):Ad C0 80 [.v (.string (str name)),.agg p.c,.agg q.c] [] (.agg (NL name p q).c) []:=by
 refine Ad.go f80 ?_;unfold f80;simp(disch:=omega)only[go_sem];refine CL ⟨[],[],[896,1152]⟩ _ ?_;simp(disch:=omega)only[go_sem,NL,wA];exact .agg (Ai.AR (by simp(disch:=omega)only[go_sem,NL,wA,AL,Be,map_cons,map_nil]))
def f81_ok(p:Ab)(name:Bs):Ad C0 81 [.agg p.c,.v (.string (str name))] [] (.agg (Rl p name).c) []:=by
 refine Ad.go f81 ?_;unfold f81;refine gO ?_;refine Cn _ ?_;simp(disch:=omega)only[go_sem,Rl,wA];exact .agg (Ai.AR (by simp(disch:=omega)only[go_sem,Rl,wA,Expr.k,Expr.atom,Expr.kids,map_nil]))
def W3{l:List Queue}{ms:List Ab}(hl:∀ q∈l,BG q≤100):∀ c∈Bv l ms,c.members.length≤1000000:=by
 intro c hc;simp only[Bv,EG,List.mem_flatMap,List.mem_filterMap]at hc;obtain⟨p,_,q,hq,h⟩:=hc;have:=Qy (hl q hq) p;rw[h]at this;exact this
def Tb{s:WS}(l:List Ab)(h:Few s):Few (ofS s l).1.state∧(ofS s l).1.members.length≤1000000∧(ofS s l).1.A2.length≤10000000∧∀ c∈(ofS s l).1.A2,c.members.length≤1000000:=by
 have hf:=H0 h l;have e:Few wE.state∧wE.members.length≤1000000∧wE.A2.length≤10000000∧∀ c∈wE.A2,c.members.length≤1000000:=⟨⟨by simp[wE,wsE],by simp[wE,wsE],by simp[wE,wsE]⟩,by simp[wE],by simp[wE],by simp[wE]⟩;unfold ofS;split
 ·split
  ·exact e
  ·have h1:=Gj hf;have h2:=IX (A4 s l).1.Aa (Ap (A4 s l).1);have h3:(Ap (A4 s l).1).length*(A4 s l).1.Aa.length≤20000*100:=Nat.mul_le_mul h1 hf.nq;exact⟨hf,Nat.le_trans h1 (by omega),Nat.le_trans h2 (by omega),W3 hf.aq⟩
 ·exact e
def Kh:Few DO:=ZQ kR
def bw1:(EF DO).2=0:=kR
def bw2:(EF DO).1.A2.length=2:=kR
def bw3:(EF DO).1.members.length=2:=kR
def bw4:D6 (EF DO).1=0:=kR
def bw5:IW (EF DO).1 DO=true:=kR
def bw6:((EF DO).1.A2[0]?).map (·.why)=some 1:=kR
def bw7:D6 ⟨(EF DO).1.state,(EF DO).1.members,(EF DO).1.A2.take 1⟩=17:=kR
def bw8:(Db DO).2.length=2:=kR
def f39_ok:Ad C0 39 [] [] (B true) []:=by
 obtain⟨fw1,fw2,fw3,fw4⟩:=Tb (Db DO).2 Kh;have b1:=bw1;have b2:=bw2;have b3:=bw3;have b4:=bw4;have b5:=bw5;have b6:=bw6;have b7:=bw7;have hb:ofS DO (Db DO).2=EF DO:=rfl;rw[hb]at fw1 fw2 fw3 fw4;refine Ad.go f39 ?_;unfold f39;refine gO ?_;refine Ae (f22_ok 0) ?_;refine gO ?_;refine Ae (f22_ok 1) ?_;refine gO ?_;refine Vc ⟨[(3,.ptr 192 0)],[(192,DO.c)]⟩ ?_ ?_;rotate_left
 ·refine Aw 14 [([],[1]),([],[2]),([],[8,9]),([],[2]),([],[1]),([2],[11,12]),([2,5],[10,13]),([],[1]),([2,5],[15]),([],[2]),([2,5,8],[17]),([2,5,8,10],[16,18]),([2,5,8,10],[14,19]),([],[])] fol ?_;refine gO ?_;refine Az ⟨⟨[],[],[]⟩,[],[]⟩ (f80_ok [97] (GD 0) (GD 1)) (by simp(disch:=omega)only[go_sem];exact .eq rfl) rfl rfl trivial (.inl rfl) ?_;refine gO ?_;refine Az ⟨⟨[],[],[]⟩,[],[]⟩ (f80_ok [98] (GD 1) (GD 0)) (by simp(disch:=omega)only[go_sem];exact .eq rfl) rfl rfl trivial (.inl rfl) ?_;simp(disch:=omega)only[go_sem,NL,wA,AL,Be,map_cons,map_nil];refine Az ⟨⟨[],[],[]⟩,[],[]⟩ (f81_ok (GD 0) [98]) (by simp(disch:=omega)only[go_sem];exact .eq rfl) rfl rfl trivial (.inl rfl) ?_;refine gO ?_
  first
   |(refine Ah (f81_ok (GD 1) [97]) (by simp(disch:=omega)only[go_sem];exact .eq rfl) rfl ?_)
   |(refine Az ⟨⟨[],[],[]⟩,[],[]⟩ (f81_ok (GD 1) [97]) (by simp(disch:=omega)only[go_sem];exact .eq rfl) rfl rfl trivial (.inl rfl) ?_)
  simp(disch:=omega)only[go_sem,Rl,wA,Expr.k,Expr.atom,Expr.kids,Fa,map_nil];exact Imp.Ar gI (by simp(disch:=omega)only[go_sem,DO,NL,Rl,wA,Expr.k,Expr.atom,Expr.kids,AB,Fe,AL,Be,Fa,map_cons,map_nil])
 have hq:DO.Aa=[NL [97] (GD 0) (GD 1),NL [98] (GD 1) (GD 0)]:=rfl;refine gO ?_;refine Ae (f41_ok DO Kh (by rw[bw8];omega)) ?_;generalize EF DO=w at b1 b2 b3 b4 b5 b6 b7 fw1 fw2 fw3 fw4;obtain⟨W,en⟩:=w;simp only at b1 b2 b3 b4 b5 b6 b7 fw1 fw2 fw3 fw4;subst b1;have e2:((W.A2.length:Int) !=2)=false:=by simp[b2]
 have e3:((W.members.length:Int) !=2)=false:=by simp[b3]
 obtain⟨c,hc⟩:∃ c,W.A2[0]?=some c:=⟨_,gE (by omega)⟩;have hcw:c.why=1:=by simpa [hc]using b6
 have e4:(c.why !=1)=false:=by simp[hcw]
 have hl0:0<W.A2.length:=by omega
 have z0:((0:Int) !=0)=false:=by simp
 simp(disch:=omega)only[go_sem,z0,e2,e3];refine Ae (f44_ok W fw1 fw2 (by omega)) ?_;simp(disch:=omega)only[go_sem,b4,z0];refine Ae (f45_ok W DO fw1 Kh fw2) ?_;simp(disch:=omega)only[go_sem,b5,gm,hc,e4];refine Ah (f44_ok ⟨W.state,W.members,W.A2.take 1⟩ fw1 fw2 (by simp;omega)) ?_ rfl ?_
 ·simp(disch:=omega)only[go_sem];exact .eq (by simp[Wit.c,List.map_take])
 simp(disch:=omega)only[go_sem,b7];exact AQ _
end Go.Rd
namespace Go.Abs
open Go Go.ChangeShapes Go.WideShapes Go.RowKit
def YB(P:Program)(N:Nat)(t:TypeId){α:Type}(e:α→List AV):Prop :=
 ∀ (H:Type) (enc:TypeId × Value→H) (w:World) (fuel:Nat) (cs:List Value) (x:DataW H × List MemPlace),fuel≤N→DataW.trod enc P w 0 (fun _=>true) true fuel t cs=some x →
  ∃ a,PRl (fun b=>b<w.heap.size) w (e a) cs
variable {P:Program} {t:TypeId}
def YB.mono{N M:Nat}{α:Type}{e:α→List AV}(h:YB P N t e)(hm:M≤N):YB P M t e:=fun H enc w fuel cs x hf hx=>h H enc w fuel cs x (Nat.le_trans hf hm) hx
def YB.map{N:Nat}{α β:Type}{e:α→List AV}{e':β→List AV}(h:YB P N t e)(hf:∀ a,∃ b,e' b=e a):YB P N t e':=fun H enc w fuel cs x hn hx=>by
 obtain⟨a,q⟩:=h H enc w fuel cs x hn hx;obtain⟨b,hb⟩:=hf a;exact⟨b,hb▸q⟩
def chunks{α:Type}(m:Nat):∀ (rows:List (List α)) (cs:List α),cs.length=rows.length*m→(∀ i r,rows[i]?=some r→(cs.drop (i*m)).take m=r)→cs=rows.flatten
 |[],cs,hl,_=>List.eq_nil_of_length_eq_zero (by simpa using hl)
 | r::rows,cs,hl,h=>by
  have h0:=h 0 r rfl;have:=chunks m rows (cs.drop m) (by simp only[List.length_cons,Nat.add_mul]at hl;rw[List.length_drop,hl];omega) fun i r' hr=>by
   have:=h (i+1) r' (by simpa using hr);rw[List.drop_drop]
   rwa [show m+i*m=(i+1)*m by rw[Nat.add_mul];omega]
  simp only[Nat.zero_mul,List.drop_zero]at h0;rw[List.flatten_cons,← this,← h0,List.take_append_drop]
def UR{H:Type}{enc:TypeId × Value→H}{w:World}{fuel n:Nat}{sp:Nat→Bool}{held:Bool}{base:Nat}{e:TypeId}{cs:List Value}{ds:List (DataW H)}{p:List MemPlace}{f:List (List Value)}
 (ht:P.underlying t=some (.array n e)) (hct:P.cellsOf t=n*P.cellsOf e) (h:DataW.trod enc P w base sp held fuel t cs=some (.agg ds,p)) (hl:ds.length=f.length)
 (hf:∀ (i:Nat) (d:DataW H) (c:List Value),ds[i]?=some d→f[i]?=some c→∀ fuel cs' p',DataW.trod enc P w base sp held fuel e cs'=some (d,p')→cs'=c):cs=f.flatten:=by
 obtain⟨xs,m,_,hx,hcl,hxl,hel⟩:=DataW.trod_array ht h;have hx1:ds=xs.map (·.1):=by
  have:=congrArg Prod.fst hx;simpa using this
 have hn:f.length=n:=by rw[← hl,hx1];simpa using hxl
 refine chunks _ f cs (by rw[hcl,hct,hn]) fun i c hc=>?_
 have hi:i<f.length:=by
  rcases Nat.lt_or_ge i f.length with h|h
  ·exact h
  ·rw[List.getElem?_eq_none h]at hc;cases hc
 have hxi:xs[i]?=some xs[i]:=List.getElem?_eq_getElem (by omega);have h1:=hel i (by omega);rw[hxi]at h1;refine hf i xs[i].1 c ?_ hc m _ xs[i].2 h1;rw[hx1,List.getElem?_map,hxi];rfl
def WX{H:Type}{enc:TypeId × Value→H}{w:World}{fuel:Nat}{sp:Nat→Bool}{held:Bool}{base:Nat}{cs:List Value}{b:Bool}{p:List MemPlace}(ht:P.underlying t=some .bool)
 (h:DataW.trod enc P w base sp held fuel t cs=some (.lit (.bool b),p)):cs=[.bool b]:=by
 obtain⟨n,rfl,h2⟩:=DataW.trod_bool ht h;simp at h2;rw[h2.1]
def jk{H:Type}(r:List Bool):DataW H:=.agg (r.map fun b=>.lit (.bool b))
def fW{H:Type}(rows:List (List Bool)):DataW H:=.agg (rows.map jk)
def ZV{H:Type}{enc:TypeId × Value→H}{w:World}{fuel n m:Nat}{sp:Nat→Bool}{held:Bool}{base:Nat}{e b:TypeId}{cs:List Value}{rows:List (List Bool)}{p:List MemPlace}
 (ht:P.underlying t=some (.array n e)) (he:P.underlying e=some (.array m b)) (hb:P.underlying b=some .bool) (h1:P.cellsOf b=1) (h2:P.cellsOf e=m) (h3:P.cellsOf t=n*m)
 (h:DataW.trod enc P w base sp held fuel t cs=some (fW rows,p)):cs=rows.flatten.map Value.bool:=by
 have key:∀ r:List Bool,∀ fuel cs' p',DataW.trod enc P w base sp held fuel e cs'=some (jk r,p')→cs'=r.map Value.bool:=fun r fuel cs' p' h'=>by
  have:=UR (f:=r.map fun b=>[Value.bool b]) he (by rw[h1,h2,Nat.mul_one]) h' (by simp) fun i d c hd hc fuel cs' p' hx=>by
   rw[List.getElem?_map]at hd hc;cases hr:r[i]? with
   |none=>rw[hr]at hd;cases hd
   |some v =>
    rw[hr]at hd hc;simp at hd hc;subst hd;subst hc;exact WX hb hx
  rw[this];clear h'  this
  induction r with
  | nil=>rfl
  | cons x r ih=>simp only[List.map_cons,List.flatten_cons,List.singleton_append,ih]
 have:=UR (f:=rows.map fun r=>r.map Value.bool) ht (by rw[h2,h3]) h (by simp) fun i d c hd hc fuel cs' p' hx=>by
  rw[List.getElem?_map]at hd hc;cases hr:rows[i]? with
  |none=>rw[hr]at hd;cases hd
  |some v =>
   rw[hr]at hd hc;simp at hd hc;subst hd;subst hc;exact key v _ _ _ hx
 rw[this,List.map_flatten]
def aS{C:Ctx}{name:String}{g n m:Nat}{e b:TypeId}{rows:List (List Bool)}{rest:List (String × DataW Unit)}{W:World}(hC:∀ i cs,C.G i=some cs→i=g∧cs=(rows.flatten.map fun b=>AV.v (.bool b)))(hpos:0<rows.flatten.length)
 (hg:C.P.globalNamed name=some g) (hty:(C.P.globals[g]?).map (·.type)=some t)
 (ht:C.P.underlying t=some (.array n e)) (he:C.P.underlying e=some (.array m b)) (hb:C.P.underlying b=some .bool) (h1:C.P.cellsOf b=1) (h2:C.P.cellsOf e=m) (h3:C.P.cellsOf t=n*m)
 (h:laidMet C.P ((name,fW rows)::rest) W):Glob C (gh0 W) W:=by
 obtain⟨ps,⟨g',t',cs,fuel,p,q,hg',ht',hvar,hd,_,_⟩,_⟩:=h;obtain rfl:=Option.some.inj (hg.symm.trans hg');obtain rfl:=Option.some.inj (hty.symm.trans ht');have hcs:=ZV ht he hb h1 h2 h3 hd;have hcell:=World.var?_cell hg hvar;intro i xs hi;obtain⟨rfl,rfl⟩:=hC i xs hi;have hlen:cs.toList.length=rows.flatten.length:=by rw[hcs,List.length_map]
 have hsz:cs.size=rows.flatten.length:=by rw[← hlen,Array.length_toList]
 refine⟨by rw[List.length_map];exact hpos,?_,Rr (us:=cs.toList) ?_ ?_⟩
 ·have h0:=hcell 0;have:∃ v,cs[0]?=some v:=⟨cs[0]'(by omega),Array.getElem?_eq_getElem _⟩;obtain⟨v,hv⟩:=this;rw[hv]at h0;rw[Vw];exact Fz h0
 ·rw[hcs];generalize rows.flatten=l
  induction l with
  | nil=>simp[PRl]
  | cons x l ih=>exact⟨⟨rfl,rfl⟩,ih⟩
 ·intro k hk;have:=hcell k;rw[Array.getElem?_toList,Nat.zero_add];rw[← this,add_lit,Nat.zero_add]
def Xu{C:Ctx}{f:Nat}{fn:Func}{s:ChangeSpec}(hs:s.vars=[]){apart fresh handsOn again:Bool}{α:Type}{e:α→List AV}{m:α→Nat}{Q:α→Prop}{tb:TypeId}{ts:List TypeId}
 (hp:fn.params.toList=ts) (ha:Args C.P ts e m Q) (hl:laidOutB C.P=true) (hr:(ts.all fun t=>C.P.readableRec t&&decide (t<C.P.types.size))=true) (hres:fn.resultTypes = #[tb]) (htb:C.P.underlying tb=some .bool)
 {H:Type} (enc:TypeId × Value→H) (W:World) (hG:Glob C (gh0 W) W) (base:Nat) (args:Array Value) (ds gs:List (DataW H)) (before:List MemPlace)
 (hval:∀ (j:Nat) t v,fn.params[j]?=some t→args[j]?=some v→Value.okWide C.P W .any base t v)
 (hW:DataW.Whole enc C.P fn.params.toList s.vars apart W args.toList ds gs before)
 (hfn:∀ ds:List (DataW H),ds.length=ts.length→(s.fn H ds).results=[.lit (.bool true)]∧(s.fn H ds).args=ds∧(s.fn H ds).vars=[])
 (hok:∀ a,Q a→m a≤UD ds→Ad C f (e a) [] (.v (.bool true)) []) :
 Calls C.P f args W fun r W'=>∃ v,r=.returned v∧s.post enc C.P fn apart fresh handsOn again W args v W':=by
 replace hr:∀ t∈ts,C.P.readableRec t=true∧t<C.P.types.size:=by simpa using hr
 have hW':=hW;obtain⟨p,q,hA,hV,rfl,hfz,hnd⟩:=hW;rw[hs]at hV;obtain⟨rfl,rfl⟩:=trodVars_none hV;rw[hp]at hA;obtain⟨a,q1,q2,q3⟩:=ha H enc W base args.toList ds p (fun j t v hj hv=>hval j t v (by rw[← Array.getElem?_toList,hp];exact hj) (by simpa using hv)) hA;have hlen:∀ {ts:List TypeId} {vs:List Value} {ds:List (DataW H)} {ps:List MemPlace},DataW.TrodAll enc C.P W 0 (fun _=>true) true ts vs ds ps→ds.length=ts.length:=by
  intro ts
  induction ts with
  | nil=>intro vs ds ps h;obtain⟨_,rfl,_⟩:=trodAll_nil h;rfl
  | cons t ts ih =>
   intro vs ds ps h;obtain⟨v,vs,d,ds,p,q,rfl,rfl,rfl,h1,h2⟩:=trodAll_cons h;simp[ih h2]
 obtain⟨hf1,hf2,hf3⟩:=hfn ds (hlen hA);have key:=(hok a q1 q2).2 (gh0 W) W args.toList hG q3 (fun s cs h=>by cases h);rw[show args.toList.toArray=args by simp]at key;refine key.mono fun r W' ⟨u,g',hr1,hF,hy,_⟩=>?_
 subst hr1;simp only[VR]at hy;subst hy;have hb:Below W.heap.size W W':=⟨hF.os,hF.tape.1,hF.output,hF.size,fun k hk=>(hF.keep k hk (Or.inl (by show (gh0 W).own k=.ro;simp[gh0,hk]))).1⟩;have hlt:∀ x∈p++([]:List MemPlace),x.block<W.heap.size:=fun x hx=>hW'.lt x hx
 refine⟨_,rfl,WV (pa:=p) (pv:=[]) hW' (fun b sp hd=>?_) (fun sp hsp=>?_) (fun _ _=>?_) rfl hb (ok_one hres rfl (okWide_bool_mk htb _))⟩
 ·simp only[List.append_nil,hf1];rw[hres];exact trodAll_mk1 (shut_bool htb _)
 ·simp only[List.append_nil,hf2];rw[hp];exact Mu hl hr hA (fun x hx=>hb.same (hlt x (by simpa using hx))) (fun x hx=>hsp x (by simpa using hx))
 ·simp only[List.append_nil,hf3];rw[hs];rfl
end Go.Abs
open Go Go.Abs Go.Proofs
set_option maxRecDepth 100000
namespace Go.Rd
set_option maxHeartbeats 8000000
open List (length_map mem_append mem_cons mem_filter mem_map mem_singleton nil_append nodup_append pairwise_cons)
open Bool (and_eq_true)
open Tryz
structure Entry where
 name:Bs
 before:Amt
 after:Amt
structure Save where
 label:Int
 pos:Int
structure Ledger where
 entries:List Entry
 AG:List Save
structure Req where
 expr:Expr
 prio:Int
 BY:Int
structure Pcs where
 proc:Ab
 cost:Int
 led:Ledger
 waiting:Bool
 req:Req
 since:Int
 gen:Int
structure Cen where
 now:Int
 Aa:List Queue
 procs:List Pcs
structure Cmd where
 kind:Int
 proc:Ab
 req:Req
 name:Bs
 n:Int
structure Ev where
 kind:Int
 proc:Ab
 name:Bs
 amt:Amt
structure Am where
 now:Int
 Aa:List Queue
 procs:List Pcs
 CX:List Ev
def Entry.c(e:Entry):List AV:=[.v (.string (str e.name)),.v (.int .i64 e.before.mode),.v (.int .i64 e.before.Ax),.v (.int .i64 e.after.mode),.v (.int .i64 e.after.Ax)]
def Save.c(s:Save):List AV:=[.v (.int .i64 s.label),.v (.int .i64 s.pos)]
@[reducible] def Eo(l:List Entry):AV:=.sl .no 5 (l.map Entry.c)
@[reducible] def M1(l:List Save):AV:=.sl .no 2 (l.map Save.c)
def Ledger.c(l:Ledger):List AV:=[Eo l.entries,M1 l.AG]
def Req.c(r:Req):List AV:=[.v (.int .i64 r.expr.k),.v (.string (str r.expr.atom.name)),.v (.int .i64 r.expr.atom.amt.mode),.v (.int .i64 r.expr.atom.amt.Ax),Fa r.expr.kids,.v (.int .i64 r.prio),.v (.int .i64 r.BY)]
def Pcs.c(p:Pcs):List AV:=[.v (.int .i64 p.proc.site),.v (.int .i64 p.proc.inc),.v (.int .i64 p.proc.num),.v (.int .i64 p.cost),Eo p.led.entries,M1 p.led.AG,.v (.bool p.waiting),
 .v (.int .i64 p.req.expr.k),.v (.string (str p.req.expr.atom.name)),.v (.int .i64 p.req.expr.atom.amt.mode),.v (.int .i64 p.req.expr.atom.amt.Ax),Fa p.req.expr.kids,.v (.int .i64 p.req.prio),.v (.int .i64 p.req.BY),.v (.int .i64 p.since),.v (.int .i64 p.gen)]
@[reducible] def dF(l:List Pcs):AV:=.sl .no 16 (l.map Pcs.c)
def Cen.c(c:Cen):List AV:=[.v (.int .i64 c.now),AB c.Aa,dF c.procs]
def Cmd.c(k:Cmd):List AV:=[.v (.int .i64 k.kind),.v (.int .i64 k.proc.site),.v (.int .i64 k.proc.inc),.v (.int .i64 k.proc.num),.v (.int .i64 k.req.expr.k),.v (.string (str k.req.expr.atom.name)),.v (.int .i64 k.req.expr.atom.amt.mode),.v (.int .i64 k.req.expr.atom.amt.Ax),Fa k.req.expr.kids,.v (.int .i64 k.req.prio),.v (.int .i64 k.req.BY),.v (.string (str k.name)),.v (.int .i64 k.n)]
def Ev.c(e:Ev):List AV:=[.v (.int .i64 e.kind),.v (.int .i64 e.proc.site),.v (.int .i64 e.proc.inc),.v (.int .i64 e.proc.num),.v (.string (str e.name)),.v (.int .i64 e.amt.mode),.v (.int .i64 e.amt.Ax)]
@[reducible] def Vi(l:List Ev):AV:=.sl .no 7 (l.map Ev.c)
def Am.c(w:Am):List AV:=[.v (.int .i64 w.now),AB w.Aa,.sl (.own 0 0) 16 (w.procs.map Pcs.c),.sl (.own 1 0) 7 (w.CX.map Ev.c)]
attribute [go_sem] Entry.c Save.c Ledger.c Req.c Pcs.c Cen.c Cmd.c Ev.c Am.c
@[go_sem] theorem eh{α:Type}(a:α):(∃ x,some a=some x)=True:=by simp
@[go_sem] theorem gQ{α β:Type}(f:α→β)(l:List α)(i:Nat):(l.map f).take i=(l.take i).map f:=by simp
@[go_sem] theorem gq{α β:Type}(f:α→β)(l:List α)(i:Nat):(l.map f).drop i=(l.drop i).map f:=by simp
def An(l:List Entry)(n:Bs):Amt:=l.foldl (fun a e=>if e.name==n then e.after else a) ⟨0,0⟩
def D7{l:List Entry}{n:Bs}{i:Nat}{b:Entry}(hb:l[i]?=some b):An (l.take (i+1)) n=if b.name==n then b.after else An (l.take i) n:=by
 simp[An,tA,hb,List.foldl_append]
def f190_ok(l:List Entry)(n:Bs):Ad C0 190 [Eo l,.v (.string (str n))] [] (.agg (An l n).c) []:=by
 refine Ad.lens f190 fun hlen=>?_
 simp only[ED,lens,length_map,and_true,true_and]at hlen;refine Ad.go f190 ?_;unfold f190;refine gO ?_;refine Ac (α:=Nat) (fun i=>⟨[(6,I i),(0,Eo l),(1,.v (.string (str n))),(4,.ptr 256 0),(5,.ptr 320 0)],[(256,(⟨0,0⟩:Amt).c),(320,(An (l.take i) n).c)]⟩) (fun i=>i≤(l).length∧True) (fun i=>(l).length-i) 0 ⟨by omega,trivial⟩ ?_ ?_
 ·refine Imp.Ar ?_ ?_
  all_goals(try simp(disch:=omega)only[go_sem])
  all_goals(try(repeat'(with_reducible apply And.intro)))
  all_goals(first|exact .AO (by omega)|exact .AJ (by omega)|exact .sl (by simp[An])|exact .int (by simp[An])|exact .eq (by simp[An]))
 rintro i ⟨hi,hP⟩ J hJ;refine gO ?_;refine gR (l:=l) hi (fun b hb hbm hlt=>?_) (fun hil=>?_);simp(disch:=omega)only[go_sem,gm,hb]
 ·refine⟨fun h=>?_,fun h=>?_⟩
  ·refine hJ _ (i+1) ⟨by omega,trivial⟩ (by omega) (Imp.Ar ?_ ?_)
   all_goals(try simp(disch:=omega)only[go_sem])
   all_goals(try(repeat'(with_reducible apply And.intro)))
   all_goals(first|exact .AO (by omega)|exact .AJ (by omega)|exact .sl (by simp[D7 hb,h])|exact .int (by simp[D7 hb,h])|exact .eq (by simp[D7 hb,h]))
  ·refine hJ _ (i+1) ⟨by omega,trivial⟩ (by omega) (Imp.Ar ?_ ?_)
   all_goals(try simp(disch:=omega)only[go_sem])
   all_goals(try(repeat'(with_reducible apply And.intro)))
   all_goals(first|exact .AO (by omega)|exact .AJ (by omega)|exact .sl (by simp[D7 hb,h])|exact .int (by simp[D7 hb,h])|exact .eq (by simp[D7 hb,h]))
 ·subst hil;simp(disch:=omega)only[go_sem,tL];exact AQ _
def JD(l:List Save)(lab:Int):Int:=match l.findIdx? (fun s=>s.label==lab) with|some i=>i|none=>-1
def f194_ok(l:List Save)(lab:Int):Ad C0 194 [M1 l,I lab] [] (I (JD l lab)) []:=by
 refine Ad.lens f194 fun hlen=>?_
 simp only[ED,lens,length_map,and_true,true_and]at hlen;refine Ad.go f194 ?_;unfold f194;refine gO ?_;refine Ac (α:=Nat) (fun i=>⟨[(5,I i),(0,M1 l),(1,I lab)],[]⟩) (fun i=>i≤(l).length∧(l.take i).find? (fun s=>s.label==lab)=none) (fun i=>(l).length-i) 0 ⟨by omega,rfl⟩ ?_ ?_
 ·exact B0
 rintro i ⟨hi,hP⟩ J hJ;refine gO ?_;refine gR (l:=l) hi (fun b hb hbm hlt=>?_) (fun hil=>?_);simp(disch:=omega)only[go_sem,gm,hb]
 ·refine⟨fun h=>?_,fun h=>?_⟩
  ·have e:=F8 hP b hb (by simpa using h);simp(disch:=omega)only[go_sem,e,JD];exact AQ _
  ·refine hJ _ (i+1) ⟨by omega,(by rw[BW hP hb];simp at h;simp[h])⟩ (by omega) AT
 ·subst hil;rw[tL]at hP;have e:l.findIdx? (fun s=>s.label==lab)=none:=by
   rw[List.findIdx?_eq_none_iff];rw[List.find?_eq_none]at hP;intro x hx;simpa using hP x hx
  simp(disch:=omega)only[go_sem,e,JD];exact AQ _
def usable(a:Amt):Bool:=Hs.fits a||Hy.fits a
def DA(a b:Amt):Bool:=if !usable b||decide (a=b) then false else if a.mode==0&&a.Ax==0 then true else if !usable a then false else if a.mode !=0 then A5 b.mode a.mode else decide (a.Ax<b.Ax)
def aJ(a:Amt):Ad C0 274 [.agg a.c] [] (B (usable a)) []:=f274_ok a
def f248_ok(a b:Amt):Ad C0 248 [.agg a.c,.agg b.c] [] (B (DA a b)) []:=by
 refine Ad.go f248 ?_;unfold f248;refine gO ?_;refine Ae (aJ b) ?_;cases h1:usable b
 ·simp(disch:=omega)only[go_sem];refine As _ ?_;exact wb (by simp[DA,h1])
 refine gO ?_;cases h2:decide (a=b);rotate_left
 ·simp(disch:=omega)only[go_sem,h2];refine As _ ?_;exact wb (by simp[DA,h1,h2])
 simp(disch:=omega)only[go_sem,h2];cases h3:(a.mode==0&&a.Ax==0);rotate_left
 ·simp(disch:=omega)only[go_sem,h3];refine As _ ?_;exact wb (by simp[DA,h1,h2,h3])
 simp(disch:=omega)only[go_sem,h3];refine Ae (aJ a) ?_;cases h4:usable a
 ·simp(disch:=omega)only[go_sem];refine As _ ?_;exact wb (by simp[DA,h1,h2,h3,h4])
 refine gO ?_;cases h5:(a.mode !=0)
 ·simp(disch:=omega)only[go_sem,h5];refine As _ ?_;exact wb (by simp only[DA,h1,h2,h3,h4,h5];rfl)
 ·simp(disch:=omega)only[go_sem,h5];refine Ae (f287_ok b.mode a.mode) ?_;refine gO ?_;refine As _ ?_;exact wb (by simp only[DA,h1,h2,h3,h4,h5];rfl)
def P2(a b:Int):Int:=match (List.range 5).find? (fun k=>A5 ((k+1:Nat):Int) a&&A5 ((k+1:Nat):Int) b) with|some k=>((k+1:Nat):Int)|none=>0
def f290_ok(a b:Int):Ad C0 290 [I a,I b] [] (I (P2 a b)) []:=by
 have hr:∀ i,i<5→(List.range 5)[i]?=some i:=fun i hi=>by rw[List.getElem?_range hi]
 refine Ad.go f290 ?_;unfold f290;refine gO ?_;refine Ac (α:=Nat) (fun i=>⟨[(5,I ((i+1:Nat):Int)),(0,I a),(1,I b)],[]⟩) (fun i=>i≤5∧((List.range 5).take i).find? (fun k=>A5 ((k+1:Nat):Int) a&&A5 ((k+1:Nat):Int) b)=none) (fun i=>5-i) 0 ⟨by omega,rfl⟩ AT ?_;rintro i ⟨hi,hP⟩ J hJ
 by_cases h5:i<5
 rotate_left
 ·have e5:i=5:=by omega
  subst e5;have e:P2 a b=0:=by unfold P2;rw[show List.range 5=(List.range 5).take 5 from rfl,hP]
  simp(disch:=omega)only[go_sem,e];exact AQ _
 have e1:((i:Int)+1≤5)=True:=eq_true (by omega);simp(disch:=omega)only[go_sem,e1];refine Ae (f287_ok ((i+1:Nat):Int) a) ?_;have st:(A5 ((i+1:Nat):Int) a&&A5 ((i+1:Nat):Int) b)=false→((List.range 5).take (i+1)).find? (fun k=>A5 ((k+1:Nat):Int) a&&A5 ((k+1:Nat):Int) b)=none:=fun h=>by
  rw[tA,hr i h5,List.find?_append,hP];simp only[Option.toList,List.find?_cons,h,List.find?_nil,Option.none_or]
 cases h1:A5 ((i+1:Nat):Int) a
 ·simp(disch:=omega)only[go_sem];exact hJ _ (i+1) ⟨by omega,st (by rw[h1];rfl)⟩ (by omega) AT
 refine gO ?_;refine Ae (f287_ok ((i+1:Nat):Int) b) ?_;cases h2:A5 ((i+1:Nat):Int) b
 ·simp(disch:=omega)only[go_sem];exact hJ _ (i+1) ⟨by omega,st (by rw[h1,h2];rfl)⟩ (by omega) AT
 ·have e:P2 a b=((i+1:Nat):Int):=by
   unfold P2;have:=H2 (f:=fun k=>A5 ((k+1:Nat):Int) a&&A5 ((k+1:Nat):Int) b) hP (hr i h5) (by rw[h1,h2];rfl);rw[this]
  simp(disch:=omega)only[go_sem,e];exact AQ _
def C8(r:Res)(a b:Amt):Amt:=if !(r.permits a&&r.permits b) then ⟨0,0⟩ else if r.covers a b then a else if r.covers b a then b else ⟨P2 a.mode b.mode,0⟩
def f254_ok(r:Res)(a b:Amt):Ad C0 254 [.agg r.c,.agg a.c,.agg b.c] [] (.agg (C8 r a b).c) []:=by
 refine Ad.go f254 ?_;unfold f254;refine gO ?_;refine Ae (f289_ok r a) ?_;cases h1:r.permits a
 ·have e:C8 r a b=⟨0,0⟩:=by simp[C8,h1]
  simp(disch:=omega)only[go_sem,e];exact AQ _
 refine gO ?_;refine Ae (f289_ok r b) ?_;cases h2:r.permits b
 ·have e:C8 r a b=⟨0,0⟩:=by simp[C8,h2]
  simp(disch:=omega)only[go_sem,e];exact AQ _
 refine gO ?_;refine Ae (f253_ok r a b) ?_;cases h3:r.covers a b;rotate_left
 ·have e:C8 r a b=a:=by simp[C8,h1,h2,h3]
  simp(disch:=omega)only[go_sem,e];exact AQ _
 refine gO ?_;refine Ae (f253_ok r b a) ?_;cases h4:r.covers b a;rotate_left
 ·have e:C8 r a b=b:=by simp[C8,h1,h2,h3,h4]
  simp(disch:=omega)only[go_sem,e];exact AQ _
 refine gO ?_;have e:C8 r a b=⟨P2 a.mode b.mode,0⟩:=by simp[C8,h1,h2,h3,h4]
 rw[e];refine Ae (f290_ok a.mode b.mode) ?_;refine gO ?_;exact AQ _
def r0:Res:=⟨[],0,0,0⟩
@[reducible] def Fo(l:List Res):AV:=.sl .no 4 (l.map Res.c)
def Pw(l:List Res)(n:Bs):Option Res:=l.find? fun r=>r.name==n
def f288_ok(l:List Res)(n:Bs):Ad C0 288 [Fo l,.v (.string (str n))] [] (.tup [.agg ((Pw l n).getD r0).c,B (Pw l n).isSome]) []:=by
 refine Ad.lens f288 fun hlen=>?_
 simp only[ED,lens,length_map,and_true,true_and]at hlen;refine Ad.go f288 ?_;unfold f288;refine gO ?_;refine Ac (α:=Nat) (fun i=>⟨[(6,I i),(0,Fo l),(1,.v (.string (str n))),(4,.ptr 256 0)],[(256,r0.c)]⟩) (fun i=>i≤(l).length∧(l.take i).find? (fun r=>r.name==n)=none) (fun i=>(l).length-i) 0 ⟨by omega,rfl⟩ ?_ ?_
 ·refine Imp.Ar ?_ ?_
  all_goals(try simp(disch:=omega)only[go_sem,r0])
  all_goals(try(repeat'(with_reducible apply And.intro)))
  all_goals(first|exact .AO (by omega)|exact .AJ (by omega)|exact .sl (by simp[r0])|exact .int (by simp[r0])|exact .eq (by simp[r0]))
 rintro i ⟨hi,hP⟩ J hJ;refine gO ?_;refine gR (l:=l) hi (fun b hb hbm hlt=>?_) (fun hil=>?_);simp(disch:=omega)only[go_sem,gm,hb]
 ·refine⟨fun h=>?_,fun h=>?_⟩
  ·have e:Pw l n=some b:=H2 hP hb (by simpa using h);simp(disch:=omega)only[go_sem,e,gm,hb,Option.isSome_some,Option.getD_some];exact AQ _
  ·refine hJ _ (i+1) ⟨by omega,(by rw[BW hP hb];simp at h;simp[h])⟩ (by omega) AT
 ·subst hil;rw[tL]at hP;have e:Pw l n=none:=hP;simp(disch:=omega)only[go_sem,e,Option.isSome_none,Option.getD_none,r0];exact AQ _
def Kq(q:Queue)(p:Ab)(l:Amt):Prop:=((Aq q p).isSome=true→At q.holds p=l)∧(At q.holds p=l∨((At q.holds p).zero=false∧q.res.covers (At q.holds p) l=true))
def zero_eq{a:Amt}(h:a.zero=true):a=⟨0,0⟩:=by
 obtain⟨m,u⟩:=a;simp[Amt.zero]at h;simp[h]
def Hl{r:Res}{a:Amt}(h:r.fits a=true):r.covers a ⟨0,0⟩=true:=by
 have hs:r.shaped=true:=by simp only[Res.fits,and_eq_true]at h;exact h.1
 have hz:(⟨0,0⟩:Amt).zero=true:=rfl;simp[Res.covers,Res.permits,hs,h,hz]
def Ze{l:List AK}{p:Ab}{a:Amt}(ha:a.zero=false):At (B5 l p a) p=a:=by
 unfold B5 At;rw[ha];simp only[Bool.false_eq_true,if_false];rw[List.find?_append];have:((AA l p).take (Cu (AA l p) p)).find? (fun h=>decide (h.proc=p))=none:=by
  rw[List.find?_eq_none];intro x hx;have:=List.mem_of_mem_take hx;simp[AA]at this;simpa using this.2
 rw[this];simp
def Zd{l:List AK}{p:Ab}:At (AA l p) p=⟨0,0⟩:=by
 unfold At;have:(AA l p).find? (fun h=>decide (h.proc=p))=none:=by
  rw[List.find?_eq_none];intro x hx;simp[AA]at hx;simpa using hx.2
 rw[this]
def Jh{l:List AK}{p:Ab}{a:Amt}:At (B5 l p a) p=a:=by
 cases h:a.zero
 ·exact Ze h
 ·rw[zero_eq h,Gq,Zd]
def KO{l:List AP}{p p':Ab}(h:p'≠p):(AZ l p).find? (fun w=>decide (w.proc=p'))=l.find? fun w=>decide (w.proc=p'):=by
 unfold AZ;rw[Gn];intro x hx;simp at hx ⊢;rw[hx];exact h
def QT{l:List AP}{p:Ab}:(AZ l p).find? (fun w=>decide (w.proc=p))=none:=by
 rw[List.find?_eq_none];intro x hx;simp[AZ]at hx;simpa using hx.2
def E7{q:Queue}{p:Ab}:Aq q p=none↔∀ w,w∈q.Ao++q.waits→w.proc≠p:=by
 unfold Aq;rw[Option.map_eq_none_iff,List.find?_eq_none];simp
def E4{q:Queue}{w:AP}(h:Bk q=some w):(∃ l,q.Ao=w::l∧CK q w = { q with holds:=B5 q.holds w.proc w.amt,Ao:=l })∨(q.Ao=[]∧∃ l,q.waits=w::l∧CK q w = { q with holds:=B5 q.holds w.proc w.amt,waits:=l }):=by
 cases hc:q.Ao with
 | cons w' l =>
  have hw':w'=w:=by simp[Bk,hc]at h;exact h
  subst hw';exact .inl ⟨l,rfl,by unfold CK;simp only[hc]⟩
 | nil =>
  cases hw:q.waits with
  | nil=>simp[Bk,hc,hw]at h
  | cons w' l =>
   have hw':w'=w:=by simp[Bk,hc,hw]at h;exact h
   subst hw';exact .inr ⟨rfl,l,rfl,by unfold CK;simp only[hc,hw];rfl⟩
def IP{q:Queue}{w:AP}{p:Ab}(h:Bk q=some w)(hp:p≠w.proc):Aq (CK q w) p=Aq q p:=by
 have hd:decide (w.proc=p)=false:=by simpa using Ne.symm hp
 rcases E4 h with ⟨l,hc,e⟩|⟨hc,l,hw,e⟩
 ·rw[e];unfold Aq;simp only[hc,List.cons_append,List.find?_cons,hd]
 ·rw[e];unfold Aq;simp only[hc,hw,nil_append,List.find?_cons,hd]
def OE{q:Queue}{w:AP}(h:Bk q=some w):Aq q w.proc=some w.amt:=by
 rcases E4 h with ⟨l,hc,e⟩|⟨hc,l,hw,e⟩
 ·unfold Aq;simp[hc]
 ·unfold Aq;simp[hc,hw]
def Mv{q:Queue}{w:AP}(hs:Sound q)(h:Bk q=some w):Aq (CK q w) w.proc=none:=by
 have hcv:=(Bz q).1 hs.Ao;obtain⟨a,b,c⟩:=(Bt q).1 hs.waits;rw[Ct]at a;rw[E7];rcases E4 h with ⟨l,hc,e⟩|⟨hc,l,hw,e⟩
 ·rw[e];intro x hx;have hu:=hcv.2.1;rw[hc]at hu;have hu':=pairwise_cons.1 hu;simp only[mem_append]at hx;rcases hx with hx|hx
  ·exact fun e=>hu'.1 x hx e.symm
  ·have hh:=(hcv.2.2 w (by rw[hc];simp)).1;have hz:=(c x hx).2;intro e2;rw[e2,hh]at hz;cases hz
 ·rw[e];intro x hx;simp only[hc,nil_append]at hx;have hu:=a.2.1;rw[hw]at hu;exact fun e=>(pairwise_cons.1 hu).1 x hx e.symm
def gX{q:Queue}{w:AP}{p:Ab}{l:Amt}(hs:Sound q)(h:Bk q=some w)(hr:Et q.res q.holds w.proc w.amt=true)(hk:Kq q p l):Kq (CK q w) p l:=by
 by_cases hp:p=w.proc
 ·subst hp;have hl:=hk.1 (by rw[OE h];rfl);have hf:=(L9 hr).1;have e:At (CK q w).holds w.proc=w.amt:=by
   rcases E4 h with ⟨l,hc,e⟩|⟨hc,l,hw,e⟩<;>rw[e]<;>exact Jh
  refine⟨fun hh=>absurd hh (by rw[Mv hs h];simp),.inr ?_⟩;rw[e,(NU q w).1];refine⟨Gd hf,?_⟩;rcases E4 h with ⟨l',hc,_⟩|⟨hc,l',hw,_⟩
  ·have:=((Bz q).1 hs.Ao).2.2 w (by rw[hc];simp);rw[← hl];exact this.2.2.1
  ·have:=((Bt q).1 hs.waits).2.2 w (by rw[hw];simp);rw[← hl,zero_eq this.2];exact Hl hf
 ·have e:At (CK q w).holds p=At q.holds p:=by
   rcases E4 h with ⟨l,hc,e⟩|⟨hc,l,hw,e⟩<;>rw[e]<;>exact EW hp
  unfold Kq at hk ⊢;rw[IP h hp,e,(NU q w).1];exact hk
def gW{q:Queue}{p:Ab}{l:Amt}(hs:Sound q)(hk:Kq q p l):Kq (BT q).1 p l :=
 (Ha (P:=fun x=>Sound x∧Kq x p l) (fun _ _ h hh hr=>⟨JZ h.1 hh hr,gX h.1 hh hr h.2⟩) _ q rfl ⟨hs,hk⟩).1.2
def aQ{q:Queue}{p:Ab}(hw:Aq q p=none):Aq (BT q).1 p=none∧At (BT q).1.holds p=At q.holds p :=
 (Ha (P:=fun x=>Aq x p=none∧At x.holds p=At q.holds p) (fun x w h hh hr=>by
  have hp:p≠w.proc:=fun e=>by rw[e,OE hh]at h;cases h.1
  refine⟨by rw[IP hh hp];exact h.1,?_⟩;rw[← h.2];rcases E4 hh with ⟨l,hc,e⟩|⟨hc,l,hw,e⟩<;>rw[e]<;>exact EW hp) _ q rfl ⟨hw,rfl⟩).1
def IF(g:Int):0≤Lv g∧Lv g≤1073741824:=by unfold Lv;split<;>omega
def On{q:Queue}(h:Sound q):valid (ET q)=true:=by
 rw[BE];exact Tr (Tm h) (IF _)
def Ya(q:Queue):(ET q).res=q.res:=(P4 q).1
def ax{q:Queue}{p:Ab}{l:Amt}(hs:Sound q)(hk:Kq q p l):Kq (ET q) p l:=gW hs hk
def Ve{q:Queue}{p:Ab}(hw:Aq q p=none):Aq (ET q) p=none∧At (ET q).holds p=At q.holds p:=aQ hw
def Om(q:Queue)(x:Ab):inQ (ET q) x↔inQ q x:=aW q x
def CY{α:Type}[DecidableEq α]:∀ (l' l:List α),l'.Nodup→(∀ x∈l',x∈l)→l'.length≤l.length
 |[],_,_,_=>Nat.zero_le _
 | a::l',l,hn,hs=>by
  have hn':=List.nodup_cons.1 hn;have ha:=hs a (by simp);have:=CY l' (l.erase a) hn'.2 fun x hx=>(List.mem_erase_of_ne (fun e=>hn'.1 (by rw[← e];exact hx))).2 (hs x (by simp[hx]))
  have h2:=List.length_erase_of_mem ha;have h3:0<l.length:=List.length_pos_of_mem ha;simp only[List.length_cons];omega
def HE{l:List AP}:RK l↔(l.map (·.proc)).Nodup:=by
 unfold RK List.Nodup;rw[List.pairwise_map]
def DZ(q:Queue)(p:Ab):Queue:={ q with Ao:=AZ q.Ao p,waits:=AZ q.waits p }
def LJ{q:Queue}(h:Sound q)(p:Ab):Sound (DZ q p):=by
 have hw:=BL q.waits p;have hc:=BL q.Ao p;refine⟨h.res,h.holds,?_,?_,h.gen⟩
 ·have:=(Bz q).1 h.Ao;rw[Bz];simp only[DZ];refine⟨by omega,this.2.1.sublist List.filter_sublist,fun w hw=>?_⟩;simp only[AZ,mem_filter,zD]at hw;exact this.2.2 w hw.1
 ·have:=(Bt q).1 h.waits;rw[Bt];obtain⟨a,b,c⟩:=this;rw[Ct]at a;simp only[DZ,Ct];refine⟨⟨by omega,a.2.1.sublist List.filter_sublist,fun w hw=>?_⟩,by omega,fun w hw=>?_⟩
  ·simp only[AZ,mem_filter]at hw;exact a.2.2 w hw.1
  ·simp only[AZ,mem_filter,zD]at hw;exact c w hw.1
def Zj{q:Queue}(h:Sound q){p:Ab}(hz:(At q.holds p).zero=false):q.res.fits (At q.holds p)=true∧p.ok=true∧∃ x∈q.holds,x.proc=p:=by
 obtain⟨h1,h2,h3,h4,h5⟩:=(C7 _ _).1 h.holds;unfold At at hz ⊢;cases hf:q.holds.find? (fun h=>decide (h.proc=p)) with
 |none=>rw[hf]at hz;simp[Amt.zero]at hz
 |some x =>
  have hm:=List.mem_of_find?_eq_some hf;have hx:x.proc=p:=by simpa using List.find?_some hf
  exact⟨(h3 x hm).2,hx▸(h3 x hm).1,x,hm,hx⟩
def ZU{m n:Int}(hm:Bi m=true)(hn:Bi n=true):Bi (P2 m n)=true∧A5 (P2 m n) m=true∧A5 (P2 m n) n=true:=by
 rcases AN hm with rfl|rfl|rfl|rfl|rfl<;>rcases AN hn with rfl|rfl|rfl|rfl|rfl<;>decide
def No{m:Int}(hm:Bi m=true):A5 m m=true:=by
 rcases AN hm with rfl|rfl|rfl|rfl|rfl<;>decide
def RW{a b c:Int}(h1:A5 a b=true)(h2:A5 b c=true):A5 a c=true:=by
 have ha:Bi a=true:=by simp only[A5,and_eq_true]at h1;exact h1.1.1
 have hb:Bi b=true:=by simp only[A5,and_eq_true]at h1;exact h1.1.2
 have hc:Bi c=true:=by simp only[A5,and_eq_true]at h2;exact h2.1.2
 revert h1 h2;rcases AN ha with rfl|rfl|rfl|rfl|rfl<;>rcases AN hb with rfl|rfl|rfl|rfl|rfl<;>rcases AN hc with rfl|rfl|rfl|rfl|rfl<;>decide
def B9{r:Res}{a:Amt}(h:r.fits a=true):r.shaped=true∧((r.kind=1∧Bi a.mode=true∧a.Ax=0)∨(r.kind≠1∧a.mode=0∧1≤a.Ax∧a.Ax≤r.Ax∧r.Ax≤8)):=by
 simp only[Res.fits,and_eq_true]at h;obtain⟨h1,h2⟩:=h;refine⟨h1,?_⟩;split at h2
 ·rename_i hk;simp at h2;exact .inl ⟨hk,h2.1,h2.2⟩
 ·rename_i hk;simp[AI]at h2;have:r.Ax≤8:=by
   simp only[Res.shaped,if_neg hk]at h1;split at h1
   ·simp[AI]at h1;omega
   ·cases h1
  exact .inr ⟨hk,h2.1,h2.2.1,h2.2.2,this⟩
def DW{r:Res}{a b:Amt}(ha:r.fits a=true)(hb:r.fits b=true):r.covers a b=if r.kind=1 then A5 a.mode b.mode else decide (b.Ax≤a.Ax):=by
 have z1:=Gd ha;have z2:=Gd hb;have hs:=(B9 ha).1;simp[Res.covers,Res.permits,hs,ha,hb,z1,z2]
def Ho{r:Res}{a:Amt}(h:r.fits a=true):(Hs.fits a||Hy.fits a)=true:=by
 rcases(B9 h).2 with ⟨_,h2,h3⟩|⟨_,h2,h3,h4,h5⟩
 ·simp[Res.fits,Hs,Res.shaped,h2,h3]
 ·have:AI a.Ax 1 8=true:=by simp[AI];omega
  simp[Res.fits,Hy,Res.shaped,h2,this,show AI (8:Int) 1 8=true by decide]
def MP{r:Res}{h a:Amt}(hh:r.fits h=true)(ha:r.fits a=true)(hc:r.covers h a=false):r.fits (C8 r h a)=true∧r.covers (C8 r h a) h=true∧C8 r h a≠h∧r.covers (C8 r h a) a=true:=by
 have hs:=(B9 hh).1;have hp1:r.permits h=true:=by simp[Res.permits,hs,hh]
 have hp2:r.permits a=true:=by simp[Res.permits,hs,ha]
 unfold C8;simp only[hp1,hp2,hc,Bool.and_self,zT,Bool.false_eq_true,if_false]
 by_cases h2:r.covers a h=true
 ·rw[if_pos h2];refine⟨ha,h2,(fun e=>by rw[e]at h2 hc;rw[h2]at hc;cases hc),?_⟩;rw[DW ha ha];rcases(B9 ha).2 with ⟨k1,k2,k3⟩|⟨k1,k2,k3,k4,_⟩
  ·rw[if_pos k1];exact No k2
  ·rw[if_neg k1];simp
 ·rw[if_neg h2];rw[DW hh ha]at hc;rw[DW ha hh]at h2;rcases(B9 hh).2 with ⟨k1,k2,k3⟩|⟨k1,k2,k3,k4,_⟩
  ·rcases(B9 ha).2 with ⟨_,j2,j3⟩|⟨j1,_⟩
   ·obtain⟨s1,s2,s3⟩:=ZU k2 j2;rw[if_pos k1]at hc;have hf:r.fits ⟨P2 h.mode a.mode,0⟩=true:=by simp[Res.fits,hs,k1,s1]
    refine⟨hf,(by rw[DW hf hh,if_pos k1];exact s2),fun e=>?_,by rw[DW hf ha,if_pos k1];exact s3⟩;have:P2 h.mode a.mode=h.mode:=congrArg Amt.mode e;rw[this]at s3;rw[s3]at hc;cases hc
   ·exact absurd k1 j1
  ·rw[if_neg k1]at hc h2;simp at hc h2;omega
def M3{q:Queue}(h:Sound q){p:Ab}{a:Amt}(ha:q.res.fits a=true)(hw:Aq q p=none)(hz:(At q.holds p).zero=false)(hc:q.res.covers (At q.holds p) a=false) :
 Sound { q with Ao:=q.Ao++[⟨p,C8 q.res (At q.holds p) a,0,0⟩] }:=by
 obtain⟨hf,hpo,x,hx,hxp⟩:=Zj h hz;obtain⟨j1,j2,j3,_⟩:=MP hf ha hc;obtain⟨c1,c2,c3⟩:=(Bz q).1 h.Ao;have hn:=E7.1 hw;have hlen:q.holds.length≤8:=((C7 _ _).1 h.holds).2.1;have hnd:(q.Ao.map (·.proc)++[p]).Nodup:=by
  rw[nodup_append];refine⟨HE.1 c2,by simp,fun y hy z hz=>?_⟩;simp only[mem_singleton]at hz;simp only[mem_map]at hy;obtain⟨w,hw1,hw2⟩:=hy;rw[hz,← hw2];exact hn w (by simp[hw1])
 have hle:=CY _ (q.holds.map (·.proc)) hnd fun y hy=>by
  rw[mem_append]at hy;rcases hy with hy|hy
  ·simp only[mem_map]at hy;obtain⟨w,hw1,hw2⟩:=hy;obtain⟨x',h1,h2⟩:=Ic (c3 w hw1).1;exact mem_map.2 ⟨x',h1,by rw[h2,hw2]⟩
  ·rw[mem_singleton.1 hy];exact mem_map.2 ⟨x,hx,hxp⟩
 simp only[List.length_append,length_map,List.length_singleton]at hle;refine⟨h.res,h.holds,?_,h.waits,h.gen⟩;rw[Bz];refine⟨by simp;omega,?_,fun w hw=>?_⟩
 ·rw[HE];simpa using hnd
 ·simp only[mem_append,mem_singleton]at hw;rcases hw with hw|rfl
  ·exact c3 w hw
  ·exact⟨hz,j1,j2,j3,rfl,rfl⟩
def E0(l:List AP)(w:AP):Nat→Nat
 | 0=>0
 | k+1=>if (l.getD k w0).prio<w.prio∧(l.getD k w0).CQ<3 then E0 l w k else k+1
def KW(l:List AP)(w:AP):List AP:=l.take (E0 l w l.length)++w::(l.drop (E0 l w l.length)).map fun x=>{ x with CQ:=x.CQ+1 }
def Wz(l:List AP)(w:AP):∀ k,E0 l w k≤k
 | 0=>by simp[E0]
 | k+1=>by
  simp only[E0];split
  ·have:=Wz l w k;omega
  ·omega
def RG(l:List AP)(w:AP):∀ k,k≤l.length→(∀ y∈l.drop k,y.CQ<3)→∀ y∈l.drop (E0 l w k),y.CQ<3
 | 0,_,h=>by simpa [E0]using h
 | k+1,hk,h=>by
  simp only[E0];split
  ·rename_i hc;refine RG l w k (by omega) fun y hy=>?_
   rw[List.drop_eq_getElem_cons (by omega)]at hy;rcases mem_cons.1 hy with rfl|hy
   ·have:=hc.2;simpa [List.getD,gE (show k<l.length by omega)]using this
   ·exact h y hy
  ·exact h
def XL(l:List AP)(w:AP):(KW l w).map (·.proc)=(l.map (·.proc)).take (E0 l w l.length)++w.proc::(l.map (·.proc)).drop (E0 l w l.length):=by
 simp[KW,List.map_take,List.map_drop,Function.comp_def]
def Rv(l:List AP)(w:AP):(KW l w).length=l.length+1:=by
 have:=Wz l w l.length;simp[KW];omega
def LB{l:List AP}{w x:AP}(h:x∈KW l w):x=w∨x∈l∨∃ y∈l,y.CQ<3∧x = { y with CQ:=y.CQ+1 }:=by
 simp only[KW,mem_append,mem_cons,mem_map]at h;rcases h with h|h|⟨y,hy,h⟩
 ·exact .inr (.inl (List.mem_of_mem_take h))
 ·exact .inl h
 ·exact .inr (.inr ⟨y,List.mem_of_mem_drop hy,RG l w _ (Nat.le_refl _) (by simp) y hy,h.symm⟩)
def O6{q:Queue}(h:Sound q){p:Ab}{a:Amt}{prio:Int}(hp:p.ok=true)(hpr:0≤prio∧prio≤7)(ha:q.res.fits a=true)(hw:Aq q p=none)(hz:(At q.holds p).zero=true)(hl:q.holds.length+q.waits.length<8) :
 Sound { q with waits:=KW q.waits ⟨p,a,prio,0⟩ }:=by
 obtain⟨a1,a2,a3⟩:=(Bt q).1 h.waits;rw[Ct]at a1;have hn:=E7.1 hw;have hlen:=Rv q.waits ⟨p,a,prio,0⟩;refine⟨h.res,h.holds,h.Ao,?_,h.gen⟩;rw[Bt];simp only[Ct];refine⟨⟨by omega,?_,fun x hx=>?_⟩,by omega,fun x hx=>?_⟩
 ·rw[HE,XL];have hu:=HE.1 a1.2.1;have hpn:p∉q.waits.map (·.proc):=fun hm=>by
   obtain⟨w,h1,h2⟩:=mem_map.1 hm;exact hn w (by simp[h1]) h2
  generalize q.waits.map (·.proc)=ps at hu hpn;generalize E0 q.waits ⟨p,a,prio,0⟩ q.waits.length=k;have hu2:=hu;rw[← List.take_append_drop k ps,nodup_append]at hu2;rw[nodup_append];refine⟨hu2.1,List.nodup_cons.2 ⟨fun hm=>hpn (List.mem_of_mem_drop hm),hu2.2.1⟩,fun y hy z hz=>?_⟩;rcases mem_cons.1 hz with rfl|hz
  ·exact fun e=>hpn (e▸List.mem_of_mem_take hy)
  ·exact hu2.2.2 y hy z hz
 ·rcases LB hx with rfl|hx|⟨y,hy,hy3,rfl⟩
  ·simp[AP.ok,hp,Ho ha,AI,hpr]
  ·exact a1.2.2 x hx
  ·have:=a1.2.2 y hy;simp only[AP.ok,and_eq_true,AI,zD]at this ⊢;exact⟨this.1,by omega,by omega⟩
 ·rcases LB hx with rfl|hx|⟨y,hy,hy3,rfl⟩
  ·exact⟨ha,hz⟩
  ·exact a3 x hx
  ·exact a3 y hy
def T2{l1 l2:List AK}{p:Ab}(h1:∀ y∈l1,Bc y.proc p<0)(h2:∀ y∈l2,Bc p y.proc<0):AA (l1++l2) p=l1++l2∧Cu (l1++l2) p=l1.length:=by
 have n1:∀ y∈l1++l2,y.proc≠p:=fun y hy e=>by
  rcases mem_append.1 hy with hy|hy
  ·have:=h1 y hy;rw[e,Cj]at this;omega
  ·have:=h2 y hy;rw[e,Cj]at this;omega
 refine⟨by unfold AA;rw[List.filter_eq_self];intro y hy;simpa using n1 y hy,?_⟩;unfold Cu;rw[List.findIdx?_append];have e1:l1.findIdx? (after' p)=none:=by
  rw[List.findIdx?_eq_none_iff];intro y hy;have:=h1 y hy;simp[after'];omega
 rw[e1];cases l2 with
 | nil=>simp
 | cons y l2 =>
  have:=h2 y (by simp);have hs:=CN p y.proc;have:after' p y=true:=by simp[after'];omega
  simp[List.findIdx?_cons,this]
def YJ{l:List AK}(h:MB l){x:AK}(hx:x∈l):∃ l1 l2,l=l1++x::l2∧∀ a:Amt,a.zero=false→B5 l x.proc a=l1++⟨x.proc,a⟩::l2:=by
 obtain⟨l1,l2,rfl⟩:=List.append_of_mem hx;unfold MB at h;rw[List.pairwise_append]at h;obtain⟨h1,h2,h3⟩:=h;have h2':=pairwise_cons.1 h2;have b1:∀ y∈l1,Bc y.proc x.proc<0:=fun y hy=>h3 y hy x (by simp)
 have b2:∀ y∈l2,Bc x.proc y.proc<0:=fun y hy=>h2'.1 y hy
 obtain⟨e1,e2⟩:=T2 b1 b2;refine⟨l1,l2,rfl,fun a ha=>?_⟩;have e3:AA (l1++x::l2) x.proc=l1++l2:=by
  rw[← e1];simp[AA]
 unfold B5;rw[ha,e3,e2];simp
def Nl{a b c:Int}(h1:A5 a b=true)(h2:BR a c=true):BR b c=true:=by
 have ha:Bi a=true:=by simp only[A5,and_eq_true]at h1;exact h1.1.1
 have hb:Bi b=true:=by simp only[A5,and_eq_true]at h1;exact h1.1.2
 have hc:Bi c=true:=by simp only[BR,and_eq_true]at h2;exact h2.1.2
 revert h1 h2;rcases AN ha with rfl|rfl|rfl|rfl|rfl<;>rcases AN hb with rfl|rfl|rfl|rfl|rfl<;>rcases AN hc with rfl|rfl|rfl|rfl|rfl<;>decide
def Nn{a b:Int}(h:BR a b=true):BR b a=true:=by
 have ha:Bi a=true:=by simp only[BR,and_eq_true]at h;exact h.1.1
 have hb:Bi b=true:=by simp only[BR,and_eq_true]at h;exact h.1.2
 revert h;rcases AN ha with rfl|rfl|rfl|rfl|rfl<;>rcases AN hb with rfl|rfl|rfl|rfl|rfl<;>decide
def VM(s' s:List Bool):Prop:=∀ k:Nat,s'.getD k false=true→s.getD k false=true∨∃ k':Nat,s.getD k' false=true∧k'<6∧A5 k' k=true
def Wl{s s':List Bool}{m:Int}(h:VM s' s)(hs:Eu s m=true):Eu s' m=true:=by
 unfold Eu at *;rw[List.all_eq_true]at *;intro k hk;cases h1:s'.getD k false
 ·rfl
 ·rcases h k h1 with h2|⟨k',h2,h4,h3⟩
  ·have:=hs k hk;rw[h2]at this;simpa using this
  ·have:=hs k' (List.mem_range.2 h4);rw[h2]at this;have:=Nl h3 (by simpa using this);simp[this]
def Wm{s:List Bool}{m m':Int}(h:A5 m m'=true)(hs:Eu s m=true):Eu s m'=true:=by
 unfold Eu at *;rw[List.all_eq_true]at *;intro k hk;have:=hs k hk;cases h1:s.getD k false
 ·rfl
 ·rw[h1]at this;have h2:BR k m=true:=by simpa using this
  have:=Nn (Nl h (Nn h2));simp[this]
def Zq{s s':List Bool}(h:VM s' s)(hl:s'.length=s.length)(i:Nat):VM (s'.set i true) (s.set i true):=by
 intro k hk;rw[Gy]at hk;split at hk
 ·rename_i hc;exact .inl (by rw[Gy,if_pos ⟨hc.1,by omega⟩])
 ·rcases h k hk with h2|⟨k',h2,h4,h3⟩
  ·refine .inl ?_;rw[Gy];split
   ·rfl
   ·exact h2
  ·refine .inr ⟨k',?_,h4,h3⟩;rw[Gy];split
   ·rfl
   ·exact h2
def HY{r:Res}:∀ (l:List Amt) {s s':Int} {seen seen':List Bool},s'≤s→seen'.length=seen.length→VM seen' seen→BF r l s seen=true→BF r l s' seen'=true
 |[],_,_,_,_,_,_,_,_=>rfl
 | a::l,s,s',seen,seen',hs,hl,hk,h=>by
  simp only[BF,and_eq_true,Bool.not_eq_true',decide_eq_false_iff_not]at h ⊢;obtain⟨⟨h1,h2⟩,h3⟩:=h;refine⟨⟨h1,by omega⟩,?_⟩;split at h3
  ·rename_i hm;rw[if_pos hm];exact HY l (by omega) hl hk h3
  ·rename_i hm;rw[if_neg hm];rw[and_eq_true]at h3 ⊢;exact⟨Wl hk h3.1,HY l (by omega) (by simpa using hl) (Zq hk hl _) h3.2⟩
def Xv(s:List Bool):VM s s:=fun _ h=>.inl h
def Jf{r:Res}{a b:Amt}(ha:r.fits a=true)(hb:r.fits b=true)(hc:r.covers a b=true)(l2:List Amt):∀ (l1:List Amt) {s:Int} {seen:List Bool},seen.length=6→BF r (l1++a::l2) s seen=true→BF r (l1++b::l2) s seen=true
 |[],s,seen,hl,h=>by
  rw[DW ha hb]at hc;have hs:=(B9 ha).1;have hpb:r.permits b=true:=by simp[Res.permits,hs,hb]
  simp only[nil_append,BF,and_eq_true,Bool.not_eq_true',decide_eq_false_iff_not]at h ⊢;obtain⟨⟨h1,h2⟩,h3⟩:=h;rcases(B9 ha).2 with ⟨k1,k2,k3⟩|⟨k1,k2,k3,k4,_⟩
  ·rcases(B9 hb).2 with ⟨_,j2,j3⟩|⟨j1,_⟩
   ·rw[if_pos k1]at hc;have m1:a.mode≠0:=by rcases AN k2 with e|e|e|e|e<;>omega
    have m2:b.mode≠0:=by rcases AN j2 with e|e|e|e|e<;>omega
    rw[if_neg m1,and_eq_true]at h3;rw[if_neg m2,and_eq_true];refine⟨⟨hpb,by omega⟩,Wm hc h3.1,HY l2 (by omega) (by simp) (fun k hk=>?_) h3.2⟩;rw[Gy]at hk;split at hk
    ·rename_i hk';refine .inr ⟨a.mode.toNat,?_,?_,?_⟩
     ·rw[Gy,if_pos ⟨rfl,by rcases AN k2 with e|e|e|e|e<;>omega⟩]
     ·rcases AN k2 with e|e|e|e|e<;>omega
     ·rw[← hk'.1];have e1:((a.mode.toNat:Nat):Int)=a.mode:=by rcases AN k2 with e|e|e|e|e<;>omega
      have e2:((b.mode.toNat:Nat):Int)=b.mode:=by rcases AN j2 with e|e|e|e|e<;>omega
      rw[e1,e2];exact hc
    ·refine .inl ?_;rw[Gy];split
     ·rfl
     ·exact hk
   ·exact absurd k1 j1
  ·rcases(B9 hb).2 with ⟨j1,_⟩|⟨_,j2,j3,j4,_⟩
   ·exact absurd j1 k1
   ·rw[if_neg k1]at hc;simp only[zD]at hc;rw[if_pos k2]at h3;rw[if_pos j2];exact⟨⟨hpb,by omega⟩,HY l2 (by omega) rfl (Xv _) h3⟩
 | x::l1,s,seen,hl,h=>by
  simp only[List.cons_append,BF,and_eq_true]at h ⊢;refine⟨h.1,?_⟩;have h3:=h.2;split at h3
  ·rename_i hm;rw[if_pos hm];exact Jf ha hb hc l2 l1 hl h3
  ·rename_i hm;rw[and_eq_true]at h3;rw[if_neg hm,and_eq_true];exact⟨h3.1,Jf ha hb hc l2 l1 (by simpa using hl) h3.2⟩
def R2{r:Res}{l:List AK}(h:Bf r l=true){p:Ab}{a:Amt}(hz:(At l p).zero=false)(hc:r.covers (At l p) a=true)(ha:a.zero=false):Bf r (B5 l p a)=true:=by
 obtain⟨h1,h2,h3,h4,h5⟩:=(C7 _ _).1 h;obtain⟨x,hx,hxp,hg⟩:∃ x∈l,x.proc=p∧At l p=x.amt:=by
  unfold At at hz ⊢;cases hf:l.find? (fun h=>decide (h.proc=p)) with
  |none=>rw[hf]at hz;simp[Amt.zero]at hz
  |some x=>exact⟨x,List.mem_of_find?_eq_some hf,by simpa using List.find?_some hf,rfl⟩
 have hfx:=(h3 x hx).2;rw[hg]at hc;have hfa:r.fits a=true:=by
  simp only[Res.covers,Res.permits,and_eq_true,Bool.or_eq_true]at hc;have:=hc.1.2.2;rw[ha]at this;simpa using this
 subst hxp;obtain⟨l1,l2,rfl,hset⟩:=YJ h4 hx;rw[hset a ha,C7];refine⟨h1,by simpa using h2,fun y hy=>?_,?_,?_⟩
 ·simp only[mem_append,mem_cons]at hy;rcases hy with hy|rfl|hy
  ·exact h3 y (by simp[hy])
  ·exact⟨(h3 x hx).1,hfa⟩
  ·exact h3 y (by simp[hy])
 ·unfold MB at h4 ⊢;rw[List.pairwise_append]at h4 ⊢;have h4':=pairwise_cons.1 h4.2.1;refine⟨h4.1,pairwise_cons.2 ⟨fun y hy=>h4'.1 y hy,h4'.2⟩,fun y hy z hz=>?_⟩;rcases mem_cons.1 hz with rfl|hz
  ·exact h4.2.2 y hy x (by simp)
  ·exact h4.2.2 y hy z (by simp[hz])
 ·simp only[Res.compat,and_eq_true,List.map_append,List.map_cons]at h5 ⊢;exact⟨h5.1,Jf hfx hfa hc _ _ rfl h5.2⟩
def ID(q:Queue)(p:Ab)(a:Amt):Queue:={ q with holds:=B5 q.holds p a }
def O5{q:Queue}(h:Sound q){p:Ab}{a:Amt}(hz:(At q.holds p).zero=false)(hw:Aq q p=none)(hc:q.res.covers (At q.holds p) a=true):Sound (ID q p a):=by
 have hn:=E7.1 hw;have hlen:(B5 q.holds p a).length≤q.holds.length:=by
  have h1:=Ok hz;have h2:=Qh (l:=q.holds) (p:=p) (a:=a);omega
 refine⟨h.res,?_,?_,?_,h.gen⟩
 ·cases ha:a.zero
  ·exact R2 h.holds hz hc ha
  ·simp only[ID,zero_eq ha,Gq];exact I2 List.filter_sublist h.holds
 ·obtain⟨c1,c2,c3⟩:=(Bz q).1 h.Ao;rw[Bz];simp only[ID];refine⟨c1,c2,fun w hw=>?_⟩;rw[EW (hn w (by simp[hw]))];exact c3 w hw
 ·obtain⟨a1,a2,a3⟩:=(Bt q).1 h.waits;rw[Bt];simp only[ID];refine⟨a1,by omega,fun w hw=>?_⟩;rw[EW (hn w (by simp[hw]))];exact a3 w hw
end Go.Rd
