/- part 25 of the proof -/
import Derived.Test.YthachdiockkofaaGreatDoorW24
set_option linter.all false
open Go Go.Abs Go.Proofs
set_option maxRecDepth 100000
namespace Go.Rd
set_option maxHeartbeats 8000000
open List (map_cons map_nil)
open Tryz
theorem f80_ok(name:Bs)(p q:Ae):Ad C0 80 [.v (.string (str name)),.agg p.c,.agg q.c] [] (.agg (Nd name p q).c) []:=by
 refine Ad.go f80 ?_;unfold f80;simp(disch:=omega)only[go_sem];refine Cf ⟨[],[],[896,1152]⟩ _ ?_;simp(disch:=omega)only[go_sem,Nd,wA];exact .agg (Aj.AM (by simp(disch:=omega)only[go_sem,Nd,wA,AH,A7,map_cons,map_nil]))
theorem f81_ok(p:Ae)(name:Bs):Ad C0 81 [.agg p.c,.v (.string (str name))] [] (.agg (QG p name).c) []:=by
 refine Ad.go f81 ?_;unfold f81;refine gO ?_;refine B8 _ ?_;simp(disch:=omega)only[go_sem,QG,wA];exact .agg (Aj.AM (by simp(disch:=omega)only[go_sem,QG,wA,Expr.k,Expr.atom,Expr.kids,map_nil]))
theorem VJ{l:List Queue}{ms:List Ae}(hl:∀ q∈l,BC q≤100):∀ c∈A2 l ms,c.members.length≤1000000:=by
 intro c hc;simp only[A2,Cs,List.mem_flatMap,List.mem_filterMap]at hc;obtain⟨p,_,q,hq,h⟩:=hc;have:=PV (hl q hq) p;rw[h]at this;exact this
theorem Jc{s:WS}(l:List Ae)(h:Few s):Few (ofS s l).1.state∧(ofS s l).1.members.length≤1000000∧(ofS s l).1.AJ.length≤10000000∧∀ c∈(ofS s l).1.AJ,c.members.length≤1000000:=by
 have hf:=FY h l;have e:Few wE.state∧wE.members.length≤1000000∧wE.AJ.length≤10000000∧∀ c∈wE.AJ,c.members.length≤1000000:=⟨⟨by simp[wE,wsE],by simp[wE,wsE],by simp[wE,wsE]⟩,by simp[wE],by simp[wE],by simp[wE]⟩;unfold ofS;split
 ·split
  ·exact e
  ·have h1:=Dy hf;have h2:=GO (AP s l).1.Aa (Ah (AP s l).1);have h3:(Ah (AP s l).1).length*(AP s l).1.Aa.length≤20000*100:=Nat.mul_le_mul h1 hf.nq;exact⟨hf,Nat.le_trans h1 (by omega),Nat.le_trans h2 (by omega),VJ hf.aq⟩
 ·exact e
theorem Jz:Few DG:=Yu (by kernel_rfl)
theorem bw1:(Dl DG).2=0:=by kernel_rfl
theorem bw2:(Dl DG).1.AJ.length=2:=by kernel_rfl
theorem bw3:(Dl DG).1.members.length=2:=by kernel_rfl
theorem bw4:DQ (Dl DG).1=0:=by kernel_rfl
theorem bw5:Hq (Dl DG).1 DG=true:=by kernel_rfl
theorem bw6:((Dl DG).1.AJ[0]?).map (·.why)=some 1:=by kernel_rfl
theorem bw7:DQ ⟨(Dl DG).1.state,(Dl DG).1.members,(Dl DG).1.AJ.take 1⟩=17:=by kernel_rfl
theorem bw8:(Bp DG).2.length=2:=by kernel_rfl
theorem f39_ok:Ad C0 39 [] [] (B true) []:=by
 obtain⟨fw1,fw2,fw3,fw4⟩:=Jc (Bp DG).2 Jz;have b1:=bw1;have b2:=bw2;have b3:=bw3;have b4:=bw4;have b5:=bw5;have b6:=bw6;have b7:=bw7;have hb:ofS DG (Bp DG).2=Dl DG:=rfl;rw[hb]at fw1 fw2 fw3 fw4;refine Ad.go f39 ?_;unfold f39;refine gO ?_;refine Ac (f22_ok 0) ?_;refine gO ?_;refine Ac (f22_ok 1) ?_;refine gO ?_;refine Uc ⟨[(3,.ptr 192 0)],[(192,DG.c)]⟩ ?_ ?_;rotate_left
 ·refine Aq 14 [([],[1]),([],[2]),([],[8,9]),([],[2]),([],[1]),([2],[11,12]),([2,5],[10,13]),([],[1]),([2,5],[15]),([],[2]),([2,5,8],[17]),([2,5,8,10],[16,18]),([2,5,8,10],[14,19]),([],[])] fol ?_;refine gO ?_;refine Aw ⟨⟨[],[],[]⟩,[],[]⟩ (f80_ok [97] (FP 0) (FP 1)) (by simp(disch:=omega)only[go_sem];exact .eq rfl) rfl rfl trivial (.inl rfl) ?_;refine gO ?_;refine Aw ⟨⟨[],[],[]⟩,[],[]⟩ (f80_ok [98] (FP 1) (FP 0)) (by simp(disch:=omega)only[go_sem];exact .eq rfl) rfl rfl trivial (.inl rfl) ?_;simp(disch:=omega)only[go_sem,Nd,wA,AH,A7,map_cons,map_nil];refine Aw ⟨⟨[],[],[]⟩,[],[]⟩ (f81_ok (FP 0) [98]) (by simp(disch:=omega)only[go_sem];exact .eq rfl) rfl rfl trivial (.inl rfl) ?_;simp(disch:=omega)only[go_sem]
  first
   |(refine Ai (f81_ok (FP 1) [97]) (by simp(disch:=omega)only[go_sem];exact .eq rfl) rfl ?_)
   |(refine Aw ⟨⟨[],[],[]⟩,[],[]⟩ (f81_ok (FP 1) [97]) (by simp(disch:=omega)only[go_sem];exact .eq rfl) rfl rfl trivial (.inl rfl) ?_)
  simp(disch:=omega)only[go_sem,QG,wA,Expr.k,Expr.atom,Expr.kids,EJ,map_nil];exact Imp.Am gI (by simp(disch:=omega)only[go_sem,DG,Nd,QG,wA,Expr.k,Expr.atom,Expr.kids,Ay,DU,AH,A7,EJ,map_cons,map_nil])
 have hq:DG.Aa=[Nd [97] (FP 0) (FP 1),Nd [98] (FP 1) (FP 0)]:=rfl;refine gO ?_;refine Ac (f41_ok DG Jz (by rw[bw8];omega)) ?_;generalize Dl DG=w at b1 b2 b3 b4 b5 b6 b7 fw1 fw2 fw3 fw4;obtain⟨W,en⟩:=w;simp only at b1 b2 b3 b4 b5 b6 b7 fw1 fw2 fw3 fw4;subst b1;have e2:((W.AJ.length:Int) !=2)=false:=by simp[b2]
 have e3:((W.members.length:Int) !=2)=false:=by simp[b3]
 obtain⟨c,hc⟩:∃ c,W.AJ[0]?=some c:=⟨_,gE (by omega)⟩;have hcw:c.why=1:=by simpa [hc]using b6
 have e4:(c.why !=1)=false:=by simp[hcw]
 have hl0:0<W.AJ.length:=by omega
 have z0:((0:Int) !=0)=false:=by simp
 simp(disch:=omega)only[go_sem,z0,e2,e3];refine Ac (f44_ok W fw1 fw2 (by omega)) ?_;simp(disch:=omega)only[go_sem,b4,z0];refine Ac (f45_ok W DG fw1 Jz fw2) ?_;simp(disch:=omega)only[go_sem,b5,gm,hc,e4];refine Ai (f44_ok ⟨W.state,W.members,W.AJ.take 1⟩ fw1 fw2 (by simp;omega)) ?_ rfl ?_
 ·simp(disch:=omega)only[go_sem];exact .eq (by simp[Wit.c,List.map_take])
 simp(disch:=omega)only[go_sem,b7];exact AE _
end Go.Rd
namespace Go.Abs
open Go Go.ChangeShapes Go.WideShapes Go.RowKit
def Xi(P:Program)(N:Nat)(t:TypeId){α:Type}(e:α→List AV):Prop :=
 ∀ (H:Type) (enc:TypeId × Value→H) (w:World) (fuel:Nat) (cs:List Value) (x:DataW H × List MemPlace),fuel≤N→DataW.trod enc P w 0 (fun _=>true) true fuel t cs=some x →
  ∃ a,PRl (fun b=>b<w.heap.size) w (e a) cs
variable {P:Program} {t:TypeId}
theorem Xi.mono{N M:Nat}{α:Type}{e:α→List AV}(h:Xi P N t e)(hm:M≤N):Xi P M t e:=fun H enc w fuel cs x hf hx=>h H enc w fuel cs x (Nat.le_trans hf hm) hx
theorem Xi.map{N:Nat}{α β:Type}{e:α→List AV}{e':β→List AV}(h:Xi P N t e)(hf:∀ a,∃ b,e' b=e a):Xi P N t e':=fun H enc w fuel cs x hn hx=>by
 obtain⟨a,q⟩:=h H enc w fuel cs x hn hx;obtain⟨b,hb⟩:=hf a;exact⟨b,hb▸q⟩
theorem chunks{α:Type}(m:Nat):∀ (rows:List (List α)) (cs:List α),cs.length=rows.length*m→(∀ i r,rows[i]?=some r→(cs.drop (i*m)).take m=r)→cs=rows.flatten
 |[],cs,hl,_=>List.eq_nil_of_length_eq_zero (by simpa using hl)
 | r::rows,cs,hl,h=>by
  have h0:=h 0 r rfl;have:=chunks m rows (cs.drop m) (by simp only[List.length_cons,Nat.add_mul]at hl;rw[List.length_drop,hl];omega) fun i r' hr=>by
   have:=h (i+1) r' (by simpa using hr);rw[List.drop_drop]
   rwa [show m+i*m=(i+1)*m by rw[Nat.add_mul];omega]
  simp only[Nat.zero_mul,List.drop_zero]at h0;rw[List.flatten_cons,← this,← h0,List.take_append_drop]
theorem TO{H:Type}{enc:TypeId × Value→H}{w:World}{fuel n:Nat}{sp:Nat→Bool}{held:Bool}{base:Nat}{e:TypeId}{cs:List Value}{ds:List (DataW H)}{p:List MemPlace}{f:List (List Value)}
 (ht:P.underlying t=some (.array n e)) (hct:P.cellsOf t=n*P.cellsOf e) (h:DataW.trod enc P w base sp held fuel t cs=some (.agg ds,p)) (hl:ds.length=f.length)
 (hf:∀ (i:Nat) (d:DataW H) (c:List Value),ds[i]?=some d→f[i]?=some c→∀ fuel cs' p',DataW.trod enc P w base sp held fuel e cs'=some (d,p')→cs'=c):cs=f.flatten:=by
 obtain⟨xs,m,_,hx,hcl,hxl,hel⟩:=DataW.trod_array ht h;have hx1:ds=xs.map (·.1):=by
  have:=congrArg Prod.fst hx;simpa using this
 have hn:f.length=n:=by rw[← hl,hx1];simpa using hxl
 refine chunks _ f cs (by rw[hcl,hct,hn]) fun i c hc=>?_
 have hi:i<f.length:=by
  rcases Nat.lt_or_ge i f.length with h|h
  ·exact h
  ·rw[List.getElem?_eq_none h]at hc;cases hc
 have hxi:xs[i]?=some xs[i]:=List.getElem?_eq_getElem (by omega);have h1:=hel i (by omega);rw[hxi]at h1;refine hf i xs[i].1 c ?_ hc m _ xs[i].2 h1;rw[hx1,List.getElem?_map,hxi];rfl
theorem VH{H:Type}{enc:TypeId × Value→H}{w:World}{fuel:Nat}{sp:Nat→Bool}{held:Bool}{base:Nat}{cs:List Value}{b:Bool}{p:List MemPlace}(ht:P.underlying t=some .bool)
 (h:DataW.trod enc P w base sp held fuel t cs=some (.lit (.bool b),p)):cs=[.bool b]:=by
 obtain⟨n,rfl,h2⟩:=DataW.trod_bool ht h;simp at h2;rw[h2.1]
def fF{H:Type}(r:List Bool):DataW H:=.agg (r.map fun b=>.lit (.bool b))
def dm{H:Type}(rows:List (List Bool)):DataW H:=.agg (rows.map fF)
theorem Yz{H:Type}{enc:TypeId × Value→H}{w:World}{fuel n m:Nat}{sp:Nat→Bool}{held:Bool}{base:Nat}{e b:TypeId}{cs:List Value}{rows:List (List Bool)}{p:List MemPlace}
 (ht:P.underlying t=some (.array n e)) (he:P.underlying e=some (.array m b)) (hb:P.underlying b=some .bool) (h1:P.cellsOf b=1) (h2:P.cellsOf e=m) (h3:P.cellsOf t=n*m)
 (h:DataW.trod enc P w base sp held fuel t cs=some (dm rows,p)):cs=rows.flatten.map Value.bool:=by
 have key:∀ r:List Bool,∀ fuel cs' p',DataW.trod enc P w base sp held fuel e cs'=some (fF r,p')→cs'=r.map Value.bool:=fun r fuel cs' p' h'=>by
  have:=TO (f:=r.map fun b=>[Value.bool b]) he (by rw[h1,h2,Nat.mul_one]) h' (by simp) fun i d c hd hc fuel cs' p' hx=>by
   rw[List.getElem?_map]at hd hc;cases hr:r[i]? with
   |none=>rw[hr]at hd;cases hd
   |some v =>
    rw[hr]at hd hc;simp at hd hc;subst hd;subst hc;exact VH hb hx
  rw[this];clear h'  this
  induction r with
  | nil=>rfl
  | cons x r ih=>simp only[List.map_cons,List.flatten_cons,List.singleton_append,ih]
 have:=TO (f:=rows.map fun r=>r.map Value.bool) ht (by rw[h2,h3]) h (by simp) fun i d c hd hc fuel cs' p' hx=>by
  rw[List.getElem?_map]at hd hc;cases hr:rows[i]? with
  |none=>rw[hr]at hd;cases hd
  |some v =>
   rw[hr]at hd hc;simp at hd hc;subst hd;subst hc;exact key v _ _ _ hx
 rw[this,List.map_flatten]
theorem Zl{C:Ctx}{name:String}{g n m:Nat}{e b:TypeId}{rows:List (List Bool)}{rest:List (String × DataW Unit)}{W:World}(hC:∀ i cs,C.G i=some cs→i=g∧cs=(rows.flatten.map fun b=>AV.v (.bool b)))(hpos:0<rows.flatten.length)
 (hg:C.P.globalNamed name=some g) (hty:(C.P.globals[g]?).map (·.type)=some t)
 (ht:C.P.underlying t=some (.array n e)) (he:C.P.underlying e=some (.array m b)) (hb:C.P.underlying b=some .bool) (h1:C.P.cellsOf b=1) (h2:C.P.cellsOf e=m) (h3:C.P.cellsOf t=n*m)
 (h:laidMet C.P ((name,dm rows)::rest) W):Glob C (gh0 W) W:=by
 obtain⟨ps,⟨g',t',cs,fuel,p,q,hg',ht',hvar,hd,_,_⟩,_⟩:=h;obtain rfl:=Option.some.inj (hg.symm.trans hg');obtain rfl:=Option.some.inj (hty.symm.trans ht');have hcs:=Yz ht he hb h1 h2 h3 hd;have hcell:=World.var?_cell hg hvar;intro i xs hi;obtain⟨rfl,rfl⟩:=hC i xs hi;have hlen:cs.toList.length=rows.flatten.length:=by rw[hcs,List.length_map]
 have hsz:cs.size=rows.flatten.length:=by rw[← hlen,Array.length_toList]
 refine⟨by rw[List.length_map];exact hpos,?_,QM (us:=cs.toList) ?_ ?_⟩
 ·have h0:=hcell 0;have:∃ v,cs[0]?=some v:=⟨cs[0]'(by omega),Array.getElem?_eq_getElem _⟩;obtain⟨v,hv⟩:=this;rw[hv]at h0;rw[Uu];exact E6 h0
 ·rw[hcs];generalize rows.flatten=l
  induction l with
  | nil=>simp[PRl]
  | cons x l ih=>exact⟨⟨rfl,rfl⟩,ih⟩
 ·intro k hk;have:=hcell k;rw[Array.getElem?_toList,Nat.zero_add];rw[← this,add_lit,Nat.zero_add]
theorem JM{C:Ctx}{f:Nat}{fn:Func}{s:ChangeSpec}(hs:s.vars=[]){apart fresh handsOn again:Bool}{α:Type}{e:α→List AV}{m:α→Nat}{Q:α→Prop}{tb:TypeId}{ts:List TypeId}
 (hp:fn.params.toList=ts) (ha:Args C.P ts e m Q) (hl:laidOutB C.P=true) (hr:(ts.all fun t=>C.P.readableRec t&&decide (t<C.P.types.size))=true) (hres:fn.resultTypes = #[tb]) (htb:C.P.underlying tb=some .bool)
 {H:Type} (enc:TypeId × Value→H) (W:World) (hG:Glob C (gh0 W) W) (base:Nat) (args:Array Value) (ds gs:List (DataW H)) (before:List MemPlace)
 (hval:∀ (j:Nat) t v,fn.params[j]?=some t→args[j]?=some v→Value.okWide C.P W .any base t v)
 (hW:DataW.Whole enc C.P fn.params.toList s.vars apart W args.toList ds gs before)
 (hfn:∀ ds:List (DataW H),ds.length=ts.length→(s.fn H ds).results=[.lit (.bool true)]∧(s.fn H ds).args=ds∧(s.fn H ds).vars=[])
 (hok:∀ a,Q a→m a≤TA ds→Ad C f (e a) [] (.v (.bool true)) []) :
 Calls C.P f args W fun r W'=>∃ v,r=.returned v∧s.post enc C.P fn apart fresh handsOn again W args v W':=by
 replace hr:∀ t∈ts,C.P.readableRec t=true∧t<C.P.types.size:=by simpa using hr
 have hW':=hW;obtain⟨p,q,hA,hV,rfl,hfz,hnd⟩:=hW;rw[hs]at hV;obtain⟨rfl,rfl⟩:=trodVars_none hV;rw[hp]at hA;obtain⟨a,q1,q2,q3⟩:=ha H enc W base args.toList ds p (fun j t v hj hv=>hval j t v (by rw[← Array.getElem?_toList,hp];exact hj) (by simpa using hv)) hA;have hlen:∀ {ts:List TypeId} {vs:List Value} {ds:List (DataW H)} {ps:List MemPlace},DataW.TrodAll enc C.P W 0 (fun _=>true) true ts vs ds ps→ds.length=ts.length:=by
  intro ts
  induction ts with
  | nil=>intro vs ds ps h;obtain⟨_,rfl,_⟩:=trodAll_nil h;rfl
  | cons t ts ih =>
   intro vs ds ps h;obtain⟨v,vs,d,ds,p,q,rfl,rfl,rfl,h1,h2⟩:=trodAll_cons h;simp[ih h2]
 obtain⟨hf1,hf2,hf3⟩:=hfn ds (hlen hA);have key:=(hok a q1 q2).2 (gh0 W) W args.toList hG q3 (fun s cs h=>by cases h);rw[show args.toList.toArray=args by simp]at key;refine key.mono fun r W' ⟨u,g',hr1,hF,hy,_⟩=>?_
 subst hr1;simp only[VR]at hy;subst hy;have hb:Below W.heap.size W W':=⟨hF.os,hF.tape.1,hF.output,hF.size,fun k hk=>(hF.keep k hk (Or.inl (by show (gh0 W).own k=.ro;simp[gh0,hk]))).1⟩;have hlt:∀ x∈p++([]:List MemPlace),x.block<W.heap.size:=fun x hx=>hW'.lt x hx
 refine⟨_,rfl,VF (pa:=p) (pv:=[]) hW' (fun b sp hd=>?_) (fun sp hsp=>?_) (fun _ _=>?_) rfl hb (ok_one hres rfl (okWide_bool_mk htb _))⟩
 ·simp only[List.append_nil,hf1];rw[hres];exact trodAll_mk1 (shut_bool htb _)
 ·simp only[List.append_nil,hf2];rw[hp];exact L1 hl hr hA (fun x hx=>hb.same (hlt x (by simpa using hx))) (fun x hx=>hsp x (by simpa using hx))
 ·simp only[List.append_nil,hf3];rw[hs];rfl
end Go.Abs
open Go Go.Abs Go.Proofs
set_option maxRecDepth 100000
namespace Go.Rd
set_option maxHeartbeats 8000000
open List (length_map mem_append mem_cons mem_filter mem_map mem_singleton nil_append nodup_append pairwise_cons take_length)
open Bool (and_eq_true)
open Tryz
structure Entry where
 name:Bs
 before:Amt
 after:Amt
structure Save where
 label:Int
 pos:Int
structure Ledger where
 entries:List Entry
 A3:List Save
structure Req where
 expr:Expr
 prio:Int
 Dq:Int
structure Pcs where
 proc:Ae
 cost:Int
 led:Ledger
 waiting:Bool
 req:Req
 since:Int
 gen:Int
structure Cen where
 now:Int
 Aa:List Queue
 procs:List Pcs
structure Cmd where
 kind:Int
 proc:Ae
 req:Req
 name:Bs
 n:Int
structure Ev where
 kind:Int
 proc:Ae
 name:Bs
 amt:Amt
structure Av where
 now:Int
 Aa:List Queue
 procs:List Pcs
 CL:List Ev
def Entry.c(e:Entry):List AV:=[.v (.string (str e.name)),.v (.int .i64 e.before.mode),.v (.int .i64 e.before.AA),.v (.int .i64 e.after.mode),.v (.int .i64 e.after.AA)]
def Save.c(s:Save):List AV:=[.v (.int .i64 s.label),.v (.int .i64 s.pos)]
@[reducible] def D8(l:List Entry):AV:=.sl .no 5 (l.map Entry.c)
@[reducible] def Mt(l:List Save):AV:=.sl .no 2 (l.map Save.c)
def Ledger.c(l:Ledger):List AV:=[D8 l.entries,Mt l.A3]
def Req.c(r:Req):List AV:=[.v (.int .i64 r.expr.k),.v (.string (str r.expr.atom.name)),.v (.int .i64 r.expr.atom.amt.mode),.v (.int .i64 r.expr.atom.amt.AA),EJ r.expr.kids,.v (.int .i64 r.prio),.v (.int .i64 r.Dq)]
def Pcs.c(p:Pcs):List AV:=[.v (.int .i64 p.proc.site),.v (.int .i64 p.proc.inc),.v (.int .i64 p.proc.num),.v (.int .i64 p.cost),D8 p.led.entries,Mt p.led.A3,.v (.bool p.waiting),
 .v (.int .i64 p.req.expr.k),.v (.string (str p.req.expr.atom.name)),.v (.int .i64 p.req.expr.atom.amt.mode),.v (.int .i64 p.req.expr.atom.amt.AA),EJ p.req.expr.kids,.v (.int .i64 p.req.prio),.v (.int .i64 p.req.Dq),.v (.int .i64 p.since),.v (.int .i64 p.gen)]
@[reducible] def bE(l:List Pcs):AV:=.sl .no 16 (l.map Pcs.c)
def Cen.c(c:Cen):List AV:=[.v (.int .i64 c.now),Ay c.Aa,bE c.procs]
def Cmd.c(k:Cmd):List AV:=[.v (.int .i64 k.kind),.v (.int .i64 k.proc.site),.v (.int .i64 k.proc.inc),.v (.int .i64 k.proc.num),.v (.int .i64 k.req.expr.k),.v (.string (str k.req.expr.atom.name)),.v (.int .i64 k.req.expr.atom.amt.mode),.v (.int .i64 k.req.expr.atom.amt.AA),EJ k.req.expr.kids,.v (.int .i64 k.req.prio),.v (.int .i64 k.req.Dq),.v (.string (str k.name)),.v (.int .i64 k.n)]
def Ev.c(e:Ev):List AV:=[.v (.int .i64 e.kind),.v (.int .i64 e.proc.site),.v (.int .i64 e.proc.inc),.v (.int .i64 e.proc.num),.v (.string (str e.name)),.v (.int .i64 e.amt.mode),.v (.int .i64 e.amt.AA)]
@[reducible] def Ug(l:List Ev):AV:=.sl .no 7 (l.map Ev.c)
def Av.c(w:Av):List AV:=[.v (.int .i64 w.now),Ay w.Aa,.sl (.own 0 0) 16 (w.procs.map Pcs.c),.sl (.own 1 0) 7 (w.CL.map Ev.c)]
attribute [go_sem] Entry.c Save.c Ledger.c Req.c Pcs.c Cen.c Cmd.c Ev.c Av.c
@[go_sem] theorem bY{α:Type}(a:α):(∃ x,some a=some x)=True:=by simp
@[go_sem] theorem dY{α β:Type}(f:α→β)(l:List α)(i:Nat):(l.map f).take i=(l.take i).map f:=by simp
@[go_sem] theorem dD{α β:Type}(f:α→β)(l:List α)(i:Nat):(l.map f).drop i=(l.drop i).map f:=by simp
def AF(l:List Entry)(n:Bs):Amt:=l.foldl (fun a e=>if e.name==n then e.after else a) ⟨0,0⟩
theorem Eo{l:List Entry}{n:Bs}{i:Nat}{b:Entry}(hb:l[i]?=some b):AF (l.take (i+1)) n=if b.name==n then b.after else AF (l.take i) n:=by
 simp[AF,List.take_add_one,hb,List.foldl_append]
theorem f190_ok(l:List Entry)(n:Bs):Ad C0 190 [D8 l,.v (.string (str n))] [] (.agg (AF l n).c) []:=by
 refine Ad.lens f190 fun hlen=>?_
 simp only[D9,lens,length_map,and_true,true_and]at hlen;refine Ad.go f190 ?_;unfold f190;refine gO ?_;refine Ab (α:=Nat) (fun i=>⟨[(6,I i),(0,D8 l),(1,.v (.string (str n))),(4,.ptr 256 0),(5,.ptr 320 0)],[(256,(⟨0,0⟩:Amt).c),(320,(AF (l.take i) n).c)]⟩) (fun i=>i≤(l).length∧True) (fun i=>(l).length-i) 0 ⟨by omega,trivial⟩ ?_ ?_
 ·refine Imp.Am ?_ ?_
  all_goals(try simp(disch:=omega)only[go_sem])
  all_goals(try(repeat'(with_reducible apply And.intro)))
  all_goals(first|exact .AG (by omega)|exact .Az (by omega)|exact .sl (by simp[AF])|exact .int (by simp[AF])|exact .eq (by simp[AF]))
 rintro i ⟨hi,hP⟩ J hJ;refine gO ?_;refine ⟨fun hlt=>?_,fun hge=>?_⟩;rotate_left;have hil:i=(l).length:=by simp at hge;omega
 rotate_left;obtain⟨b,hb⟩:∃ b,(l)[i]?=some b:=⟨_,gE (by simp at hlt;omega)⟩;have hbm:=mG hb;have hlt2:i<(l).length:=by simp at hlt;omega
 simp(disch:=omega)only[go_sem,gm,hb]
 ·refine⟨fun h=>?_,fun h=>?_⟩
  ·refine hJ _ (i+1) ⟨by simp at hlt;omega,trivial⟩ (by simp at hlt;omega) (Imp.Am ?_ ?_)
   all_goals(try simp(disch:=omega)only[go_sem])
   all_goals(try(repeat'(with_reducible apply And.intro)))
   all_goals(first|exact .AG (by omega)|exact .Az (by omega)|exact .sl (by simp[Eo hb,h])|exact .int (by simp[Eo hb,h])|exact .eq (by simp[Eo hb,h]))
  ·refine hJ _ (i+1) ⟨by simp at hlt;omega,trivial⟩ (by simp at hlt;omega) (Imp.Am ?_ ?_)
   all_goals(try simp(disch:=omega)only[go_sem])
   all_goals(try(repeat'(with_reducible apply And.intro)))
   all_goals(first|exact .AG (by omega)|exact .Az (by omega)|exact .sl (by simp[Eo hb,h])|exact .int (by simp[Eo hb,h])|exact .eq (by simp[Eo hb,h]))
 ·subst hil;simp(disch:=omega)only[go_sem,take_length];exact AE _
def KA(l:List Save)(lab:Int):Int:=match l.findIdx? (fun s=>s.label==lab) with|some i=>i|none=>-1
theorem f194_ok(l:List Save)(lab:Int):Ad C0 194 [Mt l,I lab] [] (I (KA l lab)) []:=by
 refine Ad.lens f194 fun hlen=>?_
 simp only[D9,lens,length_map,and_true,true_and]at hlen;refine Ad.go f194 ?_;unfold f194;refine gO ?_;refine Ab (α:=Nat) (fun i=>⟨[(5,I i),(0,Mt l),(1,I lab)],[]⟩) (fun i=>i≤(l).length∧(l.take i).find? (fun s=>s.label==lab)=none) (fun i=>(l).length-i) 0 ⟨by omega,rfl⟩ ?_ ?_
 ·exact BB
 rintro i ⟨hi,hP⟩ J hJ;refine gO ?_;refine ⟨fun hlt=>?_,fun hge=>?_⟩;rotate_left;have hil:i=(l).length:=by simp at hge;omega
 rotate_left;obtain⟨b,hb⟩:∃ b,(l)[i]?=some b:=⟨_,gE (by simp at hlt;omega)⟩;have hbm:=mG hb;have hlt2:i<(l).length:=by simp at hlt;omega
 simp(disch:=omega)only[go_sem,gm,hb]
 ·refine⟨fun h=>?_,fun h=>?_⟩
  ·have e:=FA hP b hb (by simpa using h);simp(disch:=omega)only[go_sem,e,KA];exact AE _
  ·refine hJ _ (i+1) ⟨by simp at hlt;omega,(by rw[BS hP hb];simp at h;simp[h])⟩ (by simp at hlt;omega) AR
 ·subst hil;rw[take_length]at hP;have e:l.findIdx? (fun s=>s.label==lab)=none:=by
   rw[List.findIdx?_eq_none_iff];rw[List.find?_eq_none]at hP;intro x hx;simpa using hP x hx
  simp(disch:=omega)only[go_sem,e,KA];exact AE _
def usable(a:Amt):Bool:=GX.fits a||G0.fits a
def Hc(a b:Amt):Bool:=if !usable b||decide (a=b) then false else if a.mode==0&&a.AA==0 then true else if !usable a then false else if a.mode !=0 then Bd b.mode a.mode else decide (a.AA<b.AA)
theorem Zb(a:Amt):Ad C0 274 [.agg a.c] [] (B (usable a)) []:=f274_ok a
theorem f248_ok(a b:Amt):Ad C0 248 [.agg a.c,.agg b.c] [] (B (Hc a b)) []:=by
 refine Ad.go f248 ?_;unfold f248;refine gO ?_;refine Ac (Zb b) ?_;cases h1:usable b
 ·simp(disch:=omega)only[go_sem];refine Ap _ ?_;exact wb (by simp[Hc,h1])
 refine gO ?_;cases h2:decide (a=b);rotate_left
 ·simp(disch:=omega)only[go_sem,h2];refine Ap _ ?_;exact wb (by simp[Hc,h1,h2])
 simp(disch:=omega)only[go_sem,h2];cases h3:(a.mode==0&&a.AA==0);rotate_left
 ·simp(disch:=omega)only[go_sem,h3];refine Ap _ ?_;exact wb (by simp[Hc,h1,h2,h3])
 simp(disch:=omega)only[go_sem,h3];refine Ac (Zb a) ?_;cases h4:usable a
 ·simp(disch:=omega)only[go_sem];refine Ap _ ?_;exact wb (by simp[Hc,h1,h2,h3,h4])
 refine gO ?_;cases h5:(a.mode !=0)
 ·simp(disch:=omega)only[go_sem,h5];refine Ap _ ?_;exact wb (by simp only[Hc,h1,h2,h3,h4,h5];rfl)
 ·simp(disch:=omega)only[go_sem,h5];refine Ac (f287_ok b.mode a.mode) ?_;refine gO ?_;refine Ap _ ?_;exact wb (by simp only[Hc,h1,h2,h3,h4,h5];rfl)
def Po(a b:Int):Int:=match (List.range 5).find? (fun k=>Bd ((k+1:Nat):Int) a&&Bd ((k+1:Nat):Int) b) with|some k=>((k+1:Nat):Int)|none=>0
theorem f290_ok(a b:Int):Ad C0 290 [I a,I b] [] (I (Po a b)) []:=by
 have hr:∀ i,i<5→(List.range 5)[i]?=some i:=fun i hi=>by rw[List.getElem?_range hi]
 refine Ad.go f290 ?_;unfold f290;refine gO ?_;refine Ab (α:=Nat) (fun i=>⟨[(5,I ((i+1:Nat):Int)),(0,I a),(1,I b)],[]⟩) (fun i=>i≤5∧((List.range 5).take i).find? (fun k=>Bd ((k+1:Nat):Int) a&&Bd ((k+1:Nat):Int) b)=none) (fun i=>5-i) 0 ⟨by omega,rfl⟩ AR ?_;rintro i ⟨hi,hP⟩ J hJ
 by_cases h5:i<5
 rotate_left
 ·have e5:i=5:=by omega
  subst e5;have e:Po a b=0:=by unfold Po;rw[show List.range 5=(List.range 5).take 5 from rfl,hP]
  simp(disch:=omega)only[go_sem,e];exact AE _
 have e1:((i:Int)+1≤5)=True:=eq_true (by omega);simp(disch:=omega)only[go_sem,e1];refine Ac (f287_ok ((i+1:Nat):Int) a) ?_;have st:(Bd ((i+1:Nat):Int) a&&Bd ((i+1:Nat):Int) b)=false→((List.range 5).take (i+1)).find? (fun k=>Bd ((k+1:Nat):Int) a&&Bd ((k+1:Nat):Int) b)=none:=fun h=>by
  rw[List.take_add_one,hr i h5,List.find?_append,hP];simp only[Option.toList,List.find?_cons,h,List.find?_nil,Option.none_or]
 cases h1:Bd ((i+1:Nat):Int) a
 ·simp(disch:=omega)only[go_sem];exact hJ _ (i+1) ⟨by omega,st (by rw[h1];rfl)⟩ (by omega) AR
 refine gO ?_;refine Ac (f287_ok ((i+1:Nat):Int) b) ?_;cases h2:Bd ((i+1:Nat):Int) b
 ·simp(disch:=omega)only[go_sem];exact hJ _ (i+1) ⟨by omega,st (by rw[h1,h2];rfl)⟩ (by omega) AR
 ·have e:Po a b=((i+1:Nat):Int):=by
   unfold Po;have:=GI (f:=fun k=>Bd ((k+1:Nat):Int) a&&Bd ((k+1:Nat):Int) b) hP (hr i h5) (by rw[h1,h2];rfl);rw[this]
  simp(disch:=omega)only[go_sem,e];exact AE _
def ES(r:Res)(a b:Amt):Amt:=if !(r.permits a&&r.permits b) then ⟨0,0⟩ else if r.covers a b then a else if r.covers b a then b else ⟨Po a.mode b.mode,0⟩
theorem f254_ok(r:Res)(a b:Amt):Ad C0 254 [.agg r.c,.agg a.c,.agg b.c] [] (.agg (ES r a b).c) []:=by
 refine Ad.go f254 ?_;unfold f254;refine gO ?_;refine Ac (f289_ok r a) ?_;cases h1:r.permits a
 ·have e:ES r a b=⟨0,0⟩:=by simp[ES,h1]
  simp(disch:=omega)only[go_sem,e];exact AE _
 refine gO ?_;refine Ac (f289_ok r b) ?_;cases h2:r.permits b
 ·have e:ES r a b=⟨0,0⟩:=by simp[ES,h2]
  simp(disch:=omega)only[go_sem,e];exact AE _
 refine gO ?_;refine Ac (f253_ok r a b) ?_;cases h3:r.covers a b;rotate_left
 ·have e:ES r a b=a:=by simp[ES,h1,h2,h3]
  simp(disch:=omega)only[go_sem,e];exact AE _
 refine gO ?_;refine Ac (f253_ok r b a) ?_;cases h4:r.covers b a;rotate_left
 ·have e:ES r a b=b:=by simp[ES,h1,h2,h3,h4]
  simp(disch:=omega)only[go_sem,e];exact AE _
 refine gO ?_;have e:ES r a b=⟨Po a.mode b.mode,0⟩:=by simp[ES,h1,h2,h3,h4]
 rw[e];refine Ac (f290_ok a.mode b.mode) ?_;refine gO ?_;exact AE _
def r0:Res:=⟨[],0,0,0⟩
@[reducible] def Fa(l:List Res):AV:=.sl .no 4 (l.map Res.c)
def OV(l:List Res)(n:Bs):Option Res:=l.find? fun r=>r.name==n
theorem f288_ok(l:List Res)(n:Bs):Ad C0 288 [Fa l,.v (.string (str n))] [] (.tup [.agg ((OV l n).getD r0).c,B (OV l n).isSome]) []:=by
 refine Ad.lens f288 fun hlen=>?_
 simp only[D9,lens,length_map,and_true,true_and]at hlen;refine Ad.go f288 ?_;unfold f288;refine gO ?_;refine Ab (α:=Nat) (fun i=>⟨[(6,I i),(0,Fa l),(1,.v (.string (str n))),(4,.ptr 256 0)],[(256,r0.c)]⟩) (fun i=>i≤(l).length∧(l.take i).find? (fun r=>r.name==n)=none) (fun i=>(l).length-i) 0 ⟨by omega,rfl⟩ ?_ ?_
 ·refine Imp.Am ?_ ?_
  all_goals(try simp(disch:=omega)only[go_sem,r0])
  all_goals(try(repeat'(with_reducible apply And.intro)))
  all_goals(first|exact .AG (by omega)|exact .Az (by omega)|exact .sl (by simp[r0])|exact .int (by simp[r0])|exact .eq (by simp[r0]))
 rintro i ⟨hi,hP⟩ J hJ;refine gO ?_;refine ⟨fun hlt=>?_,fun hge=>?_⟩;rotate_left;have hil:i=(l).length:=by simp at hge;omega
 rotate_left;obtain⟨b,hb⟩:∃ b,(l)[i]?=some b:=⟨_,gE (by simp at hlt;omega)⟩;have hbm:=mG hb;have hlt2:i<(l).length:=by simp at hlt;omega
 simp(disch:=omega)only[go_sem,gm,hb]
 ·refine⟨fun h=>?_,fun h=>?_⟩
  ·have e:OV l n=some b:=GI hP hb (by simpa using h);simp(disch:=omega)only[go_sem,e,gm,hb,Option.isSome_some,Option.getD_some];exact AE _
  ·refine hJ _ (i+1) ⟨by simp at hlt;omega,(by rw[BS hP hb];simp at h;simp[h])⟩ (by simp at hlt;omega) AR
 ·subst hil;rw[take_length]at hP;have e:OV l n=none:=hP;simp(disch:=omega)only[go_sem,e,Option.isSome_none,Option.getD_none,r0];exact AE _
def Kq(q:Queue)(p:Ae)(l:Amt):Prop:=((As q p).isSome=true→AB q.holds p=l)∧(AB q.holds p=l∨((AB q.holds p).zero=false∧q.res.covers (AB q.holds p) l=true))
theorem zero_eq{a:Amt}(h:a.zero=true):a=⟨0,0⟩:=by
 obtain⟨m,u⟩:=a;simp[Amt.zero]at h;simp[h]
theorem Ii{r:Res}{a:Amt}(h:r.fits a=true):r.covers a ⟨0,0⟩=true:=by
 have hs:r.shaped=true:=by simp only[Res.fits,and_eq_true]at h;exact h.1
 have hz:(⟨0,0⟩:Amt).zero=true:=rfl;simp[Res.covers,Res.permits,hs,h,hz]
theorem XW{l:List AO}{p:Ae}{a:Amt}(ha:a.zero=false):AB (BX l p a) p=a:=by
 unfold BX AB;rw[ha];simp only[Bool.false_eq_true,if_false];rw[List.find?_append];have:((AK l p).take (Cl (AK l p) p)).find? (fun h=>decide (h.proc=p))=none:=by
  rw[List.find?_eq_none];intro x hx;have:=List.mem_of_mem_take hx;simp[AK]at this;simpa using this.2
 rw[this];simp
theorem XV{l:List AO}{p:Ae}:AB (AK l p) p=⟨0,0⟩:=by
 unfold AB;have:(AK l p).find? (fun h=>decide (h.proc=p))=none:=by
  rw[List.find?_eq_none];intro x hx;simp[AK]at hx;simpa using hx.2
 rw[this]
theorem LM{l:List AO}{p:Ae}{a:Amt}:AB (BX l p a) p=a:=by
 cases h:a.zero
 ·exact XW h
 ·rw[zero_eq h,FQ,XV]
theorem J3{l:List AS}{p p':Ae}(h:p'≠p):(Bu l p).find? (fun w=>decide (w.proc=p'))=l.find? fun w=>decide (w.proc=p'):=by
 unfold Bu;rw[GR];intro x hx;simp at hx ⊢;rw[hx];exact h
theorem Qi{l:List AS}{p:Ae}:(Bu l p).find? (fun w=>decide (w.proc=p))=none:=by
 rw[List.find?_eq_none];intro x hx;simp[Bu]at hx;simpa using hx.2
theorem Jo{q:Queue}{p:Ae}:As q p=none↔∀ w,w∈q.An++q.waits→w.proc≠p:=by
 unfold As;rw[Option.map_eq_none_iff,List.find?_eq_none];simp
theorem Gw{q:Queue}{w:AS}(h:Bj q=some w):(∃ l,q.An=w::l∧CI q w = { q with holds:=BX q.holds w.proc w.amt,An:=l })∨(q.An=[]∧∃ l,q.waits=w::l∧CI q w = { q with holds:=BX q.holds w.proc w.amt,waits:=l }):=by
 cases hc:q.An with
 | cons w' l =>
  have hw':w'=w:=by simp[Bj,hc]at h;exact h
  subst hw';exact .inl ⟨l,rfl,by unfold CI;simp only[hc]⟩
 | nil =>
  cases hw:q.waits with
  | nil=>simp[Bj,hc,hw]at h
  | cons w' l =>
   have hw':w'=w:=by simp[Bj,hc,hw]at h;exact h
   subst hw';exact .inr ⟨rfl,l,rfl,by unfold CI;simp only[hc,hw];rfl⟩
theorem Lc{q:Queue}{w:AS}{p:Ae}(h:Bj q=some w)(hp:p≠w.proc):As (CI q w) p=As q p:=by
 have hd:decide (w.proc=p)=false:=by simpa using Ne.symm hp
 rcases Gw h with ⟨l,hc,e⟩|⟨hc,l,hw,e⟩
 ·rw[e];unfold As;simp only[hc,List.cons_append,List.find?_cons,hd]
 ·rw[e];unfold As;simp only[hc,hw,nil_append,List.find?_cons,hd]
theorem RY{q:Queue}{w:AS}(h:Bj q=some w):As q w.proc=some w.amt:=by
 rcases Gw h with ⟨l,hc,e⟩|⟨hc,l,hw,e⟩
 ·unfold As;simp[hc]
 ·unfold As;simp[hc,hw]
theorem Rq{q:Queue}{w:AS}(hs:Sound q)(h:Bj q=some w):As (CI q w) w.proc=none:=by
 have hcv:=(BK q).1 hs.An;obtain⟨a,b,c⟩:=(Bz q).1 hs.waits;rw[Cv]at a;rw[Jo];rcases Gw h with ⟨l,hc,e⟩|⟨hc,l,hw,e⟩
 ·rw[e];intro x hx;have hu:=hcv.2.1;rw[hc]at hu;have hu':=pairwise_cons.1 hu;simp only[mem_append]at hx;rcases hx with hx|hx
  ·exact fun e=>hu'.1 x hx e.symm
  ·have hh:=(hcv.2.2 w (by rw[hc];simp)).1;have hz:=(c x hx).2;intro e2;rw[e2,hh]at hz;cases hz
 ·rw[e];intro x hx;simp only[hc,nil_append]at hx;have hu:=a.2.1;rw[hw]at hu;exact fun e=>(pairwise_cons.1 hu).1 x hx e.symm
theorem eo{q:Queue}{w:AS}{p:Ae}{l:Amt}(hs:Sound q)(h:Bj q=some w)(hr:DP q.res q.holds w.proc w.amt=true)(hk:Kq q p l):Kq (CI q w) p l:=by
 by_cases hp:p=w.proc
 ·subst hp;have hl:=hk.1 (by rw[RY h];rfl);have hf:=(LD hr).1;have e:AB (CI q w).holds w.proc=w.amt:=by
   rcases Gw h with ⟨l,hc,e⟩|⟨hc,l,hw,e⟩<;>rw[e]<;>exact LM
  refine⟨fun hh=>absurd hh (by rw[Rq hs h];simp),.inr ?_⟩;rw[e,(Nn q w).1];refine⟨Hv hf,?_⟩;rcases Gw h with ⟨l',hc,_⟩|⟨hc,l',hw,_⟩
  ·have:=((BK q).1 hs.An).2.2 w (by rw[hc];simp);rw[← hl];exact this.2.2.1
  ·have:=((Bz q).1 hs.waits).2.2 w (by rw[hw];simp);rw[← hl,zero_eq this.2];exact Ii hf
 ·have e:AB (CI q w).holds p=AB q.holds p:=by
   rcases Gw h with ⟨l,hc,e⟩|⟨hc,l,hw,e⟩<;>rw[e]<;>exact F1 hp
  unfold Kq at hk ⊢;rw[Lc h hp,e,(Nn q w).1];exact hk
theorem eh{q:Queue}{p:Ae}{l:Amt}(hs:Sound q)(hk:Kq q p l):Kq (B1 q).1 p l :=
 (Hp (P:=fun x=>Sound x∧Kq x p l) (fun _ _ h hh hr=>⟨LH h.1 hh hr,eo h.1 hh hr h.2⟩) _ q rfl ⟨hs,hk⟩).1.2
theorem Zj{q:Queue}{p:Ae}(hw:As q p=none):As (B1 q).1 p=none∧AB (B1 q).1.holds p=AB q.holds p :=
 (Hp (P:=fun x=>As x p=none∧AB x.holds p=AB q.holds p) (fun x w h hh hr=>by
  have hp:p≠w.proc:=fun e=>by rw[e,RY hh]at h;cases h.1
  refine⟨by rw[Lc hh hp];exact h.1,?_⟩;rw[← h.2];rcases Gw hh with ⟨l,hc,e⟩|⟨hc,l,hw,e⟩<;>rw[e]<;>exact F1 hp) _ q rfl ⟨hw,rfl⟩).1
theorem ZN(g:Int):0≤KU g∧KU g≤1073741824:=by unfold KU;split<;>omega
theorem XJ{q:Queue}(h:Sound q):valid (Fh q)=true:=by
 rw[C9];exact SB (Sv h) (ZN _)
theorem aQ(q:Queue):(Fh q).res=q.res:=(Pq q).1
theorem Y3{q:Queue}{p:Ae}{l:Amt}(hs:Sound q)(hk:Kq q p l):Kq (Fh q) p l:=eh hs hk
theorem Ud{q:Queue}{p:Ae}(hw:As q p=none):As (Fh q) p=none∧AB (Fh q).holds p=AB q.holds p:=Zj hw
theorem S1(q:Queue)(x:Ae):inQ (Fh q) x↔inQ q x:=Zp q x
theorem EF{α:Type}[DecidableEq α]:∀ (l' l:List α),l'.Nodup→(∀ x∈l',x∈l)→l'.length≤l.length
 |[],_,_,_=>Nat.zero_le _
 | a::l',l,hn,hs=>by
  have hn':=List.nodup_cons.1 hn;have ha:=hs a (by simp);have:=EF l' (l.erase a) hn'.2 fun x hx=>(List.mem_erase_of_ne (fun e=>hn'.1 (by rw[← e];exact hx))).2 (hs x (by simp[hx]))
  have h2:=List.length_erase_of_mem ha;have h3:0<l.length:=List.length_pos_of_mem ha;simp only[List.length_cons];omega
theorem IB{l:List AS}:Q2 l↔(l.map (·.proc)).Nodup:=by
 unfold Q2 List.Nodup;rw[List.pairwise_map]
def ER(q:Queue)(p:Ae):Queue:={ q with An:=Bu q.An p,waits:=Bu q.waits p }
theorem Pd{q:Queue}(h:Sound q)(p:Ae):Sound (ER q p):=by
 have hw:=BN q.waits p;have hc:=BN q.An p;refine⟨h.res,h.holds,?_,?_,h.gen⟩
 ·have:=(BK q).1 h.An;rw[BK];simp only[ER];refine⟨by omega,this.2.1.sublist List.filter_sublist,fun w hw=>?_⟩;simp only[Bu,mem_filter,decide_eq_true_eq]at hw;exact this.2.2 w hw.1
 ·have:=(Bz q).1 h.waits;rw[Bz];obtain⟨a,b,c⟩:=this;rw[Cv]at a;simp only[ER,Cv];refine⟨⟨by omega,a.2.1.sublist List.filter_sublist,fun w hw=>?_⟩,by omega,fun w hw=>?_⟩
  ·simp only[Bu,mem_filter]at hw;exact a.2.2 w hw.1
  ·simp only[Bu,mem_filter,decide_eq_true_eq]at hw;exact c w hw.1
theorem X2{q:Queue}(h:Sound q){p:Ae}(hz:(AB q.holds p).zero=false):q.res.fits (AB q.holds p)=true∧p.ok=true∧∃ x∈q.holds,x.proc=p:=by
 obtain⟨h1,h2,h3,h4,h5⟩:=(CW _ _).1 h.holds;unfold AB at hz ⊢;cases hf:q.holds.find? (fun h=>decide (h.proc=p)) with
 |none=>rw[hf]at hz;simp[Amt.zero]at hz
 |some x =>
  have hm:=List.mem_of_find?_eq_some hf;have hx:x.proc=p:=by simpa using List.find?_some hf
  exact⟨(h3 x hm).2,hx▸(h3 x hm).1,x,hm,hx⟩
theorem Yy{m n:Int}(hm:Bf m=true)(hn:Bf n=true):Bf (Po m n)=true∧Bd (Po m n) m=true∧Bd (Po m n) n=true:=by
 rcases AT hm with rfl|rfl|rfl|rfl|rfl<;>rcases AT hn with rfl|rfl|rfl|rfl|rfl<;>decide
theorem MS{m:Int}(hm:Bf m=true):Bd m m=true:=by
 rcases AT hm with rfl|rfl|rfl|rfl|rfl<;>decide
theorem Ra{a b c:Int}(h1:Bd a b=true)(h2:Bd b c=true):Bd a c=true:=by
 have ha:Bf a=true:=by simp only[Bd,and_eq_true]at h1;exact h1.1.1
 have hb:Bf b=true:=by simp only[Bd,and_eq_true]at h1;exact h1.1.2
 have hc:Bf c=true:=by simp only[Bd,and_eq_true]at h2;exact h2.1.2
 revert h1 h2;rcases AT ha with rfl|rfl|rfl|rfl|rfl<;>rcases AT hb with rfl|rfl|rfl|rfl|rfl<;>rcases AT hc with rfl|rfl|rfl|rfl|rfl<;>decide
theorem Ct{r:Res}{a:Amt}(h:r.fits a=true):r.shaped=true∧((r.kind=1∧Bf a.mode=true∧a.AA=0)∨(r.kind≠1∧a.mode=0∧1≤a.AA∧a.AA≤r.AA∧r.AA≤8)):=by
 simp only[Res.fits,and_eq_true]at h;obtain⟨h1,h2⟩:=h;refine⟨h1,?_⟩;split at h2
 ·rename_i hk;simp at h2;exact .inl ⟨hk,h2.1,h2.2⟩
 ·rename_i hk;simp[AL]at h2;have:r.AA≤8:=by
   simp only[Res.shaped,if_neg hk]at h1;split at h1
   ·simp[AL]at h1;omega
   ·cases h1
  exact .inr ⟨hk,h2.1,h2.2.1,h2.2.2,this⟩
theorem Ef{r:Res}{a b:Amt}(ha:r.fits a=true)(hb:r.fits b=true):r.covers a b=if r.kind=1 then Bd a.mode b.mode else decide (b.AA≤a.AA):=by
 have z1:=Hv ha;have z2:=Hv hb;have hs:=(Ct ha).1;simp[Res.covers,Res.permits,hs,ha,hb,z1,z2]
theorem OW{r:Res}{a:Amt}(h:r.fits a=true):(GX.fits a||G0.fits a)=true:=by
 rcases(Ct h).2 with ⟨_,h2,h3⟩|⟨_,h2,h3,h4,h5⟩
 ·simp[Res.fits,GX,Res.shaped,h2,h3]
 ·have:AL a.AA 1 8=true:=by simp[AL];omega
  simp[Res.fits,G0,Res.shaped,h2,this,show AL (8:Int) 1 8=true by decide]
theorem Qq{r:Res}{h a:Amt}(hh:r.fits h=true)(ha:r.fits a=true)(hc:r.covers h a=false):r.fits (ES r h a)=true∧r.covers (ES r h a) h=true∧ES r h a≠h∧r.covers (ES r h a) a=true:=by
 have hs:=(Ct hh).1;have hp1:r.permits h=true:=by simp[Res.permits,hs,hh]
 have hp2:r.permits a=true:=by simp[Res.permits,hs,ha]
 unfold ES;simp only[hp1,hp2,hc,Bool.and_self,Bool.not_true,Bool.false_eq_true,if_false]
 by_cases h2:r.covers a h=true
 ·rw[if_pos h2];refine⟨ha,h2,(fun e=>by rw[e]at h2 hc;rw[h2]at hc;cases hc),?_⟩;rw[Ef ha ha];rcases(Ct ha).2 with ⟨k1,k2,k3⟩|⟨k1,k2,k3,k4,_⟩
  ·rw[if_pos k1];exact MS k2
  ·rw[if_neg k1];simp
 ·rw[if_neg h2];rw[Ef hh ha]at hc;rw[Ef ha hh]at h2;rcases(Ct hh).2 with ⟨k1,k2,k3⟩|⟨k1,k2,k3,k4,_⟩
  ·rcases(Ct ha).2 with ⟨_,j2,j3⟩|⟨j1,_⟩
   ·obtain⟨s1,s2,s3⟩:=Yy k2 j2;rw[if_pos k1]at hc;have hf:r.fits ⟨Po h.mode a.mode,0⟩=true:=by simp[Res.fits,hs,k1,s1]
    refine⟨hf,(by rw[Ef hf hh,if_pos k1];exact s2),fun e=>?_,by rw[Ef hf ha,if_pos k1];exact s3⟩;have:Po h.mode a.mode=h.mode:=congrArg Amt.mode e;rw[this]at s3;rw[s3]at hc;cases hc
   ·exact absurd k1 j1
  ·rw[if_neg k1]at hc h2;simp at hc h2;omega
theorem QX{q:Queue}(h:Sound q){p:Ae}{a:Amt}(ha:q.res.fits a=true)(hw:As q p=none)(hz:(AB q.holds p).zero=false)(hc:q.res.covers (AB q.holds p) a=false) :
 Sound { q with An:=q.An++[⟨p,ES q.res (AB q.holds p) a,0,0⟩] }:=by
 obtain⟨hf,hpo,x,hx,hxp⟩:=X2 h hz;obtain⟨j1,j2,j3,_⟩:=Qq hf ha hc;obtain⟨c1,c2,c3⟩:=(BK q).1 h.An;have hn:=Jo.1 hw;have hlen:q.holds.length≤8:=((CW _ _).1 h.holds).2.1;have hnd:(q.An.map (·.proc)++[p]).Nodup:=by
  rw[nodup_append];refine⟨IB.1 c2,by simp,fun y hy z hz=>?_⟩;simp only[mem_singleton]at hz;simp only[mem_map]at hy;obtain⟨w,hw1,hw2⟩:=hy;rw[hz,← hw2];exact hn w (by simp[hw1])
 have hle:=EF _ (q.holds.map (·.proc)) hnd fun y hy=>by
  rw[mem_append]at hy;rcases hy with hy|hy
  ·simp only[mem_map]at hy;obtain⟨w,hw1,hw2⟩:=hy;obtain⟨x',h1,h2⟩:=Ls (c3 w hw1).1;exact mem_map.2 ⟨x',h1,by rw[h2,hw2]⟩
  ·rw[mem_singleton.1 hy];exact mem_map.2 ⟨x,hx,hxp⟩
 simp only[List.length_append,length_map,List.length_singleton]at hle;refine⟨h.res,h.holds,?_,h.waits,h.gen⟩;rw[BK];refine⟨by simp;omega,?_,fun w hw=>?_⟩
 ·rw[IB];simpa using hnd
 ·simp only[mem_append,mem_singleton]at hw;rcases hw with hw|rfl
  ·exact c3 w hw
  ·exact⟨hz,j1,j2,j3,rfl,rfl⟩
def EX(l:List AS)(w:AS):Nat→Nat
 | 0=>0
 | k+1=>if (l.getD k w0).prio<w.prio∧(l.getD k w0).Df<3 then EX l w k else k+1
def Ms(l:List AS)(w:AS):List AS:=l.take (EX l w l.length)++w::(l.drop (EX l w l.length)).map fun x=>{ x with Df:=x.Df+1 }
theorem Vm(l:List AS)(w:AS):∀ k,EX l w k≤k
 | 0=>by simp[EX]
 | k+1=>by
  simp only[EX];split
  ·have:=Vm l w k;omega
  ·omega
theorem QY(l:List AS)(w:AS):∀ k,k≤l.length→(∀ y∈l.drop k,y.Df<3)→∀ y∈l.drop (EX l w k),y.Df<3
 | 0,_,h=>by simpa [EX]using h
 | k+1,hk,h=>by
  simp only[EX];split
  ·rename_i hc;refine QY l w k (by omega) fun y hy=>?_
   rw[List.drop_eq_getElem_cons (by omega)]at hy;rcases mem_cons.1 hy with rfl|hy
   ·have:=hc.2;simpa [List.getD,gE (show k<l.length by omega)]using this
   ·exact h y hy
  ·exact h
theorem Wq(l:List AS)(w:AS):(Ms l w).map (·.proc)=(l.map (·.proc)).take (EX l w l.length)++w.proc::(l.map (·.proc)).drop (EX l w l.length):=by
 simp[Ms,List.map_take,List.map_drop,Function.comp_def]
theorem QP(l:List AS)(w:AS):(Ms l w).length=l.length+1:=by
 have:=Vm l w l.length;simp[Ms];omega
theorem QQ{l:List AS}{w x:AS}(h:x∈Ms l w):x=w∨x∈l∨∃ y∈l,y.Df<3∧x = { y with Df:=y.Df+1 }:=by
 simp only[Ms,mem_append,mem_cons,mem_map]at h;rcases h with h|h|⟨y,hy,h⟩
 ·exact .inr (.inl (List.mem_of_mem_take h))
 ·exact .inl h
 ·exact .inr (.inr ⟨y,List.mem_of_mem_drop hy,QY l w _ (Nat.le_refl _) (by simp) y hy,h.symm⟩)
theorem Sy{q:Queue}(h:Sound q){p:Ae}{a:Amt}{prio:Int}(hp:p.ok=true)(hpr:0≤prio∧prio≤7)(ha:q.res.fits a=true)(hw:As q p=none)(hz:(AB q.holds p).zero=true)(hl:q.holds.length+q.waits.length<8) :
 Sound { q with waits:=Ms q.waits ⟨p,a,prio,0⟩ }:=by
 obtain⟨a1,a2,a3⟩:=(Bz q).1 h.waits;rw[Cv]at a1;have hn:=Jo.1 hw;have hlen:=QP q.waits ⟨p,a,prio,0⟩;refine⟨h.res,h.holds,h.An,?_,h.gen⟩;rw[Bz];simp only[Cv];refine⟨⟨by omega,?_,fun x hx=>?_⟩,by omega,fun x hx=>?_⟩
 ·rw[IB,Wq];have hu:=IB.1 a1.2.1;have hpn:p∉q.waits.map (·.proc):=fun hm=>by
   obtain⟨w,h1,h2⟩:=mem_map.1 hm;exact hn w (by simp[h1]) h2
  generalize q.waits.map (·.proc)=ps at hu hpn;generalize EX q.waits ⟨p,a,prio,0⟩ q.waits.length=k;have hu2:=hu;rw[← List.take_append_drop k ps,nodup_append]at hu2;rw[nodup_append];refine⟨hu2.1,List.nodup_cons.2 ⟨fun hm=>hpn (List.mem_of_mem_drop hm),hu2.2.1⟩,fun y hy z hz=>?_⟩;rcases mem_cons.1 hz with rfl|hz
  ·exact fun e=>hpn (e▸List.mem_of_mem_take hy)
  ·exact hu2.2.2 y hy z hz
 ·rcases QQ hx with rfl|hx|⟨y,hy,hy3,rfl⟩
  ·simp[AS.ok,hp,OW ha,AL,hpr]
  ·exact a1.2.2 x hx
  ·have:=a1.2.2 y hy;simp only[AS.ok,and_eq_true,AL,decide_eq_true_eq]at this ⊢;exact⟨this.1,by omega,by omega⟩
 ·rcases QQ hx with rfl|hx|⟨y,hy,hy3,rfl⟩
  ·exact⟨ha,hz⟩
  ·exact a3 x hx
  ·exact a3 y hy
theorem S3{l1 l2:List AO}{p:Ae}(h1:∀ y∈l1,Bo y.proc p<0)(h2:∀ y∈l2,Bo p y.proc<0):AK (l1++l2) p=l1++l2∧Cl (l1++l2) p=l1.length:=by
 have n1:∀ y∈l1++l2,y.proc≠p:=fun y hy e=>by
  rcases mem_append.1 hy with hy|hy
  ·have:=h1 y hy;rw[e,DI]at this;omega
  ·have:=h2 y hy;rw[e,DI]at this;omega
 refine⟨by unfold AK;rw[List.filter_eq_self];intro y hy;simpa using n1 y hy,?_⟩;unfold Cl;rw[List.findIdx?_append];have e1:l1.findIdx? (after' p)=none:=by
  rw[List.findIdx?_eq_none_iff];intro y hy;have:=h1 y hy;simp[after'];omega
 rw[e1];cases l2 with
 | nil=>simp
 | cons y l2 =>
  have:=h2 y (by simp);have hs:=C3 p y.proc;have:after' p y=true:=by simp[after'];omega
  simp[List.findIdx?_cons,this]
theorem Xq{l:List AO}(h:L6 l){x:AO}(hx:x∈l):∃ l1 l2,l=l1++x::l2∧∀ a:Amt,a.zero=false→BX l x.proc a=l1++⟨x.proc,a⟩::l2:=by
 obtain⟨l1,l2,rfl⟩:=List.append_of_mem hx;unfold L6 at h;rw[List.pairwise_append]at h;obtain⟨h1,h2,h3⟩:=h;have h2':=pairwise_cons.1 h2;have b1:∀ y∈l1,Bo y.proc x.proc<0:=fun y hy=>h3 y hy x (by simp)
 have b2:∀ y∈l2,Bo x.proc y.proc<0:=fun y hy=>h2'.1 y hy
 obtain⟨e1,e2⟩:=S3 b1 b2;refine⟨l1,l2,rfl,fun a ha=>?_⟩;have e3:AK (l1++x::l2) x.proc=l1++l2:=by
  rw[← e1];simp[AK]
 unfold BX;rw[ha,e3,e2];simp
theorem MR{a b c:Int}(h1:Bd a b=true)(h2:BF a c=true):BF b c=true:=by
 have ha:Bf a=true:=by simp only[Bd,and_eq_true]at h1;exact h1.1.1
 have hb:Bf b=true:=by simp only[Bd,and_eq_true]at h1;exact h1.1.2
 have hc:Bf c=true:=by simp only[BF,and_eq_true]at h2;exact h2.1.2
 revert h1 h2;rcases AT ha with rfl|rfl|rfl|rfl|rfl<;>rcases AT hb with rfl|rfl|rfl|rfl|rfl<;>rcases AT hc with rfl|rfl|rfl|rfl|rfl<;>decide
theorem Hs{a b:Int}(h:BF a b=true):BF b a=true:=by
 have ha:Bf a=true:=by simp only[BF,and_eq_true]at h;exact h.1.1
 have hb:Bf b=true:=by simp only[BF,and_eq_true]at h;exact h.1.2
 revert h;rcases AT ha with rfl|rfl|rfl|rfl|rfl<;>rcases AT hb with rfl|rfl|rfl|rfl|rfl<;>decide
def UE(s' s:List Bool):Prop:=∀ k:Nat,s'.getD k false=true→s.getD k false=true∨∃ k':Nat,s.getD k' false=true∧k'<6∧Bd k' k=true
theorem Vd{s s':List Bool}{m:Int}(h:UE s' s)(hs:CJ s m=true):CJ s' m=true:=by
 unfold CJ at *;rw[List.all_eq_true]at *;intro k hk;cases h1:s'.getD k false
 ·rfl
 ·rcases h k h1 with h2|⟨k',h2,h4,h3⟩
  ·have:=hs k hk;rw[h2]at this;simpa using this
  ·have:=hs k' (List.mem_range.2 h4);rw[h2]at this;have:=MR h3 (by simpa using this);simp[this]
theorem Ve{s:List Bool}{m m':Int}(h:Bd m m'=true)(hs:CJ s m=true):CJ s m'=true:=by
 unfold CJ at *;rw[List.all_eq_true]at *;intro k hk;have:=hs k hk;cases h1:s.getD k false
 ·rfl
 ·rw[h1]at this;have h2:BF k m=true:=by simpa using this
  have:=Hs (MR h (Hs h2));simp[this]
theorem X9{s s':List Bool}(h:UE s' s)(hl:s'.length=s.length)(i:Nat):UE (s'.set i true) (s.set i true):=by
 intro k hk;rw[F0]at hk;split at hk
 ·rename_i hc;exact .inl (by rw[F0,if_pos ⟨hc.1,by omega⟩])
 ·rcases h k hk with h2|⟨k',h2,h4,h3⟩
  ·refine .inl ?_;rw[F0];split
   ·rfl
   ·exact h2
  ·refine .inr ⟨k',?_,h4,h3⟩;rw[F0];split
   ·rfl
   ·exact h2
theorem Hr{r:Res}:∀ (l:List Amt) {s s':Int} {seen seen':List Bool},s'≤s→seen'.length=seen.length→UE seen' seen→Bl r l s seen=true→Bl r l s' seen'=true
 |[],_,_,_,_,_,_,_,_=>rfl
 | a::l,s,s',seen,seen',hs,hl,hk,h=>by
  simp only[Bl,and_eq_true,Bool.not_eq_true',decide_eq_false_iff_not]at h ⊢;obtain⟨⟨h1,h2⟩,h3⟩:=h;refine⟨⟨h1,by omega⟩,?_⟩;split at h3
  ·rename_i hm;rw[if_pos hm];exact Hr l (by omega) hl hk h3
  ·rename_i hm;rw[if_neg hm];rw[and_eq_true]at h3 ⊢;exact⟨Vd hk h3.1,Hr l (by omega) (by simpa using hl) (X9 hk hl _) h3.2⟩
theorem V7(s:List Bool):UE s s:=fun _ h=>.inl h
theorem IG{r:Res}{a b:Amt}(ha:r.fits a=true)(hb:r.fits b=true)(hc:r.covers a b=true)(l2:List Amt):∀ (l1:List Amt) {s:Int} {seen:List Bool},seen.length=6→Bl r (l1++a::l2) s seen=true→Bl r (l1++b::l2) s seen=true
 |[],s,seen,hl,h=>by
  rw[Ef ha hb]at hc;have hs:=(Ct ha).1;have hpb:r.permits b=true:=by simp[Res.permits,hs,hb]
  simp only[nil_append,Bl,and_eq_true,Bool.not_eq_true',decide_eq_false_iff_not]at h ⊢;obtain⟨⟨h1,h2⟩,h3⟩:=h;rcases(Ct ha).2 with ⟨k1,k2,k3⟩|⟨k1,k2,k3,k4,_⟩
  ·rcases(Ct hb).2 with ⟨_,j2,j3⟩|⟨j1,_⟩
   ·rw[if_pos k1]at hc;have m1:a.mode≠0:=by rcases AT k2 with e|e|e|e|e<;>omega
    have m2:b.mode≠0:=by rcases AT j2 with e|e|e|e|e<;>omega
    rw[if_neg m1,and_eq_true]at h3;rw[if_neg m2,and_eq_true];refine⟨⟨hpb,by omega⟩,Ve hc h3.1,Hr l2 (by omega) (by simp) (fun k hk=>?_) h3.2⟩;rw[F0]at hk;split at hk
    ·rename_i hk';refine .inr ⟨a.mode.toNat,?_,?_,?_⟩
     ·rw[F0,if_pos ⟨rfl,by rcases AT k2 with e|e|e|e|e<;>omega⟩]
     ·rcases AT k2 with e|e|e|e|e<;>omega
     ·rw[← hk'.1];have e1:((a.mode.toNat:Nat):Int)=a.mode:=by rcases AT k2 with e|e|e|e|e<;>omega
      have e2:((b.mode.toNat:Nat):Int)=b.mode:=by rcases AT j2 with e|e|e|e|e<;>omega
      rw[e1,e2];exact hc
    ·refine .inl ?_;rw[F0];split
     ·rfl
     ·exact hk
   ·exact absurd k1 j1
  ·rcases(Ct hb).2 with ⟨j1,_⟩|⟨_,j2,j3,j4,_⟩
   ·exact absurd j1 k1
   ·rw[if_neg k1]at hc;simp only[decide_eq_true_eq]at hc;rw[if_pos k2]at h3;rw[if_pos j2];exact⟨⟨hpb,by omega⟩,Hr l2 (by omega) rfl (V7 _) h3⟩
 | x::l1,s,seen,hl,h=>by
  simp only[List.cons_append,Bl,and_eq_true]at h ⊢;refine⟨h.1,?_⟩;have h3:=h.2;split at h3
  ·rename_i hm;rw[if_pos hm];exact IG ha hb hc l2 l1 hl h3
  ·rename_i hm;rw[and_eq_true]at h3;rw[if_neg hm,and_eq_true];exact⟨h3.1,IG ha hb hc l2 l1 (by simpa using hl) h3.2⟩
theorem Ri{r:Res}{l:List AO}(h:Ba r l=true){p:Ae}{a:Amt}(hz:(AB l p).zero=false)(hc:r.covers (AB l p) a=true)(ha:a.zero=false):Ba r (BX l p a)=true:=by
 obtain⟨h1,h2,h3,h4,h5⟩:=(CW _ _).1 h;obtain⟨x,hx,hxp,hg⟩:∃ x∈l,x.proc=p∧AB l p=x.amt:=by
  unfold AB at hz ⊢;cases hf:l.find? (fun h=>decide (h.proc=p)) with
  |none=>rw[hf]at hz;simp[Amt.zero]at hz
  |some x=>exact⟨x,List.mem_of_find?_eq_some hf,by simpa using List.find?_some hf,rfl⟩
 have hfx:=(h3 x hx).2;rw[hg]at hc;have hfa:r.fits a=true:=by
  simp only[Res.covers,Res.permits,and_eq_true,Bool.or_eq_true]at hc;have:=hc.1.2.2;rw[ha]at this;simpa using this
 subst hxp;obtain⟨l1,l2,rfl,hset⟩:=Xq h4 hx;rw[hset a ha,CW];refine⟨h1,by simpa using h2,fun y hy=>?_,?_,?_⟩
 ·simp only[mem_append,mem_cons]at hy;rcases hy with hy|rfl|hy
  ·exact h3 y (by simp[hy])
  ·exact⟨(h3 x hx).1,hfa⟩
  ·exact h3 y (by simp[hy])
 ·unfold L6 at h4 ⊢;rw[List.pairwise_append]at h4 ⊢;have h4':=pairwise_cons.1 h4.2.1;refine⟨h4.1,pairwise_cons.2 ⟨fun y hy=>h4'.1 y hy,h4'.2⟩,fun y hy z hz=>?_⟩;rcases mem_cons.1 hz with rfl|hz
  ·exact h4.2.2 y hy x (by simp)
  ·exact h4.2.2 y hy z (by simp[hz])
 ·simp only[Res.compat,and_eq_true,List.map_append,List.map_cons]at h5 ⊢;exact⟨h5.1,IG hfx hfa hc _ _ rfl h5.2⟩
def JO(q:Queue)(p:Ae)(a:Amt):Queue:={ q with holds:=BX q.holds p a }
theorem Sx{q:Queue}(h:Sound q){p:Ae}{a:Amt}(hz:(AB q.holds p).zero=false)(hw:As q p=none)(hc:q.res.covers (AB q.holds p) a=true):Sound (JO q p a):=by
 have hn:=Jo.1 hw;have hlen:(BX q.holds p a).length≤q.holds.length:=by
  have h1:=Lh hz;have h2:=Ny (l:=q.holds) (p:=p) (a:=a);omega
 refine⟨h.res,?_,?_,?_,h.gen⟩
 ·cases ha:a.zero
  ·exact Ri h.holds hz hc ha
  ·simp only[JO,zero_eq ha,FQ];exact Ip List.filter_sublist h.holds
 ·obtain⟨c1,c2,c3⟩:=(BK q).1 h.An;rw[BK];simp only[JO];refine⟨c1,c2,fun w hw=>?_⟩;rw[F1 (hn w (by simp[hw]))];exact c3 w hw
 ·obtain⟨a1,a2,a3⟩:=(Bz q).1 h.waits;rw[Bz];simp only[JO];refine⟨a1,by omega,fun w hw=>?_⟩;rw[F1 (hn w (by simp[hw]))];exact a3 w hw
end Go.Rd
