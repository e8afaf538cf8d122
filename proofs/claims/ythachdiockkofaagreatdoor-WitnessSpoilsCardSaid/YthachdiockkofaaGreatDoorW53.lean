/- part 53 of the proof -/
import Derived.Test.YthachdiockkofaaGreatDoorW41
set_option linter.all false
open Go Go.Abs Go.Proofs
set_option maxRecDepth 100000
namespace Go.Rd
set_option maxHeartbeats 8000000
open List (take_add_one take_length)
open Tryz
theorem gRx{α:Type}{l:List α}{i:Nat}{P Q:Prop}(hi:i≤l.length)(h1:∀ b,l[i]?=some b→b∈l→i<l.length→P)(h2:i=l.length→Q):(decide ((i:Int)<(l.length:Int))=true→P)∧(decide ((i:Int)<(l.length:Int))=false→Q):=by
 refine⟨fun h=>?_,fun h=>?_⟩
 ·have hl:i<l.length:=by simpa using h
  exact h1 _ (List.getElem?_eq_getElem hl) (List.getElem_mem hl) hl
 ·have hn:¬ i<l.length:=by simpa using h
  exact h2 (by omega)
def Sa0(p:Ae)(name:Bs)(c:Cause):Bool:=decide (c.proc=p)&&c.name==name
def Sb0(cs:List Cause)(p:Ae)(name:Bs):Int:=match cs.findIdx? (Sa0 p name) with
 |some i=>i
 |none=>-1
theorem f94_ok(cs:List Cause)(p:Ae)(name:Bs)(hl:cs.length≤1000000):Ad C0 94 [Ld cs,.agg p.c,.v (.string (str name))] [] (I (Sb0 cs p name)) []:=by
 refine Ad.go f94 ?_;unfold f94;refine gO ?_;refine Ab (α:=Nat) (fun i=>⟨[(7,I i),(0,Ld cs),(2,.v (.string (str name))),(4,.ptr 256 0)],[(256,p.c)]⟩) (fun i=>i≤(cs).length∧(cs.take i).find? (Sa0 p name)=none) (fun i=>(cs).length-i) 0 ⟨by omega,rfl⟩ ?_ ?_
 ·exact BB
 rintro i ⟨hi,hP⟩ J hJ;refine gO ?_;refine gRx (l:=cs) hi (fun b hb hbm hlt=>?_) (fun hil=>?_);refine Aq 14 [([],[0]),([],[7]),([],[14,15]),([],[16]),([],[17]),([],[4]),([],[18,19]),([],[20]),([],[0,21]),([],[7,21]),([],[22,23,21]),([],[24,21]),([],[25,21]),([],[2,21])] fol ?_;simp(disch:=omega)only[go_sem,gm,hb]
 ·cases hp:decide (b.proc=p)
  ·have hq:Sa0 p name b=false:=by simp only[Sa0,hp,Bool.false_and]
   simp(disch:=omega)only[go_sem,hp,gm,hb];refine hJ _ (i+1) ⟨by omega,(by rw[BS hP hb];simp[hq])⟩ (by omega) AR
  ·cases hn:(b.name==name)
   ·have hq:Sa0 p name b=false:=by simp only[Sa0,hn,Bool.and_false]
    simp(disch:=omega)only[go_sem,hp,hn,gm,hb];refine hJ _ (i+1) ⟨by omega,(by rw[BS hP hb];simp[hq])⟩ (by omega) AR
   ·have hq:Sa0 p name b=true:=by simp only[Sa0,hp,hn,Bool.and_self]
    have e:Sb0 cs p name=i:=by unfold Sb0;rw[FA hP b hb hq]
    simp(disch:=omega)only[go_sem,hp,hn,gm,hb];refine Ap _ ?_;exact wi e.symm
 ·subst hil;rw[take_length]at hP;have e:Sb0 cs p name = -1:=by unfold Sb0;rw[Zo hP]
  refine Ap _ ?_;exact wi e.symm
theorem f95_ok(e:Expr)(dead:List Bool):Ad C0 95 [.agg e.c,GN dead] [] (B (Qo e dead)) []:=by
 have hl:=Cj e;refine Ad.lens f95 fun hlen=>?_
 simp only[D9,lens,Expr.By,List.length_map,and_true,true_and]at hlen;refine Ad.go f95 ?_;unfold f95;refine gO ?_;refine Ai (f150_ok e) (by simp(disch:=omega)only[go_sem,Expr.By]) rfl ?_;cases he:A4 e
 ·have e0:Qo e dead=false:=by simp[Qo,Ag,he]
  simp(disch:=omega)only[go_sem,e0];exact AE _
 have h0:=TV he;have hdl:(GP (Ag e).length dead).length=(Ag e).length:=by simp[GP]
 refine gO ?_;refine Ab (α:=Nat) (fun i=>⟨[(8,I i),(1,GN dead),(2,.ptr 128 0),(5,Bv (Ag e)),(7,.sl (.own 1152 0) 1 (((GP (Ag e).length dead).take i).map (fun b=>[B b])++List.replicate ((Ag e).length-i) [B false]))],[(128,e.c)]⟩) (fun i=>i≤((Ag e)).length∧True) (fun i=>((Ag e)).length-i) 0 ⟨by omega,trivial⟩ ?_ ?_
 ·exact BB
 rintro i ⟨hi,hP⟩ J hJ;refine gO ?_;refine gRx (l:=(Ag e)) hi (fun b hb hbm hlt=>?_) (fun hil=>?_)
 ·have hlen:min i (Ag e).length+((Ag e).length-i)=(Ag e).length:=by omega
  have hget:(((GP (Ag e).length dead).take i).map (fun b=>[B b])++List.replicate ((Ag e).length-i) [B false])[i]?=some [B false]:=by
   rw[List.getElem?_append_right (by simp;omega),List.getElem?_replicate];simp;omega
  have nxt:((((GP (Ag e).length dead).take i).map (fun b=>[B b])++List.replicate ((Ag e).length-i) [B false])).set i [B (!(dead.getD i false))]=((GP (Ag e).length dead).take (i+1)).map (fun b=>[B b])++List.replicate ((Ag e).length-(i+1)) [B false]:=by
   have e2:=ab (((GP (Ag e).length dead).take i).map fun b=>[B b]) [B false] [B (!(dead.getD i false))] ((Ag e).length-(i+1));simp only[List.length_map,List.length_take,hdl,Nat.min_eq_left (show i≤(Ag e).length by omega)]at e2;rw[show (Ag e).length-i=((Ag e).length-(i+1))+1 by omega,e2,VT hlt]
  by_cases hd:dead.length≤i
  ·have e3:decide ((dead.length:Int)≤i)=true:=decide_eq_true (by omega);have e4:dead.getD i false=false:=by simp[List.getD,List.getElem?_eq_none hd]
   rw[e4]at nxt;simp(disch:=omega)only[go_sem,e3,hget,List.length_append,List.length_replicate,List.length_map,List.length_take,hdl,hlen];refine hJ _ (i+1) ⟨by omega,trivial⟩ (by omega) (Imp.Am ?_ gI);refine gO ?_;exact .sl nxt
  ·have e3:decide ((dead.length:Int)≤i)=false:=decide_eq_false (by omega);obtain⟨d,hdd⟩:∃ d,dead[i]?=some d:=⟨_,gE (by omega)⟩;have e4:dead.getD i false=d:=by simp[List.getD,hdd]
   rw[e4]at nxt;have hd2:i<dead.length:=by omega
   simp(disch:=omega)only[go_sem,e3,hget,hdd,gm,List.length_append,List.length_replicate,List.length_map,List.length_take,hdl,hlen];refine hJ _ (i+1) ⟨by omega,trivial⟩ (by omega) (Imp.Am ?_ gI);refine gO ?_;exact .sl nxt
 ·subst hil;have e3:(List.take (Ag e).length (GP (Ag e).length dead))=GP (Ag e).length dead:=List.take_of_length_le (by omega)
  try simp(disch:=omega)only[go_sem,Nat.sub_self,List.replicate_zero,List.append_nil,e3]
  refine C2 [1152] (f151_ok (Ag e) (GP (Ag e).length dead) (by omega) _ e (Nat.lt_succ_self _) [] (Eh he)) ?_ rfl trivial ?_
  ·simp(disch:=omega)only[go_sem,Expr.By,Nat.sub_self,List.replicate_zero,List.append_nil,e3]
  refine gO ?_;refine Ap _ ?_;exact wb (by simp[Qo,h0])
def Sc0(w:Wit)(i:Nat)(c:Cause):Bool :=
 Be w.members c.proc&&CC w.state.Aa c.proc c.name&&decide (Sb0 w.AJ c.proc c.name=i) &&
  (match w.state.Aa.find? (fun q=>q.res.name==c.name) with
  |some q=>decide (c=(A6 q c.proc).getD cz)
  |none=>false)&&(!decide (c.why=2)||decide (0≤Sb0 w.AJ (c.members.headD ⟨0,0,0⟩) c.name))
theorem Sd0{q:Queue}{p:Ae}{d:Cause}(h:A6 q p=some d)(hw:d.why=2):∃ x,d.members=[x]:=by
 cases hk:(CP q).findIdx? (fun x=>decide (x=p)) with
 |none=>simp[A6,hk]at h
 |some k =>
  cases k with
  | zero =>
   simp[A6,hk]at h;subst h;simp at hw
  | succ k =>
   simp[A6,hk]at h;subst h;exact⟨_,rfl⟩
theorem Se0(l m:List Ae)(hm:m.length≤1000000):Ad C0 24 [Ax l,Ax m] [] (B (decide (l=m))) []:=by
 refine Ad.go f24 ?_;unfold f24
 by_cases hn:l.length=m.length
 rotate_left
 ·have e1:((l.length:Int) !=m.length)=true:=by simp only[bne_iff_ne,ne_eq];omega
  have e2:l≠m:=fun h=>hn (by rw[h])
  simp(disch:=omega)only[go_sem,e1];refine Ap _ ?_;exact wb (by simp[e2])
 have e1:((l.length:Int) !=m.length)=false:=by simp[hn]
 simp(disch:=omega)only[go_sem,e1];refine Ab (α:=Nat) (fun i=>⟨[(5,I i),(0,Ax l),(1,Ax m)],[]⟩) (fun i=>i≤(l).length∧l.take i=m.take i) (fun i=>(l).length-i) 0 ⟨by omega,rfl⟩ ?_ ?_
 ·exact BB
 rintro i ⟨hi,hP⟩ J hJ;refine gO ?_;refine gRx (l:=l) hi (fun b hb hbm hlt=>?_) (fun hil=>?_);refine Aq 8 [([],[0]),([],[5]),([],[17,18]),([],[19]),([],[1]),([],[5]),([],[21,22]),([],[23])] fol ?_;simp(disch:=omega)only[go_sem,gm,hb]
 ·obtain⟨c,hc⟩:∃ c,m[i]?=some c:=⟨_,gE (by omega)⟩;simp(disch:=omega)only[go_sem,gm,hb,hc]
  by_cases hbc:b=c
  ·simp(disch:=omega)only[go_sem,hbc,decide_true];refine hJ _ (i+1) ⟨by omega,(by rw[take_add_one,take_add_one,hb,hc,hP,hbc])⟩ (by omega) AR
  ·simp(disch:=omega)only[go_sem,hbc,decide_false];refine Ap _ ?_;refine wb ?_;have:l≠m:=fun h=>hbc (by rw[h,hc]at hb;simpa using hb.symm)
   simp[this]
 ·subst hil;rw[take_length,hn,take_length]at hP;refine Ap _ ?_;exact wb (by simp[hP])
theorem Sf0(a b:Cause)(hm:b.members.length≤1000000):Ad C0 83 [.agg a.c,.agg b.c] [] (B (decide (a=b))) []:=by
 refine Ad.go f83 ?_;unfold f83;refine gO ?_
 by_cases h1:a.proc=b.proc
 rotate_left
 ·have h0:a≠b:=fun h=>h1 (by rw[h])
  simp(disch:=omega)only[go_sem,h1,decide_false];refine Ap _ ?_;exact wb (by simp[h0])
 simp(disch:=omega)only[go_sem,h1,decide_true]
 by_cases h2:a.name=b.name
 rotate_left
 ·have h0:a≠b:=fun h=>h2 (by rw[h])
  have e:(a.name==b.name)=false:=by simp[h2]
  simp(disch:=omega)only[go_sem,e];refine Ap _ ?_;exact wb (by simp[h0])
 have e2:(a.name==b.name)=true:=by simp[h2]
 simp(disch:=omega)only[go_sem,e2]
 by_cases h3:a.why=b.why
 rotate_left
 ·have h0:a≠b:=fun h=>h3 (by rw[h])
  have e:(a.why==b.why)=false:=by simp[h3]
  simp(disch:=omega)only[go_sem,e];refine Ap _ ?_;exact wb (by simp[h0])
 have e3:(a.why==b.why)=true:=by simp[h3]
 simp(disch:=omega)only[go_sem,e3];refine Ac (Se0 a.members b.members hm) ?_;refine gO ?_;refine Ap _ ?_;obtain⟨a1,a2,a3,a4⟩:=a;obtain⟨b1,b2,b3,b4⟩:=b;simp only at h1 h2 h3;subst h1 h2 h3;exact wb (by simp)
theorem f91_ok(w:Wit)(i:Nat)(c:Cause)(hc:w.AJ[i]?=some c)(hw:Few w.state)(hm:w.members.length≤1000000)(hcl:w.AJ.length≤1000000):Ad C0 91 [.agg w.c,I i] [] (B (Sc0 w i c)) []:=by
 have hil:i<w.AJ.length:=(List.getElem?_eq_some_iff.1 hc).1;have hq:=hw.nq;refine Ad.go f91 ?_;unfold f91;simp(disch:=omega)only[go_sem,gm,hc];refine Ac (f29_ok w.members c.proc hm) ?_;cases h1:Be w.members c.proc
 ·simp(disch:=omega)only[go_sem];refine Ap _ ?_;exact wb (by simp[Sc0,h1])
 refine gO ?_;refine Ac (f52_ok w.state c.proc c.name hw) ?_;cases h2:CC w.state.Aa c.proc c.name
 ·simp(disch:=omega)only[go_sem];refine Ap _ ?_;exact wb (by simp[Sc0,h2])
 refine gO ?_;refine Ac (f94_ok w.AJ c.proc c.name hcl) ?_
 by_cases h3:Sb0 w.AJ c.proc c.name=i
 rotate_left
 ·have e:(Sb0 w.AJ c.proc c.name !=(i:Int))=true:=by simp[h3]
  simp(disch:=omega)only[go_sem,e];refine Ap _ ?_;exact wb (by simp[Sc0,h3])
 have e:(Sb0 w.AJ c.proc c.name !=(i:Int))=false:=by simp[h3]
 simp(disch:=omega)only[go_sem,e];cases hfi:w.state.Aa.findIdx? (fun q=>q.res.name==c.name) with
 |none =>
  have hn:w.state.Aa.find? (fun q=>q.res.name==c.name)=none:=by
   rw[List.find?_eq_none];intro x hx;simpa using List.findIdx?_eq_none_iff.1 hfi x hx
  unfold CC at h2;rw[hn]at h2;cases h2
 |some k =>
  obtain⟨k1,k2,k3⟩:=List.findIdx?_eq_some_iff_getElem.1 hfi;have hb:w.state.Aa[k]?=some w.state.Aa[k]:=gE k1;have hqm:=List.getElem_mem k1;have ef:w.state.Aa.find? (fun q=>q.res.name==c.name)=some w.state.Aa[k]:=by
   rw[List.find?_eq_some_iff_getElem];exact⟨k2,k,k1,rfl,fun j hj=>by simpa using k3 j hj⟩
  generalize w.state.Aa[k]=q at hb hqm ef k2;have h2':=h2;unfold CC at h2';rw[ef]at h2';have hqs:(A6 q c.proc).isSome=true:=by rw[← GF];exact h2'
  have hdm:=PV (hw.aq q hqm) c.proc;obtain⟨d,hd⟩:=Option.isSome_iff_exists.1 hqs;have hgd:(A6 q c.proc).getD cz=d:=by rw[hd];rfl
  rw[hgd]at hdm;refine Aq 12 [([],[2]),([],[39]),([],[40]),([],[2]),([],[42]),([],[43]),([],[5]),([],[45]),([],[44,46]),([8],[41,47]),([8],[48]),([],[])] fol ?_;simp(disch:=omega)only[go_sem,gm,hc]
  first|(refine Ac (f97_ok w.state.Aa c.name (by omega)) ?_)|(refine Ar (f97_ok w.state.Aa c.name (by omega)) ?_)
  simp(disch:=omega)only[go_sem,hfi,gm,hb];refine Aq 5 [([],[5]),([],[6]),([],[5]),([],[52]),([],[51,53])] fol ?_;refine gO ?_
  first|(refine Ac (f138_ok q c.proc (hw.aq q hqm) hqs) ?_)|(refine Ar (f138_ok q c.proc (hw.aq q hqm) hqs) ?_)
  simp(disch:=omega)only[go_sem,hgd]
  first|(refine Ac (Sf0 c d hdm) ?_)|(refine Ar (Sf0 c d hdm) ?_)
  cases h4:decide (c=d)
  ·simp(disch:=omega)only[go_sem];refine Ap _ ?_;exact wb (by simp only[Sc0,ef,hgd,h4,Bool.and_false,Bool.false_and])
  have hcd:c=d:=by simpa using h4
  refine gO ?_;refine Aq 12 [([],[5]),([],[57]),([],[58]),([],[59]),([],[2,60]),([],[61,60]),([],[5,60]),([],[63,60]),([],[64,60]),([],[65,60]),([],[5,60]),([],[67,60])] fol ?_
  by_cases hwy:c.why=2
  rotate_left
  ·have e5:(c.why !=2)=true:=by simp[hwy]
   have e6:decide (c.why=2)=false:=by simp[hwy]
   simp(disch:=omega)only[go_sem,e5];refine Ap _ ?_;exact wb (by simp only[Sc0,ef,hgd,h1,h2,h3,h4,e6];simp)
  ·obtain⟨x,hx⟩:=Sd0 hd (by rw[← hcd];exact hwy);rw[← hcd]at hx;have e5:(c.why !=2)=false:=by simp[hwy]
   have e6:decide (c.why=2)=true:=by simp[hwy]
   have hx0:c.members[0]?=some x:=by rw[hx];rfl
   have hxl:0<c.members.length:=by rw[hx];simp
   have hhd:c.members.headD ⟨0,0,0⟩=x:=by rw[hx];rfl
   simp(disch:=omega)only[go_sem,e5,gm,hx0]
   first|(refine Ac (f94_ok w.AJ x c.name hcl) ?_)|(refine Ar (f94_ok w.AJ x c.name hcl) ?_)
   simp(disch:=omega)only[go_sem,gm,hx0];refine Ap _ ?_;exact wb (by simp only[Sc0,ef,hgd,h1,h2,h3,h4,e6,hhd];simp)
theorem Sg0(cs:List Cause)(p:Ae)(name:Bs):decide (0≤Sb0 cs p name)=decide ((p,name)∈cs.map place):=by
 refine decide_eq_decide.2 ?_;have hp:∀ c:Cause,Sa0 p name c=true↔place c=(p,name):=fun c=>by simp[Sa0,place]
 unfold Sb0;cases h:cs.findIdx? (Sa0 p name) with
 |none =>
  simp only[List.mem_map,not_exists,not_and,iff_false,show ¬ (0≤(-1:Int)) by omega,false_iff];intro c hc h2;have:=List.findIdx?_eq_none_iff.1 h c hc;rw[(hp c).2 h2]at this;cases this
 |some i =>
  obtain⟨k1,k2,_⟩:=List.findIdx?_eq_some_iff_getElem.1 h;refine⟨fun _=>List.mem_map.2 ⟨cs[i],List.getElem_mem k1,(hp _).1 k2⟩,fun _=>by simp⟩
theorem Sh0{cs:List Cause}{i:Nat}{c:Cause}(hc:cs[i]?=some c):decide (Sb0 cs c.proc c.name=i) = !decide (place c∈(cs.take i).map place):=by
 have hp:∀ d:Cause,Sa0 c.proc c.name d=true↔place d=place c:=fun d=>by simp[Sa0,place]
 have hi:i<cs.length:=(List.getElem?_eq_some_iff.1 hc).1;rw[← decide_not];refine decide_eq_decide.2 ?_;have hfin:cs.findIdx? (Sa0 c.proc c.name)=some i↔place c∉(cs.take i).map place:=by
  rw[List.findIdx?_eq_some_iff_getElem];have hce:cs[i]=c:=by rw[gE hi]at hc;exact Option.some.inj hc
  constructor
  ·rintro⟨h1,h2,h3⟩ hm;obtain⟨d,hd,he⟩:=List.mem_map.1 hm;obtain⟨j,hj,rfl⟩:=List.mem_take_iff_getElem.1 hd;have:=h3 j (by omega);rw[(hp _).2 he]at this;exact this rfl
  ·intro hm;refine⟨hi,by rw[hce];exact(hp c).2 rfl,fun j hj=>?_⟩;intro h;exact hm (List.mem_map.2 ⟨cs[j],List.mem_take_iff_getElem.2 ⟨j,by omega,rfl⟩,(hp _).1 h⟩)
 unfold Sb0;cases h:cs.findIdx? (Sa0 c.proc c.name) with
 |none =>
  rw[h]at hfin;simp only[reduceCtorEq,false_iff]at hfin;simp only[hfin,iff_false];omega
 |some j =>
  rw[h]at hfin;simp only[Option.some.injEq]at hfin;rw[← hfin];show ((j:Int)=i↔j=i);omega
theorem Si0(s:WS)(c:Cause):He s c=(CC s.Aa c.proc c.name&&(match s.Aa.find? (fun q=>q.res.name==c.name) with
 |some q=>decide (c=(A6 q c.proc).getD cz)
 |none=>false)):=by
 unfold He CC;cases hf:s.Aa.find? (fun q=>q.res.name==c.name) with
 |none=>simp
 |some q =>
  have hn:=List.find?_some hf;simp only[beq_iff_eq]at hn;simp only;rw[GF];cases hd:A6 q c.proc with
  |none=>simp
  |some d =>
   obtain⟨e1,e2⟩:=CT hd;simp only[Option.isSome_some,Option.getD_some,Bool.true_and];obtain⟨c1,c2,c3,c4⟩:=c;obtain⟨d1,d2,d3,d4⟩:=d;simp only at e1 e2 hn;subst e1 e2 hn;refine Bool.eq_iff_iff.2 ?_;simp only[Bool.and_eq_true,decide_eq_true_eq,Cause.mk.injEq,true_and];constructor
   ·rintro⟨h1,h2⟩;exact⟨h1.symm,h2.symm⟩
   ·rintro⟨h1,h2⟩;exact⟨h1.symm,h2.symm⟩
theorem Sj0{s:WS}{p:Ae}{name:Bs}(h:CC s.Aa p name=true):p∈Ah s:=by
 unfold CC at h;cases hf:s.Aa.find? (fun q=>q.res.name==name) with
 |none=>rw[hf]at h;cases h
 |some q =>
  rw[hf]at h;have hq:=List.mem_of_find?_eq_some hf;simp only[As,Option.isSome_map]at h;obtain⟨w,hw,he⟩:=List.find?_isSome.1 h;rw[Dc];refine .inl ⟨q,hq,?_⟩;rw[Db];simp only[decide_eq_true_eq]at he;rcases List.mem_append.1 hw with hw|hw
  ·exact .inr (.inl ⟨w,hw,he⟩)
  ·exact .inr (.inr ⟨w,hw,he⟩)
theorem Sk0{w:Wit}(hmem:w.members=Ah w.state){i:Nat}{c:Cause}(hc:w.AJ[i]?=some c) :
 Sc0 w i c=(He w.state c&&!decide (place c∈(w.AJ.take i).map place)&&(!decide (c.why=2)||decide ((c.members.headD ⟨0,0,0⟩,c.name)∈w.AJ.map place))):=by
 unfold Sc0;rw[Si0,Sh0 hc,Sg0];cases h2:CC w.state.Aa c.proc c.name
 ·simp
 ·have h1:Be w.members c.proc=true:=by
   rw[hmem];simpa [Be]using Sj0 h2
  rw[h1];refine Bool.eq_iff_iff.2 ?_;simp only[Bool.true_and,Bool.and_eq_true];constructor
  ·rintro⟨⟨h3,h4⟩,h5⟩;exact⟨⟨h4,h3⟩,h5⟩
  ·rintro⟨⟨h4,h3⟩,h5⟩;exact⟨⟨h3,h4⟩,h5⟩
theorem Sm0{w:Wit}(hv:AD w.state=true)(hmem:w.members=Ah w.state){i:Nat}{c:Cause}(hc:w.AJ[i]?=some c)(hs:Sc0 w i c=false):DQ w=17:=by
 unfold DQ;rw[if_pos ⟨hv,hmem⟩,if_neg];rintro⟨h1,h2,_⟩;have h3:=(Zu w.state w.AJ []).1 h1 i c hc;have hm:c∈w.AJ:=mG hc;have h4:=List.all_eq_true.1 h2 c hm;rw[Sk0 hmem hc,h3.2]at hs;have h5:decide (place c∈(w.AJ.take i).map place)=false:=by simpa using h3.1
 rw[h5]at hs;simp only[Bool.not_false,Bool.true_and]at hs;cases hw:decide (c.why=2)
 ·rw[hw]at hs;simp at hs
 ·rw[hw]at hs h4;simp only[Bool.not_true,Bool.false_or,Bool.true_and,Bool.not_not]at hs h4;rw[hs]at h4;cases h4
theorem Sn0{w:Wit}(hmem:w.members=Ah w.state)(h:∀ i c,w.AJ[i]?=some c→Sc0 w i c=true):l1 w.state [] w.AJ=true∧l2 (w.AJ.map place) w.AJ=true:=by
 constructor
 ·refine(Zu _ _ _).2 fun i c hc=>?_
  have:=h i c hc;rw[Sk0 hmem hc]at this;simp only[Bool.and_eq_true,Bool.not_eq_true',decide_eq_false_iff_not]at this;exact⟨by simpa using this.1.2,this.1.1⟩
 ·refine List.all_eq_true.2 fun c hm=>?_
  obtain⟨i,hi,rfl⟩:=List.getElem_of_mem hm;have:=h i _ (gE hi);rw[Sk0 hmem (gE hi)]at this;simp only[Bool.and_eq_true]at this;have h2:=this.2;cases hw:decide ((w.AJ[i]).why=2)
  ·simp
  ·rw[hw]at h2;simp only[Bool.not_true,Bool.false_or]at h2;rw[h2];simp
theorem So0(s:WS)(p:Ae)(h:Few s):Ad C0 92 [.agg s.c,.agg p.c] [] (.tup [.agg ((Nh s p).getD n0).c,B (Nh s p).isSome]) []:=f92_ok s p h
theorem Sp0{s:WS}{p:Ae}{n:Need}(h:Nh s p=some n):n.proc=p:=by simpa using List.find?_some h
theorem f48_ok(w:Wit)(hw:Few w.state)(hml:w.members.length≤1000000)(hcl:w.AJ.length≤1000000):Ad C0 48 [.agg w.c] [] (I (DQ w)) []:=by
 have hpl:=Dy hw;refine Ad.go f48 ?_;unfold f48;refine gO ?_;refine Aq 10 [([],[1]),([],[10]),([],[11]),([2],[12]),([2],[13]),([2],[1,14]),([2],[15,14]),([2],[1,14]),([2],[17,14]),([2],[18,14])] fol ?_;refine gO ?_
 first|(refine Ac (f56_ok w.state hw) ?_)|(refine Ar (f56_ok w.state hw) ?_)
 cases hv:AD w.state
 ·have e:DQ w=2:=by simp[DQ,hv]
  simp(disch:=omega)only[go_sem,e];exact AE _
 refine gO ?_
 first|(refine Ac (f34_ok w.state hw) ?_)|(refine Ar (f34_ok w.state hw) ?_)
 refine gO ?_
 first|(refine Ac (Se0 w.members (Ah w.state) (by omega)) ?_)|(refine Ar (Se0 w.members (Ah w.state) (by omega)) ?_)
 by_cases hmem:w.members=Ah w.state
 rotate_left
 ·have e:DQ w=2:=by simp[DQ,hmem]
  have d:decide (w.members=Ah w.state)=false:=decide_eq_false hmem;simp(disch:=omega)only[go_sem,e,d];exact AE _
 have d:decide (w.members=Ah w.state)=true:=decide_eq_true hmem;simp(disch:=omega)only[go_sem,d];refine Ab (α:=Nat) (fun i=>⟨[(3,I i),(1,.ptr 64 0)],[(64,w.c)]⟩) (fun i=>i≤(w.AJ).length∧(∀ j c,j<i→w.AJ[j]?=some c→Sc0 w j c=true)) (fun i=>(w.AJ).length-i) 0 ⟨by omega,(fun j c hj=>by omega)⟩ ?_ ?_
 ·exact BB
 rintro i ⟨hi,hP⟩ J hJ;refine gO ?_;refine ⟨fun hlt=>?_,fun hge=>?_⟩;rotate_left;have hil:i=(w.AJ).length:=by simp at hge;omega
 rotate_left;obtain⟨b,hb⟩:∃ b,(w.AJ)[i]?=some b:=⟨_,gE (by simp at hlt;omega)⟩;have hbm:=mG hb;have hlt2:i<(w.AJ).length:=by simp at hlt;omega
 ·refine Ac (f91_ok w i b hb hw hml hcl) ?_;cases hs:Sc0 w i b
  ·have e:DQ w=17:=Sm0 hv hmem hb hs;simp(disch:=omega)only[go_sem,e];exact AE _
  ·simp(disch:=omega)only[go_sem];have hnx:∀ j c,j<i+1→w.AJ[j]?=some c→Sc0 w j c=true:=fun j c hj hjc=>by
    rcases Nat.lt_or_eq_of_le (Nat.lt_succ_iff.1 hj) with h|h
    ·exact hP j c h hjc
    ·subst h;rw[hb]at hjc;injection hjc with hjc
     subst hjc;exact hs
   refine hJ _ (i+1) ⟨by simp at hlt;omega,hnx⟩ (by simp at hlt;omega) AR
 subst hil;have hall:∀ j c,w.AJ[j]?=some c→Sc0 w j c=true:=fun j c hjc=>hP j c (List.getElem?_eq_some_iff.1 hjc).1 hjc
 obtain⟨g1,g2⟩:=Sn0 hmem hall;have ev3:DQ w=if w.members.all (KI w.state (w.AJ.map place))=true then 0 else 17:=by
  unfold DQ;rw[if_pos ⟨hv,hmem⟩];simp only[g1,g2,true_and]
 clear hJ hP hi hge;refine Ab (α:=Nat) (fun i=>⟨[(4,I i),(1,.ptr 64 0)],[(64,w.c)]⟩) (fun i=>i≤(w.members).length∧(w.members.take i).all (KI w.state (w.AJ.map place))=true) (fun i=>(w.members).length-i) 0 ⟨by omega,rfl⟩ ?_ ?_
 ·exact BB
 rintro i ⟨hi,hP⟩ J hJ;refine gO ?_;refine ⟨fun hlt=>?_,fun hge=>?_⟩;rotate_left;have hil:i=(w.members).length:=by simp at hge;omega
 rotate_left;obtain⟨b,hb⟩:∃ b,(w.members)[i]?=some b:=⟨_,gE (by simp at hlt;omega)⟩;have hbm:=mG hb;have hlt2:i<(w.members).length:=by simp at hlt;omega
 ·have hx0:True:=trivial;refine CA 16383 [(0,1,0),(1,2,1),(2,4,0),(3,8,4),(4,16,0),(5,32,24),(6,64,32),(7,128,66),(8,256,128),(9,512,256),(10,1024,256),(11,2048,0),(12,4096,3071),(13,8192,8191)] [0,1,4,16,2048,3,5,17,2049,12,20,2052,2064,7,19,2051,13,21,2053,2065,28,2060,2068,15,23,2055,2067,29,2061,2069,60,2076,31,2063,2071,61,2077,124,2108,63,2079,125,2109,2172,127,2111,2173,255,2175,511,2303,1023,1535,2559,2047,3071,3583,4095,7167,8191,16383] (fun m=>⟨sel m [(1,42,.ptr 64 0),(2,43,.agg w.state.c),(4,44,.ptr 64 2),(8,45,Ax w.members),(16,46,I i),(32,47,.ep .no i b.c 0),(64,48,.agg b.c),(128,49,.tup [.agg ((Nh w.state b).getD n0).c,B (Nh w.state b).isSome]),(256,41,.tup [.agg ((Nh w.state b).getD n0).c,B (Nh w.state b).isSome]),(512,50,.agg ((Nh w.state b).getD n0).c),(1024,51,B (Nh w.state b).isSome),(2048,5,.ptr 320 0),(8192,6,B (Nh w.state b).isSome)]++[(4,I i),(1,.ptr 64 0)],((if m / 2048%2=1 then [(320,(if m / 4096%2=1 then ((Nh w.state b).getD n0).c else [I 0,I 0,I 0,I 0,.v (.string (str [])),I 0,I 0,.sl .no 5 [],I 0]))] else [])++[(64,w.c)])⟩) ?_ ?_ ?_ fol
  ·exact Imp.Am gI (by simp(disch:=omega)only[go_sem,List.nil_append])
  ·simp (maxSteps:=100000000)only[Cz,Cy,Dj,Di,and_true,Nat.reduceDiv,Nat.reduceMod,Nat.reduceAnd,Nat.reduceEqDiff,reduceIte,true_and,and_false,false_and,and_self]
   repeat'(with_reducible refine And.intro ?_ ?_)
   all_goals simp(disch:=omega)only[go_sem,gm,hb,List.nil_append]
   all_goals(first|exact Imp.Am gI (by simp(disch:=omega)only[go_sem,List.nil_append,List.cons_append])|(refine Ac (So0 w.state b hw) ?_;simp(disch:=omega)only[go_sem];exact Imp.Am gI (by simp(disch:=omega)only[go_sem,List.nil_append,List.cons_append])))
  ·cases hn:Nh w.state b with
   |none =>
    have e:DQ w=17:=by
     rw[ev3,if_neg];rw[SL hbm (by rw[KI,hn])];simp
    simp(disch:=omega)only[go_sem,Option.isSome_none,e];exact AE _
   |some n =>
    have hnp:=Sp0 hn;have hl:=Cj n.expr;have hop:KI w.state (w.AJ.map place) b=Qo n.expr ((Ag n.expr).map fun a=>decide ((b,a.name)∈w.AJ.map place)):=by rw[KI,hn]
    simp(disch:=omega)only[go_sem,Option.isSome_some,Option.getD_some,List.cons_append,List.nil_append];refine Ai (f93_ok n.expr) (by simp(disch:=omega)only[go_sem,Expr.By]) rfl ?_;generalize hA:Ag n.expr=A at hl hop;obtain⟨o,rfl⟩:∃ o,o=i:=⟨i,rfl⟩;have hJo:=hJ;have hbo:=hb;have hPo:=hP;have hlo:o<w.members.length:=hlt2;clear hJ hb hP hlt hlt2 hx0;obtain⟨p,rfl⟩:∃ p,p=b:=⟨b,rfl⟩;refine gO ?_;refine Ab (α:=Nat) (fun i=>⟨[(9,I i),(7,Bv A),(8,.sl (.own 3776 0) 1 (((A.take i).map fun a=>[B (decide (0≤Sb0 w.AJ p a.name))])++List.replicate (A.length-i) [B false])),(4,I o),(5,.ptr 320 0),(1,.ptr 64 0)],[(64,w.c),(320,n.c)]⟩) (fun i=>i≤(A).length∧True) (fun i=>(A).length-i) 0 ⟨by omega,trivial⟩ ?_ ?_
    ·exact BB
    rintro i ⟨hi,hP⟩ J hJ;refine gO ?_;refine ⟨fun hlt=>?_,fun hge=>?_⟩;rotate_left;have hil:i=(A).length:=by simp at hge;omega
    rotate_left;obtain⟨b,hb⟩:∃ b,(A)[i]?=some b:=⟨_,gE (by simp at hlt;omega)⟩;have hbm:=mG hb;have hlt2:i<(A).length:=by simp at hlt;omega
    ·have hlen:min i A.length+(A.length-i)=A.length:=by omega
     have hget:(((A.take i).map fun a=>[B (decide (0≤Sb0 w.AJ p a.name))])++List.replicate (A.length-i) [B false])[i]?=some [B false]:=by
      rw[List.getElem?_append_right (by simp;omega),List.getElem?_replicate];simp;omega
     have nxt:(((A.take i).map fun a=>[B (decide (0≤Sb0 w.AJ p a.name))])++List.replicate (A.length-i) [B false]).set i [B (decide (0≤Sb0 w.AJ p b.name))]=((A.take (i+1)).map fun a=>[B (decide (0≤Sb0 w.AJ p a.name))])++List.replicate (A.length-(i+1)) [B false]:=by
      have e2:=ab ((A.take i).map fun a=>[B (decide (0≤Sb0 w.AJ p a.name))]) [B false] [B (decide (0≤Sb0 w.AJ p b.name))] (A.length-(i+1));simp only[List.length_map,List.length_take,Nat.min_eq_left (show i≤A.length by omega)]at e2;rw[show A.length-i=(A.length-(i+1))+1 by omega,e2,take_add_one,hb];simp
     refine Aq 13 [([],[8]),([],[9]),([],[1]),([],[68]),([],[5]),([],[70]),([],[7]),([],[9]),([],[72,73]),([],[74]),([],[75]),([],[69,71,76]),([11],[77])] fol ?_;simp(disch:=omega)only[go_sem,gm,hb,hget];refine Aw ⟨⟨[],[],[]⟩,[],[]⟩ (f94_ok w.AJ p b.name hcl) (by simp(disch:=omega)only[go_sem,hnp]) rfl rfl trivial (.inl rfl) ?_;simp(disch:=omega)only[go_sem,gm,hb,hget,List.length_append,List.length_replicate,List.length_map,List.length_take,hlen];refine hJ _ (i+1) ⟨by omega,trivial⟩ (by omega) (Imp.Am ?_ gI);refine gO ?_;exact .sl nxt
    ·subst hil;clear hJ;refine C2 [3776] (f95_ok n.expr (A.map fun a=>decide (0≤Sb0 w.AJ p a.name))) ?_ rfl trivial ?_
     ·simp(disch:=omega)only[go_sem,take_length,Nat.sub_self,List.replicate_zero,List.append_nil,Expr.By];exact .sl (by simp)
     have he:(A.map fun a=>decide (0≤Sb0 w.AJ p a.name))=A.map fun a=>decide ((p,a.name)∈w.AJ.map place):=List.map_congr_left fun a _=>Sg0 w.AJ p a.name
     rw[he];cases hh:Qo n.expr (A.map fun a=>decide ((p,a.name)∈w.AJ.map place))
     ·have e:DQ w=17:=by
       rw[ev3,if_neg];rw[SL hbm (hop.trans hh)];simp
      simp(disch:=omega)only[go_sem,e];exact AE _
     ·simp(disch:=omega)only[go_sem];refine hJo _ (o+1) ⟨by omega,PJ hbo hPo (hop.trans hh)⟩ (by omega) AR
 ·subst hil;rw[take_length]at hP;have e:DQ w=0:=by rw[ev3,if_pos hP]
  simp(disch:=omega)only[go_sem,e];exact AE _
theorem Sq0{w:Wit}(h:DQ w=0):AD w.state=true∧w.members=Ah w.state∧l1 w.state [] w.AJ=true∧w.members.all (KI w.state (w.AJ.map place))=true:=by
 unfold DQ at h;split at h
 ·next h1 =>
  split at h
  ·next h2=>exact⟨h1.1,h1.2,h2.1,h2.2.2⟩
  ·cases h
 ·cases h
theorem Sr0{n:Nat}{d:List Bool}{k:Nat}(hk:k<n)(h:d.getD k false=false):(GP n d).getD k false=true:=by
 simp only[GP,List.getD_eq_getElem?_getD,gm,List.getElem?_range hk]at h ⊢;simp[h]
theorem Ss0{s:WS}{cs:List Cause}(hv:AD s=true)(hl:l1 s [] cs=true){p:Ae}(hp:KI s (cs.map place) p=true):BH s p=false:=by
 unfold KI at hp;cases hn:Nh s p with
 |none=>rw[hn]at hp;cases hp
 |some n =>
  rw[hn]at hp;simp only[Qo,Bool.and_eq_true,Bool.not_eq_true']at hp;have hpn:=Sp0 hn;unfold BH;rw[show s.Ao.find? (fun n=>decide (n.proc=p))=some n from hn];simp only;cases hh:DR n.expr (CU s n)
  ·rfl
  ·simp only[DR,Bool.and_eq_true]at hh;have:=Qa (XY (t:=GP (Ag n.expr).length ((Ag n.expr).map fun a=>decide ((p,a.name)∈cs.map place))) fun k hk=>?_) _ hh.2
   ·rw[this]at hp;exact absurd hp.2 (by simp)
   ·have hkl:k<(Ag n.expr).length:=by
     rcases Nat.lt_or_ge k (Ag n.expr).length with h|h
     ·exact h
     ·rw[List.getD_eq_getElem?_getD,List.getElem?_eq_none (by simpa [CU]using h)]at hk;cases hk
    refine Sr0 hkl ?_;rw[CU]at hk;simp only[List.getD_eq_getElem?_getD,gm,gE hkl,Option.map_some,Option.getD_some,Bool.not_eq_true']at hk ⊢;refine decide_eq_false fun hm=>?_
    obtain⟨c,hc,he⟩:=List.mem_map.1 hm;have hr:=Uz hl c hc;rw[Si0,Bool.and_eq_true]at hr;have h1:c.proc=p∧c.name=((Ag n.expr)[k]).name:=by simpa [place]using he
    rw[← Lb hv,h1.1,h1.2]at hr;rw[hpn]at hk;rw[hk]at hr;exact absurd hr.1 (by simp)
theorem St0{s:WS}(h:AD s=true):Cm s:=by
 intro q hq;simp only[AD,Ch,Bool.and_eq_true]at h;obtain⟨i,hi,rfl⟩:=List.getElem_of_mem hq;have:=EB.1 h.1.1.2 i _ (gE hi);simp only[B6,Bool.and_eq_true]at this;exact this.1
theorem Su0{s:WS}(h:∀ p∈Ah s,BH s p=false):BT s=[]:=by
 unfold BT;rw[List.filter_eq_nil_iff];intro p hp;rw[h p hp];simp
theorem Sv0{w:Wit}(h:DQ w=0):BT w.state=[]∧(Bp w.state).2=w.members:=by
 obtain⟨h1,h2,h3,h4⟩:=Sq0 h;have hf:BT w.state=[]:=Su0 fun p hp=>Ss0 h1 h3 (List.all_eq_true.1 h4 p (h2▸hp))
 refine⟨hf,?_⟩;unfold Bp;rw[if_pos h1,h2];exact Ku (St0 h1) hf
theorem Sw0{s:List Bool}{m m':Int}(hl:s.length=6)(h1:0≤m)(h2:m<6):CJ (s.set m.toNat true) m'=true↔CJ s m'=true∧BF m m'=true:=by
 obtain⟨n,rfl⟩:∃ n:Nat,m=n:=⟨m.toNat,by omega⟩;have hn:n<6:=by omega
 unfold CJ;simp only[List.all_eq_true,List.mem_range,Bool.or_eq_true,Bool.not_eq_true',Int.toNat_natCast,List.getD_eq_getElem?_getD,List.getElem?_set];constructor
 ·intro h;refine⟨fun k hk=>?_,?_⟩
  ·by_cases e:n=k
   ·subst e;have:=h n hn;rw[if_pos rfl,if_pos (by omega)]at this;rcases this with h|h
    ·simp at h
    ·exact .inr h
   ·have:=h k hk;rw[if_neg e]at this;exact this
  ·have:=h n hn;rw[if_pos rfl,if_pos (by omega)]at this;rcases this with h|h
   ·simp at h
   ·exact h
 ·rintro⟨h,hc⟩ k hk
  by_cases e:n=k
  ·subst e;exact .inr hc
  ·rw[if_neg e];exact h k hk
theorem Sx0{r:Res}{a:Amt}(hk:r.kind=1)(h:r.fits a=true):r.AA=1∧Bf a.mode=true∧a.AA=0∧r.permits a=true:=by
 have h':=h;simp only[Res.fits,Res.shaped,hk,if_true,Bool.and_eq_true,beq_iff_eq]at h;obtain⟨a1,a2,a3⟩:=h;refine⟨a1,a2,a3,?_⟩;simp[Res.permits,h',Res.shaped,hk,a1]
theorem Sy0{r:Res}(hk:r.kind=1):∀ (l:List Amt) (seen:List Bool),seen.length=6→(∀ a∈l,r.fits a=true)→(Bl r l 0 seen=true↔(∀ a∈l,CJ seen a.mode=true)∧l.Pairwise fun a b=>BF a.mode b.mode=true)
 |[],_,_,_=>by simp[Bl]
 | a::l,seen,hl,hf=>by
  obtain⟨f1,f2,f3,f4⟩:=Sx0 hk (hf a (by simp));have hm:1≤a.mode∧a.mode≤5:=by simpa [Bf,AL]using f2
  have ih:=Sy0 hk l (seen.set a.mode.toNat true) (by simpa using hl) (fun x hx=>hf x (by simp[hx]));have e:Bl r (a::l) 0 seen=(CJ seen a.mode&&Bl r l 0 (seen.set a.mode.toNat true)):=by
   simp only[Bl,f4,f3,f1,if_neg (show ¬ a.mode=0 by omega),Int.zero_add];simp
  rw[e,Bool.and_eq_true,ih,List.pairwise_cons];constructor
  ·rintro⟨h1,h2,h3⟩;refine⟨fun x hx=>?_,fun x hx=>((Sw0 hl (by omega) (by omega)).1 (h2 x hx)).2,h3⟩;rcases List.mem_cons.1 hx with rfl|hx
   ·exact h1
   ·exact((Sw0 hl (by omega) (by omega)).1 (h2 x hx)).1
  ·rintro⟨h1,h2,h3⟩;exact⟨h1 a (by simp),fun x hx=>(Sw0 hl (by omega) (by omega)).2 ⟨h1 x (by simp[hx]),h2 x hx⟩,h3⟩
theorem Sz0(m:Int):CJ no6 m=true:=by
 unfold CJ;rw[List.all_eq_true];intro k hk;have hk:k<6:=List.mem_range.1 hk;obtain rfl|rfl|rfl|rfl|rfl|rfl:k=0∨k=1∨k=2∨k=3∨k=4∨k=5:=by omega
 all_goals rfl
theorem Sa1{r:Res}(hk:r.kind=1)(hs:r.shaped=true){l:List Amt}(hf:∀ a∈l,r.fits a=true):r.compat l=true↔l.Pairwise fun a b=>BF a.mode b.mode=true:=by
 unfold Res.compat;rw[hs,Bool.true_and,Sy0 hk l no6 rfl hf];exact⟨fun h=>h.2,fun h=>⟨fun a _=>Sz0 a.mode,h⟩⟩
theorem Sb1{l:List AO}{p:Ae}{a:Amt}(ha:a.zero=false):(BX l p a).Perm (⟨p,a⟩::AK l p):=by
 unfold BX;rw[if_neg (by simp[ha])];refine List.perm_middle.trans ?_;rw[List.take_append_drop]
theorem Sc1{r:Res}{a:Amt}(h:r.fits a=true):a.zero=false:=by
 cases hz:a.zero
 ·rfl
 ·simp only[Amt.zero,Bool.and_eq_true,beq_iff_eq]at hz;simp[Res.fits,hz.1,hz.2,Bf,AL]at h
theorem Sd1{q:Queue}(hs:Sound q){w:AS}(hh:Bj q=some w):q.res.fits w.amt=true∧w.proc.ok=true∧(AK q.holds w.proc).length+1≤8:=by
 have hcv:=(BK q).1 hs.An;obtain⟨a,b,c⟩:=(Bz q).1 hs.waits;rw[Cv]at a;have hH:=(CW _ _).1 hs.holds;have hd:(AK q.holds w.proc).length≤q.holds.length:=List.length_filter_le _ _;unfold Bj at hh;cases hc:q.An with
 | cons w' l =>
  rw[hc]at hh;simp at hh;subst hh;obtain⟨z,f,_⟩:=hcv.2.2 w' (by rw[hc];simp);have:=Lh z;refine⟨f,?_,by omega⟩;unfold AB at z;cases hf:q.holds.find? (fun h=>decide (h.proc=w'.proc)) with
  |none=>rw[hf]at z;simp[Amt.zero]at z
  |some h =>
   have hp:h.proc=w'.proc:=by simpa using List.find?_some hf
   rw[← hp];exact(hH.2.2.1 h (List.mem_of_find?_eq_some hf)).1
 | nil =>
  cases hw:q.waits with
  | nil=>rw[hc,hw]at hh;simp at hh
  | cons w' l =>
   rw[hc,hw]at hh;simp at hh;subst hh;have hm:w'∈q.waits:=by rw[hw];simp
   obtain⟨f,z⟩:=c w' hm;have hok:=a.2.2 w' hm;rw[hw]at b;simp at b;exact⟨f,by simp only[AS.ok,Bool.and_eq_true]at hok;exact hok.1.1.1,by omega⟩
theorem Se1{q:Queue}(hs:Sound q){w:AS}(hh:Bj q=some w)(hr:DP q.res q.holds w.proc w.amt=false):Bm q.res q.holds w.proc w.amt≠[]:=by
 obtain⟨hfit,hpo,hlen⟩:=Sd1 hs hh;have hz:=Sc1 hfit;intro he;have hH:=(CW _ _).1 hs.holds;have e1:Bm q.res q.holds w.proc w.amt=agT q.res w.proc w.amt q.holds:=by simp[Bm,hs.holds,hpo,hfit,hr]
 rw[e1]at he;have hall:∀ h∈q.holds,h.proc≠w.proc→q.res.kind=1∧q.res.compat [h.amt,w.amt]=true:=by
  intro h hm hne;have hn:q.holds.filter (fun h=>!Ez q.res w.proc w.amt h)=[]:=by simpa [agT]using he
  have:=(List.filter_eq_nil_iff.1 hn) h hm;simp only[Ez,Bool.not_eq_true,Bool.not_eq_false']at this;simpa [hne]using this
 have:DP q.res q.holds w.proc w.amt=true:=by
  simp only[DP,hs.holds,hpo,hfit,Bool.true_and];rw[CW];refine⟨hH.1,Nat.le_trans Ny hlen,?_,WG hH.2.2.2.1 hz,?_⟩
  ·intro h hm;rcases(KQ hz).1 hm with ⟨hm,_⟩|rfl
   ·exact hH.2.2.1 h hm
   ·exact⟨hpo,hfit⟩
  ·by_cases hk:q.res.kind=1
   ·have hfs:∀ a∈(BX q.holds w.proc w.amt).map (·.amt),q.res.fits a=true:=by
     intro a ha;obtain⟨h,hm,rfl⟩:=List.mem_map.1 ha;rcases(KQ hz).1 hm with ⟨hm,_⟩|rfl
     ·exact(hH.2.2.1 h hm).2
     ·exact hfit
    rw[Sa1 hk hH.1 hfs];have hp:=((Sb1 (l:=q.holds) (p:=w.proc) hz).map (·.amt));rw[hp.pairwise_iff (fun h=>Hs h),List.map_cons,List.pairwise_cons];constructor
    ·intro a ha;obtain⟨h,hm,rfl⟩:=List.mem_map.1 ha;obtain⟨hm,hne⟩:=HG.1 hm;have hc:=(hall h hm hne).2;rw[Sa1 hk hH.1 (by intro a ha;simp at ha;rcases ha with rfl|rfl;exact(hH.2.2.1 h hm).2;exact hfit)]at hc;simp at hc;exact Hs hc
    ·have hc:=hH.2.2.2.2;rw[Sa1 hk hH.1 (by intro a ha;obtain⟨h,hm,rfl⟩:=List.mem_map.1 ha;exact(hH.2.2.1 h hm).2)]at hc;exact hc.sublist (List.filter_sublist.map _)
   ·have hd:AK q.holds w.proc=[]:=by
     unfold AK;rw[List.filter_eq_nil_iff];intro h hm;simp only[decide_eq_true_eq,Decidable.not_not];apply Classical.byContradiction;intro hne;exact hk (hall h hm hne).1
    have e:BX q.holds w.proc w.amt=[⟨w.proc,w.amt⟩]:=by simp[BX,hz,hd]
    rw[e];have hf:=hfit;simp only[Res.fits,hk,if_false,Bool.and_eq_true,beq_iff_eq,AL,decide_eq_true_eq]at hf;obtain⟨_,f1,f2,f3⟩:=hf;have hpm:q.res.permits w.amt=true:=by simp[Res.permits,hH.1,hfit]
    simp[Res.compat,hH.1,Bl,hpm,f1,f3]
 rw[this]at hr;cases hr
theorem Sf1{x:WS}(hv:AD x=true){q:Queue}(hq:q∈x.Aa){p:Ae}{c:Cause}(h:A6 q p=some c):c.members≠[]∧p∉c.members∧∀ y∈c.members,y∈Ah x:=by
 have hvq:valid q=true:=((DO _).1 ((CK x).1 hv).1).2.1 q hq;simp only[valid,Bool.and_eq_true]at hvq;obtain⟨hsd,hset⟩:=hvq;have hs:=(GD q).1 hsd;cases hk:(CP q).findIdx? (fun x=>decide (x=p)) with
 |none=>simp[A6,hk]at h
 |some k =>
  obtain⟨hlt,hpk,hno⟩:=List.findIdx?_eq_some_iff_getElem.1 hk;have hpk:(CP q)[k]=p:=by simpa using hpk
  cases k with
  | zero =>
   have hc:c.members=Bm q.res q.holds p (IC q p):=by
    simp[A6,hk]at h;subst h;rfl
   cases hw:q.An++q.waits with
   | nil=>simp[CP,Bt,hw]at hlt
   | cons w l =>
    have hh:Bj q=some w:=by simp[Bj,hw]
    have hwp:w.proc=p:=by
     have:(CP q)[0]?=some p:=by rw[gE hlt,hpk]
     simp[CP,Bt,hw]at this;exact this
    have hwa:IC q p=w.amt:=by
     simp[IC,As,hw,hwp]
    rw[hh]at hset;simp only[Bool.not_eq_true']at hset;have hne:=Se1 hs hh hset;rw[hwp]at hne;rw[hc,hwa];refine⟨hne,?_,?_⟩
    ·intro hm;unfold Bm at hm;split at hm
     ·obtain⟨h,hm,he⟩:=List.mem_map.1 hm;have:=(List.mem_filter.1 hm).2;simp[Ez,he]at this
     ·cases hm
    ·intro y hm;unfold Bm at hm;split at hm
     ·obtain⟨h,hm,he⟩:=List.mem_map.1 hm;rw[Dc];exact .inl ⟨q,hq,(Db ..).2 (.inl ⟨h,(List.mem_filter.1 hm).1,he⟩)⟩
     ·cases hm
  | succ k =>
   have hlt':k+1<(CP q).length:=hlt;have hy:(CP q)[k]?=some ((CP q)[k]'(by omega)):=gE (by omega);have hc:c.members=[(CP q)[k]'(by omega)]:=by
    simp[A6,hk,hy]at h;subst h;rfl
   rw[hc];refine⟨by simp,?_,?_⟩
   ·intro hm;have:=hno k (by omega);simp at hm this;exact this hm.symm
   ·intro y hm;simp at hm;subst hm;exact Si hq (List.getElem_mem _)
theorem Sg1{x:WS}(hv:AD x=true){c:Cause}(hc:c∈A2 x.Aa (Ah x)):c.members≠[]∧c.proc∉c.members∧∀ y∈c.members,y∈Ah x:=by
 obtain⟨p,_,q,hq,h⟩:=FK.1 hc;rw[(CT h).1];exact Sf1 hv hq h
def Sh1(w:Wit)(c:Cause)(k k':Nat)(m:Int):Wit :=
 if m=0 then { w with AJ:=w.AJ.take k++w.AJ.drop (k+1) }
 else if m=1 then { w with AJ:=w.AJ.take k++[{ c with why:=3-c.why }]++w.AJ.drop (k+1) }
 else if m=2 then { w with AJ:=w.AJ.take k++[{ c with members:=c.members++[c.proc] }]++w.AJ.drop (k+1) }
 else if m=3 then { w with AJ:=w.AJ.take k++[{ c with members:=c.members.take (c.members.length-1) }]++w.AJ.drop (k+1) }
 else if m=4 then { w with AJ:=w.AJ.take k++[{ c with name:=(w.AJ.getD k' cz).name }]++w.AJ.drop (k+1) }
 else if m=5 then { w with members:=w.members.drop 1 }
 else if m=6 then { w with state:=⟨w.state.Aa,w.state.Ao.drop 1⟩ }
 else { w with AJ:=w.AJ++[c] }
def Si1(w:Wit)(a b:Int):Wit :=
 if w.AJ.length=0∨w.members.length=0∨w.state.Ao.length=0 then w
 else Sh1 w (w.AJ.getD (Ia a w.AJ.length).toNat cz) (Ia a w.AJ.length).toNat (Ia (a+1) w.AJ.length).toNat (Ia b 8)
theorem f47_ok(w:Wit)(a b:Int)(ha:0≤a∧a≤1000)(hn:w.state.Ao.length≤1000)(hm:w.members.length≤1000)(hc:w.AJ.length≤1000)(hw:∀ c∈w.AJ,1≤c.why∧c.why≤2∧1≤c.members.length∧c.members.length≤1000000) :
 Ad C0 47 [.agg w.c,I a,I b] [] (.agg (Si1 w a b).c) []:=by
 refine Ad.mk' [69] (fn:=f47) (c:=f47.body.getD .skip) kR kR kR kR (by simp[f47]) (by simp[names]) ?_;unfold f47
 by_cases h0:w.AJ.length=0
 ·have e:Si1 w a b=w:=by simp[Si1,h0]
  have e1:((w.AJ.length:Int)==0)=true:=by simp[h0]
  simp(disch:=omega)only[go_sem,List.length_map,e1,e];refine Bc ⟨[],[],[896,1216,1600]⟩ _ (by(try simp(disch:=omega)only[go_sem,C6,IJ])<;>rfl) ⟨rfl,rfl⟩ (by simp[lk]) ?_ trivial;simp(disch:=omega)only[go_sem]
 have e1:((w.AJ.length:Int)==0)=false:=beq_eq_false_iff_ne.2 (by omega)
 by_cases h1:w.members.length=0
 ·have e:Si1 w a b=w:=by simp[Si1,h1]
  have e2:((w.members.length:Int)==0)=true:=by simp[h1]
  simp(disch:=omega)only[go_sem,List.length_map,e1,e2,e];refine Bc ⟨[],[],[896,1216,1600]⟩ _ (by(try simp(disch:=omega)only[go_sem,C6,IJ])<;>rfl) ⟨rfl,rfl⟩ (by simp[lk]) ?_ trivial;simp(disch:=omega)only[go_sem]
 have e2:((w.members.length:Int)==0)=false:=beq_eq_false_iff_ne.2 (by omega)
 by_cases h2:w.state.Ao.length=0
 ·have e:Si1 w a b=w:=by simp[Si1,h2]
  have e3:((w.state.Ao.length:Int)==0)=true:=by simp[h2]
  simp(disch:=omega)only[go_sem,List.length_map,e1,e2,e3,e];refine Bc ⟨[],[],[896,1216,1600]⟩ _ (by(try simp(disch:=omega)only[go_sem,C6,IJ])<;>rfl) ⟨rfl,rfl⟩ (by simp[lk]) ?_ trivial;simp(disch:=omega)only[go_sem]
 have e3:((w.state.Ao.length:Int)==0)=false:=beq_eq_false_iff_ne.2 (by omega);simp(disch:=omega)only[go_sem,List.length_map,e1,e2,e3];obtain⟨b1,b2⟩:=Ti a w.AJ.length (by omega);obtain⟨i,hi⟩:∃ i:Nat,Ia a w.AJ.length=(i:Int):=⟨_,(Int.toNat_of_nonneg b1).symm⟩;have hil:i<w.AJ.length:=by omega
 obtain⟨c,hb⟩:∃ c,w.AJ[i]?=some c:=⟨_,gE hil⟩;obtain⟨d1,d2⟩:=Ti (a+1) w.AJ.length (by omega);obtain⟨j,hj⟩:∃ j:Nat,Ia (a+1) w.AJ.length=(j:Int):=⟨_,(Int.toNat_of_nonneg d1).symm⟩;obtain⟨d,hd⟩:∃ d,w.AJ[j]?=some d:=⟨_,gE (by omega)⟩;obtain⟨w1,w2,w3,w4⟩:=hw c (mG hb);obtain⟨m1,m2⟩:=Ti b 8 (by omega);have hs:Si1 w a b=Sh1 w c i j (Ia b 8):=by
  simp[Si1,h0,h1,h2,hi,hj,List.getD,hb]
 have h51:=f51_ok a w.AJ.length (by omega);have h52:=f51_ok (a+1) w.AJ.length (by omega);have h53:=f51_ok b 8 (by omega);rw[hi]at h51;rw[hj]at h52;rw[hs];clear hs;generalize Ia b 8=m at m1 m2 h53 ⊢;refine Ac h51 ?_;simp(disch:=omega)only[go_sem,gm,hb];refine Ac h53 ?_;obtain rfl|rfl|rfl|rfl|rfl|rfl|rfl|rfl:m=0∨m=1∨m=2∨m=3∨m=4∨m=5∨m=6∨m=7:=by omega
 ·have e:Sh1 w c i j 0 = { w with AJ:=w.AJ.take i++w.AJ.drop (i+1) }:=by simp[Sh1]
  rw[e];refine gO ?_;have ht:(w.AJ.drop (i+1)).take (w.AJ.length-(i+1))=w.AJ.drop (i+1):=List.take_of_length_le (by simp);refine Aq 10 [([],[3]),([],[65]),([],[8]),([],[8]),([],[66,67,68]),([],[3]),([],[70]),([],[8]),([],[72]),([],[71,73])] fol ?_;simp(disch:=omega)only[go_sem,ht,List.length_map];refine Ac h53 ?_;refine gO ?_;refine Bc ⟨[],[],[4800,1216,1600]⟩ _ (by(try simp(disch:=omega)only[go_sem,C6,IJ])<;>rfl) ⟨rfl,rfl⟩ (by simp[lk]) ?_ trivial;refine gO ?_;refine .agg (Aj.AM ?_);refine gO ?_;exact .sl (by simp[Cause.c])
 ·have e:Sh1 w c i j 1 = { w with AJ:=w.AJ.take i++[{ c with why:=3-c.why }]++w.AJ.drop (i+1) }:=by simp[Sh1]
  rw[e];refine gO ?_;refine Ac h53 ?_;simp(disch:=omega)only[go_sem,gm,hb,List.length_map];refine Bc ⟨[],[],[896,1216,1600]⟩ _ (by(try simp(disch:=omega)only[go_sem,C6,IJ])<;>rfl) ⟨rfl,rfl⟩ (by simp[lk]) ?_ trivial;refine gO ?_;refine .agg (Aj.AM ?_);refine gO ?_;exact .sl (by rw[List.set_eq_take_append_cons_drop,if_pos (by simpa using hil)];simp[Cause.c])
 ·have e:Sh1 w c i j 2 = { w with AJ:=w.AJ.take i++[{ c with members:=c.members++[c.proc] }]++w.AJ.drop (i+1) }:=by simp[Sh1]
  rw[e];refine gO ?_;refine D7 (st':=⟨[(9,.ptr 576 0),(8,I i),(6,.ptr 384 0),(3,.ptr 192 0),(2,I b)],[(576,c.c),(384,[.v (.slice none 0 0),.v (.slice none 0 0),.v (.slice none 0 0),.v (.slice none 0 0)]),(192,[Ay w.state.Aa,.sl (.own 1600 0) 9 (w.state.Ao.map Need.c),.sl (.own 1216 0) 3 (w.members.map Ae.c),.sl (.own 896 0) 6 (w.AJ.map Cause.c)])]⟩) AR ?_;refine CA 1023 [(0,1,0),(1,2,0),(2,4,2),(3,8,5),(4,16,0),(5,32,16),(6,64,32),(7,128,72),(8,256,255),(9,512,511)] [0,1,2,16,3,17,6,18,48,7,19,49,22,50,112,15,23,51,113,54,114,31,55,115,118,63,119,127,255,511,1023] (fun m=>⟨sel m [(1,85,(if m / 8%2=1 then .undef else .sl (.own 5440 0) 3 [])),(2,86,.ptr 576 5),(4,87,Ax c.members),(8,88,(if m / 128%2=1 then .undef else .sl (.own 5632 0) 3 (c.members.map Ae.c))),(16,89,.ptr 576 0),(32,90,.agg c.proc.c),(64,91,.sl (.own 5824 0) 3 [c.proc.c]),(128,92,.sl (.own 5888 0) 3 ((c.members++[c.proc]).map Ae.c)),(256,93,.ptr 576 5)]++[(9,.ptr 576 0),(8,I i),(6,.ptr 384 0),(3,.ptr 192 0),(2,I b)],[(576,(if m / 512%2=1 then [.v (.int .i64 c.proc.site),.v (.int .i64 c.proc.inc),.v (.int .i64 c.proc.num),.v (.string (str c.name)),.v (.int .i64 c.why),.sl (.own 5888 0) 3 ((c.members++[c.proc]).map Ae.c)] else c.c)),(384,[.v (.slice none 0 0),.v (.slice none 0 0),.v (.slice none 0 0),.v (.slice none 0 0)]),(192,[Ay w.state.Aa,.sl (.own 1600 0) 9 (w.state.Ao.map Need.c),.sl (.own 1216 0) 3 (w.members.map Ae.c),.sl (.own 896 0) 6 (w.AJ.map Cause.c)])]⟩) ?_ ?_ ?_ fol
  ·exact AR
  ·simp (maxSteps:=100000000)only[Cz,Cy,Dj,Di,and_true,Nat.reduceDiv,Nat.reduceMod,Nat.reduceAnd,Nat.reduceEqDiff,reduceIte,true_and,and_false,false_and,and_self]
   repeat'(with_reducible refine And.intro ?_ ?_)
   all_goals simp(disch:=omega)only[go_sem,List.length_map,List.nil_append,List.cons_append]
   all_goals exact Imp.Am (by simp(disch:=omega)only[go_sem,List.nil_append,List.cons_append,List.map_append,List.map_cons,List.map_nil]) (by simp(disch:=omega)only[go_sem,List.nil_append,List.cons_append,List.map_append,List.map_cons,List.map_nil])
  refine gO ?_;refine FW [5888] h53 gI rfl ?_;simp(disch:=omega)only[go_sem,gm,hb,List.length_map];refine Bc ⟨[],[],[896,1216,1600]⟩ _ (by(try simp(disch:=omega)only[go_sem,C6,IJ])<;>rfl) ⟨rfl,rfl⟩ (by simp[lk]) ?_ trivial;refine gO ?_;refine .agg (Aj.AM ?_);refine gO ?_;exact .sl (by rw[List.set_eq_take_append_cons_drop,if_pos (by simpa using hil)];simp[Cause.c])
 ·have e:Sh1 w c i j 3 = { w with AJ:=w.AJ.take i++[{ c with members:=c.members.take (c.members.length-1) }]++w.AJ.drop (i+1) }:=by simp[Sh1]
  rw[e];refine gO ?_;refine Ac h53 ?_;simp(disch:=omega)only[go_sem,gm,hb,List.length_map];refine Bc ⟨[],[],[896,1216,1600]⟩ _ (by(try simp(disch:=omega)only[go_sem,C6,IJ])<;>rfl) ⟨rfl,rfl⟩ (by simp[lk]) ?_ trivial;refine gO ?_;refine .agg (Aj.AM ?_);refine gO ?_;exact .sl (by rw[List.set_eq_take_append_cons_drop,if_pos (by simpa using hil)];simp[Cause.c])
 ·have e:Sh1 w c i j 4 = { w with AJ:=w.AJ.take i++[{ c with name:=d.name }]++w.AJ.drop (i+1) }:=by simp[Sh1,List.getD,hd]
  rw[e];refine gO ?_;refine Aq 6 [([],[3]),([],[106]),([],[1]),([],[108]),([],[7]),([],[109,110])] fol ?_;refine gO ?_
  first|(refine Ac h52 ?_)|(refine Ar h52 ?_)
  simp(disch:=omega)only[go_sem,gm,hd];refine Ac h53 ?_;simp(disch:=omega)only[go_sem,gm,hb,List.length_map];refine Bc ⟨[],[],[896,1216,1600]⟩ _ (by(try simp(disch:=omega)only[go_sem,C6,IJ])<;>rfl) ⟨rfl,rfl⟩ (by simp[lk]) ?_ trivial;refine gO ?_;refine .agg (Aj.AM ?_);refine gO ?_;exact .sl (by rw[List.set_eq_take_append_cons_drop,if_pos (by simpa using hil)];simp[Cause.c])
 ·have e:Sh1 w c i j 5 = { w with members:=w.members.drop 1 }:=by simp[Sh1]
  rw[e];refine gO ?_;have h5:(w.members.drop 1).take (w.members.length-1)=w.members.drop 1:=List.take_of_length_le (by simp);refine Ac h53 ?_;refine gO ?_;refine Bc ⟨[],[],[896,1216,1600]⟩ _ (by(try simp(disch:=omega)only[go_sem,C6,IJ])<;>rfl) ⟨rfl,rfl⟩ (by simp[lk]) ?_ trivial;simp(disch:=omega)only[go_sem,h5]
 ·have e:Sh1 w c i j 6 = { w with state:=⟨w.state.Aa,w.state.Ao.drop 1⟩ }:=by simp[Sh1]
  rw[e];refine gO ?_;have h6:(w.state.Ao.drop 1).take (w.state.Ao.length-1)=w.state.Ao.drop 1:=List.take_of_length_le (by simp);refine Ac h53 ?_;refine gO ?_;refine Bc ⟨[],[],[896,1216,1600]⟩ _ (by(try simp(disch:=omega)only[go_sem,C6,IJ])<;>rfl) ⟨rfl,rfl⟩ (by simp[lk]) ?_ trivial;simp(disch:=omega)only[go_sem,h6]
 ·have e:Sh1 w c i j 7 = { w with AJ:=w.AJ++[c] }:=by simp[Sh1]
  rw[e];refine gO ?_;refine Ac h53 ?_;refine gO ?_;refine Bc ⟨[],[],[3904,1216,1600]⟩ _ (by(try simp(disch:=omega)only[go_sem,C6,IJ])<;>rfl) ⟨rfl,rfl⟩ (by simp[lk]) ?_ trivial;refine gO ?_;refine .agg (Aj.AM ?_);refine gO ?_;exact .sl (by simp[Cause.c])
theorem Sj1{w:Wit}{a b:Int}(hf:Few w.state)(hm:w.members.length≤1000)(hc:w.AJ.length≤1000):Few (Si1 w a b).state∧(Si1 w a b).members.length≤1000∧(Si1 w a b).AJ.length≤2002:=by
 obtain⟨h1,h2,h3⟩:=hf;have hd:∀ k,(w.AJ.take k).length≤1000∧(w.AJ.drop k).length≤1000:=fun k=>by simp;omega
 unfold Si1;split
 ·exact⟨⟨h1,h2,h3⟩,hm,by omega⟩
 ·generalize (Ia a w.AJ.length).toNat=k;have d1:=(hd k).1;have d2:=(hd (k+1)).2;unfold Sh1
  repeat' split
  all_goals refine⟨⟨?_,?_,?_⟩,?_,?_⟩
  all_goals first|exact h1|exact h2|exact h3|exact hm|(simp only[List.length_append,List.length_drop,List.length_take,List.length_cons,List.length_nil]at *;omega)
theorem Sk1{q:Queue}{p:Ae}{c:Cause}(h:A6 q p=some c):1≤c.why∧c.why≤2:=by
 unfold A6 at h;split at h
 ·cases h
 ·injection h with h;subst h;simp
 ·injection h with h;subst h;simp
theorem RB{s:WS}(hv:AD s=true){l:List Ae}(hp:Ah (BY s l)=l):(A2 (BY s l).Aa l).length≤64:=by
 have hvr:=H7 hv l;obtain⟨h1,_,h3⟩:=(CK _).1 hvr;have h4:=((DO _).1 h1).1;rw[hp]at h3;have:=GO (BY s l).Aa l;have h5:l.length*(BY s l).Aa.length≤8*8:=Nat.mul_le_mul h3 h4;omega
theorem L8{s:WS}(hv:AD s=true)(hf:Few s)(hd:BG s=[]):Dl s=(wE,14):=by
 obtain⟨h1,h2⟩:=JA hv hf;unfold Dl;rw[F7 hv];show ofS s (BG s)=_;rw[hd]at h1 ⊢;unfold ofS;have hr:AP s []=(BY s [],0):=by simp[AP,hv]
 rw[hr];simp only[if_true,h1,List.length_nil,true_or,if_true]
theorem L9{s:WS}(hv:AD s=true)(hf:Few s)(hd:BG s≠[]):∃ w,Dl s=(w,0)∧w.members=BG s∧DQ w=0∧Hq w s=true∧w.AJ=A2 w.state.Aa w.members∧w.AJ.length≤64∧w.state=BY s (BG s):=by
 obtain⟨h1,h2⟩:=JA hv hf;obtain⟨w,a,b,c,d,e,f⟩:=W7 hv h1 hd h2;refine⟨w,?_,b,c,d,by rw[e,b];exact f,by rw[f];exact RB hv h1,e⟩;unfold Dl;rw[F7 hv];exact a
theorem f11_ok(l by_:List Int)(a b:Int):Ad C0 11 [I6 l,I6 by_,I a,I b] [] (B true) []:=by
 refine Ad.go f11 ?_;unfold f11;refine gO ?_;refine Ac (f15_ok l) ?_;cases h1:decide ((l.length:Int)≤300)
 ·simp(disch:=omega)only[go_sem,Bool.not_false];refine Ac f39_ok ?_;refine gO ?_;exact AE _
 have hl3:l.length≤300:=by simp at h1;omega
 simp(disch:=omega)only[go_sem,Bool.not_true,List.length_map]
 by_cases h2:(by_.length:Int) > 40
 ·simp(disch:=omega)only[go_sem,eq_true h2,decide_true];refine Ac f39_ok ?_;refine gO ?_;exact AE _
 have hb4:by_.length≤40:=by omega
 simp(disch:=omega)only[go_sem,eq_false h2,decide_false]
 by_cases h3:a<0
 ·simp(disch:=omega)only[go_sem,eq_true h3,decide_true];refine Ac f39_ok ?_;refine gO ?_;exact AE _
 simp(disch:=omega)only[go_sem,eq_false h3,decide_false]
 by_cases h4:a > 1000
 ·simp(disch:=omega)only[go_sem,eq_true h4,decide_true];refine Ac f39_ok ?_;refine gO ?_;exact AE _
 simp(disch:=omega)only[go_sem,eq_false h4,decide_false];refine Ac (f40_ok l by_ (by omega) (by omega)) ?_;have hf:Few (Iu (Hf l) by_):=Wr (LI l) by_;have hv:=Wb l by_;generalize Iu (Hf l) by_=s at hf hv ⊢;have hrl:(Bp s).2.length≤20000:=L2 hf;have hrd:(Bp s).2=BG s:=by rw[F7 hv];rfl
 obtain⟨k1,k2,k3,k4⟩:=Jc (Bp s).2 hf;have hbo:ofS s (Bp s).2=Dl s:=rfl;rw[hbo]at k1 k2 k3 k4;refine gO ?_;refine Ac (f42_ok s hf (by omega)) ?_
 by_cases hd:BG s=[]
 ·have hb:=L8 hv hf hd;rw[hb];simp(disch:=omega)only[go_sem,wE,wsE];refine Ac f39_ok ?_;refine gO ?_;exact AE _
 obtain⟨w,hb,hm,hck,hag,hca,hcl,hst⟩:=L9 hv hf hd;obtain⟨d1,d2⟩:=JA hv hf;have hvx:AD (BY s (BG s))=true:=H7 hv _;have hmp:w.members=Ah (BY s (BG s)):=by rw[hm,d1]
 have hml:w.members.length≤8:=by rw[hmp];exact((CK _).1 hvx).2.2
 rw[hst,hmp]at hca;rw[hb]at k1 k2 k3 k4 ⊢;simp only at k1 k2 k3 k4 ⊢;have hw:∀ c∈w.AJ,1≤c.why∧c.why≤2∧1≤c.members.length∧c.members.length≤1000000:=by
  intro c hc;have hbd:=k4 c hc;rw[hca]at hc;obtain⟨a1,_,_⟩:=Sg1 hvx hc;obtain⟨_,_,_,_,hq⟩:=FK.1 hc;obtain⟨w1,w2⟩:=Sk1 hq;refine⟨w1,w2,?_,hbd⟩;cases hx:c.members with
  | nil=>exact absurd hx a1
  | cons _ _=>simp
 have h47:=f47_ok w a b (by omega) (by have:=k1.nn;omega) (by omega) (by omega) hw;obtain⟨x1,x2,x3⟩:=Sj1 (a:=a) (b:=b) k1 (show w.members.length≤1000 by omega) (show w.AJ.length≤1000 by omega);generalize Si1 w a b=x at h47 x1 x2 x3;refine gO ?_;refine Ac h47 ?_;refine gO ?_;refine Ac (f44_ok x x1 (by omega) (by omega)) ?_;refine gO ?_;refine Ac (f20_ok x.state x1) ?_;refine gO ?_;refine Ac f39_ok ?_;refine gO ?_;refine Ac (f48_ok x x1 (by omega) (by omega)) ?_
 by_cases hx:DQ x=0
 ·have hdd:=(Sv0 hx).2;have hxl:(Bp x.state).2.length≤20000:=L2 x1;simp(disch:=omega)only[go_sem,hx];refine Ac (f24_ok (Bp x.state).2 x.members (by omega) (by omega)) ?_;have hsm:decide ((Bp x.state).2=x.members)=true:=by rw[hdd];simp
  simp(disch:=omega)only[go_sem,hsm];exact AE _
 ·have hx':(DQ x !=0)=true:=by simpa using hx
  simp(disch:=omega)only[go_sem,hx',beq_self_eq_true];exact AE _
end Go.Rd
