/- part 22 of the proof -/
import Derived.Test.YthachdiockkofaaGreatDoorL21
set_option linter.all false
open Go Go.Abs Go.Proofs
set_option maxRecDepth 100000
namespace Go.Rd
set_option maxHeartbeats 8000000
open List (cons_append length_map map_cons map_nil map_set nil_append)
open Tryz
def mid{α:Type}(l:List α)(k:Nat)(p:α):List α:=l.take k++p::l.drop k
section
variable {α:Type}
def Ui(l:List α)(k:Nat)(p:α)(h:k≤l.length):(mid l k p).length=l.length+1:=by simp[mid];omega
def Yk(l:List α)(k:Nat)(p:α)(h:k≤l.length):(mid l k p)[k]?=some p:=by
 unfold mid;rw[List.getElem?_append_right (by simp;omega)];simp[Nat.min_eq_left h]
def VV(l:List α)(k:Nat)(p:α)(h:k+1≤l.length):(mid l (k+1) p)[k]?=l[k]?:=by
 unfold mid;rw[List.getElem?_append_left (by simp;omega),List.getElem?_take,if_pos (by omega)]
def VW{l:List α}{k:Nat}{p x:α}(hx:l[k]?=some x):((mid l (k+1) p).set (k+1) x).set k p=mid l k p:=by
 have hk:=Aj hx;have hd:l.drop k=x::l.drop (k+1):=by rw[List.drop_eq_getElem_cons hk,get_eq hx]
 have ht:l.take (k+1)=l.take k++[x]:=by rw[tA,hx];rfl
 unfold mid;rw[ht,hd];have hl:(l.take k).length=k:=by simp;omega
 rw[List.append_assoc,List.set_append_right _ _ (by omega),hl];simp only[List.singleton_append,Nat.add_sub_cancel_left,List.set_cons_succ,List.set_cons_zero];rw[List.set_append_right _ _ (by omega),hl];simp
def Uj(l:List α)(k:Nat)(p x:α):x∈mid l k p↔x∈l∨x=p:=by
 unfold mid
 conv=>rhs;rw[← List.take_append_drop k l]
 simp only[List.mem_append,List.mem_cons];constructor
 ·rintro(h|h|h)
  ·exact .inl (.inl h)
  ·exact .inr h
  ·exact .inl (.inr h)
 ·rintro((h|h)|h)
  ·exact .inl h
  ·exact .inr (.inr h)
  ·exact .inr (.inl h)
end
@[reducible] def ca(l:List Bs):AV:=.sl .no 1 (l.map fun s=>[.v (.string (str s))])
@[reducible] def Yy(r:Nat)(l:List Bs):AV:=.sl (.own r 0) 1 (l.map fun s=>[.v (.string (str s))])
def IM(l:List Bs)(n:Bs):Nat→Nat
 | 0=>0
 | k+1=>if BX n (l.getD k []) then IM l n k else k+1
def PV(l:List Bs)(n:Bs):List Bs:=if n∈l then l else mid l (IM l n l.length) n
def B3(l:List Entry):List Bs:=(l.map (·.name)).foldl PV []
def Wy(l:List Bs)(n:Bs):∀ k,IM l n k≤k
 | 0=>by simp[IM]
 | k+1=>by
  simp only[IM];split
  ·have:=Wy l n k;omega
  ·omega
def aZ(l:List Bs)(n:Bs):(PV l n).length≤l.length+1:=by
 unfold PV;split
 ·omega
 ·rw[Ui _ _ _ (Wy l n _)];omega
def Lt{l:List Entry}{i:Nat}{b:Entry}(hb:l[i]?=some b):B3 (l.take (i+1))=PV (B3 (l.take i)) b.name:=by
 simp[B3,tA,hb,List.foldl_append]
def MT{l:List Entry}:∀ i,i≤l.length→(B3 (l.take i)).length≤i
 | 0,_=>by simp[B3]
 | i+1,h=>by
  obtain⟨b,hb⟩:∃ b,l[i]?=some b:=⟨_,gE (by omega)⟩;rw[Lt hb];have:=aZ (B3 (l.take i)) b.name;have:=MT (l:=l) i (by omega);omega
def f249_ok(l:List Entry)(hl:l.length≤1000000):Ad C0 249 [Eo l] [] (ca (B3 l)) []:=by
 refine Ad.go f249 ?_;unfold f249;refine gO ?_;refine Ac (α:=Nat) (fun i=>⟨[(4,I i),(3,Yy 2688 (B3 (l.take i))),(0,Eo l)],[]⟩) (fun i=>i≤(l).length∧True) (fun i=>(l).length-i) 0 ⟨by omega,trivial⟩ ?_ ?_
 ·refine Imp.Ar ?_ ?_
  all_goals(try simp(disch:=omega)only[go_sem])
  all_goals(try(repeat'(with_reducible apply And.intro)))
  all_goals(first|exact .AO (by omega)|exact .AJ (by omega)|exact .sl (by simp[B3])|exact .int (by simp[B3])|exact .eq (by simp[B3]))
 rintro i ⟨hi,hP⟩ J hJ;refine gO ?_;refine gR (l:=l) hi (fun b hb hbm hlt=>?_) (fun hil=>?_)
 ·have hnl:=MT i hi;generalize hout:B3 (l.take i)=out at hnl ⊢;refine Ac (α:=Nat) (fun k=>⟨[(6,I k),(5,B (decide (b.name∈out.take k))),(4,I i),(3,Yy 2688 out),(0,Eo l)],[]⟩) (fun k=>k≤out.length) (fun k=>out.length-k) 0 (by omega) ?_ ?_
  ·refine Imp.Ar ?_ ?_
   all_goals simp(disch:=omega)only[go_sem]
  rintro k hk J2 hJ2;refine gO ?_;refine And.intro (fun hlt3=>?_) (fun hge3=>?_)
  ·obtain⟨x,hx⟩:∃ x,out[k]?=some x:=⟨_,gE (by simp at hlt3;omega)⟩;refine Aw 11 [([],[5]),([],[21]),([],[3,22]),([],[6,22]),([],[23,24,22]),([],[25,22]),([],[0,22]),([],[4,22]),([],[27,28,22]),([],[29,22]),([],[30,22])] fol ?_;have nxt:decide (b.name∈out.take (k+1))=(decide (b.name∈out.take k)||x==b.name):=by
    rw[tA,hx]
    by_cases h2:x=b.name
    ·simp[h2]
    ·have h3:b.name≠x:=Ne.symm h2;simp[h2,h3]
   cases hc:decide (b.name∈out.take k)
   ·simp(disch:=omega)only[go_sem,gm,hx,hb];refine hJ2 _ (k+1) (by simp at hlt3;omega) (by simp at hlt3;omega) (Imp.Ar ?_ ?_)
    all_goals(try simp(disch:=omega)only[go_sem])
    rw[nxt,hc,Bool.false_or];exact .rfl
   ·simp(disch:=omega)only[go_sem,gm,hx,hb];refine hJ2 _ (k+1) (by simp at hlt3;omega) (by simp at hlt3;omega) (Imp.Ar ?_ ?_)
    all_goals(try simp(disch:=omega)only[go_sem])
    rw[nxt,hc,Bool.true_or];exact .rfl
  have hke:k=out.length:=by simp at hge3;omega
  subst hke;rw[tL];cases hin:decide (b.name∈out);rotate_left
  ·simp(disch:=omega)only[go_sem];have e:B3 (l.take (i+1))=out:=by rw[Lt hb,hout,PV,if_pos (by simpa using hin)]
   refine hJ _ (i+1) ⟨by omega,trivial⟩ (by omega) (Imp.Ar ?_ ?_)
   all_goals(try simp(disch:=omega)only[go_sem])
   all_goals(try(repeat'(with_reducible apply And.intro)))
   all_goals(first|exact .AO (by omega)|exact .AJ (by omega)|exact .sl (by simp[e])|exact .int (by simp[e])|exact .eq (by simp[e]))
  have hbd:out.length+1≤4294967296:=by omega
  have hnin:b.name∉out:=by simpa using hin
  simp(disch:=omega)only[go_sem,gm,hb];refine Ac (α:=Nat) (fun k=>⟨[(7,I k),(4,I i),(3,Yy 2688 (mid out k b.name)),(0,Eo l)],[]⟩) (fun k=>k≤out.length∧IM out b.name out.length=IM out b.name k) (fun k=>k) out.length ⟨by omega,rfl⟩ ?_ ?_
  ·refine Imp.Ar ?_ ?_
   all_goals(try simp(disch:=omega)only[go_sem])
   all_goals(try(repeat'(with_reducible apply And.intro)))
   all_goals(first|exact .int (by simp;omega)|exact .int (by simp)|exact .sl (by simp[mid]))
  rintro k ⟨hk,hs⟩ J2 hJ2;have fin:IM out b.name k=k→∀ st',Imp ⟨C0,[],[]⟩ st' ⟨[(4,I (i+1:Nat)),(3,Yy 2688 (mid out k b.name)),(0,Eo l)],[]⟩→J st':=fun hst st' him =>
   hJ st' (i+1) ⟨by omega,trivial⟩ (by omega) (by
    have e:B3 (l.take (i+1))=mid out k b.name:=by rw[Lt hb,hout,PV,if_neg hnin,hs,hst]
    rw[e];exact him)
  refine Aw 12 [([],[7]),([],[46]),([],[47]),([],[3,48]),([],[7,48]),([],[49,50,48]),([],[51,48]),([],[3,48]),([],[7,48]),([],[54,48]),([],[53,55,48]),([],[56,48])] fol ?_;cases k with
  | zero =>
   have e0:(0<((0:Nat):Int))=False:=by simp
   simp(disch:=omega)only[go_sem,e0,decide_false];exact fin rfl _ AT
  | succ k =>
   have e0:(0<(((k+1:Nat)):Int))=True:=eq_true (by omega);have e1:(0<(k:Int)+1)=True:=eq_true (by omega);have e2:((k:Int)+1-1)=(k:Int):=by omega
   obtain⟨x,hx⟩:∃ x,out[k]?=some x:=⟨_,gE (by omega)⟩;have g1:=Yk out (k+1) b.name hk;have g2:=VV out k b.name hk;rw[hx]at g2;have hml:=Ui out (k+1) b.name hk;have z1:k<(mid out (k+1) b.name).length:=by omega
   have z2:k+1<(mid out (k+1) b.name).length:=by omega
   simp(disch:=omega)only[go_sem,e0,e1,e2,gm,g1,g2,length_map,hml];cases hc:Op.bytesLess b.name x
   ·simp(disch:=omega)only[go_sem];exact fin (by simp[IM,BX,List.getD,hx,hc]) _ AT
   ·have e4:(k=k+1)=False:=eq_false (by omega);have e5:(k+1=k)=False:=eq_false (by omega);simp(disch:=omega)only[go_sem,e2,gm,g1,g2,length_map,hml,List.length_set,List.getElem?_set,e4,e5];refine hJ2 _ k ⟨by omega,by rw[hs];simp[IM,BX,List.getD,hx,hc]⟩ (by omega) (Imp.Ar ?_ gI);refine gO ?_;refine .sl ?_;rw[← VW hx,map_set,map_set]
 ·subst hil;simp(disch:=omega)only[go_sem,tL];refine CL ⟨[],[],[2688]⟩ _ ?_;simp(disch:=omega)only[go_sem]
def s0:Save:=⟨0,0⟩
def CS:Ledger:=⟨[],[]⟩
def EU(l:List Entry)(i:Nat)(e:Entry):Bool:=BM e.name&&decide (e.before=An (l.take i) e.name)&&DA e.before e.after
def EL(l:Ledger)(i:Nat)(s:Save):Bool:=decide (1≤s.label)&&decide (s.label≤99)&&decide (0≤s.pos)&&decide (s.pos≤l.entries.length)&&(decide (i=0)||decide ((l.AG.getD (i-1) s0).pos≤s.pos))&&decide (JD l.AG s.label=(i:Int))
def A9(l:Ledger):Bool:=decide (l.entries.length≤72)&&decide (l.AG.length≤4)&&Ca (EU l.entries) l.entries&&decide ((B3 l.entries).length≤8)&&Ca (EL l) l.AG
def f169_ok(l:Ledger):Ad C0 169 [.agg l.c] [] (B (A9 l)) []:=by
 have bad:A9 l=false→BZ (B false) (B (A9 l)):=fun h=>wb h.symm
 refine Ad.go f169 ?_;unfold f169
 by_cases h1:72<l.entries.length
 ·have e1:(72<(l.entries.length:Int))=True:=eq_true (by omega);simp(disch:=omega)only[go_sem,e1,decide_true];refine As _ ?_;exact wb (by simp[A9];omega)
 have e1:(72<(l.entries.length:Int))=False:=eq_false (by omega)
 by_cases h2:4<l.AG.length
 ·have e2:(4<(l.AG.length:Int))=True:=eq_true (by omega);simp(disch:=omega)only[go_sem,e1,e2,decide_true,decide_false];refine As _ ?_;exact wb (by simp[A9];omega)
 have e2:(4<(l.AG.length:Int))=False:=eq_false (by omega);simp(disch:=omega)only[go_sem,e1,e2,decide_false];refine Ac (α:=Nat) (fun i=>⟨[(3,I i),(1,.ptr 64 0)],[(64,l.c)]⟩) (fun i=>i≤(l.entries).length∧Ca (EU l.entries) (l.entries.take i)=true) (fun i=>(l.entries).length-i) 0 ⟨by omega,rfl⟩ ?_ ?_
 ·exact B0
 rintro i ⟨hi,hP⟩ J hJ;refine gO ?_;refine ⟨fun hlt=>?_,fun hge=>?_⟩;rotate_left;have hil:i=(l.entries).length:=by simp at hge;omega
 rotate_left;obtain⟨b,hb⟩:∃ b,(l.entries)[i]?=some b:=⟨_,gE (by simp at hlt;omega)⟩;have hbm:=mG hb;have hlt2:i<(l.entries).length:=by simp at hlt;omega
 simp(disch:=omega)only[go_sem,gm,hb]
 ·refine Aw 21 [([],[4]),([],[29]),([],[30]),([2],[31]),([2],[32]),([2],[4,33]),([2],[34,33]),([2],[1,33]),([2],[36,33]),([2],[3,33]),([2],[37,38,33]),([2],[4,33]),([2],[40,33]),([2],[39,41,33]),([2,13],[35,42,33]),([2,13],[33,43]),([2,13],[44]),([2,13],[4,45]),([2,13],[46,45]),([2,13],[4,45]),([2,13],[48,45])] fol ?_;refine gO ?_;have no:EU l.entries i b=false→A9 l=false:=fun h=>by simp only[A9,BI hb h,Bool.and_false,Bool.false_and]
  have yes:EU l.entries i b=true→Ca (EU l.entries) (l.entries.take (i+1))=true:=fun h=>by rw[Cr hb,hP,h];rfl
  first|(refine Ae (f247_ok b.name) ?_)|(refine Av (f247_ok b.name) ?_)
  cases h3:BM b.name
  ·simp(disch:=omega)only[go_sem];refine As _ ?_;exact wb (by rw[no (by simp[EU,h3])])
  simp(disch:=omega)only[go_sem,gm,hb]
  first|(refine Ae (f190_ok (l.entries.take i) b.name) ?_)|(refine Av (f190_ok (l.entries.take i) b.name) ?_)
  refine gO ?_;cases h4:decide (b.before=An (l.entries.take i) b.name)
  ·simp(disch:=omega)only[go_sem,h4];refine As _ ?_;exact wb (by rw[no (by simp only[EU,h3,h4];rfl)])
  simp(disch:=omega)only[go_sem,h4]
  first|(refine Ae (f248_ok b.before b.after) ?_)|(refine Av (f248_ok b.before b.after) ?_)
  cases h5:DA b.before b.after
  ·simp(disch:=omega)only[go_sem];refine As _ ?_;exact wb (by rw[no (by simp only[EU,h3,h4,h5];rfl)])
  refine gO ?_;refine hJ _ (i+1) ⟨by simp at hlt;omega,yes (by simp only[EU,h3,h4,h5];rfl)⟩ (by simp at hlt;omega) AT
 subst hil;rw[tL]at hP;refine Ae (f249_ok l.entries (by omega)) ?_
 by_cases h6:8<(B3 l.entries).length
 ·have e6:(8<((B3 l.entries).length:Int))=True:=eq_true (by omega);simp(disch:=omega)only[go_sem,e6,decide_true];refine As _ ?_;exact wb (by simp[A9];omega)
 have e6:(8<((B3 l.entries).length:Int))=False:=eq_false (by omega);simp(disch:=omega)only[go_sem,e6,decide_false];have hP1:=hP;clear hP hJ hi hge;refine Ac (α:=Nat) (fun i=>⟨[(5,I i),(1,.ptr 64 0)],[(64,l.c)]⟩) (fun i=>i≤(l.AG).length∧Ca (EL l) (l.AG.take i)=true) (fun i=>(l.AG).length-i) 0 ⟨by omega,rfl⟩ ?_ ?_
 ·exact B0
 rintro i ⟨hi,hP⟩ J hJ;refine gO ?_;refine ⟨fun hlt=>?_,fun hge=>?_⟩;rotate_left;have hil:i=(l.AG).length:=by simp at hge;omega
 rotate_left;obtain⟨b,hb⟩:∃ b,(l.AG)[i]?=some b:=⟨_,gE (by simp at hlt;omega)⟩;have hbm:=mG hb;have hlt2:i<(l.AG).length:=by simp at hlt;omega
 simp(disch:=omega)only[go_sem,gm,hb]
 ·have no:EL l i b=false→A9 l=false:=fun h=>by simp only[A9,BI hb h,Bool.and_false]
  have yes:EL l i b=true→Ca (EL l) (l.AG.take (i+1))=true:=fun h=>by rw[Cr hb,hP,h];rfl
  refine Aw 44 [([],[6]),([],[70]),([],[71]),([],[72]),([],[6,73]),([],[74,73]),([],[75,73]),([],[73,76]),([],[77]),([],[6,78]),([],[79,78]),([],[80,78]),([],[78,81]),([],[82]),([],[6,83]),([],[84,83]),([],[1,83]),([],[86,83]),([],[87,83]),([],[85,88,83]),([],[83,89]),([],[90]),([],[5,91]),([],[92,91]),([],[93,91]),([],[1,94]),([],[95,94]),([],[5,94]),([],[97,94]),([],[96,98,94]),([],[99,94]),([],[100,94]),([],[6,94]),([],[102,94]),([],[101,103,94]),([],[94,104,91]),([],[91,105]),([],[106]),([],[1,107]),([],[108,107]),([],[6,107]),([],[110,107]),([],[109,111,107]),([],[5,107])] fol ?_
  by_cases c1:b.label<1
  ·have f1:=eq_true c1;simp(disch:=omega)only[go_sem,f1,decide_true];refine As _ ?_;exact wb (by rw[no (by simp[EL,show ¬ (1≤b.label) by omega])])
  have f1:=eq_false c1
  by_cases c2:99<b.label
  ·have f2:=eq_true c2;simp(disch:=omega)only[go_sem,f1,f2,decide_true,decide_false];refine As _ ?_;exact wb (by rw[no (by simp[EL,show ¬ (b.label≤99) by omega])])
  have f2:=eq_false c2
  by_cases c3:b.pos<0
  ·have f3:=eq_true c3;simp(disch:=omega)only[go_sem,f1,f2,f3,decide_true,decide_false];refine As _ ?_;exact wb (by rw[no (by simp[EL,show ¬ (0≤b.pos) by omega])])
  have f3:=eq_false c3
  by_cases c4:(l.entries.length:Int)<b.pos
  ·have f4:=eq_true c4;simp(disch:=omega)only[go_sem,f1,f2,f3,f4,decide_true,decide_false];refine As _ ?_;exact wb (by rw[no (by simp[EL,show ¬ (b.pos≤(l.entries.length:Int)) by omega])])
  have f4:=eq_false c4;have base:EL l i b=((decide (i=0)||decide ((l.AG.getD (i-1) s0).pos≤b.pos))&&decide (JD l.AG b.label=(i:Int))):=by
   simp[EL,show 1≤b.label by omega,show b.label≤99 by omega,show 0≤b.pos by omega,show b.pos≤(l.entries.length:Int) by omega]
  have last:(decide (i=0)||decide ((l.AG.getD (i-1) s0).pos≤b.pos))=true→EL l i b=decide (JD l.AG b.label=(i:Int)):=fun h=>by rw[base,h,Bool.true_and]
  by_cases hi0:i=0
  ·subst hi0;have g0:=last (by simp);simp(disch:=omega)only[go_sem,f1,f2,f3,f4,decide_false]
   first|(refine Ae (f194_ok l.AG b.label) ?_)|(refine Av (f194_ok l.AG b.label) ?_)
   refine gO ?_;refine And.intro (fun hh=>?_) (fun hh=>?_)
   ·refine As _ ?_;exact wb (by rw[no (by rw[g0];simpa using hh)])
   ·refine hJ _ 1 ⟨by omega,yes (by rw[g0];simpa using hh)⟩ (by omega) AT
  have hi1:(0<(i:Int))=True:=eq_true (by omega);have hi2:((i:Int)-1)=((i-1:Nat):Int):=by omega
  obtain⟨a,ha'⟩:∃ a,l.AG[i-1]?=some a:=⟨_,gE (by omega)⟩;have had:l.AG.getD (i-1) s0=a:=by simp[List.getD,ha']
  by_cases c5:b.pos<a.pos
  ·have f5:=eq_true c5;simp(disch:=omega)only[go_sem,f1,f2,f3,f4,f5,hi1,hi2,gm,ha',hb,decide_true,decide_false];refine As _ ?_;exact wb (by rw[no (by rw[base,had];simp[hi0];omega)])
  have f5:=eq_false c5;have g0:=last (by rw[had];simp;omega);simp(disch:=omega)only[go_sem,f1,f2,f3,f4,f5,hi1,hi2,gm,ha',hb,decide_true,decide_false]
  first|(refine Ae (f194_ok l.AG b.label) ?_)|(refine Av (f194_ok l.AG b.label) ?_)
  refine gO ?_;refine And.intro (fun hh=>?_) (fun hh=>?_)
  ·refine As _ ?_;exact wb (by rw[no (by rw[g0];simpa using hh)])
  ·refine hJ _ (i+1) ⟨by omega,yes (by rw[g0];simpa using hh)⟩ (by omega) AT
 subst hil;rw[tL]at hP;refine As _ ?_;exact wb (by simp[A9,hP,hP1];omega)
def Xo(x:AP):AP:={ x with CQ:=x.CQ+1 }
def Wc(l:List AP)(w:AP):KW l w=l.take (E0 l w l.length)++w::(l.drop (E0 l w l.length)).map Xo:=rfl
def Lp(l:List AP)(w:AP):List AP × Int × Int:=if !Dr l then ([],0,2) else if !w.ok||w.CQ !=0 then ([],0,1) else if 0≤Fv l w.proc then ([],0,11) else if l.length=8 then ([],0,4) else (KW l w,((E0 l w l.length:Nat):Int),0)
def f291_ok(l:List AP)(w:AP)(hl:l.length≤1000000):Ad C0 291 [Be l,.agg w.c] [] (.tup [Be (Lp l w).1,I (Lp l w).2.1,I (Lp l w).2.2]) []:=by
 refine Ad.go f291 ?_;unfold f291;refine gO ?_;refine Ae (f282_ok l hl) ?_;cases h1:Dr l
 ·have e:Lp l w=([],0,2):=by simp[Lp,h1]
  simp(disch:=omega)only[go_sem,e,map_nil];exact FQ _
 refine gO ?_;refine Ae (f315_ok w) ?_;cases h2:w.ok
 ·have e:Lp l w=([],0,1):=by simp[Lp,h1,h2]
  simp(disch:=omega)only[go_sem,e,map_nil];exact FQ _
 refine gO ?_;cases h3:(w.CQ !=0);rotate_left
 ·have e:Lp l w=([],0,1):=by simp[Lp,h1,h2,h3]
  simp(disch:=omega)only[go_sem,e,map_nil,h3];exact FQ _
 simp(disch:=omega)only[go_sem,h3];refine Ae (f153_ok l w.proc hl) ?_
 by_cases h4:0≤Fv l w.proc
 ·have e:Lp l w=([],0,11):=by simp[Lp,h1,h2,h3,h4]
  simp(disch:=omega)only[go_sem,e,map_nil,eq_true h4,decide_true];exact FQ _
 simp(disch:=omega)only[go_sem,eq_false h4,decide_false];have hl8:l.length≤8:=((Ct l).1 h1).1
 by_cases h5:l.length=8
 ·have e:Lp l w=([],0,4):=by simp[Lp,h1,h2,h3,h4,h5]
  have e5:((l.length:Int)==8)=true:=by simp[h5]
  simp(disch:=omega)only[go_sem,e,map_nil,e5];exact FQ _
 have e5:((l.length:Int)==8)=false:=by simp;omega
 simp(disch:=omega)only[go_sem,e5];have e:Lp l w=(KW l w,((E0 l w l.length:Nat):Int),0):=by simp[Lp,h1,h2,h3,h4,h5]
 rw[e];refine Ac (α:=Nat) (fun k=>⟨[(7,I k),(0,Be l),(3,.ptr 192 0)],[(192,w.c)]⟩) (fun k=>k≤l.length∧E0 l w l.length=E0 l w k) (fun k=>k) l.length ⟨by omega,rfl⟩ AT ?_;rintro k ⟨hk,hs⟩ J hJ;have hcase:k=0∨(∃ j x,k=j+1∧l[j]?=some x∧¬ x.prio<w.prio)∨(∃ j x,k=j+1∧l[j]?=some x∧x.prio<w.prio∧¬ x.CQ<3)∨(∃ j x,k=j+1∧l[j]?=some x∧x.prio<w.prio∧x.CQ<3):=by
  cases k with
  | zero=>exact .inl rfl
  | succ j =>
   obtain⟨x,hx⟩:∃ x,l[j]?=some x:=⟨_,gE (by omega)⟩
   by_cases c1:x.prio<w.prio
   ·by_cases c2:x.CQ<3
    ·exact .inr (.inr (.inr ⟨j,x,rfl,hx,c1,c2⟩))
    ·exact .inr (.inr (.inl ⟨j,x,rfl,hx,c1,c2⟩))
   ·exact .inr (.inl ⟨j,x,rfl,hx,c1⟩)
 have hget:∀ j x,l[j]?=some x→l.getD j w0=x:=fun j x h=>by simp[List.getD,h]
 have fin:(¬ ∃ j x,k=j+1∧l[j]?=some x∧x.prio<w.prio∧x.CQ<3)→KW l w=l.take k++w::(l.drop k).map Xo∧E0 l w l.length=k:=fun h=>by
  have:E0 l w k=k:=by
   cases k with
   | zero=>rfl
   | succ j =>
    obtain⟨x,hx⟩:∃ x,l[j]?=some x:=⟨_,gE (by omega)⟩;simp only[E0,hget j x hx];rw[if_neg fun hc=>h ⟨j,x,rfl,hx,hc.1,hc.2⟩]
  rw[Wc,hs,this];exact⟨rfl,rfl⟩
 refine Aw 17 [([],[7]),([],[32]),([],[33]),([],[0,34]),([],[7,34]),([],[36,34]),([],[35,37,34]),([],[38,34]),([],[39,34]),([],[3,34]),([],[41,34]),([],[40,42,34]),([],[34,43]),([],[44]),([],[0,45]),([],[7,45]),([],[47,45])] fol ?_;rcases hcase with h0|⟨j,x,hj,hx,c1⟩|⟨j,x,hj,hx,c1,c2⟩|⟨j,x,hj,hx,c1,c3⟩
 rotate_left 3
 ·subst hj;simp(disch:=omega)only[go_sem,eq_true (show 0<((j+1:Nat):Int) by omega),eq_true (show 0<(j:Int)+1 by omega),(show ((j:Int)+1-1)=(j:Int) by omega),gm,hx,eq_true c1,eq_true c3,decide_true];refine hJ _ j ⟨by omega,by rw[hs];simp only[E0,hget j x hx];rw[if_pos ⟨c1,c3⟩]⟩ (by omega) AT
 all_goals first
  |(have hne:=fin (fun⟨j',x',a,b,c,d⟩=>by obtain rfl:j=j':=(by omega);rw[hx]at b;cases b;omega);simp(disch:=omega)only[go_sem,eq_true (show 0<(k:Int) by omega),(show ((k:Int)-1)=(j:Int) by omega),gm,hx,eq_true c1,eq_false c2,decide_true,decide_false])
  |(have hne:=fin (fun⟨j',x',a,b,c,d⟩=>by obtain rfl:j=j':=(by omega);rw[hx]at b;cases b;omega);simp(disch:=omega)only[go_sem,eq_true (show 0<(k:Int) by omega),(show ((k:Int)-1)=(j:Int) by omega),gm,hx,eq_false c1,decide_false])
  |(have hne:=fin (fun⟨j',x',a,b,c,d⟩=>by omega);simp(disch:=omega)only[go_sem,eq_false (show ¬ 0<(k:Int) by omega),decide_false])
 all_goals
  rw[hne.1,hne.2];clear fin hJ hs;have hbd3:(l.take k).length+1≤4294967296:=by simp;omega
  refine Dg 511 [(0,1,0),(1,2,0),(2,4,0),(3,8,6),(4,16,9),(5,32,0),(6,64,32),(7,128,80),(8,256,255)] [0,1,2,4,32,3,5,33,6,34,36,96,7,35,37,97,14,38,98,100,15,39,99,101,46,102,31,47,103,110,63,111,127,255,511] (fun m=>⟨sel m [(1,56,(if m / 16%2=1 then .undef else .sl (.own 3584 0) 7 [])),(2,57,Be l),(4,58,I k),(8,59,.sl .no 7 ((l.take k).map AP.c)),(16,60,(if m / 128%2=1 then .undef else .sl (.own 3840 0) 7 ((l.take k).map AP.c))),(32,61,.agg w.c),(64,62,.sl (.own 3968 0) 7 [w.c]),(128,63,.sl (.own 4032 0) 7 ((l.take k++[w]).map AP.c)),(256,8,.sl (.own 4032 0) 7 ((l.take k++[w]).map AP.c))]++[(7,I k),(0,Be l),(3,.ptr 192 0)],[(192,w.c)]⟩) ?_ ?_ ?_ fol
  ·exact AT
  ·simp (maxSteps:=100000000)only[Df,De,DY,DX,and_true,Nat.reduceDiv,Nat.reduceMod,Nat.reduceAnd,Nat.reduceEqDiff,reduceIte,true_and,and_false,false_and,and_self]
   repeat'(with_reducible refine And.intro ?_ ?_)
   all_goals simp(disch:=omega)only[go_sem,nil_append,List.map_append,map_cons,map_nil]
   all_goals exact Imp.Ar (by simp(disch:=omega)only[go_sem,List.map_append,map_cons,map_nil]) gI
  refine gO ?_;refine Ac (α:=Nat) (fun i=>⟨[(9,I i),(8,.sl (.own 5248 0) 7 ((l.take k++w::((l.drop k).take (i-k)).map Xo).map AP.c)),(0,Be l),(7,I k)],[]⟩) (fun i=>k≤i∧i≤l.length) (fun i=>l.length-i) k ⟨by omega,hk⟩ ?_ ?_
  ·refine Imp.ren ⟨[(4032,5248)],[],[]⟩ ⟨rfl,rfl⟩ (by simp[lk]) ?_ ?_
   all_goals(try simp(disch:=omega)only[go_sem])
   all_goals(try(repeat'(with_reducible apply And.intro)))
   all_goals(exact .sl (by simp))
  rintro i ⟨hi1,hi2⟩ J2 hJ2;refine gO ?_;refine ⟨fun hlt=>?_,fun hge=>?_⟩
  ·obtain⟨b,hb⟩:∃ b,l[i]?=some b:=⟨_,gE (by simp at hlt;omega)⟩;have hbd2:(l.take k++w::((l.drop k).take (i-k)).map Xo).length+1≤4294967296:=by simp;omega
   have hbok:=((Ct l).1 h1).2.2 b (mG hb);have hbp:0≤b.CQ∧b.CQ≤3:=by simp[AP.ok,AI]at hbok;omega
   have hnx:(l.drop k).take (i+1-k)=(l.drop k).take (i-k)++[b]:=by
    rw[show i+1-k=(i-k)+1 by omega,tA,List.getElem?_drop,show k+(i-k)=i by omega,hb];rfl
   simp(disch:=omega)only[go_sem,gm,hb];refine hJ2 _ (i+1) ⟨by omega,by simp at hlt;omega⟩ (by simp at hlt;omega) (Imp.Ar ?_ ?_)
   all_goals(try simp(disch:=omega)only[go_sem])
   exact .sl (by rw[hnx];simp[Xo,AP.c])
  ·have hil:i=l.length:=by simp at hge;omega
   subst hil;rw[show (l.drop k).take (l.length-k)=l.drop k from List.take_of_length_le (by simp)];refine CL ⟨[],[],[5248]⟩ _ ?_;simp(disch:=omega)only[go_sem]
def Bn(q:Queue)(p:Ab):Queue × List AK × Int:=if !valid q then (q0,[],2) else if !(Aq q p).isSome then (q0,[],10) else (ET (DZ q p),(BT (DZ q p)).2,0)
def A7(q:Queue)(p:Ab)(a:Amt):Queue × List AK × Int:=if !valid q then (q0,[],2) else if (At q.holds p).zero then (q0,[],10) else if (Aq q p).isSome then (q0,[],14) else if !q.res.covers (At q.holds p) a then (q0,[],12) else if decide (At q.holds p=a) then (q,[],0) else (ET (ID q p a),(BT (ID q p a)).2,0)
def FY(q:Queue)(p:Ab)(a:Amt):Queue:={ q with Ao:=q.Ao++[⟨p,C8 q.res (At q.holds p) a,0,0⟩] }
def Ga(q:Queue)(p:Ab)(a:Amt)(prio:Int):Queue:={ q with waits:=KW q.waits ⟨p,a,prio,0⟩ }
def A3(q:Queue)(p:Ab)(a:Amt)(prio:Int):Queue × List AK × Int:=if !valid q then (q0,[],2) else if !p.ok then (q0,[],1) else if decide (prio<0) then (q0,[],1) else if decide (7<prio) then (q0,[],1) else if !q.res.fits a then (q0,[],12) else if (Aq q p).isSome then (q0,[],14)
 else if q.res.covers (At q.holds p) a then (q,[],0) else if !(At q.holds p).zero then (ET (FY q p a),(BT (FY q p a)).2,0) else if decide (8≤(q.holds.length:Int)+q.waits.length) then (q0,[],4) else (ET (Ga q p a prio),(BT (Ga q p a prio)).2,0)
def E1{q:Queue}{p:Ab}(h:(Aq q p).isSome=false):Aq q p=none:=by
 cases hw:Aq q p
 ·rfl
 ·rw[hw]at h;cases h
def f292_ok(q:Queue)(p:Ab)(h:BG q≤100):Ad C0 292 [.agg q.c,.agg p.c] [] (.tup [.agg (Bn q p).1.c,AL (Bn q p).2.1,I (Bn q p).2.2]) []:=by
 obtain⟨h1,h2,h3⟩:=Bu h;refine Ad.go f292 ?_;unfold f292;refine gO ?_;refine Ae (f158_ok q h1 h3) ?_;cases hv:valid q
 ·have e:Bn q p=(q0,[],2):=by simp[Bn,hv]
  simp(disch:=omega)only[go_sem,zF,e,q0];refine As _ ?_;refine .tup (Ai.AR ?_);simp(disch:=omega)only[go_sem]
  repeat'(with_reducible apply And.intro)
  all_goals(first|exact .AJ (by omega)|exact .agg (Ai.AR gI))
 refine gO ?_;refine Ae (f98_ok q p h2 h3) ?_;cases hw:(Aq q p).isSome
 ·have e:Bn q p=(q0,[],10):=by simp[Bn,hv,hw]
  simp(disch:=omega)only[go_sem,zF,e,q0];refine As _ ?_;refine .tup (Ai.AR ?_);simp(disch:=omega)only[go_sem]
  repeat'(with_reducible apply And.intro)
  all_goals(first|exact .AJ (by omega)|exact .agg (Ai.AR gI))
 have e:Bn q p=(ET (DZ q p),(BT (DZ q p)).2,0):=by simp[Bn,hv,hw]
 rw[e];refine gO ?_;refine Ae (f164_ok q h1 h2 h3) ?_;refine gO ?_;refine Ae (f166_ok q.Ao p h2) ?_;refine gO ?_;refine Ae (f166_ok q.waits p h3) ?_;refine gO ?_;have hw':=BL q.waits p;have hc':=BL q.Ao p;refine Ah (f167_ok (DZ q p) (LJ ((BE q).1 hv).1 p) h1 (by simp[DZ];omega) (by simp[DZ];omega)) (by simp(disch:=omega)only[go_sem,DZ]) rfl ?_;refine gO ?_;exact AQ _
def f259_ok(q:Queue)(p:Ab)(a:Amt)(h:BG q≤100):Ad C0 259 [.agg q.c,.agg p.c,.agg a.c] [] (.tup [.agg (A7 q p a).1.c,AL (A7 q p a).2.1,I (A7 q p a).2.2]) []:=by
 obtain⟨h1,h2,h3⟩:=Bu h;refine Ad.go f259 ?_;unfold f259;refine gO ?_;refine Ae (f158_ok q h1 h3) ?_;cases hv:valid q
 ·have e:A7 q p a=(q0,[],2):=by simp[A7,hv]
  simp(disch:=omega)only[go_sem,zF,e,q0];refine As _ ?_;refine .tup (Ai.AR ?_);simp(disch:=omega)only[go_sem]
  repeat'(with_reducible apply And.intro)
  all_goals(first|exact .AJ (by omega)|exact .agg (Ai.AR gI))
 refine gO ?_;refine Ae (f163_ok q p h1) ?_;refine gO ?_;refine Ae (f162_ok (At q.holds p)) ?_;cases hz:(At q.holds p).zero;rotate_left
 ·have e:A7 q p a=(q0,[],10):=by simp[A7,hv,hz]
  simp(disch:=omega)only[go_sem,zF,e,q0];refine As _ ?_;refine .tup (Ai.AR ?_);simp(disch:=omega)only[go_sem]
  repeat'(with_reducible apply And.intro)
  all_goals(first|exact .AJ (by omega)|exact .agg (Ai.AR gI))
 refine gO ?_;refine Ae (f98_ok q p h2 h3) ?_;cases hw:(Aq q p).isSome;rotate_left
 ·have e:A7 q p a=(q0,[],14):=by simp[A7,hv,hz,hw]
  simp(disch:=omega)only[go_sem,zF,e,q0];refine As _ ?_;refine .tup (Ai.AR ?_);simp(disch:=omega)only[go_sem]
  repeat'(with_reducible apply And.intro)
  all_goals(first|exact .AJ (by omega)|exact .agg (Ai.AR gI))
 refine gO ?_;refine Ae (f253_ok q.res (At q.holds p) a) ?_;cases hc:q.res.covers (At q.holds p) a
 ·have e:A7 q p a=(q0,[],12):=by simp[A7,hv,hz,hw,hc]
  simp(disch:=omega)only[go_sem,zF,e,q0];refine As _ ?_;refine .tup (Ai.AR ?_);simp(disch:=omega)only[go_sem]
  repeat'(with_reducible apply And.intro)
  all_goals(first|exact .AJ (by omega)|exact .agg (Ai.AR gI))
 refine gO ?_;refine Ae (f164_ok q h1 h2 h3) ?_;refine gO ?_;cases ha:decide (At q.holds p=a);rotate_left
 ·have e:A7 q p a=(q,[],0):=by simp only[A7,hv,hz,hw,hc,ha];rfl
  simp(disch:=omega)only[go_sem,ha,e];exact FQ _
 simp(disch:=omega)only[go_sem,ha];have e:A7 q p a=(ET (ID q p a),(BT (ID q p a)).2,0):=by simp only[A7,hv,hz,hw,hc,ha];rfl
 rw[e];refine Ae (f165_ok q.holds p a h1) ?_;refine gO ?_;have hl:=Ok hz;have hl2:=Qh (l:=q.holds) (p:=p) (a:=a);refine Ah (f167_ok (ID q p a) (O5 ((BE q).1 hv).1 hz (E1 hw) hc) (by simp[ID];omega) h2 h3) (by simp(disch:=omega)only[go_sem,ID]) rfl ?_;refine gO ?_;exact AQ _
def Y8(q:Queue)(h1:q.holds.length≤1000000)(h2:q.Ao.length≤1000000)(h3:q.waits.length≤1000000):Ad C0 164 [.agg q.c] [] (.agg [.v (.string (str q.res.name)),.v (.int .i64 q.res.kind),.v (.int .i64 q.res.Ax),.v (.int .i64 q.res.home),AL q.holds,.sl (.own 0 0) 7 (q.Ao.map AP.c),Be q.waits,.v (.int .i64 q.gen)]) []:=by
 refine Ad.go f164 ?_;unfold f164;refine gO ?_;refine CL ⟨[(704,0)],[],[384,1024]⟩ _ ?_;simp(disch:=omega)only[go_sem,AL]
def f255_ok(q:Queue)(p:Ab)(a:Amt)(prio:Int)(h:BG q≤100):Ad C0 255 [.agg q.c,.agg p.c,.agg a.c,I prio] [] (.tup [.agg (A3 q p a prio).1.c,AL (A3 q p a prio).2.1,I (A3 q p a prio).2.2]) []:=by
 obtain⟨h1,h2,h3⟩:=Bu h;refine Ad.go f255 ?_;unfold f255;refine gO ?_;refine Ae (f158_ok q h1 h3) ?_;cases hv:valid q
 ·have e:A3 q p a prio=(q0,[],2):=by simp[A3,hv]
  simp(disch:=omega)only[go_sem,zF,e,q0];refine As _ ?_;refine .tup (Ai.AR ?_);simp(disch:=omega)only[go_sem]
  repeat'(with_reducible apply And.intro)
  all_goals(first|exact .AJ (by omega)|exact .agg (Ai.AR gI))
 refine gO ?_;refine Ae (f105_ok p) ?_;cases hp:p.ok
 ·have e:A3 q p a prio=(q0,[],1):=by simp[A3,hv,hp]
  simp(disch:=omega)only[go_sem,zF,e,q0];refine As _ ?_;refine .tup (Ai.AR ?_);simp(disch:=omega)only[go_sem]
  repeat'(with_reducible apply And.intro)
  all_goals(first|exact .AJ (by omega)|exact .agg (Ai.AR gI))
 refine gO ?_
 by_cases hp0:prio<0
 ·have e:A3 q p a prio=(q0,[],1):=by simp[A3,hv,hp,hp0]
  simp(disch:=omega)only[go_sem,eq_true hp0,decide_true,e,q0];refine As _ ?_;refine .tup (Ai.AR ?_);simp(disch:=omega)only[go_sem]
  repeat'(with_reducible apply And.intro)
  all_goals(first|exact .AJ (by omega)|exact .agg (Ai.AR gI))
 by_cases hp7:7<prio
 ·have e:A3 q p a prio=(q0,[],1):=by simp[A3,hv,hp,hp0,hp7]
  simp(disch:=omega)only[go_sem,eq_false hp0,eq_true hp7,decide_true,decide_false,e,q0];refine As _ ?_;refine .tup (Ai.AR ?_);simp(disch:=omega)only[go_sem]
  repeat'(with_reducible apply And.intro)
  all_goals(first|exact .AJ (by omega)|exact .agg (Ai.AR gI))
 simp(disch:=omega)only[go_sem,eq_false hp0,eq_false hp7,decide_false];refine Ae (f171_ok q.res a) ?_;cases hf:q.res.fits a
 ·have e:A3 q p a prio=(q0,[],12):=by simp[A3,hv,hp,hp0,hp7,hf]
  simp(disch:=omega)only[go_sem,zF,e,q0];refine As _ ?_;refine .tup (Ai.AR ?_);simp(disch:=omega)only[go_sem]
  repeat'(with_reducible apply And.intro)
  all_goals(first|exact .AJ (by omega)|exact .agg (Ai.AR gI))
 refine gO ?_;refine Ae (f98_ok q p h2 h3) ?_;cases hw:(Aq q p).isSome;rotate_left
 ·have e:A3 q p a prio=(q0,[],14):=by simp[A3,hv,hp,hp0,hp7,hf,hw]
  simp(disch:=omega)only[go_sem,zF,e,q0];refine As _ ?_;refine .tup (Ai.AR ?_);simp(disch:=omega)only[go_sem]
  repeat'(with_reducible apply And.intro)
  all_goals(first|exact .AJ (by omega)|exact .agg (Ai.AR gI))
 refine gO ?_;refine Bq ⟨⟨[],[],[]⟩,[(0,3072)],[]⟩ (Y8 q h1 h2 h3) gI (by decide) trivial (.inl rfl) ?_;refine gO ?_;refine Dd [3072] (f163_ok q p h1) gI rfl (by simp[Amt.c,AV.ren,Fq,Flat,KY]) ?_;refine gO ?_;refine Ae (f253_ok q.res (At q.holds p) a) ?_;cases hc:q.res.covers (At q.holds p) a;rotate_left
 ·have e:A3 q p a prio=(q,[],0):=by simp[A3,hv,hp,hp0,hp7,hf,hw,hc]
  simp(disch:=omega)only[go_sem,e];refine CL ⟨[],[],[3072]⟩ _ ?_;refine gO ?_;refine .tup (Ai.AR ?_);simp(disch:=omega)only[go_sem]
  repeat'(with_reducible apply And.intro)
  all_goals(first|exact .AJ (by omega)|exact .agg (Ai.AR gI))
 refine gO ?_;have hs:=((BE q).1 hv).1;have hsl:=Tn hs;unfold BG BK at hsl;refine Ae (f162_ok (At q.holds p)) ?_;cases hz:(At q.holds p).zero
 ·have e:A3 q p a prio=(ET (FY q p a),(BT (FY q p a)).2,0):=by simp[A3,hv,hp,hp0,hp7,hf,hw,hc,hz]
  rw[e];have hbd:q.Ao.length+1≤4294967296:=by omega
  simp(disch:=omega)only[go_sem,zF];refine Aw 10 [([],[4]),([],[61]),([],[5]),([],[4]),([],[64]),([],[13]),([],[6]),([],[65,66,67]),([7],[63,68]),([7],[69])] fol ?_;refine gO ?_
  first|(refine Ae (f254_ok q.res (At q.holds p) a) ?_)|(refine Av (f254_ok q.res (At q.holds p) a) ?_)
  refine gO ?_;refine Is [4544] (f167_ok (FY q p a) (M3 hs hf (E1 hw) hz hc) h1 (by simp[FY];omega) h3) (by simp(disch:=omega)only[go_sem,FY];exact .eq (by simp[AP.c])) rfl ?_;refine gO ?_;exact AQ _
 ·simp(disch:=omega)only[go_sem,zT];have e8:(q.holds.length:Int)+q.waits.length=((q.holds.length+q.waits.length:Nat):Int):=by omega
  by_cases h8:8≤(q.holds.length:Int)+q.waits.length
  ·have e:A3 q p a prio=(q0,[],4):=by simp only[A3,hv,hp,hf,hw,hc,hz,decide_eq_false hp0,decide_eq_false hp7,decide_eq_true h8];rfl
   simp(disch:=omega)only[go_sem,eq_true h8,decide_true,e,q0];refine As _ ?_;refine .tup (Ai.AR ?_);simp(disch:=omega)only[go_sem]
   repeat'(with_reducible apply And.intro)
   all_goals(first|exact .AJ (by omega)|exact .agg (Ai.AR gI))
  simp(disch:=omega)only[go_sem,eq_false h8,decide_false];have e:A3 q p a prio=(ET (Ga q p a prio),(BT (Ga q p a prio)).2,0):=by simp only[A3,hv,hp,hf,hw,hc,hz,decide_eq_false hp0,decide_eq_false hp7,decide_eq_false h8];rfl
  rw[e];have hS:=O6 hs hp (prio:=prio) ⟨by omega,by omega⟩ hf (E1 hw) hz (by omega);obtain⟨a1,a2,a3⟩:=(Bt q).1 hs.waits;have hwo:AP.ok ⟨p,a,prio,0⟩=true:=by simp[AP.ok,hp,Ho hf,AI];omega
  have hnone:¬ 0≤Fv q.waits p:=by
   have hn:=E7.1 (E1 hw);unfold Fv;have:q.waits.findIdx? (fun h=>decide (h.proc=p))=none:=by
    rw[List.findIdx?_eq_none_iff];intro x hx;simpa using hn x (by simp[hx])
   rw[this];simp
  have ei:Lp q.waits ⟨p,a,prio,0⟩=(KW q.waits ⟨p,a,prio,0⟩,((E0 q.waits ⟨p,a,prio,0⟩ q.waits.length:Nat):Int),0):=by
   have:q.waits.length≠8:=by omega
   simp[Lp,a1,hwo,hnone,this]
  have hi:=f291_ok q.waits ⟨p,a,prio,0⟩ h3;rw[ei]at hi;refine Ae hi ?_;refine gO ?_;have hpl:=Rv q.waits ⟨p,a,prio,0⟩;refine Is [3072] (f167_ok (Ga q p a prio) hS h1 h2 (show (KW q.waits ⟨p,a,prio,0⟩).length≤1000000 by omega)) (by simp(disch:=omega)only[go_sem,Ga]) rfl ?_;refine gO ?_;exact AQ _
structure D5(t:List Queue):Prop where
 n:t.length≤100
 q:∀ q∈t,BG q≤100
def GJ(t:List Queue):Bool:=Cy t&&decide ((Ay t).length≤8)
def f115_ok(t:List Queue)(h:D5 t):Ad C0 115 [AB t] [] (B (GJ t)) []:=by
 refine Ad.go f115 ?_;unfold f115;refine gO ?_;refine Ae (f104_ok t h.q) ?_;cases hq:Cy t
 ·simp(disch:=omega)only[go_sem];refine As _ ?_;exact wb (by simp[GJ,hq])
 refine gO ?_;refine Bq ⟨⟨[],[],[]⟩,[(0,448)],[]⟩ (f75_ok t h.n h.q) gI rfl trivial (.inl rfl) ?_;refine gO ?_;refine As _ ?_;exact wb (by simp[GJ,hq];omega)
def BS(t:List Queue)(name:Bs):Option Nat:=t.findIdx? fun q=>q.res.name==name
def atI(o:Option Nat):Int:=match o with|some i=>i|none=>-1
def JC(l:List Queue)(name:Bs)(hl:l.length≤1000000):Ad C0 97 [AB l,.v (.string (str name))] [] (I (atI (BS l name))) []:=f97_ok l name hl
def C5{t:List Queue}{n:Bs}{i:Nat}(h:BS t n=some i):i<t.length∧∃ q,t[i]?=some q∧q.res.name=n:=by
 unfold BS at h;rw[List.findIdx?_eq_some_iff_getElem]at h;obtain⟨h1,h2,_⟩:=h;exact⟨h1,t[i],gE h1,by simpa using h2⟩
def f256_ok(t:List Queue)(i:Nat)(q:Queue)(h:t.length≤100)(hi:i<t.length):Ad C0 256 [AB t,I i,.agg q.c] [] (AB (t.set i q)) []:=by
 obtain⟨b,hb⟩:∃ b,t[i]?=some b:=⟨_,gE hi⟩;refine Ad.go f256 ?_;unfold f256;simp(disch:=omega)only[go_sem,gm,hb];refine CL ⟨[],[],[640]⟩ _ ?_;refine gO ?_;exact .sl (by rw[map_set];rfl)
def CH(name:Bs)(l:List AK):List Ev:=l.map fun h=>⟨1,h.proc,name,h.amt⟩
def f257_ok(name:Bs)(l:List AK)(h:l.length≤1000000):Ad C0 257 [.v (.string (str name)),AL l] [] (Vi (CH name l)) []:=by
 refine Ad.go f257 ?_;unfold f257;refine gO ?_;refine Ac (α:=Nat) (fun i=>⟨[(6,I i),(5,.sl (.own 1728 0) 7 ((CH name (l.take i)).map Ev.c)),(0,.v (.string (str name))),(1,AL l)],[]⟩) (fun i=>i≤(l).length∧True) (fun i=>(l).length-i) 0 ⟨by omega,trivial⟩ ?_ ?_
 ·refine Imp.Ar ?_ ?_
  all_goals(try simp(disch:=omega)only[go_sem])
  all_goals(try(repeat'(with_reducible apply And.intro)))
  all_goals(first|exact .AO (by omega)|exact .AJ (by omega)|exact .sl (by simp[CH])|exact .int (by simp[CH])|exact .eq (by simp[CH]))
 rintro i ⟨hi,hP⟩ J hJ;refine gO ?_;refine gR (l:=l) hi (fun b hb hbm hlt=>?_) (fun hil=>?_)
 ·have hbd:(CH name (l.take i)).length+1≤4294967296:=by simp[CH];omega
  refine Aw 14 [([],[5]),([],[1]),([],[6]),([],[14,15]),([],[16]),([],[17]),([],[0]),([],[1]),([],[6]),([],[20,21]),([],[22]),([],[23]),([],[18,19,24]),([],[25])] fol ?_;simp(disch:=omega)only[go_sem,gm,hb];refine hJ _ (i+1) ⟨by omega,trivial⟩ (by omega) (Imp.Ar ?_ ?_)
  all_goals(try simp(disch:=omega)only[go_sem])
  all_goals(try(repeat'(with_reducible apply And.intro)))
  all_goals(first|exact .AO (by omega)|exact .AJ (by omega)|exact .sl (by simp[CH,tA,hb,Ev.c])|exact .int (by simp[CH,tA,hb,Ev.c])|exact .eq (by simp[CH,tA,hb,Ev.c]))
 ·subst hil;rw[tL];refine CL ⟨[],[],[1728]⟩ _ ?_;simp(disch:=omega)only[go_sem]
def f173_ok(a l2:List Atom):Ad C0 173 [BB a,BB l2] [] (B (decide (a=l2))) []:=by
 refine Ad.lens f173 fun hlen=>?_
 simp only[ED,lens,length_map,and_true,true_and]at hlen;refine Ad.go f173 ?_;unfold f173
 by_cases hl:a.length=l2.length
 rotate_left
 ·have e1:((a.length:Int) !=l2.length)=true:=by simp;omega
  simp(disch:=omega)only[go_sem,e1];refine As _ ?_;exact wb (by have:a≠l2:=fun e=>hl (by rw[e]);simp[this])
 have e1:((a.length:Int) !=l2.length)=false:=by simp[hl]
 simp(disch:=omega)only[go_sem,e1];refine Ac (α:=Nat) (fun i=>⟨[(5,I i),(0,BB a),(1,BB l2)],[]⟩) (fun i=>i≤(a).length∧a.take i=l2.take i) (fun i=>(a).length-i) 0 ⟨by omega,rfl⟩ ?_ ?_
 ·exact B0
 rintro i ⟨hi,hP⟩ J hJ;refine gO ?_;refine gR (l:=a) hi (fun b hb hbm hlt=>?_) (fun hil=>?_);refine Aw 8 [([],[0]),([],[5]),([],[17,18]),([],[19]),([],[1]),([],[5]),([],[21,22]),([],[23])] fol ?_;simp(disch:=omega)only[go_sem,gm,hb]
 ·obtain⟨c,hc⟩:∃ c,l2[i]?=some c:=⟨_,gE (by omega)⟩;simp(disch:=omega)only[go_sem,gm,hb,hc]
  by_cases hbc:b=c
  ·simp(disch:=omega)only[go_sem,hbc,decide_true];refine hJ _ (i+1) ⟨by omega,(by rw[tA,tA,hb,hc,hP,hbc])⟩ (by omega) AT
  ·simp(disch:=omega)only[go_sem,hbc,decide_false];refine As _ ?_;refine wb ?_;have:a≠l2:=fun h=>hbc (by rw[h,hc]at hb;simpa using hb.symm)
   simp[this]
 ·subst hil;rw[tL,hl,tL]at hP;refine As _ ?_;exact wb (by simp[hP])
def Gz(t:List Queue)(p:Ab):List Atom:=t.filterMap fun q=>if (At q.holds p).zero then none else some ⟨q.res.name,At q.holds p⟩
def Eh(t:List Queue)(p:Ab):List Atom:=t.filterMap fun q=>(Aq q p).map fun a=>⟨q.res.name,a⟩
def Yd{α β:Type}{f:α→Option β}{l:List α}{i:Nat}{b:α}(hb:l[i]?=some b):(l.take (i+1)).filterMap f=(l.take i).filterMap f++(f b).toList:=by
 rw[tA,hb,List.filterMap_append];cases h:f b<;>simp[h]
def aN{α β:Type}{f:α→Option β}(l:List α)(i:Nat):((l.take i).filterMap f).length≤l.length :=
 Nat.le_trans (List.length_filterMap_le _ _) (by simp;omega)
def f174_ok(t:List Queue)(p:Ab)(h:D5 t):Ad C0 174 [AB t,.agg p.c] [] (BB (Gz t p)) []:=by
 have hn:=h.n;refine Ad.go f174 ?_;unfold f174;refine gO ?_;refine Ac (α:=Nat) (fun i=>⟨[(6,I i),(5,.sl (.own 2112 0) 3 ((Gz (t.take i) p).map Atom.c)),(0,AB t),(3,.ptr 192 0)],[(192,p.c)]⟩) (fun i=>i≤(t).length∧True) (fun i=>(t).length-i) 0 ⟨by omega,trivial⟩ ?_ ?_
 ·refine Imp.Ar ?_ ?_
  all_goals(try simp(disch:=omega)only[go_sem])
  all_goals(try(repeat'(with_reducible apply And.intro)))
  all_goals(first|exact .AO (by omega)|exact .AJ (by omega)|exact .sl (by simp[Gz])|exact .int (by simp[Gz])|exact .eq (by simp[Gz]))
 rintro i ⟨hi,hP⟩ J hJ;refine gO ?_;refine gR (l:=t) hi (fun b hb hbm hlt=>?_) (fun hil=>?_)
 ·have hl:(Gz (t.take i) p).length≤t.length:=aN t i;have hbd:(Gz (t.take i) p).length+1≤4294967296:=by omega
  obtain⟨q1,q2,q3⟩:=Bu (h.q b hbm);have hx:Gz (t.take (i+1)) p=Gz (t.take i) p++(if (At b.holds p).zero then none else some (⟨b.res.name,At b.holds p⟩:Atom)).toList:=Yd hb;generalize hL:Gz (t.take i) p=L at hbd hx;refine Aw 7 [([],[0]),([],[6]),([],[14,15]),([],[16]),([],[3]),([],[17,18]),([],[])] fol ?_;simp(disch:=omega)only[go_sem,gm,hb]
  first|(refine Ae (f163_ok b p q1) ?_)|(refine Av (f163_ok b p q1) ?_)
  refine gO ?_;refine Ae (f162_ok (At b.holds p)) ?_;cases hz:(At b.holds p).zero
  ·simp(disch:=omega)only[go_sem,zF];refine Aw 10 [([],[5]),([],[0]),([],[6]),([],[24,25]),([],[26]),([],[27]),([],[28]),([],[7]),([],[29,30]),([],[31])] fol ?_;simp(disch:=omega)only[go_sem,gm,hb];rw[hz]at hx;refine hJ _ (i+1) ⟨by omega,trivial⟩ (by omega) (Imp.Ar ?_ ?_)
   all_goals(try simp(disch:=omega)only[go_sem])
   all_goals(try(repeat'(with_reducible apply And.intro)))
   all_goals(first|exact .AO (by omega)|exact .AJ (by omega)|exact .sl (by simp[hx,Atom.c])|exact .int (by simp[hx,Atom.c])|exact .eq (by simp[hx,Atom.c]))
  ·simp(disch:=omega)only[go_sem,zT];rw[hz]at hx;refine hJ _ (i+1) ⟨by omega,trivial⟩ (by omega) (Imp.Ar ?_ ?_)
   all_goals(try simp(disch:=omega)only[go_sem])
   all_goals(try(repeat'(with_reducible apply And.intro)))
   all_goals(first|exact .AO (by omega)|exact .AJ (by omega)|exact .sl (by simp[hx])|exact .int (by simp[hx])|exact .eq (by simp[hx]))
 ·subst hil;rw[tL];refine CL ⟨[],[],[2112]⟩ _ ?_;simp(disch:=omega)only[go_sem]
def f175_ok(t:List Queue)(p:Ab)(h:D5 t):Ad C0 175 [AB t,.agg p.c] [] (BB (Eh t p)) []:=by
 have hn:=h.n;refine Ad.go f175 ?_;unfold f175;refine gO ?_;refine Ac (α:=Nat) (fun i=>⟨[(6,I i),(5,.sl (.own 2240 0) 3 ((Eh (t.take i) p).map Atom.c)),(0,AB t),(3,.ptr 192 0)],[(192,p.c)]⟩) (fun i=>i≤(t).length∧True) (fun i=>(t).length-i) 0 ⟨by omega,trivial⟩ ?_ ?_
 ·refine Imp.Ar ?_ ?_
  all_goals(try simp(disch:=omega)only[go_sem])
  all_goals(try(repeat'(with_reducible apply And.intro)))
  all_goals(first|exact .AO (by omega)|exact .AJ (by omega)|exact .sl (by simp[Eh])|exact .int (by simp[Eh])|exact .eq (by simp[Eh]))
 rintro i ⟨hi,hP⟩ J hJ;refine gO ?_;refine gR (l:=t) hi (fun b hb hbm hlt=>?_) (fun hil=>?_)
 ·have hl:(Eh (t.take i) p).length≤t.length:=aN t i;have hbd:(Eh (t.take i) p).length+1≤4294967296:=by omega
  obtain⟨q1,q2,q3⟩:=Bu (h.q b hbm);have hx:Eh (t.take (i+1)) p=Eh (t.take i) p++((Aq b p).map fun a=>(⟨b.res.name,a⟩:Atom)).toList:=Yd hb;generalize hL:Eh (t.take i) p=L at hbd hx;refine Dg 4095 [(0,1,0),(1,2,0),(2,4,3),(3,8,4),(4,16,0),(5,32,24),(6,64,32),(7,128,64),(8,256,64),(9,512,0),(10,1024,767),(11,2048,2047)] [0,1,2,16,512,3,17,513,18,514,528,7,19,515,529,530,15,23,519,531,31,527,535,63,543,127,575,255,383,639,511,767,895,1023,1791,2047,4095] (fun m=>⟨sel m [(1,16,AB t),(2,17,I i),(4,18,.ep .no i b.c 0),(8,19,.agg b.c),(16,20,.agg p.c),(32,21,.tup [.agg ((Aq b p).getD ⟨0,0⟩).c,B (Aq b p).isSome]),(64,15,.tup [.agg ((Aq b p).getD ⟨0,0⟩).c,B (Aq b p).isSome]),(128,22,.agg ((Aq b p).getD ⟨0,0⟩).c),(256,23,B (Aq b p).isSome),(512,7,.ptr 448 0),(2048,8,B (Aq b p).isSome)]++[(6,I i),(5,.sl (.own 2240 0) 3 (L.map Atom.c)),(0,AB t),(3,.ptr 192 0)],((if m / 512%2=1 then [(448,(if m / 1024%2=1 then ((Aq b p).getD ⟨0,0⟩).c else (⟨0,0⟩:Amt).c))] else [])++[(192,p.c)])⟩) ?_ ?_ ?_ fol
  ·exact AT
  ·simp (maxSteps:=100000000)only[Df,De,DY,DX,and_true,Nat.reduceDiv,Nat.reduceMod,Nat.reduceAnd,Nat.reduceEqDiff,reduceIte,true_and,and_false,false_and,and_self]
   repeat'(with_reducible refine And.intro ?_ ?_)
   all_goals simp(disch:=omega)only[go_sem,gm,hb,nil_append]
   all_goals first|exact Imp.Ar gI (by simp(disch:=omega)only[go_sem,nil_append,cons_append])|(refine Ae (f98_ok b p q2 q3) ?_;simp(disch:=omega)only[go_sem];exact Imp.Ar gI (by simp(disch:=omega)only[go_sem,nil_append,cons_append]))
  cases hw:Aq b p with
  |none =>
   rw[hw]at hx;simp(disch:=omega)only[go_sem,hw,Option.isSome_none,nil_append,cons_append];refine hJ _ (i+1) ⟨by omega,trivial⟩ (by omega) (Imp.Ar ?_ ?_)
   all_goals(try simp(disch:=omega)only[go_sem])
   all_goals(try(repeat'(with_reducible apply And.intro)))
   all_goals(first|exact .AO (by omega)|exact .AJ (by omega)|exact .sl (by simp[hx])|exact .int (by simp[hx])|exact .eq (by simp[hx]))
  |some a =>
   rw[hw]at hx;simp(disch:=omega)only[go_sem,hw,Option.isSome_some,Option.getD_some,nil_append,cons_append];refine Aw 10 [([],[5]),([],[0]),([],[6]),([],[26,27]),([],[28]),([],[29]),([],[30]),([],[7]),([],[31,32]),([],[33])] fol ?_;simp(disch:=omega)only[go_sem,gm,hb];refine hJ _ (i+1) ⟨by omega,trivial⟩ (by omega) (Imp.Ar ?_ ?_)
   all_goals(try simp(disch:=omega)only[go_sem])
   all_goals(try(repeat'(with_reducible apply And.intro)))
   all_goals(first|exact .AO (by omega)|exact .AJ (by omega)|exact .sl (by simp[hx,Atom.c])|exact .int (by simp[hx,Atom.c])|exact .eq (by simp[hx,Atom.c]))
 ·subst hil;rw[tL];refine CL ⟨[],[],[2240]⟩ _ ?_;simp(disch:=omega)only[go_sem]
end Go.Rd
