/- part 26 of the proof -/
import Derived.Test.YthachdiockkofaaGreatDoorW25
set_option linter.all false
open Go Go.Abs Go.Proofs
set_option maxRecDepth 100000
namespace Go.Rd
set_option maxHeartbeats 8000000
open List (cons_append length_map map_cons map_nil map_set nil_append take_add_one take_length)
open Tryz
def mid{α:Type}(l:List α)(k:Nat)(p:α):List α:=l.take k++p::l.drop k
section
variable {α:Type}
theorem Th(l:List α)(k:Nat)(p:α)(h:k≤l.length):(mid l k p).length=l.length+1:=by simp[mid];omega
theorem W3(l:List α)(k:Nat)(p:α)(h:k≤l.length):(mid l k p)[k]?=some p:=by
 unfold mid;rw[List.getElem?_append_right (by simp;omega)];simp[Nat.min_eq_left h]
theorem UN(l:List α)(k:Nat)(p:α)(h:k+1≤l.length):(mid l (k+1) p)[k]?=l[k]?:=by
 unfold mid;rw[List.getElem?_append_left (by simp;omega),List.getElem?_take,if_pos (by omega)]
theorem UO{l:List α}{k:Nat}{p x:α}(hx:l[k]?=some x):((mid l (k+1) p).set (k+1) x).set k p=mid l k p:=by
 have hk:=At hx;have hd:l.drop k=x::l.drop (k+1):=by rw[List.drop_eq_getElem_cons hk,get_eq hx]
 have ht:l.take (k+1)=l.take k++[x]:=by rw[take_add_one,hx];rfl
 unfold mid;rw[ht,hd];have hl:(l.take k).length=k:=by simp;omega
 rw[List.append_assoc,List.set_append_right _ _ (by omega),hl];simp only[List.singleton_append,Nat.add_sub_cancel_left,List.set_cons_succ,List.set_cons_zero];rw[List.set_append_right _ _ (by omega),hl];simp
theorem bc(l:List α)(k:Nat)(p x:α):x∈mid l k p↔x∈l∨x=p:=by
 unfold mid
 conv=>rhs;rw[← List.take_append_drop k l]
 simp only[List.mem_append,List.mem_cons];constructor
 ·rintro(h|h|h)
  ·exact .inl (.inl h)
  ·exact .inr h
  ·exact .inl (.inr h)
 ·rintro((h|h)|h)
  ·exact .inl h
  ·exact .inr (.inr h)
  ·exact .inr (.inl h)
end
@[reducible] def ak(l:List Bs):AV:=.sl .no 1 (l.map fun s=>[.v (.string (str s))])
@[reducible] def Xe(r:Nat)(l:List Bs):AV:=.sl (.own r 0) 1 (l.map fun s=>[.v (.string (str s))])
def LZ(l:List Bs)(n:Bs):Nat→Nat
 | 0=>0
 | k+1=>if DM n (l.getD k []) then LZ l n k else k+1
def S7(l:List Bs)(n:Bs):List Bs:=if n∈l then l else mid l (LZ l n l.length) n
def De(l:List Entry):List Bs:=(l.map (·.name)).foldl S7 []
theorem Vl(l:List Bs)(n:Bs):∀ k,LZ l n k≤k
 | 0=>by simp[LZ]
 | k+1=>by
  simp only[LZ];split
  ·have:=Vl l n k;omega
  ·omega
theorem Zt(l:List Bs)(n:Bs):(S7 l n).length≤l.length+1:=by
 unfold S7;split
 ·omega
 ·rw[Th _ _ _ (Vl l n _)];omega
theorem KS{l:List Entry}{i:Nat}{b:Entry}(hb:l[i]?=some b):De (l.take (i+1))=S7 (De (l.take i)) b.name:=by
 simp[De,take_add_one,hb,List.foldl_append]
theorem Mm{l:List Entry}:∀ i,i≤l.length→(De (l.take i)).length≤i
 | 0,_=>by simp[De]
 | i+1,h=>by
  obtain⟨b,hb⟩:∃ b,l[i]?=some b:=⟨_,gE (by omega)⟩;rw[KS hb];have:=Zt (De (l.take i)) b.name;have:=Mm (l:=l) i (by omega);omega
theorem f249_ok(l:List Entry)(hl:l.length≤1000000):Ad C0 249 [D8 l] [] (ak (De l)) []:=by
 refine Ad.go f249 ?_;unfold f249;refine gO ?_;refine Ab (α:=Nat) (fun i=>⟨[(4,I i),(3,Xe 2688 (De (l.take i))),(0,D8 l)],[]⟩) (fun i=>i≤(l).length∧True) (fun i=>(l).length-i) 0 ⟨by omega,trivial⟩ ?_ ?_
 ·refine Imp.Am ?_ ?_
  all_goals(try simp(disch:=omega)only[go_sem])
  all_goals(try(repeat'(with_reducible apply And.intro)))
  all_goals(first|exact .AG (by omega)|exact .Az (by omega)|exact .sl (by simp[De])|exact .int (by simp[De])|exact .eq (by simp[De]))
 rintro i ⟨hi,hP⟩ J hJ;refine gO ?_;refine ⟨fun hlt=>?_,fun hge=>?_⟩;rotate_left;have hil:i=(l).length:=by simp at hge;omega
 rotate_left;obtain⟨b,hb⟩:∃ b,(l)[i]?=some b:=⟨_,gE (by simp at hlt;omega)⟩;have hbm:=mG hb;have hlt2:i<(l).length:=by simp at hlt;omega
 ·have hnl:=Mm i hi;generalize hout:De (l.take i)=out at hnl ⊢;refine Ab (α:=Nat) (fun k=>⟨[(6,I k),(5,B (decide (b.name∈out.take k))),(4,I i),(3,Xe 2688 out),(0,D8 l)],[]⟩) (fun k=>k≤out.length) (fun k=>out.length-k) 0 (by omega) ?_ ?_
  ·refine Imp.Am ?_ ?_
   all_goals simp(disch:=omega)only[go_sem]
  rintro k hk J2 hJ2;refine gO ?_;refine And.intro (fun hlt3=>?_) (fun hge3=>?_)
  ·obtain⟨x,hx⟩:∃ x,out[k]?=some x:=⟨_,gE (by simp at hlt3;omega)⟩;refine Aq 11 [([],[5]),([],[21]),([],[3,22]),([],[6,22]),([],[23,24,22]),([],[25,22]),([],[0,22]),([],[4,22]),([],[27,28,22]),([],[29,22]),([],[30,22])] fol ?_;have nxt:decide (b.name∈out.take (k+1))=(decide (b.name∈out.take k)||x==b.name):=by
    rw[take_add_one,hx]
    by_cases h2:x=b.name
    ·simp[h2]
    ·have h3:b.name≠x:=Ne.symm h2;simp[h2,h3]
   cases hc:decide (b.name∈out.take k)
   ·simp(disch:=omega)only[go_sem,gm,hx,hb];refine hJ2 _ (k+1) (by simp at hlt3;omega) (by simp at hlt3;omega) (Imp.Am ?_ ?_)
    all_goals(try simp(disch:=omega)only[go_sem])
    rw[nxt,hc,Bool.false_or];exact .rfl
   ·simp(disch:=omega)only[go_sem,gm,hx,hb];refine hJ2 _ (k+1) (by simp at hlt3;omega) (by simp at hlt3;omega) (Imp.Am ?_ ?_)
    all_goals(try simp(disch:=omega)only[go_sem])
    rw[nxt,hc,Bool.true_or];exact .rfl
  have hke:k=out.length:=by simp at hge3;omega
  subst hke;rw[take_length];cases hin:decide (b.name∈out);rotate_left
  ·simp(disch:=omega)only[go_sem];have e:De (l.take (i+1))=out:=by rw[KS hb,hout,S7,if_pos (by simpa using hin)]
   refine hJ _ (i+1) ⟨by simp at hlt;omega,trivial⟩ (by simp at hlt;omega) (Imp.Am ?_ ?_)
   all_goals(try simp(disch:=omega)only[go_sem])
   all_goals(try(repeat'(with_reducible apply And.intro)))
   all_goals(first|exact .AG (by omega)|exact .Az (by omega)|exact .sl (by simp[e])|exact .int (by simp[e])|exact .eq (by simp[e]))
  have hbd:out.length+1≤4294967296:=by omega
  have hnin:b.name∉out:=by simpa using hin
  simp(disch:=omega)only[go_sem,gm,hb];refine Ab (α:=Nat) (fun k=>⟨[(7,I k),(4,I i),(3,Xe 2688 (mid out k b.name)),(0,D8 l)],[]⟩) (fun k=>k≤out.length∧LZ out b.name out.length=LZ out b.name k) (fun k=>k) out.length ⟨by omega,rfl⟩ ?_ ?_
  ·refine Imp.Am ?_ ?_
   all_goals(try simp(disch:=omega)only[go_sem])
   all_goals(try(repeat'(with_reducible apply And.intro)))
   all_goals(first|exact .int (by simp;omega)|exact .int (by simp)|exact .sl (by simp[mid]))
  rintro k ⟨hk,hs⟩ J2 hJ2;have fin:LZ out b.name k=k→∀ st',Imp ⟨C0,[],[]⟩ st' ⟨[(4,I (i+1:Nat)),(3,Xe 2688 (mid out k b.name)),(0,D8 l)],[]⟩→J st':=fun hst st' him =>
   hJ st' (i+1) ⟨by omega,trivial⟩ (by omega) (by
    have e:De (l.take (i+1))=mid out k b.name:=by rw[KS hb,hout,S7,if_neg hnin,hs,hst]
    rw[e];exact him)
  refine Aq 12 [([],[7]),([],[46]),([],[47]),([],[3,48]),([],[7,48]),([],[49,50,48]),([],[51,48]),([],[3,48]),([],[7,48]),([],[54,48]),([],[53,55,48]),([],[56,48])] fol ?_;cases k with
  | zero =>
   have e0:(0<((0:Nat):Int))=False:=by simp
   simp(disch:=omega)only[go_sem,e0,decide_false];exact fin rfl _ AR
  | succ k =>
   have e0:(0<(((k+1:Nat)):Int))=True:=eq_true (by omega);have e1:(0<(k:Int)+1)=True:=eq_true (by omega);have e2:((k:Int)+1-1)=(k:Int):=by omega
   obtain⟨x,hx⟩:∃ x,out[k]?=some x:=⟨_,gE (by omega)⟩;have g1:=W3 out (k+1) b.name hk;have g2:=UN out k b.name hk;rw[hx]at g2;have hml:=Th out (k+1) b.name hk;have z1:k<(mid out (k+1) b.name).length:=by omega
   have z2:k+1<(mid out (k+1) b.name).length:=by omega
   simp(disch:=omega)only[go_sem,e0,e1,e2,gm,g1,g2,length_map,hml];cases hc:Op.bytesLess b.name x
   ·simp(disch:=omega)only[go_sem];exact fin (by simp[LZ,DM,List.getD,hx,hc]) _ AR
   ·have e4:(k=k+1)=False:=eq_false (by omega);have e5:(k+1=k)=False:=eq_false (by omega);simp(disch:=omega)only[go_sem,e2,gm,g1,g2,length_map,hml,List.length_set,List.getElem?_set,e4,e5];refine hJ2 _ k ⟨by omega,by rw[hs];simp[LZ,DM,List.getD,hx,hc]⟩ (by omega) (Imp.Am ?_ gI);refine gO ?_;refine .sl ?_;rw[← UO hx,map_set,map_set]
 ·subst hil;simp(disch:=omega)only[go_sem,take_length];refine Cf ⟨[],[],[2688]⟩ _ ?_;simp(disch:=omega)only[go_sem]
def s0:Save:=⟨0,0⟩
def CO:Ledger:=⟨[],[]⟩
def Fw(l:List Entry)(i:Nat)(e:Entry):Bool:=Dd e.name&&decide (e.before=AF (l.take i) e.name)&&Hc e.before e.after
def Fm(l:Ledger)(i:Nat)(s:Save):Bool:=decide (1≤s.label)&&decide (s.label≤99)&&decide (0≤s.pos)&&decide (s.pos≤l.entries.length)&&(decide (i=0)||decide ((l.A3.getD (i-1) s0).pos≤s.pos))&&decide (KA l.A3 s.label=(i:Int))
def Bk(l:Ledger):Bool:=decide (l.entries.length≤72)&&decide (l.A3.length≤4)&&B2 (Fw l.entries) l.entries&&decide ((De l.entries).length≤8)&&B2 (Fm l) l.A3
theorem f169_ok(l:Ledger):Ad C0 169 [.agg l.c] [] (B (Bk l)) []:=by
 have bad:Bk l=false→BW (B false) (B (Bk l)):=fun h=>wb h.symm
 refine Ad.go f169 ?_;unfold f169
 by_cases h1:72<l.entries.length
 ·have e1:(72<(l.entries.length:Int))=True:=eq_true (by omega);simp(disch:=omega)only[go_sem,e1,decide_true];refine Ap _ ?_;exact wb (by simp[Bk];omega)
 have e1:(72<(l.entries.length:Int))=False:=eq_false (by omega)
 by_cases h2:4<l.A3.length
 ·have e2:(4<(l.A3.length:Int))=True:=eq_true (by omega);simp(disch:=omega)only[go_sem,e1,e2,decide_true,decide_false];refine Ap _ ?_;exact wb (by simp[Bk];omega)
 have e2:(4<(l.A3.length:Int))=False:=eq_false (by omega);simp(disch:=omega)only[go_sem,e1,e2,decide_false];refine Ab (α:=Nat) (fun i=>⟨[(3,I i),(1,.ptr 64 0)],[(64,l.c)]⟩) (fun i=>i≤(l.entries).length∧B2 (Fw l.entries) (l.entries.take i)=true) (fun i=>(l.entries).length-i) 0 ⟨by omega,rfl⟩ ?_ ?_
 ·exact BB
 rintro i ⟨hi,hP⟩ J hJ;refine gO ?_;refine ⟨fun hlt=>?_,fun hge=>?_⟩;rotate_left;have hil:i=(l.entries).length:=by simp at hge;omega
 rotate_left;obtain⟨b,hb⟩:∃ b,(l.entries)[i]?=some b:=⟨_,gE (by simp at hlt;omega)⟩;have hbm:=mG hb;have hlt2:i<(l.entries).length:=by simp at hlt;omega
 simp(disch:=omega)only[go_sem,gm,hb]
 ·refine Aq 21 [([],[4]),([],[29]),([],[30]),([2],[31]),([2],[32]),([2],[4,33]),([2],[34,33]),([2],[1,33]),([2],[36,33]),([2],[3,33]),([2],[37,38,33]),([2],[4,33]),([2],[40,33]),([2],[39,41,33]),([2,13],[35,42,33]),([2,13],[33,43]),([2,13],[44]),([2,13],[4,45]),([2,13],[46,45]),([2,13],[4,45]),([2,13],[48,45])] fol ?_;refine gO ?_;have no:Fw l.entries i b=false→Bk l=false:=fun h=>by simp only[Bk,Bx hb h,Bool.and_false,Bool.false_and]
  have yes:Fw l.entries i b=true→B2 (Fw l.entries) (l.entries.take (i+1))=true:=fun h=>by rw[B7 hb,hP,h];rfl
  first|(refine Ac (f247_ok b.name) ?_)|(refine Ar (f247_ok b.name) ?_)
  cases h3:Dd b.name
  ·simp(disch:=omega)only[go_sem];refine Ap _ ?_;exact wb (by rw[no (by simp[Fw,h3])])
  simp(disch:=omega)only[go_sem,gm,hb]
  first|(refine Ac (f190_ok (l.entries.take i) b.name) ?_)|(refine Ar (f190_ok (l.entries.take i) b.name) ?_)
  refine gO ?_;cases h4:decide (b.before=AF (l.entries.take i) b.name)
  ·simp(disch:=omega)only[go_sem,h4];refine Ap _ ?_;exact wb (by rw[no (by simp only[Fw,h3,h4];rfl)])
  simp(disch:=omega)only[go_sem,h4]
  first|(refine Ac (f248_ok b.before b.after) ?_)|(refine Ar (f248_ok b.before b.after) ?_)
  cases h5:Hc b.before b.after
  ·simp(disch:=omega)only[go_sem];refine Ap _ ?_;exact wb (by rw[no (by simp only[Fw,h3,h4,h5];rfl)])
  refine gO ?_;refine hJ _ (i+1) ⟨by simp at hlt;omega,yes (by simp only[Fw,h3,h4,h5];rfl)⟩ (by simp at hlt;omega) AR
 subst hil;rw[take_length]at hP;refine Ac (f249_ok l.entries (by omega)) ?_
 by_cases h6:8<(De l.entries).length
 ·have e6:(8<((De l.entries).length:Int))=True:=eq_true (by omega);simp(disch:=omega)only[go_sem,e6,decide_true];refine Ap _ ?_;exact wb (by simp[Bk];omega)
 have e6:(8<((De l.entries).length:Int))=False:=eq_false (by omega);simp(disch:=omega)only[go_sem,e6,decide_false];have hP1:=hP;clear hP hJ hi hge;refine Ab (α:=Nat) (fun i=>⟨[(5,I i),(1,.ptr 64 0)],[(64,l.c)]⟩) (fun i=>i≤(l.A3).length∧B2 (Fm l) (l.A3.take i)=true) (fun i=>(l.A3).length-i) 0 ⟨by omega,rfl⟩ ?_ ?_
 ·exact BB
 rintro i ⟨hi,hP⟩ J hJ;refine gO ?_;refine ⟨fun hlt=>?_,fun hge=>?_⟩;rotate_left;have hil:i=(l.A3).length:=by simp at hge;omega
 rotate_left;obtain⟨b,hb⟩:∃ b,(l.A3)[i]?=some b:=⟨_,gE (by simp at hlt;omega)⟩;have hbm:=mG hb;have hlt2:i<(l.A3).length:=by simp at hlt;omega
 simp(disch:=omega)only[go_sem,gm,hb]
 ·have no:Fm l i b=false→Bk l=false:=fun h=>by simp only[Bk,Bx hb h,Bool.and_false]
  have yes:Fm l i b=true→B2 (Fm l) (l.A3.take (i+1))=true:=fun h=>by rw[B7 hb,hP,h];rfl
  refine Aq 44 [([],[6]),([],[70]),([],[71]),([],[72]),([],[6,73]),([],[74,73]),([],[75,73]),([],[73,76]),([],[77]),([],[6,78]),([],[79,78]),([],[80,78]),([],[78,81]),([],[82]),([],[6,83]),([],[84,83]),([],[1,83]),([],[86,83]),([],[87,83]),([],[85,88,83]),([],[83,89]),([],[90]),([],[5,91]),([],[92,91]),([],[93,91]),([],[1,94]),([],[95,94]),([],[5,94]),([],[97,94]),([],[96,98,94]),([],[99,94]),([],[100,94]),([],[6,94]),([],[102,94]),([],[101,103,94]),([],[94,104,91]),([],[91,105]),([],[106]),([],[1,107]),([],[108,107]),([],[6,107]),([],[110,107]),([],[109,111,107]),([],[5,107])] fol ?_
  by_cases c1:b.label<1
  ·have f1:=eq_true c1;simp(disch:=omega)only[go_sem,f1,decide_true];refine Ap _ ?_;exact wb (by rw[no (by simp[Fm,show ¬ (1≤b.label) by omega])])
  have f1:=eq_false c1
  by_cases c2:99<b.label
  ·have f2:=eq_true c2;simp(disch:=omega)only[go_sem,f1,f2,decide_true,decide_false];refine Ap _ ?_;exact wb (by rw[no (by simp[Fm,show ¬ (b.label≤99) by omega])])
  have f2:=eq_false c2
  by_cases c3:b.pos<0
  ·have f3:=eq_true c3;simp(disch:=omega)only[go_sem,f1,f2,f3,decide_true,decide_false];refine Ap _ ?_;exact wb (by rw[no (by simp[Fm,show ¬ (0≤b.pos) by omega])])
  have f3:=eq_false c3
  by_cases c4:(l.entries.length:Int)<b.pos
  ·have f4:=eq_true c4;simp(disch:=omega)only[go_sem,f1,f2,f3,f4,decide_true,decide_false];refine Ap _ ?_;exact wb (by rw[no (by simp[Fm,show ¬ (b.pos≤(l.entries.length:Int)) by omega])])
  have f4:=eq_false c4;have base:Fm l i b=((decide (i=0)||decide ((l.A3.getD (i-1) s0).pos≤b.pos))&&decide (KA l.A3 b.label=(i:Int))):=by
   simp[Fm,show 1≤b.label by omega,show b.label≤99 by omega,show 0≤b.pos by omega,show b.pos≤(l.entries.length:Int) by omega]
  have last:(decide (i=0)||decide ((l.A3.getD (i-1) s0).pos≤b.pos))=true→Fm l i b=decide (KA l.A3 b.label=(i:Int)):=fun h=>by rw[base,h,Bool.true_and]
  by_cases hi0:i=0
  ·subst hi0;have g0:=last (by simp);simp(disch:=omega)only[go_sem,f1,f2,f3,f4,decide_false]
   first|(refine Ac (f194_ok l.A3 b.label) ?_)|(refine Ar (f194_ok l.A3 b.label) ?_)
   refine gO ?_;refine And.intro (fun hh=>?_) (fun hh=>?_)
   ·refine Ap _ ?_;exact wb (by rw[no (by rw[g0];simpa using hh)])
   ·refine hJ _ 1 ⟨by omega,yes (by rw[g0];simpa using hh)⟩ (by omega) AR
  have hi1:(0<(i:Int))=True:=eq_true (by omega);have hi2:((i:Int)-1)=((i-1:Nat):Int):=by omega
  obtain⟨a,ha'⟩:∃ a,l.A3[i-1]?=some a:=⟨_,gE (by omega)⟩;have had:l.A3.getD (i-1) s0=a:=by simp[List.getD,ha']
  by_cases c5:b.pos<a.pos
  ·have f5:=eq_true c5;simp(disch:=omega)only[go_sem,f1,f2,f3,f4,f5,hi1,hi2,gm,ha',hb,decide_true,decide_false];refine Ap _ ?_;exact wb (by rw[no (by rw[base,had];simp[hi0];omega)])
  have f5:=eq_false c5;have g0:=last (by rw[had];simp;omega);simp(disch:=omega)only[go_sem,f1,f2,f3,f4,f5,hi1,hi2,gm,ha',hb,decide_true,decide_false]
  first|(refine Ac (f194_ok l.A3 b.label) ?_)|(refine Ar (f194_ok l.A3 b.label) ?_)
  refine gO ?_;refine And.intro (fun hh=>?_) (fun hh=>?_)
  ·refine Ap _ ?_;exact wb (by rw[no (by rw[g0];simpa using hh)])
  ·refine hJ _ (i+1) ⟨by omega,yes (by rw[g0];simpa using hh)⟩ (by omega) AR
 subst hil;rw[take_length]at hP;refine Ap _ ?_;exact wb (by simp[Bk,hP,hP1];omega)
def V2(x:AS):AS:={ x with Df:=x.Df+1 }
theorem U4(l:List AS)(w:AS):Ms l w=l.take (EX l w l.length)++w::(l.drop (EX l w l.length)).map V2:=rfl
def KJ(l:List AS)(w:AS):List AS × Int × Int:=if !Dm l then ([],0,2) else if !w.ok||w.Df !=0 then ([],0,1) else if 0≤E3 l w.proc then ([],0,11) else if l.length=8 then ([],0,4) else (Ms l w,((EX l w l.length:Nat):Int),0)
theorem f291_ok(l:List AS)(w:AS)(hl:l.length≤1000000):Ad C0 291 [A7 l,.agg w.c] [] (.tup [A7 (KJ l w).1,I (KJ l w).2.1,I (KJ l w).2.2]) []:=by
 refine Ad.go f291 ?_;unfold f291;refine gO ?_;refine Ac (f282_ok l hl) ?_;cases h1:Dm l
 ·have e:KJ l w=([],0,2):=by simp[KJ,h1]
  simp(disch:=omega)only[go_sem,e,map_nil];exact EL _
 refine gO ?_;refine Ac (f315_ok w) ?_;cases h2:w.ok
 ·have e:KJ l w=([],0,1):=by simp[KJ,h1,h2]
  simp(disch:=omega)only[go_sem,e,map_nil];exact EL _
 refine gO ?_;cases h3:(w.Df !=0);rotate_left
 ·have e:KJ l w=([],0,1):=by simp[KJ,h1,h2,h3]
  simp(disch:=omega)only[go_sem,e,map_nil,h3];exact EL _
 simp(disch:=omega)only[go_sem,h3];refine Ac (f153_ok l w.proc hl) ?_
 by_cases h4:0≤E3 l w.proc
 ·have e:KJ l w=([],0,11):=by simp[KJ,h1,h2,h3,h4]
  simp(disch:=omega)only[go_sem,e,map_nil,eq_true h4,decide_true];exact EL _
 simp(disch:=omega)only[go_sem,eq_false h4,decide_false];have hl8:l.length≤8:=((Cv l).1 h1).1
 by_cases h5:l.length=8
 ·have e:KJ l w=([],0,4):=by simp[KJ,h1,h2,h3,h4,h5]
  have e5:((l.length:Int)==8)=true:=by simp[h5]
  simp(disch:=omega)only[go_sem,e,map_nil,e5];exact EL _
 have e5:((l.length:Int)==8)=false:=by simp;omega
 simp(disch:=omega)only[go_sem,e5];have e:KJ l w=(Ms l w,((EX l w l.length:Nat):Int),0):=by simp[KJ,h1,h2,h3,h4,h5]
 rw[e];refine Ab (α:=Nat) (fun k=>⟨[(7,I k),(0,A7 l),(3,.ptr 192 0)],[(192,w.c)]⟩) (fun k=>k≤l.length∧EX l w l.length=EX l w k) (fun k=>k) l.length ⟨by omega,rfl⟩ AR ?_;rintro k ⟨hk,hs⟩ J hJ;have hcase:k=0∨(∃ j x,k=j+1∧l[j]?=some x∧¬ x.prio<w.prio)∨(∃ j x,k=j+1∧l[j]?=some x∧x.prio<w.prio∧¬ x.Df<3)∨(∃ j x,k=j+1∧l[j]?=some x∧x.prio<w.prio∧x.Df<3):=by
  cases k with
  | zero=>exact .inl rfl
  | succ j =>
   obtain⟨x,hx⟩:∃ x,l[j]?=some x:=⟨_,gE (by omega)⟩
   by_cases c1:x.prio<w.prio
   ·by_cases c2:x.Df<3
    ·exact .inr (.inr (.inr ⟨j,x,rfl,hx,c1,c2⟩))
    ·exact .inr (.inr (.inl ⟨j,x,rfl,hx,c1,c2⟩))
   ·exact .inr (.inl ⟨j,x,rfl,hx,c1⟩)
 have hget:∀ j x,l[j]?=some x→l.getD j w0=x:=fun j x h=>by simp[List.getD,h]
 have fin:(¬ ∃ j x,k=j+1∧l[j]?=some x∧x.prio<w.prio∧x.Df<3)→Ms l w=l.take k++w::(l.drop k).map V2∧EX l w l.length=k:=fun h=>by
  have:EX l w k=k:=by
   cases k with
   | zero=>rfl
   | succ j =>
    obtain⟨x,hx⟩:∃ x,l[j]?=some x:=⟨_,gE (by omega)⟩;simp only[EX,hget j x hx];rw[if_neg fun hc=>h ⟨j,x,rfl,hx,hc.1,hc.2⟩]
  rw[U4,hs,this];exact⟨rfl,rfl⟩
 refine Aq 17 [([],[7]),([],[32]),([],[33]),([],[0,34]),([],[7,34]),([],[36,34]),([],[35,37,34]),([],[38,34]),([],[39,34]),([],[3,34]),([],[41,34]),([],[40,42,34]),([],[34,43]),([],[44]),([],[0,45]),([],[7,45]),([],[47,45])] fol ?_;rcases hcase with h0|⟨j,x,hj,hx,c1⟩|⟨j,x,hj,hx,c1,c2⟩|⟨j,x,hj,hx,c1,c3⟩
 rotate_left 3
 ·subst hj;simp(disch:=omega)only[go_sem,eq_true (show 0<((j+1:Nat):Int) by omega),eq_true (show 0<(j:Int)+1 by omega),(show ((j:Int)+1-1)=(j:Int) by omega),gm,hx,eq_true c1,eq_true c3,decide_true];refine hJ _ j ⟨by omega,by rw[hs];simp only[EX,hget j x hx];rw[if_pos ⟨c1,c3⟩]⟩ (by omega) AR
 all_goals first
  |(have hne:=fin (fun⟨j',x',a,b,c,d⟩=>by obtain rfl:j=j':=(by omega);rw[hx]at b;cases b;omega);simp(disch:=omega)only[go_sem,eq_true (show 0<(k:Int) by omega),(show ((k:Int)-1)=(j:Int) by omega),gm,hx,eq_true c1,eq_false c2,decide_true,decide_false])
  |(have hne:=fin (fun⟨j',x',a,b,c,d⟩=>by obtain rfl:j=j':=(by omega);rw[hx]at b;cases b;omega);simp(disch:=omega)only[go_sem,eq_true (show 0<(k:Int) by omega),(show ((k:Int)-1)=(j:Int) by omega),gm,hx,eq_false c1,decide_false])
  |(have hne:=fin (fun⟨j',x',a,b,c,d⟩=>by omega);simp(disch:=omega)only[go_sem,eq_false (show ¬ 0<(k:Int) by omega),decide_false])
 all_goals
  rw[hne.1,hne.2];clear fin hJ hs;have hbd3:(l.take k).length+1≤4294967296:=by simp;omega
  refine CA 511 [(0,1,0),(1,2,0),(2,4,0),(3,8,6),(4,16,9),(5,32,0),(6,64,32),(7,128,80),(8,256,255)] [0,1,2,4,32,3,5,33,6,34,36,96,7,35,37,97,14,38,98,100,15,39,99,101,46,102,31,47,103,110,63,111,127,255,511] (fun m=>⟨sel m [(1,56,(if m / 16%2=1 then .undef else .sl (.own 3584 0) 7 [])),(2,57,A7 l),(4,58,I k),(8,59,.sl .no 7 ((l.take k).map AS.c)),(16,60,(if m / 128%2=1 then .undef else .sl (.own 3840 0) 7 ((l.take k).map AS.c))),(32,61,.agg w.c),(64,62,.sl (.own 3968 0) 7 [w.c]),(128,63,.sl (.own 4032 0) 7 ((l.take k++[w]).map AS.c)),(256,8,.sl (.own 4032 0) 7 ((l.take k++[w]).map AS.c))]++[(7,I k),(0,A7 l),(3,.ptr 192 0)],[(192,w.c)]⟩) ?_ ?_ ?_ fol
  ·exact AR
  ·simp (maxSteps:=100000000)only[Cz,Cy,Dj,Di,and_true,Nat.reduceDiv,Nat.reduceMod,Nat.reduceAnd,Nat.reduceEqDiff,reduceIte,true_and,and_false,false_and,and_self]
   repeat'(with_reducible refine And.intro ?_ ?_)
   all_goals simp(disch:=omega)only[go_sem,nil_append,List.map_append,map_cons,map_nil]
   all_goals exact Imp.Am (by simp(disch:=omega)only[go_sem,List.map_append,map_cons,map_nil]) gI
  refine gO ?_;refine Ab (α:=Nat) (fun i=>⟨[(9,I i),(8,.sl (.own 5248 0) 7 ((l.take k++w::((l.drop k).take (i-k)).map V2).map AS.c)),(0,A7 l),(7,I k)],[]⟩) (fun i=>k≤i∧i≤l.length) (fun i=>l.length-i) k ⟨by omega,hk⟩ ?_ ?_
  ·refine Imp.ren ⟨[(4032,5248)],[],[]⟩ ⟨rfl,rfl⟩ (by simp[lk]) ?_ ?_
   all_goals(try simp(disch:=omega)only[go_sem])
   all_goals(try(repeat'(with_reducible apply And.intro)))
   all_goals(exact .sl (by simp))
  rintro i ⟨hi1,hi2⟩ J2 hJ2;refine gO ?_;refine ⟨fun hlt=>?_,fun hge=>?_⟩
  ·obtain⟨b,hb⟩:∃ b,l[i]?=some b:=⟨_,gE (by simp at hlt;omega)⟩;have hbd2:(l.take k++w::((l.drop k).take (i-k)).map V2).length+1≤4294967296:=by simp;omega
   have hbok:=((Cv l).1 h1).2.2 b (mG hb);have hbp:0≤b.Df∧b.Df≤3:=by simp[AS.ok,AL]at hbok;omega
   have hnx:(l.drop k).take (i+1-k)=(l.drop k).take (i-k)++[b]:=by
    rw[show i+1-k=(i-k)+1 by omega,take_add_one,List.getElem?_drop,show k+(i-k)=i by omega,hb];rfl
   simp(disch:=omega)only[go_sem,gm,hb];refine hJ2 _ (i+1) ⟨by omega,by simp at hlt;omega⟩ (by simp at hlt;omega) (Imp.Am ?_ ?_)
   all_goals(try simp(disch:=omega)only[go_sem])
   exact .sl (by rw[hnx];simp[V2,AS.c])
  ·have hil:i=l.length:=by simp at hge;omega
   subst hil;rw[show (l.drop k).take (l.length-k)=l.drop k from List.take_of_length_le (by simp)];refine Cf ⟨[],[],[5248]⟩ _ ?_;simp(disch:=omega)only[go_sem]
def BR(q:Queue)(p:Ae):Queue × List AO × Int:=if !valid q then (q0,[],2) else if !(As q p).isSome then (q0,[],10) else (Fh (ER q p),(B1 (ER q p)).2,0)
def BO(q:Queue)(p:Ae)(a:Amt):Queue × List AO × Int:=if !valid q then (q0,[],2) else if (AB q.holds p).zero then (q0,[],10) else if (As q p).isSome then (q0,[],14) else if !q.res.covers (AB q.holds p) a then (q0,[],12) else if decide (AB q.holds p=a) then (q,[],0) else (Fh (JO q p a),(B1 (JO q p a)).2,0)
def Hi(q:Queue)(p:Ae)(a:Amt):Queue:={ q with An:=q.An++[⟨p,ES q.res (AB q.holds p) a,0,0⟩] }
def Iq(q:Queue)(p:Ae)(a:Amt)(prio:Int):Queue:={ q with waits:=Ms q.waits ⟨p,a,prio,0⟩ }
def BD(q:Queue)(p:Ae)(a:Amt)(prio:Int):Queue × List AO × Int:=if !valid q then (q0,[],2) else if !p.ok then (q0,[],1) else if decide (prio<0) then (q0,[],1) else if decide (7<prio) then (q0,[],1) else if !q.res.fits a then (q0,[],12) else if (As q p).isSome then (q0,[],14)
 else if q.res.covers (AB q.holds p) a then (q,[],0) else if !(AB q.holds p).zero then (Fh (Hi q p a),(B1 (Hi q p a)).2,0) else if decide (8≤(q.holds.length:Int)+q.waits.length) then (q0,[],4) else (Fh (Iq q p a prio),(B1 (Iq q p a prio)).2,0)
theorem FD{q:Queue}{p:Ae}(h:(As q p).isSome=false):As q p=none:=by
 cases hw:As q p
 ·rfl
 ·rw[hw]at h;cases h
theorem f292_ok(q:Queue)(p:Ae)(h:BC q≤100):Ad C0 292 [.agg q.c,.agg p.c] [] (.tup [.agg (BR q p).1.c,AH (BR q p).2.1,I (BR q p).2.2]) []:=by
 obtain⟨h1,h2,h3⟩:=Bb h;refine Ad.go f292 ?_;unfold f292;refine gO ?_;refine Ac (f158_ok q h1 h3) ?_;cases hv:valid q
 ·have e:BR q p=(q0,[],2):=by simp[BR,hv]
  simp(disch:=omega)only[go_sem,Bool.not_false,e,q0];refine Ap _ ?_;refine .tup (Aj.AM ?_);simp(disch:=omega)only[go_sem]
  repeat'(with_reducible apply And.intro)
  all_goals(first|exact .Az (by omega)|exact .agg (Aj.AM gI))
 refine gO ?_;refine Ac (f98_ok q p h2 h3) ?_;cases hw:(As q p).isSome
 ·have e:BR q p=(q0,[],10):=by simp[BR,hv,hw]
  simp(disch:=omega)only[go_sem,Bool.not_false,e,q0];refine Ap _ ?_;refine .tup (Aj.AM ?_);simp(disch:=omega)only[go_sem]
  repeat'(with_reducible apply And.intro)
  all_goals(first|exact .Az (by omega)|exact .agg (Aj.AM gI))
 have e:BR q p=(Fh (ER q p),(B1 (ER q p)).2,0):=by simp[BR,hv,hw]
 rw[e];refine gO ?_;refine Ac (f164_ok q h1 h2 h3) ?_;refine gO ?_;refine Ac (f166_ok q.An p h2) ?_;refine gO ?_;refine Ac (f166_ok q.waits p h3) ?_;refine gO ?_;have hw':=BN q.waits p;have hc':=BN q.An p;refine Ai (f167_ok (ER q p) (Pd ((C9 q).1 hv).1 p) h1 (by simp[ER];omega) (by simp[ER];omega)) (by simp(disch:=omega)only[go_sem,ER]) rfl ?_;refine gO ?_;exact AE _
theorem f259_ok(q:Queue)(p:Ae)(a:Amt)(h:BC q≤100):Ad C0 259 [.agg q.c,.agg p.c,.agg a.c] [] (.tup [.agg (BO q p a).1.c,AH (BO q p a).2.1,I (BO q p a).2.2]) []:=by
 obtain⟨h1,h2,h3⟩:=Bb h;refine Ad.go f259 ?_;unfold f259;refine gO ?_;refine Ac (f158_ok q h1 h3) ?_;cases hv:valid q
 ·have e:BO q p a=(q0,[],2):=by simp[BO,hv]
  simp(disch:=omega)only[go_sem,Bool.not_false,e,q0];refine Ap _ ?_;refine .tup (Aj.AM ?_);simp(disch:=omega)only[go_sem]
  repeat'(with_reducible apply And.intro)
  all_goals(first|exact .Az (by omega)|exact .agg (Aj.AM gI))
 refine gO ?_;refine Ac (f163_ok q p h1) ?_;refine gO ?_;refine Ac (f162_ok (AB q.holds p)) ?_;cases hz:(AB q.holds p).zero;rotate_left
 ·have e:BO q p a=(q0,[],10):=by simp[BO,hv,hz]
  simp(disch:=omega)only[go_sem,Bool.not_false,e,q0];refine Ap _ ?_;refine .tup (Aj.AM ?_);simp(disch:=omega)only[go_sem]
  repeat'(with_reducible apply And.intro)
  all_goals(first|exact .Az (by omega)|exact .agg (Aj.AM gI))
 refine gO ?_;refine Ac (f98_ok q p h2 h3) ?_;cases hw:(As q p).isSome;rotate_left
 ·have e:BO q p a=(q0,[],14):=by simp[BO,hv,hz,hw]
  simp(disch:=omega)only[go_sem,Bool.not_false,e,q0];refine Ap _ ?_;refine .tup (Aj.AM ?_);simp(disch:=omega)only[go_sem]
  repeat'(with_reducible apply And.intro)
  all_goals(first|exact .Az (by omega)|exact .agg (Aj.AM gI))
 refine gO ?_;refine Ac (f253_ok q.res (AB q.holds p) a) ?_;cases hc:q.res.covers (AB q.holds p) a
 ·have e:BO q p a=(q0,[],12):=by simp[BO,hv,hz,hw,hc]
  simp(disch:=omega)only[go_sem,Bool.not_false,e,q0];refine Ap _ ?_;refine .tup (Aj.AM ?_);simp(disch:=omega)only[go_sem]
  repeat'(with_reducible apply And.intro)
  all_goals(first|exact .Az (by omega)|exact .agg (Aj.AM gI))
 refine gO ?_;refine Ac (f164_ok q h1 h2 h3) ?_;refine gO ?_;cases ha:decide (AB q.holds p=a);rotate_left
 ·have e:BO q p a=(q,[],0):=by simp only[BO,hv,hz,hw,hc,ha];rfl
  simp(disch:=omega)only[go_sem,ha,e];exact EL _
 simp(disch:=omega)only[go_sem,ha];have e:BO q p a=(Fh (JO q p a),(B1 (JO q p a)).2,0):=by simp only[BO,hv,hz,hw,hc,ha];rfl
 rw[e];refine Ac (f165_ok q.holds p a h1) ?_;refine gO ?_;have hl:=Lh hz;have hl2:=Ny (l:=q.holds) (p:=p) (a:=a);refine Ai (f167_ok (JO q p a) (Sx ((C9 q).1 hv).1 hz (FD hw) hc) (by simp[JO];omega) h2 h3) (by simp(disch:=omega)only[go_sem,JO]) rfl ?_;refine gO ?_;exact AE _
theorem XQ(q:Queue)(h1:q.holds.length≤1000000)(h2:q.An.length≤1000000)(h3:q.waits.length≤1000000):Ad C0 164 [.agg q.c] [] (.agg [.v (.string (str q.res.name)),.v (.int .i64 q.res.kind),.v (.int .i64 q.res.AA),.v (.int .i64 q.res.home),AH q.holds,.sl (.own 0 0) 7 (q.An.map AS.c),A7 q.waits,.v (.int .i64 q.gen)]) []:=by
 refine Ad.go f164 ?_;unfold f164;refine gO ?_;refine Cf ⟨[(704,0)],[],[384,1024]⟩ _ ?_;simp(disch:=omega)only[go_sem,AH]
theorem f255_ok(q:Queue)(p:Ae)(a:Amt)(prio:Int)(h:BC q≤100):Ad C0 255 [.agg q.c,.agg p.c,.agg a.c,I prio] [] (.tup [.agg (BD q p a prio).1.c,AH (BD q p a prio).2.1,I (BD q p a prio).2.2]) []:=by
 obtain⟨h1,h2,h3⟩:=Bb h;refine Ad.go f255 ?_;unfold f255;refine gO ?_;refine Ac (f158_ok q h1 h3) ?_;cases hv:valid q
 ·have e:BD q p a prio=(q0,[],2):=by simp[BD,hv]
  simp(disch:=omega)only[go_sem,Bool.not_false,e,q0];refine Ap _ ?_;refine .tup (Aj.AM ?_);simp(disch:=omega)only[go_sem]
  repeat'(with_reducible apply And.intro)
  all_goals(first|exact .Az (by omega)|exact .agg (Aj.AM gI))
 refine gO ?_;refine Ac (f105_ok p) ?_;cases hp:p.ok
 ·have e:BD q p a prio=(q0,[],1):=by simp[BD,hv,hp]
  simp(disch:=omega)only[go_sem,Bool.not_false,e,q0];refine Ap _ ?_;refine .tup (Aj.AM ?_);simp(disch:=omega)only[go_sem]
  repeat'(with_reducible apply And.intro)
  all_goals(first|exact .Az (by omega)|exact .agg (Aj.AM gI))
 refine gO ?_
 by_cases hp0:prio<0
 ·have e:BD q p a prio=(q0,[],1):=by simp[BD,hv,hp,hp0]
  simp(disch:=omega)only[go_sem,eq_true hp0,decide_true,e,q0];refine Ap _ ?_;refine .tup (Aj.AM ?_);simp(disch:=omega)only[go_sem]
  repeat'(with_reducible apply And.intro)
  all_goals(first|exact .Az (by omega)|exact .agg (Aj.AM gI))
 by_cases hp7:7<prio
 ·have e:BD q p a prio=(q0,[],1):=by simp[BD,hv,hp,hp0,hp7]
  simp(disch:=omega)only[go_sem,eq_false hp0,eq_true hp7,decide_true,decide_false,e,q0];refine Ap _ ?_;refine .tup (Aj.AM ?_);simp(disch:=omega)only[go_sem]
  repeat'(with_reducible apply And.intro)
  all_goals(first|exact .Az (by omega)|exact .agg (Aj.AM gI))
 simp(disch:=omega)only[go_sem,eq_false hp0,eq_false hp7,decide_false];refine Ac (f171_ok q.res a) ?_;cases hf:q.res.fits a
 ·have e:BD q p a prio=(q0,[],12):=by simp[BD,hv,hp,hp0,hp7,hf]
  simp(disch:=omega)only[go_sem,Bool.not_false,e,q0];refine Ap _ ?_;refine .tup (Aj.AM ?_);simp(disch:=omega)only[go_sem]
  repeat'(with_reducible apply And.intro)
  all_goals(first|exact .Az (by omega)|exact .agg (Aj.AM gI))
 refine gO ?_;refine Ac (f98_ok q p h2 h3) ?_;cases hw:(As q p).isSome;rotate_left
 ·have e:BD q p a prio=(q0,[],14):=by simp[BD,hv,hp,hp0,hp7,hf,hw]
  simp(disch:=omega)only[go_sem,Bool.not_false,e,q0];refine Ap _ ?_;refine .tup (Aj.AM ?_);simp(disch:=omega)only[go_sem]
  repeat'(with_reducible apply And.intro)
  all_goals(first|exact .Az (by omega)|exact .agg (Aj.AM gI))
 refine gO ?_;refine Bn ⟨⟨[],[],[]⟩,[(0,3072)],[]⟩ (XQ q h1 h2 h3) gI (by decide) trivial (.inl rfl) ?_;refine gO ?_;refine C2 [3072] (f163_ok q p h1) gI rfl (by simp[Amt.c,AV.ren,EY,Flat,Kb]) ?_;refine gO ?_;refine Ac (f253_ok q.res (AB q.holds p) a) ?_;cases hc:q.res.covers (AB q.holds p) a;rotate_left
 ·have e:BD q p a prio=(q,[],0):=by simp[BD,hv,hp,hp0,hp7,hf,hw,hc]
  simp(disch:=omega)only[go_sem,e];refine Cf ⟨[],[],[3072]⟩ _ ?_;refine gO ?_;refine .tup (Aj.AM ?_);simp(disch:=omega)only[go_sem]
  repeat'(with_reducible apply And.intro)
  all_goals(first|exact .Az (by omega)|exact .agg (Aj.AM gI))
 refine gO ?_;have hs:=((C9 q).1 hv).1;have hsl:=Sw hs;unfold BC BQ at hsl;refine Ac (f162_ok (AB q.holds p)) ?_;cases hz:(AB q.holds p).zero
 ·have e:BD q p a prio=(Fh (Hi q p a),(B1 (Hi q p a)).2,0):=by simp[BD,hv,hp,hp0,hp7,hf,hw,hc,hz]
  rw[e];have hbd:q.An.length+1≤4294967296:=by omega
  simp(disch:=omega)only[go_sem,Bool.not_false];refine Aq 10 [([],[4]),([],[61]),([],[5]),([],[4]),([],[64]),([],[13]),([],[6]),([],[65,66,67]),([7],[63,68]),([7],[69])] fol ?_;simp(disch:=omega)only[go_sem]
  first|(refine Ac (f254_ok q.res (AB q.holds p) a) ?_)|(refine Ar (f254_ok q.res (AB q.holds p) a) ?_)
  refine gO ?_;refine FW [4544] (f167_ok (Hi q p a) (QX hs hf (FD hw) hz hc) h1 (by simp[Hi];omega) h3) (by simp(disch:=omega)only[go_sem,Hi];exact .eq (by simp[AS.c])) rfl ?_;refine gO ?_;exact AE _
 ·simp(disch:=omega)only[go_sem,Bool.not_true];have e8:(q.holds.length:Int)+q.waits.length=((q.holds.length+q.waits.length:Nat):Int):=by omega
  by_cases h8:8≤(q.holds.length:Int)+q.waits.length
  ·have e:BD q p a prio=(q0,[],4):=by simp only[BD,hv,hp,hf,hw,hc,hz,decide_eq_false hp0,decide_eq_false hp7,decide_eq_true h8];rfl
   simp(disch:=omega)only[go_sem,eq_true h8,decide_true,e,q0];refine Ap _ ?_;refine .tup (Aj.AM ?_);simp(disch:=omega)only[go_sem]
   repeat'(with_reducible apply And.intro)
   all_goals(first|exact .Az (by omega)|exact .agg (Aj.AM gI))
  simp(disch:=omega)only[go_sem,eq_false h8,decide_false];have e:BD q p a prio=(Fh (Iq q p a prio),(B1 (Iq q p a prio)).2,0):=by simp only[BD,hv,hp,hf,hw,hc,hz,decide_eq_false hp0,decide_eq_false hp7,decide_eq_false h8];rfl
  rw[e];have hS:=Sy hs hp (prio:=prio) ⟨by omega,by omega⟩ hf (FD hw) hz (by omega);obtain⟨a1,a2,a3⟩:=(Bz q).1 hs.waits;have hwo:AS.ok ⟨p,a,prio,0⟩=true:=by simp[AS.ok,hp,OW hf,AL];omega
  have hnone:¬ 0≤E3 q.waits p:=by
   have hn:=Jo.1 (FD hw);unfold E3;have:q.waits.findIdx? (fun h=>decide (h.proc=p))=none:=by
    rw[List.findIdx?_eq_none_iff];intro x hx;simpa using hn x (by simp[hx])
   rw[this];simp
  have ei:KJ q.waits ⟨p,a,prio,0⟩=(Ms q.waits ⟨p,a,prio,0⟩,((EX q.waits ⟨p,a,prio,0⟩ q.waits.length:Nat):Int),0):=by
   have:q.waits.length≠8:=by omega
   simp[KJ,a1,hwo,hnone,this]
  have hi:=f291_ok q.waits ⟨p,a,prio,0⟩ h3;rw[ei]at hi;refine Ac hi ?_;refine gO ?_;have hpl:=QP q.waits ⟨p,a,prio,0⟩;refine FW [3072] (f167_ok (Iq q p a prio) hS h1 h2 (show (Ms q.waits ⟨p,a,prio,0⟩).length≤1000000 by omega)) (by simp(disch:=omega)only[go_sem,Iq]) rfl ?_;refine gO ?_;exact AE _
structure DZ(t:List Queue):Prop where
 n:t.length≤100
 q:∀ q∈t,BC q≤100
def Gb(t:List Queue):Bool:=Ch t&&decide ((AN t).length≤8)
theorem f115_ok(t:List Queue)(h:DZ t):Ad C0 115 [Ay t] [] (B (Gb t)) []:=by
 refine Ad.go f115 ?_;unfold f115;refine gO ?_;refine Ac (f104_ok t h.q) ?_;cases hq:Ch t
 ·simp(disch:=omega)only[go_sem];refine Ap _ ?_;exact wb (by simp[Gb,hq])
 refine gO ?_;refine Bn ⟨⟨[],[],[]⟩,[(0,448)],[]⟩ (f75_ok t h.n h.q) gI rfl trivial (.inl rfl) ?_;refine gO ?_;refine Ap _ ?_;exact wb (by simp[Gb,hq];omega)
def Cg(t:List Queue)(name:Bs):Option Nat:=t.findIdx? fun q=>q.res.name==name
def atI(o:Option Nat):Int:=match o with|some i=>i|none=>-1
theorem I2(l:List Queue)(name:Bs)(hl:l.length≤1000000):Ad C0 97 [Ay l,.v (.string (str name))] [] (I (atI (Cg l name))) []:=f97_ok l name hl
theorem Dk{t:List Queue}{n:Bs}{i:Nat}(h:Cg t n=some i):i<t.length∧∃ q,t[i]?=some q∧q.res.name=n:=by
 unfold Cg at h;rw[List.findIdx?_eq_some_iff_getElem]at h;obtain⟨h1,h2,_⟩:=h;exact⟨h1,t[i],gE h1,by simpa using h2⟩
theorem f256_ok(t:List Queue)(i:Nat)(q:Queue)(h:t.length≤100)(hi:i<t.length):Ad C0 256 [Ay t,I i,.agg q.c] [] (Ay (t.set i q)) []:=by
 obtain⟨b,hb⟩:∃ b,t[i]?=some b:=⟨_,gE hi⟩;refine Ad.go f256 ?_;unfold f256;simp(disch:=omega)only[go_sem,gm,hb];refine Cf ⟨[],[],[640]⟩ _ ?_;refine gO ?_;exact .sl (by rw[map_set];rfl)
def Cu(name:Bs)(l:List AO):List Ev:=l.map fun h=>⟨1,h.proc,name,h.amt⟩
theorem f257_ok(name:Bs)(l:List AO)(h:l.length≤1000000):Ad C0 257 [.v (.string (str name)),AH l] [] (Ug (Cu name l)) []:=by
 refine Ad.go f257 ?_;unfold f257;refine gO ?_;refine Ab (α:=Nat) (fun i=>⟨[(6,I i),(5,.sl (.own 1728 0) 7 ((Cu name (l.take i)).map Ev.c)),(0,.v (.string (str name))),(1,AH l)],[]⟩) (fun i=>i≤(l).length∧True) (fun i=>(l).length-i) 0 ⟨by omega,trivial⟩ ?_ ?_
 ·refine Imp.Am ?_ ?_
  all_goals(try simp(disch:=omega)only[go_sem])
  all_goals(try(repeat'(with_reducible apply And.intro)))
  all_goals(first|exact .AG (by omega)|exact .Az (by omega)|exact .sl (by simp[Cu])|exact .int (by simp[Cu])|exact .eq (by simp[Cu]))
 rintro i ⟨hi,hP⟩ J hJ;refine gO ?_;refine ⟨fun hlt=>?_,fun hge=>?_⟩;rotate_left;have hil:i=(l).length:=by simp at hge;omega
 rotate_left;obtain⟨b,hb⟩:∃ b,(l)[i]?=some b:=⟨_,gE (by simp at hlt;omega)⟩;have hbm:=mG hb;have hlt2:i<(l).length:=by simp at hlt;omega
 ·have hbd:(Cu name (l.take i)).length+1≤4294967296:=by simp[Cu];omega
  refine Aq 14 [([],[5]),([],[1]),([],[6]),([],[14,15]),([],[16]),([],[17]),([],[0]),([],[1]),([],[6]),([],[20,21]),([],[22]),([],[23]),([],[18,19,24]),([],[25])] fol ?_;simp(disch:=omega)only[go_sem,gm,hb];refine hJ _ (i+1) ⟨by simp at hlt;omega,trivial⟩ (by simp at hlt;omega) (Imp.Am ?_ ?_)
  all_goals(try simp(disch:=omega)only[go_sem])
  all_goals(try(repeat'(with_reducible apply And.intro)))
  all_goals(first|exact .AG (by omega)|exact .Az (by omega)|exact .sl (by simp[Cu,take_add_one,hb,Ev.c])|exact .int (by simp[Cu,take_add_one,hb,Ev.c])|exact .eq (by simp[Cu,take_add_one,hb,Ev.c]))
 ·subst hil;rw[take_length];refine Cf ⟨[],[],[1728]⟩ _ ?_;simp(disch:=omega)only[go_sem]
theorem f173_ok(a l2:List Atom):Ad C0 173 [Bv a,Bv l2] [] (B (decide (a=l2))) []:=by
 refine Ad.lens f173 fun hlen=>?_
 simp only[D9,lens,length_map,and_true,true_and]at hlen;refine Ad.go f173 ?_;unfold f173
 by_cases hl:a.length=l2.length
 rotate_left
 ·have e1:((a.length:Int) !=l2.length)=true:=by simp;omega
  simp(disch:=omega)only[go_sem,e1];refine Ap _ ?_;exact wb (by have:a≠l2:=fun e=>hl (by rw[e]);simp[this])
 have e1:((a.length:Int) !=l2.length)=false:=by simp[hl]
 simp(disch:=omega)only[go_sem,e1];refine Ab (α:=Nat) (fun i=>⟨[(5,I i),(0,Bv a),(1,Bv l2)],[]⟩) (fun i=>i≤(a).length∧a.take i=l2.take i) (fun i=>(a).length-i) 0 ⟨by omega,rfl⟩ ?_ ?_
 ·exact BB
 rintro i ⟨hi,hP⟩ J hJ;refine gO ?_;refine ⟨fun hlt=>?_,fun hge=>?_⟩;rotate_left;have hil:i=(a).length:=by simp at hge;omega
 rotate_left;obtain⟨b,hb⟩:∃ b,(a)[i]?=some b:=⟨_,gE (by simp at hlt;omega)⟩;have hbm:=mG hb;have hlt2:i<(a).length:=by simp at hlt;omega
 refine Aq 8 [([],[0]),([],[5]),([],[17,18]),([],[19]),([],[1]),([],[5]),([],[21,22]),([],[23])] fol ?_;simp(disch:=omega)only[go_sem,gm,hb]
 ·obtain⟨c,hc⟩:∃ c,l2[i]?=some c:=⟨_,gE (by omega)⟩;simp(disch:=omega)only[go_sem,gm,hb,hc]
  by_cases hbc:b=c
  ·simp(disch:=omega)only[go_sem,hbc,decide_true];refine hJ _ (i+1) ⟨by simp at hlt;omega,(by rw[take_add_one,take_add_one,hb,hc,hP,hbc])⟩ (by simp at hlt;omega) AR
  ·simp(disch:=omega)only[go_sem,hbc,decide_false];refine Ap _ ?_;refine wb ?_;have:a≠l2:=fun h=>hbc (by rw[h,hc]at hb;simpa using hb.symm)
   simp[this]
 ·subst hil;rw[take_length,hl,take_length]at hP;refine Ap _ ?_;exact wb (by simp[hP])
def Hj(t:List Queue)(p:Ae):List Atom:=t.filterMap fun q=>if (AB q.holds p).zero then none else some ⟨q.res.name,AB q.holds p⟩
def EO(t:List Queue)(p:Ae):List Atom:=t.filterMap fun q=>(As q p).map fun a=>⟨q.res.name,a⟩
theorem WU{α β:Type}{f:α→Option β}{l:List α}{i:Nat}{b:α}(hb:l[i]?=some b):(l.take (i+1)).filterMap f=(l.take i).filterMap f++(f b).toList:=by
 rw[take_add_one,hb,List.filterMap_append];cases h:f b<;>simp[h]
theorem Zg{α β:Type}{f:α→Option β}(l:List α)(i:Nat):((l.take i).filterMap f).length≤l.length :=
 Nat.le_trans (List.length_filterMap_le _ _) (by simp;omega)
theorem f174_ok(t:List Queue)(p:Ae)(h:DZ t):Ad C0 174 [Ay t,.agg p.c] [] (Bv (Hj t p)) []:=by
 have hn:=h.n;refine Ad.go f174 ?_;unfold f174;refine gO ?_;refine Ab (α:=Nat) (fun i=>⟨[(6,I i),(5,.sl (.own 2112 0) 3 ((Hj (t.take i) p).map Atom.c)),(0,Ay t),(3,.ptr 192 0)],[(192,p.c)]⟩) (fun i=>i≤(t).length∧True) (fun i=>(t).length-i) 0 ⟨by omega,trivial⟩ ?_ ?_
 ·refine Imp.Am ?_ ?_
  all_goals(try simp(disch:=omega)only[go_sem])
  all_goals(try(repeat'(with_reducible apply And.intro)))
  all_goals(first|exact .AG (by omega)|exact .Az (by omega)|exact .sl (by simp[Hj])|exact .int (by simp[Hj])|exact .eq (by simp[Hj]))
 rintro i ⟨hi,hP⟩ J hJ;refine gO ?_;refine ⟨fun hlt=>?_,fun hge=>?_⟩;rotate_left;have hil:i=(t).length:=by simp at hge;omega
 rotate_left;obtain⟨b,hb⟩:∃ b,(t)[i]?=some b:=⟨_,gE (by simp at hlt;omega)⟩;have hbm:=mG hb;have hlt2:i<(t).length:=by simp at hlt;omega
 ·have hl:(Hj (t.take i) p).length≤t.length:=Zg t i;have hbd:(Hj (t.take i) p).length+1≤4294967296:=by omega
  obtain⟨q1,q2,q3⟩:=Bb (h.q b hbm);have hx:Hj (t.take (i+1)) p=Hj (t.take i) p++(if (AB b.holds p).zero then none else some (⟨b.res.name,AB b.holds p⟩:Atom)).toList:=WU hb;generalize hL:Hj (t.take i) p=L at hbd hx;refine Aq 7 [([],[0]),([],[6]),([],[14,15]),([],[16]),([],[3]),([],[17,18]),([],[])] fol ?_;simp(disch:=omega)only[go_sem,gm,hb]
  first|(refine Ac (f163_ok b p q1) ?_)|(refine Ar (f163_ok b p q1) ?_)
  refine gO ?_;refine Ac (f162_ok (AB b.holds p)) ?_;cases hz:(AB b.holds p).zero
  ·simp(disch:=omega)only[go_sem,Bool.not_false];refine Aq 10 [([],[5]),([],[0]),([],[6]),([],[24,25]),([],[26]),([],[27]),([],[28]),([],[7]),([],[29,30]),([],[31])] fol ?_;simp(disch:=omega)only[go_sem,gm,hb];rw[hz]at hx;refine hJ _ (i+1) ⟨by simp at hlt;omega,trivial⟩ (by simp at hlt;omega) (Imp.Am ?_ ?_)
   all_goals(try simp(disch:=omega)only[go_sem])
   all_goals(try(repeat'(with_reducible apply And.intro)))
   all_goals(first|exact .AG (by omega)|exact .Az (by omega)|exact .sl (by simp[hx,Atom.c])|exact .int (by simp[hx,Atom.c])|exact .eq (by simp[hx,Atom.c]))
  ·simp(disch:=omega)only[go_sem,Bool.not_true];rw[hz]at hx;refine hJ _ (i+1) ⟨by simp at hlt;omega,trivial⟩ (by simp at hlt;omega) (Imp.Am ?_ ?_)
   all_goals(try simp(disch:=omega)only[go_sem])
   all_goals(try(repeat'(with_reducible apply And.intro)))
   all_goals(first|exact .AG (by omega)|exact .Az (by omega)|exact .sl (by simp[hx])|exact .int (by simp[hx])|exact .eq (by simp[hx]))
 ·subst hil;rw[take_length];refine Cf ⟨[],[],[2112]⟩ _ ?_;simp(disch:=omega)only[go_sem]
theorem f175_ok(t:List Queue)(p:Ae)(h:DZ t):Ad C0 175 [Ay t,.agg p.c] [] (Bv (EO t p)) []:=by
 have hn:=h.n;refine Ad.go f175 ?_;unfold f175;refine gO ?_;refine Ab (α:=Nat) (fun i=>⟨[(6,I i),(5,.sl (.own 2240 0) 3 ((EO (t.take i) p).map Atom.c)),(0,Ay t),(3,.ptr 192 0)],[(192,p.c)]⟩) (fun i=>i≤(t).length∧True) (fun i=>(t).length-i) 0 ⟨by omega,trivial⟩ ?_ ?_
 ·refine Imp.Am ?_ ?_
  all_goals(try simp(disch:=omega)only[go_sem])
  all_goals(try(repeat'(with_reducible apply And.intro)))
  all_goals(first|exact .AG (by omega)|exact .Az (by omega)|exact .sl (by simp[EO])|exact .int (by simp[EO])|exact .eq (by simp[EO]))
 rintro i ⟨hi,hP⟩ J hJ;refine gO ?_;refine ⟨fun hlt=>?_,fun hge=>?_⟩;rotate_left;have hil:i=(t).length:=by simp at hge;omega
 rotate_left;obtain⟨b,hb⟩:∃ b,(t)[i]?=some b:=⟨_,gE (by simp at hlt;omega)⟩;have hbm:=mG hb;have hlt2:i<(t).length:=by simp at hlt;omega
 ·have hl:(EO (t.take i) p).length≤t.length:=Zg t i;have hbd:(EO (t.take i) p).length+1≤4294967296:=by omega
  obtain⟨q1,q2,q3⟩:=Bb (h.q b hbm);have hx:EO (t.take (i+1)) p=EO (t.take i) p++((As b p).map fun a=>(⟨b.res.name,a⟩:Atom)).toList:=WU hb;generalize hL:EO (t.take i) p=L at hbd hx;refine CA 4095 [(0,1,0),(1,2,0),(2,4,3),(3,8,4),(4,16,0),(5,32,24),(6,64,32),(7,128,64),(8,256,64),(9,512,0),(10,1024,767),(11,2048,2047)] [0,1,2,16,512,3,17,513,18,514,528,7,19,515,529,530,15,23,519,531,31,527,535,63,543,127,575,255,383,639,511,767,895,1023,1791,2047,4095] (fun m=>⟨sel m [(1,16,Ay t),(2,17,I i),(4,18,.ep .no i b.c 0),(8,19,.agg b.c),(16,20,.agg p.c),(32,21,.tup [.agg ((As b p).getD ⟨0,0⟩).c,B (As b p).isSome]),(64,15,.tup [.agg ((As b p).getD ⟨0,0⟩).c,B (As b p).isSome]),(128,22,.agg ((As b p).getD ⟨0,0⟩).c),(256,23,B (As b p).isSome),(512,7,.ptr 448 0),(2048,8,B (As b p).isSome)]++[(6,I i),(5,.sl (.own 2240 0) 3 (L.map Atom.c)),(0,Ay t),(3,.ptr 192 0)],((if m / 512%2=1 then [(448,(if m / 1024%2=1 then ((As b p).getD ⟨0,0⟩).c else (⟨0,0⟩:Amt).c))] else [])++[(192,p.c)])⟩) ?_ ?_ ?_ fol
  ·exact AR
  ·simp (maxSteps:=100000000)only[Cz,Cy,Dj,Di,and_true,Nat.reduceDiv,Nat.reduceMod,Nat.reduceAnd,Nat.reduceEqDiff,reduceIte,true_and,and_false,false_and,and_self]
   repeat'(with_reducible refine And.intro ?_ ?_)
   all_goals simp(disch:=omega)only[go_sem,gm,hb,nil_append]
   all_goals first|exact Imp.Am gI (by simp(disch:=omega)only[go_sem,nil_append,cons_append])|(refine Ac (f98_ok b p q2 q3) ?_;simp(disch:=omega)only[go_sem];exact Imp.Am gI (by simp(disch:=omega)only[go_sem,nil_append,cons_append]))
  cases hw:As b p with
  |none =>
   rw[hw]at hx;simp(disch:=omega)only[go_sem,hw,Option.isSome_none,nil_append,cons_append];refine hJ _ (i+1) ⟨by simp at hlt;omega,trivial⟩ (by simp at hlt;omega) (Imp.Am ?_ ?_)
   all_goals(try simp(disch:=omega)only[go_sem])
   all_goals(try(repeat'(with_reducible apply And.intro)))
   all_goals(first|exact .AG (by omega)|exact .Az (by omega)|exact .sl (by simp[hx])|exact .int (by simp[hx])|exact .eq (by simp[hx]))
  |some a =>
   rw[hw]at hx;simp(disch:=omega)only[go_sem,hw,Option.isSome_some,Option.getD_some,nil_append,cons_append];refine Aq 10 [([],[5]),([],[0]),([],[6]),([],[26,27]),([],[28]),([],[29]),([],[30]),([],[7]),([],[31,32]),([],[33])] fol ?_;simp(disch:=omega)only[go_sem,gm,hb];refine hJ _ (i+1) ⟨by simp at hlt;omega,trivial⟩ (by simp at hlt;omega) (Imp.Am ?_ ?_)
   all_goals(try simp(disch:=omega)only[go_sem])
   all_goals(try(repeat'(with_reducible apply And.intro)))
   all_goals(first|exact .AG (by omega)|exact .Az (by omega)|exact .sl (by simp[hx,Atom.c])|exact .int (by simp[hx,Atom.c])|exact .eq (by simp[hx,Atom.c]))
 ·subst hil;rw[take_length];refine Cf ⟨[],[],[2240]⟩ _ ?_;simp(disch:=omega)only[go_sem]
end Go.Rd
