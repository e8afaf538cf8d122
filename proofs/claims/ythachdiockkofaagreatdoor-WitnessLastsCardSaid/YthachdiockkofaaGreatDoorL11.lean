/- part 11 of the proof -/
import Derived.Test.YthachdiockkofaaGreatDoorProg
import Derived.Shelf.SlSortCmp.WholeK
import Derived.Shelf.SlSortCmp.NoneTotal
import Derived.Test.YthachdiockkofaaGreatDoorL10
set_option linter.all false
open Go Go.Abs Go.Proofs
set_option maxRecDepth 100000
namespace Go.Rd
set_option maxHeartbeats 8000000
open Option (isSome_none isSome_some)
open Nat (one_ne_zero)
open Tryz
def Et(r:Res)(l:List AK)(p:Ab)(a:Amt):Bool:=Bf r l&&p.ok&&r.fits a&&Bf r (B5 l p a)
def f238_ok(r:Res)(l:List AK)(p:Ab)(a:Amt)(hl:l.length≤1000000):Ad C0 238 [.agg r.c,AL l,.agg p.c,.agg a.c] [] (B (Et r l p a)) []:=by
 refine Ad.go f238 ?_;unfold f238;refine gO ?_;refine Aw 11 [([],[4]),([],[1]),([],[6]),([],[7]),([],[9,10,11,12]),([4],[13]),([4],[4,14]),([4],[1,14]),([4],[6,14]),([4],[7,14]),([4],[16,17,18,14])] fol ?_;refine gO ?_;refine Av (f271_ok r l p a) ?_;cases hc:(Bf r l&&p.ok&&r.fits a)
 ·simp(disch:=omega)only[go_sem];refine As _ ?_;exact wb (by simp[Et,hc])
 ·simp(disch:=omega)only[go_sem];refine Av (f203_ok l p a hl) ?_;refine gO ?_;refine Ae (f277_ok r (B5 l p a)) ?_;refine gO ?_;refine As _ ?_;exact wb (by simp only[Et,hc];rfl)
@[reducible] def X0(r:Nat)(l:List AP):AV:=.sl (.own r 0) 7 (l.map AP.c)
def f305_ok(n:Nat)(hn:n≤1000000):Ad C0 305 [.v (.slice none 0 0),I n] [] (X0 0 []) []:=by
 refine Ad.go f305 ?_;unfold f305;have e1:((n:Int)<0)=False:=by simp
 simp(disch:=omega)only[go_sem,e1,Int.sub_zero,decide_false];refine⟨fun h=>?_,fun h=>?_⟩
 ·refine Bd ⟨[(1408,0)],[],[]⟩ _ rfl ⟨rfl,rfl⟩ (by simp[lk]) ?_ trivial;simp(disch:=omega)only[go_sem,X0]
 ·refine Bd ⟨[],[],[]⟩ _ rfl ⟨rfl,rfl⟩ (by simp[lk]) ?_ trivial;simp(disch:=omega)only[go_sem,X0]
@[reducible] def N6(a b:List AP):AV:=.sl .no 1 [[Be a],[Be b]]
def f270_ok(a b:List AP)(h:a.length+b.length≤1000000):Ad C0 270 [N6 a b] [] (Be (a++b)) []:=by
 refine Ad.go f270 ?_;unfold f270;have z0:(decide ((0:Int)<2))=true:=by decide
 have z1:(decide ((1:Int)<2))=true:=by decide
 have z2:(decide ((2:Int)<2))=false:=by decide
 have l1:((a.length:Int)<0)=False:=by simp
 have l2:((a.length:Int)+b.length<0)=False:=eq_false (by omega);refine gO ?_;refine Ac (α:=Nat) (fun i=>⟨[(11,I i),(10,I 2),(9,N6 a b),(3,I (if i=0 then 0 else if i=1 then a.length else a.length+b.length)),(0,N6 a b)],[]⟩) (fun i=>i≤2) (fun i=>2-i) 0 (by simp) ?_ ?_
 ·exact Imp.Ar gI gI
 rintro i hi J hJ;obtain rfl|rfl|rfl:i=0∨i=1∨i=2:=by omega
 ·simp(disch:=omega)only[go_sem,z0,Int.zero_add,l1,decide_false];exact hJ _ 1 (by omega) (by omega) AT
 ·simp(disch:=omega)only[go_sem,z1,l2,decide_false,one_ne_zero];exact hJ _ 2 (by omega) (by omega) AT
 clear hJ;simp(disch:=omega)only[go_sem,z2];refine Bq ⟨⟨[],[],[]⟩,[(0,1536)],[]⟩ (f305_ok (a.length+b.length) h) gI rfl trivial (.inl rfl) ?_;refine gO ?_;refine Ac (α:=Nat) (fun i=>⟨[(27,I i),(26,I 2),(25,N6 a b),(6,.sl (.own 2112 0) 7 ((if i=0 then [] else if i=1 then a else a++b).map AP.c)),(0,N6 a b)],[]⟩) (fun i=>i≤2) (fun i=>2-i) 0 (by simp) ?_ ?_
 ·refine Imp.ren ⟨[(1536,2112)],[],[]⟩ ⟨rfl,rfl⟩ (by simp[lk]) ?_ ?_
  ·exact gI
  ·exact gI
 rintro i hi J hJ;obtain rfl|rfl|rfl:i=0∨i=1∨i=2:=by omega
 ·simp(disch:=omega)only[go_sem,z0];exact hJ _ 1 (by omega) (by omega) (Imp.Ar (by simp(disch:=omega)only[go_sem,one_ne_zero]) gI)
 ·simp(disch:=omega)only[go_sem,z1,one_ne_zero];exact hJ _ 2 (by omega) (by omega) (Imp.Ar (by simp(disch:=omega)only[go_sem];exact .sl (by simp)) gI)
 ·simp(disch:=omega)only[go_sem,z2];refine CL ⟨[],[],[2112]⟩ _ ?_;simp(disch:=omega)only[go_sem]
def f225_ok(q:Queue)(h:q.Ao.length+q.waits.length≤1000000):Ad C0 225 [.agg q.c] [] (Be (q.Ao++q.waits)) []:=by
 refine Ad.go f225 ?_;unfold f225;refine gO ?_;refine Is [448] (f270_ok q.Ao q.waits h) gI rfl ?_;refine gO ?_;exact AQ _
def Aq(q:Queue)(p:Ab):Option Amt:=((q.Ao++q.waits).find? fun w=>decide (w.proc=p)).map (·.amt)
def f228_ok(q:Queue)(p:Ab)(h:q.Ao.length+q.waits.length≤1000000):Ad C0 228 [.agg q.c,.agg p.c] [] (.tup [.agg ((Aq q p).getD ⟨0,0⟩).c,B (Aq q p).isSome]) []:=by
 refine Ad.go f228 ?_;unfold f228;refine gO ?_;refine Ae (f225_ok q h) ?_;have hw:Aq q p=((q.Ao++q.waits).find? fun w=>decide (w.proc=p)).map (·.amt):=rfl;have hl:(q.Ao++q.waits).length≤1000000:=by simpa using h
 generalize q.Ao++q.waits=l at hw hl;refine gO ?_;refine Ac (α:=Nat) (fun i=>⟨[(11,I i),(10,I l.length),(9,Be l),(3,.ptr 192 0),(4,.ptr 256 0)],[(192,p.c),(256,(⟨0,0⟩:Amt).c)]⟩) (fun i=>i≤(l).length∧(l.take i).find? (fun h=>decide (h.proc=p))=none) (fun i=>(l).length-i) 0 ⟨by omega,rfl⟩ ?_ ?_
 ·exact B0
 rintro i ⟨hi,hP⟩ J hJ;refine gO ?_;refine gR (l:=l) hi (fun b hb hbm hlt=>?_) (fun hil=>?_);simp(disch:=omega)only[go_sem,gm,hb]
 ·refine⟨fun h=>?_,fun h=>?_⟩
  ·have e:Aq q p=some b.amt:=by rw[hw,H2 hP hb (by simpa using h)];rfl
   simp(disch:=omega)only[go_sem,e];exact AQ _
  ·refine hJ _ (i+1) ⟨by omega,(by rw[BW hP hb];simp at h;simp[h])⟩ (by omega) AT
 ·subst hil;rw[tL]at hP;have e:Aq q p=none:=by rw[hw,hP];rfl
  simp(disch:=omega)only[go_sem,e];exact AQ _
def BN(l:List AP):List Ab:=l.map (·.proc)
def f147_ok(q:Queue)(h:q.Ao.length+q.waits.length≤1000000):Ad C0 147 [.agg q.c] [] (AX (BN (q.Ao++q.waits))) []:=by
 refine Ad.go f147 ?_;unfold f147;refine gO ?_;refine Ae (f225_ok q h) ?_;have hl:(q.Ao++q.waits).length≤1000000:=by simpa using h
 generalize q.Ao++q.waits=l at hl;refine gO ?_;refine Ac (α:=Nat) (fun i=>⟨[(9,I i),(8,I l.length),(7,Be l),(3,.sl (.own 1088 0) 3 ((BN (l.take i)).map Ab.c))],[]⟩) (fun i=>i≤(l).length∧True) (fun i=>(l).length-i) 0 ⟨by omega,trivial⟩ ?_ ?_
 ·exact B0
 rintro i ⟨hi,hP⟩ J hJ;refine gO ?_;refine gR (l:=l) hi (fun b hb hbm hlt=>?_) (fun hil=>?_);simp(disch:=omega)only[go_sem,gm,hb]
 ·simp(disch:=omega)only[go_sem,BN];refine hJ _ (i+1) ⟨by omega,trivial⟩ (by omega) (Imp.Ar ?_ ?_)
  all_goals(try simp(disch:=omega)only[go_sem])
  all_goals(try(repeat'(with_reducible apply And.intro)))
  all_goals(first|exact .AO (by omega)|exact .AJ (by omega)|exact .sl (by simp[BN,tA,hb,Ab.c])|exact .int (by simp[BN,tA,hb,Ab.c])|exact .eq (by simp[BN,tA,hb,Ab.c]))
 ·subst hil;refine CL ⟨[],[],[1088]⟩ _ ?_;simp(disch:=omega)only[go_sem,tL]
def valid(q:Queue):Bool:=sound q&&!(match Bk q with
 |some w=>Et q.res q.holds w.proc w.amt
 |none=>false)
def f154_ok(q:Queue)(h1:q.holds.length≤1000000)(h2:q.waits.length≤1000000):Ad C0 154 [.agg q.c] [] (B (valid q)) []:=by
 refine Ad.go f154 ?_;unfold f154;refine gO ?_;refine Ae (f236_ok q h1 h2) ?_;cases hs:sound q
 ·simp(disch:=omega)only[go_sem];refine As _ ?_;exact wb (by simp[valid,hs])
 refine gO ?_;refine Ae (f237_ok q) ?_;cases hh:Bk q with
 |none =>
  simp(disch:=omega)only[go_sem,isSome_none];refine As _ ?_;exact wb (by simp[valid,hs,hh])
 |some w =>
  simp(disch:=omega)only[go_sem,isSome_some];refine Ae (f238_ok q.res q.holds w.proc w.amt h1) ?_;refine gO ?_;refine As _ ?_;exact wb (by simp[valid,hs,hh])
def f101_ok(q:Queue)(h1:q.holds.length≤1000000)(h2:q.waits.length≤1000000):Ad C0 101 [.agg q.c] [] (B (valid q)) []:=by
 refine Ad.go f101 ?_;unfold f101;refine gO ?_;refine Ae (f154_ok q h1 h2) ?_;refine gO ?_;exact AQ _
@[go_sem] theorem ft:AL []=.sl .no 5 []:=rfl
@[go_sem] theorem fZ:Be []=.sl .no 7 []:=rfl
@[go_sem] theorem fL:AX []=.sl .no 3 []:=rfl
@[go_sem] theorem eJ:AB []=.sl .no 8 []:=rfl
@[go_sem] theorem fF:Fe []=.sl .no 9 []:=rfl
@[go_sem] theorem fh:Fa []=.sl .no 5 []:=rfl
@[go_sem] theorem eP:BB []=.sl .no 3 []:=rfl
@[go_sem] theorem gh:Pd []=.sl .no 2 []:=rfl
def CK(q:Queue)(w:AP):Queue:=match q.Ao with
 |_::l=>{ q with holds:=B5 q.holds w.proc w.amt,Ao:=l }
 |[]=>{ q with holds:=B5 q.holds w.proc w.amt,waits:=q.waits.drop 1 }
def TG:Nat→Queue→Queue × List AK
 | 0,q=>(q,[])
 | n+1,q=>match Bk q with
  |some w=>if Et q.res q.holds w.proc w.amt then ((TG n (CK q w)).1,⟨w.proc,w.amt⟩::(TG n (CK q w)).2) else (q,[])
  |none=>(q,[])
def BK(q:Queue):Nat:=q.Ao.length+q.waits.length
def BT(q:Queue):Queue × List AK:=TG (BK q) q
def YF{n:Nat}{q:Queue}(h:Bk q=none):TG n q=(q,[]):=by cases n<;>simp[TG,h]
def GZ{q:Queue}{w:AP}(h:Bk q=some w):BK (CK q w)+1=BK q:=by
 unfold Bk at h;unfold CK BK;cases hq:q.Ao with
 | cons a l=>simp;omega
 | nil =>
  cases hw:q.waits with
  | cons a l=>simp
  | nil=>simp[hq,hw]at h
def Iq(q:Queue):BT q=match Bk q with
 |some w=>if Et q.res q.holds w.proc w.amt then ((BT (CK q w)).1,⟨w.proc,w.amt⟩::(BT (CK q w)).2) else (q,[])
 |none=>(q,[]):=by
 unfold BT;cases h:Bk q with
 |none=>simp[YF h]
 |some w =>
  have:=GZ h;rw[← this];simp only[TG,h]
def I8(l:List AK)(p:Ab)(a:Amt):(B5 l p a).length≤l.length+1:=by
 have h1:(AA l p).length≤l.length:=List.length_filter_le _ _;have h2:=L6 (AA l p) p;unfold B5;split
 ·omega
 ·simp;omega
def BG(q:Queue):Nat:=q.holds.length+BK q
def UP{q:Queue}{w:AP}(h:Bk q=some w):BG (CK q w)≤BG q:=by
 have h1:=GZ h;have h2:(CK q w).holds.length≤q.holds.length+1:=by
  unfold CK;split<;>exact I8 _ _ _
 unfold BG;omega
def f262_ok(q:Queue)(hall:BG q≤1000000):Ad C0 262 [.ptr 63 0] [(63,q.c)] (AL (BT q).2) [(63,(BT q).1.c)]:=by
 refine Ad.go f262 ?_;unfold f262;refine gO ?_;refine Ac (α:=Queue × List AK) (fun x=>⟨[(3,.sl (.own 4736 0) 5 (x.2.map AK.c)),(0,.ptr 63 0)],[(63,x.1.c)]⟩) (fun x=>x.2.length+BK x.1=BK q∧BG x.1≤1000000∧(BT x.1).1=(BT q).1∧x.2++(BT x.1).2=(BT q).2) (fun x=>BK x.1) (q,[]) ⟨by simp,hall,rfl,rfl⟩ ?_ ?_
 ·refine Imp.Ar ?_ ?_
  ·exact gI
  ·exact gI
 rintro⟨s,hs⟩ ⟨i1,i2,i3,i4⟩ J hJ
 replace i1:hs.length+BK s=BK q:=i1
 replace i2:BG s≤1000000:=i2
 replace i3:(BT s).1=(BT q).1:=i3
 replace i4:hs++(BT s).2=(BT q).2:=i4
 rw[Iq s]at i3 i4;refine gO ?_;refine Ae (f237_ok s) ?_;cases hh:Bk s with
 |none =>
  simp only[hh]at i3 i4;simp(disch:=omega)only[go_sem,isSome_none];refine Aw 15 [([],[5]),([],[22]),([],[23]),([],[0,24]),([],[25,24]),([],[26,24]),([],[27,24]),([],[0,24]),([],[29,24]),([],[30,24]),([],[31,24]),([],[4,24]),([],[33,24]),([],[4,24]),([],[35,24])] fol ?_;refine gO ?_;refine Bd ⟨[],[(63,63)],[4736]⟩ _ rfl ⟨rfl,rfl⟩ (by simp[lk]) ?_ ?_
  ·simp(disch:=omega)only[go_sem,← i4,List.append_nil]
  ·simp(disch:=omega)only[go_sem,← i3]
 |some w =>
  simp only[hh]at i3 i4;have hsz:=GZ hh;have hpa:=UP hh;have hh1:s.holds.length≤1000000:=by unfold BG at i2;omega
  simp(disch:=omega)only[go_sem,isSome_some];refine Aw 15 [([],[5]),([],[22]),([],[23]),([],[0,24]),([],[25,24]),([],[26,24]),([],[27,24]),([],[0,24]),([],[29,24]),([],[30,24]),([],[31,24]),([],[4,24]),([],[33,24]),([],[4,24]),([],[35,24])] fol ?_;refine gO ?_;refine Ae (f238_ok s.res s.holds w.proc w.amt hh1) ?_;cases hr:Et s.res s.holds w.proc w.amt
  ·simp only[hr,Bool.false_eq_true,if_false]at i3 i4;refine gO ?_;refine Bd ⟨[],[(63,63)],[4736]⟩ _ rfl ⟨rfl,rfl⟩ (by simp[lk]) ?_ ?_
   ·simp(disch:=omega)only[go_sem,← i4,List.append_nil]
   ·simp(disch:=omega)only[go_sem,← i3]
  simp only[hr,if_true]at i3 i4;have step:∀ st',Imp ⟨C0,[63],[]⟩ st' ⟨[(3,.sl (.own 4736 0) 5 ((hs++[AK.mk w.proc w.amt]).map AK.c)),(0,.ptr 63 0)],[(63,(CK s w).c)]⟩→J st':=fun st' h =>
   hJ st' (CK s w,hs++[AK.mk w.proc w.amt]) ⟨by simp;omega,by simp;omega,i3,by rw[← i4];simp⟩ (by simp;omega) h
  have hbound:hs.length+1≤4294967296:=by unfold BG at hall;omega
  cases hc:s.Ao with
  | cons a l =>
   have hp:CK s w = { s with holds:=B5 s.holds w.proc w.amt,Ao:=l }:=by unfold CK;simp only[hc]
   rw[hp]at step;have z1:(0<(l.length:Int)+1)=True:=eq_true (by omega);have z2:(l.map AP.c).take (l.length+1-1)=l.map AP.c:=List.take_of_length_le (by simp);simp(disch:=omega)only[go_sem,hc,z1];refine Aw 10 [([],[0]),([],[0]),([],[56]),([],[57]),([],[58]),([],[4]),([],[60]),([],[4]),([],[62]),([],[59,61,63])] fol ?_;refine gO ?_;refine Av (f203_ok s.holds w.proc w.amt hh1) ?_;simp(disch:=omega)only[go_sem,z2];refine step _ (Imp.Ar ?_ ?_)
   ·simp(disch:=omega)only[go_sem];exact .sl (by simp[AK.c])
   ·exact gI
  | nil =>
   have hp:CK s w = { s with holds:=B5 s.holds w.proc w.amt,waits:=s.waits.drop 1 }:=by unfold CK;simp only[hc]
   rw[hp]at step;have hw:1≤s.waits.length:=by unfold BK at hsz;rw[hc]at hsz;simp at hsz;omega
   have z2:((s.waits.map AP.c).drop 1).take (s.waits.length-1)=(s.waits.drop 1).map AP.c:=by rw[← List.map_drop];exact List.take_of_length_le (by simp)
   simp(disch:=omega)only[go_sem,hc];refine Aw 10 [([],[0]),([],[0]),([],[56]),([],[57]),([],[58]),([],[4]),([],[60]),([],[4]),([],[62]),([],[59,61,63])] fol ?_;refine gO ?_;refine Av (f203_ok s.holds w.proc w.amt hh1) ?_;simp(disch:=omega)only[go_sem,z2];refine step _ (Imp.Ar ?_ ?_)
   ·simp(disch:=omega)only[go_sem];exact .sl (by simp[AK.c])
   ·simp(disch:=omega)only[go_sem,hc,List.map_nil]
def f202_ok(q:Queue)(p:Ab)(h:q.holds.length≤1000000):Ad C0 202 [.ptr 63 0,.ptr 127 0] [(63,q.c),(127,p.c)] (.tup []) [(63,{ q with holds:=B5 q.holds p ⟨0,0⟩:Queue }.c),(127,p.c)]:=by
 refine Ad.go f202 ?_;unfold f202;refine gO ?_;refine Ae (f203_ok q.holds p ⟨0,0⟩ h) ?_;refine gO ?_;refine Bd ⟨[],[(63,63),(127,127)],[]⟩ _ rfl ⟨rfl,rfl⟩ (by simp[lk]) ?_ ?_
 ·exact gI
 ·exact gI
def f204_ok(q:Queue)(p:Ab)(h:q.Ao.length≤1000000):Ad C0 204 [.ptr 63 0,.ptr 127 0] [(63,q.c),(127,p.c)] (.tup []) [(63,{ q with Ao:=AZ q.Ao p:Queue }.c),(127,p.c)]:=by
 refine Ad.go f204 ?_;unfold f204;refine gO ?_;refine Ae (f205_ok q.Ao p h) ?_;refine gO ?_;refine Bd ⟨[],[(63,63),(127,127)],[]⟩ _ rfl ⟨rfl,rfl⟩ (by simp[lk]) ?_ ?_
 ·exact gI
 ·exact gI
def f206_ok(q:Queue)(p:Ab)(h:q.waits.length≤1000000):Ad C0 206 [.ptr 63 0,.ptr 127 0] [(63,q.c),(127,p.c)] (.tup []) [(63,{ q with waits:=AZ q.waits p:Queue }.c),(127,p.c)]:=by
 refine Ad.go f206 ?_;unfold f206;refine gO ?_;refine Ae (f205_ok q.waits p h) ?_;refine gO ?_;refine Bd ⟨[],[(63,63),(127,127)],[]⟩ _ rfl ⟨rfl,rfl⟩ (by simp[lk]) ?_ ?_
 ·exact gI
 ·exact gI
def Bw(q:Queue)(p:Ab):Queue:={ q with holds:=B5 q.holds p ⟨0,0⟩,Ao:=AZ q.Ao p,waits:=AZ q.waits p }
def ET(q:Queue):Queue:={ (BT q).1 with gen:=Lv (BT q).1.gen }
@[reducible] def b0(a b:Nat):AV:=.mem true [.fn 202 [.ptr a 0,.ptr b 0],.fn 204 [.ptr a 0,.ptr b 0],.fn 206 [.ptr a 0,.ptr b 0]]
def BL(l:List AP)(p:Ab):(AZ l p).length≤l.length:=List.length_filter_le _ _
def f201_ok(q:Queue)(p:Ab)(h:BG q+1≤1000000):Ad C0 201 [.ptr 63 0,b0 63 127] [(63,q.c),(127,p.c)] (.tup [.agg (ET (Bw q p)).c,AL (BT (Bw q p)).2,I 0]) [(63,(ET (Bw q p)).c),(127,p.c)]:=by
 have h1:q.holds.length≤1000000:=by unfold BG at h;omega
 have h2:q.Ao.length≤1000000:=by unfold BG BK at h;omega
 have h3:q.waits.length≤1000000:=by unfold BG BK at h;omega
 have h4:BG (Bw q p)≤1000000:=by
  have:=I8 q.holds p ⟨0,0⟩;have:=BL q.Ao p;have:=BL q.waits p;unfold BG BK at h ⊢;simp only[Bw];omega
 refine Ad.go f201 ?_;unfold f201;have z0:(decide ((0:Int)<3))=true:=by decide
 have z1:(decide ((1:Int)<3))=true:=by decide
 have z2:(decide ((2:Int)<3))=true:=by decide
 have z3:(decide ((3:Int)<3))=false:=by decide
 refine gO ?_;refine Ac (α:=Nat) (fun i=>⟨[(12,I i),(11,I 3),(10,b0 63 127),(0,.ptr 63 0),(4,.ptr 256 0)],[(63,(if i=0 then q else if i=1 then { q with holds:=B5 q.holds p ⟨0,0⟩:Queue } else if i=2 then { q with holds:=B5 q.holds p ⟨0,0⟩,Ao:=AZ q.Ao p:Queue } else Bw q p).c),(127,p.c),(256,(⟨⟨[],0,0,0⟩,[],[],[],0⟩:Queue).c)]⟩) (fun i=>i≤3) (fun i=>3-i) 0 (by simp) ?_ ?_
 ·refine Imp.Ar ?_ ?_
  ·exact gI
  ·exact gI
 rintro i hi J hJ;obtain rfl|rfl|rfl|rfl:i=0∨i=1∨i=2∨i=3:=by omega
 ·simp(disch:=omega)only[go_sem,z0];refine Bq ⟨⟨[],[(63,63),(127,127)],[]⟩,[],[]⟩ (f202_ok q p h1) gI rfl gI (.inl rfl) ?_;refine gO ?_;refine hJ _ 1 (by omega) (by omega) (Imp.Ar gI (by simp(disch:=omega)only[go_sem,one_ne_zero]))
 ·simp(disch:=omega)only[go_sem,z1,one_ne_zero];refine Bq ⟨⟨[],[(63,63),(127,127)],[]⟩,[],[]⟩ (f204_ok { q with holds:=B5 q.holds p ⟨0,0⟩ } p h2) gI rfl gI (.inl rfl) ?_;refine gO ?_;refine hJ _ 2 (by omega) (by omega) (Imp.Ar gI (by simp(disch:=omega)only[go_sem,one_ne_zero]))
 ·simp(disch:=omega)only[go_sem,z2];refine Bq ⟨⟨[],[(63,63),(127,127)],[]⟩,[],[]⟩ (f206_ok { q with holds:=B5 q.holds p ⟨0,0⟩,Ao:=AZ q.Ao p } p h3) gI rfl gI (.inl rfl) ?_;refine gO ?_;refine hJ _ 3 (by omega) (by omega) (Imp.Ar gI (by simp(disch:=omega)only[go_sem,Bw]))
 ·clear hJ;simp(disch:=omega)only[go_sem,z3];refine Bq ⟨⟨[],[(63,63)],[]⟩,[],[]⟩ (f262_ok (Bw q p) h4) gI rfl gI (.inl rfl) ?_;refine gO ?_;refine Ae (f263_ok (BT (Bw q p)).1.gen) ?_;refine gO ?_;refine Bd ⟨[],[(63,63),(127,127)],[]⟩ _ (by(try simp(disch:=omega)only[go_sem,Dp,JQ])<;>rfl) ⟨rfl,rfl⟩ (by simp[lk]) ?_ ?_
  ·simp(disch:=omega)only[go_sem,ET]
  ·simp(disch:=omega)only[go_sem,ET]
end Go.Rd
namespace Go.Proofs
open Go.Shelf
def Tryz.ZR : Go.Shelf.Ren := ⟨fun | 6 => 197 | 15 => 261 | 14 => 260 | 28 => 301 | 29 => 302 | 20 => 293 | 21 => 294 | 22 => 295 | 23 => 296 | 24 => 297 | 25 => 298 | 26 => 299 | 27 => 300 | 46 => 316 | 47 => 317 | 48 => 318 | 49 => 319 | 50 => 320 | 57 => 324 | n => n, fun | 22 => 31 | 24 => 38 | 25 => 114 | 3 => 3 | 39 => 270 | 0 => 0 | 53 => 323 | 55 => 325 | 4 => 4 | 46 => 316 | 45 => 315 | 50 => 320 | 5 => 5 | 9 => 9 | 66 => 331 | 70 => 276 | 76 => 338 | 77 => 305 | n => n, fun | n => n⟩
def Tryz.jm : Go.Proofs.SlLaysF0.n6 Tryz.prog Tryz.ZR := {
  mixed := by kernel_rfl
  f6 := ⟨Tryz.f197.name, by decide, Tryz.func197.trans (congrArg some (by kernel_rfl))⟩
  f14 := ⟨Tryz.f260.name, by decide, Tryz.func260.trans (congrArg some (by kernel_rfl))⟩
  f15 := Tryz.func261.trans (congrArg some (by kernel_rfl))
  f20 := ⟨Tryz.f293.name, by decide, Tryz.func293.trans (congrArg some (by kernel_rfl))⟩
  f21 := ⟨Tryz.f294.name, by decide, Tryz.func294.trans (congrArg some (by kernel_rfl))⟩
  f22 := ⟨Tryz.f295.name, by decide, Tryz.func295.trans (congrArg some (by kernel_rfl))⟩
  f23 := ⟨Tryz.f296.name, by decide, Tryz.func296.trans (congrArg some (by kernel_rfl))⟩
  f24 := ⟨Tryz.f297.name, by decide, Tryz.func297.trans (congrArg some (by kernel_rfl))⟩
  f25 := ⟨Tryz.f298.name, by decide, Tryz.func298.trans (congrArg some (by kernel_rfl))⟩
  f26 := ⟨Tryz.f299.name, by decide, Tryz.func299.trans (congrArg some (by kernel_rfl))⟩
  f27 := ⟨Tryz.f300.name, by decide, Tryz.func300.trans (congrArg some (by kernel_rfl))⟩
  f28 := Tryz.func301.trans (congrArg some (by kernel_rfl))
  f29 := Tryz.func302.trans (congrArg some (by kernel_rfl))
  f46 := ⟨Tryz.f316.name, by decide, Tryz.func316.trans (congrArg some (by kernel_rfl))⟩
  f47 := Tryz.func317.trans (congrArg some (by kernel_rfl))
  f48 := Tryz.func318.trans (congrArg some (by kernel_rfl))
  f49 := ⟨Tryz.f319.name, by decide, Tryz.func319.trans (congrArg some (by kernel_rfl))⟩
  f50 := ⟨Tryz.f320.name, by decide, Tryz.func320.trans (congrArg some (by kernel_rfl))⟩
  f57 := ⟨Tryz.f324.name, by decide, Tryz.func324.trans (congrArg some (by kernel_rfl))⟩
  t0 := Tryz.underlying0
  a0 := Tryz.isAgg0
  z0 := Tryz.sizeOf0
  v0 := Tryz.zeroValue0
  t3 := Tryz.underlying3
  a3 := Tryz.isAgg3
  z3 := Tryz.sizeOf3
  v3 := Tryz.zeroValue3
  t4 := Tryz.underlying4
  a4 := Tryz.isAgg4
  z4 := Tryz.sizeOf4
  v4 := Tryz.zeroValue4
  t5 := Tryz.underlying5
  a5 := Tryz.isAgg5
  z5 := Tryz.sizeOf5
  v5 := Tryz.zeroValue5
  t9 := Tryz.underlying9
  a9 := Tryz.isAgg9
  z9 := Tryz.sizeOf9
  v9 := Tryz.zeroValue9
  t22 := Tryz.underlying31
  a22 := Tryz.isAgg31
  z22 := Tryz.sizeOf31
  v22 := Tryz.zeroValue31
  t25 := Tryz.underlying114
  a25 := Tryz.isAgg114
  z25 := Tryz.sizeOf114
  v25 := Tryz.zeroValue114
  t39 := Tryz.underlying270
  a39 := Tryz.isAgg270
  z39 := Tryz.sizeOf270
  v39 := Tryz.zeroValue270
  t45 := Tryz.underlying315
  a45 := Tryz.isAgg315
  z45 := Tryz.sizeOf315
  v45 := Tryz.zeroValue315
  t46 := Tryz.underlying316
  a46 := Tryz.isAgg316
  z46 := Tryz.sizeOf316
  v46 := Tryz.zeroValue316
  t50 := Tryz.underlying320
  a50 := Tryz.isAgg320
  z50 := Tryz.sizeOf320
  v50 := Tryz.zeroValue320
  t53 := Tryz.underlying323
  a53 := Tryz.isAgg323
  z53 := Tryz.sizeOf323
  v53 := Tryz.zeroValue323
  t55 := Tryz.underlying325
  a55 := Tryz.isAgg325
  z55 := Tryz.sizeOf325
  v55 := Tryz.zeroValue325
  t66 := Tryz.underlying331
  a66 := Tryz.isAgg331
  z66 := Tryz.sizeOf331
  v66 := Tryz.zeroValue331
  t70 := Tryz.underlying276
  a70 := Tryz.isAgg276
  z70 := Tryz.sizeOf276
  v70 := Tryz.zeroValue276
  t76 := Tryz.underlying338
  a76 := Tryz.isAgg338
  z76 := Tryz.sizeOf338
  v76 := Tryz.zeroValue338
  t77 := Tryz.underlying305
  a77 := Tryz.isAgg305
  z77 := Tryz.sizeOf305
  v77 := Tryz.zeroValue305 }
end Go.Proofs
namespace Go.Abs
open Go.Proofs Go.Shelf Go.RowKit Go.Lib Go.Sort
variable {P:Program} {ρ:Go.Shelf.Ren} {α:Type} [Inhabited α]
def Zh{w w':World}(hs:w.heap.size≤w'.heap.size)(ho:∀ b,b<w.heap.size→w'.heap[b]?=w.heap[b]?):w'.heap=w.heap++w'.heap.extract w.heap.size w'.heap.size:=by
 apply Array.ext_getElem?;intro b
 by_cases hb:b<w.heap.size
 ·rw[ho b hb,Array.getElem?_append_left hb]
 ·rw[Array.getElem?_append_right (by omega),Array.getElem?_extract]
  by_cases hb':b<w'.heap.size
  ·rw[if_pos (by omega)];congr 1;omega
  ·rw[if_neg (by omega),Array.getElem?_eq_none (by omega)]
def YT{C:Ctx}{g:Nat}{xs:List AV}{us:List Value}{v:Value}(h:Ad C g xs [] (.v v) [])(G:Gh)(W:World)(hG:Glob C G W)(hro:∀ b,G.own b=.ro∨G.own b=.other)(hx:VRs G W xs us) :
 Calls C.P g us.toArray W fun e w'=>e=.returned v∧∃ q os',w'=grow (W.drewN q) os':=by
 refine Calls.mono (h.2 G W us hG hx fun _ _ h=>by cases h) fun e w' ⟨u,g',he,hfr,hy,_⟩=>?_
 simp only[VR]at hy;subst hy;refine⟨he,w'.drawn-W.drawn,w'.heap.extract W.heap.size w'.heap.size,?_⟩;have hh:=Zh (w:=W) (w':=w') hfr.size fun b hb=>(hfr.keep b hb (hro b)).1
 obtain⟨ht,hd⟩:=hfr.tape;have ho:=hfr.os;have hp:=hfr.output;cases w' with
 | mk heap tape drawn os output =>
  simp only at hh ht hd ho hp;simp only[grow,World.drewN];rw[← hh,ht,ho,hp];congr 1;omega
def O4(G:Gh):Gh:={ G with own:=fun b=>match G.own b with
 |.ro=>.ro
 |_=>.other }
def Qi.sort{C:Ctx}(hC:C.P=P)(L:SlLaysF0.n6 P ρ)(k:Nat)(hk0:0<k)(aE:∀ w,(isAgg (ρ.t 24)).run P w=.ok true w)(zE:∀ w,(Go.sizeOf (ρ.t 24)).run P w=.ok k w)(enc:α→List Value)(hk:∀ x,(enc x).length=k)
 (h1:∀ x,∀ v∈enc x,v.oneCell'=true) (cf:α→α→Int) (hO:SWO (ltOf cf)) (hT:∀ x y,(ltOf cf) x y=false→(ltOf cf) y x=false→x=y) (g0:Nat)
 (hcmp:∀ x y,Ad C g0 [.agg (vals (enc x)),.agg (vals (enc y))] [] (.v (.int .i64 (cf x y))) []) (hf:∃ fn c,P.funcs[ρ.f 6]?=some fn∧(fn.name=="runtime.NumGoroutine")=false∧fn.body=some c) (ps:List α) (hsz:ps.length<4611686018427387904) :
 Qi C (ρ.f 6) k (ps.map fun x=>vals (enc x)) [.fn g0 []] ((ps.mergeSort fun x y=>!(ltOf cf) y x).map fun x=>vals (enc x)):=by
 subst hC;refine⟨hf,fun G w r u us hG hu hv=>?_⟩
 match us,hv with
 |[fv],hv =>
  simp only[VRs,VR,and_true]at hv;obtain⟨cs,rfl,hcs⟩:=hv;have hcs0:cs = #[]:=by
   cases hl:cs.toList with
   | nil=>exact Array.toList_eq_nil_iff.1 hl
   | cons a b=>rw[hl]at hcs;simp[VRs]at hcs
  subst hcs0;obtain⟨_,⟨rfl,hes⟩|⟨h0,_⟩|⟨cap,cur,T,rfl,h2,h3,h5,h6,h7,h8⟩⟩:=hu
  ·have hps:ps=[]:=by simpa using hes
   subst hps;exact Calls.mono (AnyF.slices_SortFunc_none L none 0 _ w) fun e w' ⟨he,hw⟩=>⟨he,.inl ⟨by simp,by subst hw;exact⟨rfl,⟨rfl,Nat.le_refl _⟩,rfl,Nat.le_refl _,fun _ _=>rfl⟩⟩⟩
  ·omega
  ·simp only[Nat.zero_mul,Nat.zero_add]at h7 h8;have hlt:G.row r<w.heap.size:=D8 h6;obtain⟨fn0,c0,hfn0,hname0,hb0⟩:=(hcmp default default).1;have eg:∀ args w,(callFunc g0 args).run C.P w=.ok (.enter g0 args) w:=fun args w=>Ma hfn0 hname0 hb0 args w
   have hcell:∀ i x,ps[i]?=some x→∀ j v,(enc x)[j]?=some v→w.cell? ⟨G.row r,i*k+j,none⟩=some v:=fun i x hx j v hj=>by
    obtain⟨e1,e2⟩:=PRe.at_ _ _ k 0 h8 i (vals (enc x)) (by rw[List.getElem?_map,hx];rfl);obtain⟨us,k1,k2⟩:=PRc.list _ _ _ e2;obtain⟨v',hv',hp⟩:=PRl.get k1 j (.v v) (by simp[vals,hj]);simp only[PR]at hp;have:=k2 j v' hv';rw[add_lit]at this;rw[hp.1]at this;simpa using this
   have hH:HoldsK enc k w (G.row r) 0 ps.toArray:=fun j hj=>by
    have hj':j<ps.length*k:=by simpa using hj
    have hd:j / k<ps.length:=Nat.div_lt_of_lt_mul (by rwa [Nat.mul_comm]);have hm:j%k<k:=Nat.mod_lt _ hk0;rw[get_flatK enc k _ j (by simpa using hj')];have hx:ps[j / k]?=some ps[j / k]:=List.getElem?_eq_getElem hd;have hv:(enc ps[j / k])[j%k]?=some (enc ps[j / k])[j%k]!:=by
     rw[List.getElem?_eq_getElem (by rw[hk];exact hm),getElem!_pos _ _ (by rw[hk];exact hm)]
    have hc:=hcell (j / k) _ hx (j%k) _ hv;rw[Nat.div_add_mod' j k]at hc;have hp:ps.toArray[j / k]! = ps[j / k]:=by rw[getElem!_pos _ _ (by simpa using hd)];simp
    rw[Nat.zero_add,hp];refine⟨hc,?_⟩;simp[World.frozen?,h6]
   have hlays:CmpLays C.P g0 #[] enc k cf (G.row r) 0 ps.toArray.size w:=fun m os dk hdk x y=>by
    have hold:∀ b,b<w.heap.size→BJ G b→BJ (O4 G) b∧(sortWorldK enc k w (G.row r) 0 m dk os).heap[b]?=w.heap[b]?:=fun b hb hr=>by
     have hne:G.row r≠b:=fun e=>by rw[NH,← e,h5]at hr;cases hr
     refine⟨by simp only[NH,O4]at hr ⊢;rw[hr],?_⟩;simp only[sortWorldK,grow,putRowK,putRow,mapBlock,ahead];rw[Array.getElem?_append_left (by simpa using hb),Array.getElem?_modify,if_neg hne];rfl
    have hG':Glob C (O4 G) (sortWorldK enc k w (G.row r) 0 m dk os):=fun i cs hi=>by
     obtain⟨q1,q2,q3⟩:=hG i cs hi;refine⟨q1,by simp only[NH,O4]at q2 ⊢;rw[q2],PRc.mono hold _ ⟨i,0,none⟩ 0 q2 q3⟩
    have:=YT (hcmp x y) (O4 G) _ hG' (fun b=>by simp only[O4];cases G.own b<;>simp) (us:=[.agg (enc x).toArray,.agg (enc y).toArray]) (by
     simp only[VRs,VR,and_true];exact⟨⟨_,rfl,Hi _⟩,⟨_,rfl,Hi _⟩⟩)
    exact this
   have hlen:(ps.map fun x=>vals (enc x)).length=ps.toArray.size:=by simp
   rw[hlen,Nat.zero_mul];refine Calls.mono (AnyQ.slices_SortFunc_total L k aE zE enc hk h1 cf hO g0 #[] (G.row r) 0 cap ps.toArray w eg hlays hH hlt (by simpa using hsz) hT) fun e w' ⟨he,n,os,hw⟩=>?_
   refine⟨he,.inr ?_⟩;generalize hqs:(ps.mergeSort fun x y=>!(ltOf cf) y x)=qs at hw;have hql:qs.length=ps.length:=by rw[← hqs];simp
   have hcs:cap*k≤cur.size:=h7;have hle:ps.length*k≤cur.size:=Nat.le_trans (Nat.mul_le_mul_right _ (by simpa using h2)) hcs;refine⟨cur,putCells id 0 (flatK enc k qs.toArray) cur,T,⟨h5,h6,by simp[putCells],fun p hp=>?_,?_⟩,?_⟩
   ·have hp':ps.length*k≤p:=by
     rcases hp with h|h
     ·omega
     ·simpa [hql]using h
    simp only[putCells,Array.getElem?_mapIdx,size_flatK,List.size_toArray,hql];cases cur[p]? with
    |none=>rfl
    |some y =>
     simp only[Option.map_some];rw[if_neg (by omega)]
   ·refine PRe.V3 _ _ _ 0 fun i e he'=>?_
    rw[List.getElem?_map]at he';obtain⟨x,hx,rfl⟩:=zM he';refine⟨by simp[vals,hk],?_⟩;refine PRc.Dh _ (enc x) _ _ (K0 _ ?_) fun j v hj=>?_
    ·have:∀ zs:List Value,(∀ v∈zs,v.oneCell'=true)→Cf (vals zs)=true:=by
      intro zs
      induction zs with
      | nil=>intro _;rfl
      | cons z zs ih =>
       intro hz;have:=ih fun v hv=>hz v (by simp[hv])
       simp only[vals,List.map_cons,Cf,IG,Bool.and_eq_true]at this ⊢;exact⟨hz z (by simp),this⟩
     exact this _ (h1 x)
    ·have hi:i<qs.length:=by
      rcases Nat.lt_or_ge i qs.length with h|h
      ·exact h
      ·rw[List.getElem?_eq_none h]at hx;cases hx
     have hjk:j<k:=by
      rcases Nat.lt_or_ge j (enc x).length with h|h
      ·rwa [hk]at h
      ·rw[List.getElem?_eq_none h]at hj;cases hj
     have hlt2:i*k+j<qs.length*k:=by
      have:(i+1)*k≤qs.length*k:=Nat.mul_le_mul_right _ hi;rw[Nat.add_mul]at this;omega
     simp only[Nat.zero_mul,Nat.zero_add,add_lit];rw[cell_of_row _ _ _ _ _ _ (setRow_heap w _ cur _ T _ h6)];simp only[putCells,Array.getElem?_mapIdx,size_flatK,List.size_toArray];rw[Array.getElem?_eq_getElem (by rw[hql]at hlt2;omega),Option.map_some,if_pos ⟨Nat.zero_le _,by omega⟩,Nat.sub_zero,get_flatK enc k _ _ (by simpa using hlt2)];have e1:(i*k+j) / k=i:=by rw[Nat.mul_comm,Nat.mul_add_div hk0,Nat.div_eq_of_lt hjk,Nat.add_zero]
     have e2:(i*k+j)%k=j:=by rw[Nat.mul_comm,Nat.mul_add_mod,Nat.mod_eq_of_lt hjk]
     have e3:qs.toArray[i]! = x:=by
      have e4:qs.toArray[i]! = qs[i]:=by rw[getElem!_pos _ _ (by simpa using hi)];simp
      rw[e4];rw[List.getElem?_eq_getElem hi]at hx;exact Option.some.inj hx
     rw[e1,e2,e3];rw[List.getElem?_eq_getElem (by rw[hk];exact hjk)]at hj;injection hj with hj
     rw[getElem!_pos _ _ (by rw[hk];exact hjk),hj];rfl
   ·subst hw;refine⟨rfl,⟨rfl,Nat.le_add_right _ _⟩,rfl,?_,fun b hb=>?_⟩
    ·simp[sortWorldK,grow,putRowK,putRow,mapBlock,ahead,World.setRow]
    ·have hb':b<w.heap.size:=by simpa [World.setRow]using hb
     simp only[sortWorldK,grow,putRowK,putRow,mapBlock,ahead];rw[Array.getElem?_append_left (by simpa using hb'),Array.getElem?_modify]
     by_cases hbr:G.row r=b
     ·subst hbr;have e:(Go.Sort.ahead w n).heap[G.row r]?=some (.cells cur T (0,0)):=h6;rw[if_pos rfl,e,setRow_heap w _ cur _ T _ h6];rfl
     ·rw[if_neg hbr,setRow_other w _ _ _ (Ne.symm hbr)];rfl
 |[],hv=>simp[VRs]at hv
 |_::_::_,hv=>simp[VRs]at hv
end Go.Abs
open Go Go.Abs Go.Proofs
set_option maxRecDepth 100000
namespace Go.Rd
set_option maxHeartbeats 8000000
open List (drop_drop length_drop map_set mem_cons pairwise_cons)
open Bool (not_eq_true')
open Tryz
instance:Inhabited Ab:=⟨p0⟩
def IY(p q:Ab):Go.Proofs.ltOf Bc p q=decide (Bc p q<0):=rfl
def GV(p q:Ab):(Bc p q = -1∧(p.site<q.site∨p.site=q.site∧(p.inc<q.inc∨p.inc=q.inc∧p.num<q.num)))∨(Bc p q=1∧(q.site<p.site∨p.site=q.site∧(q.inc<p.inc∨p.inc=q.inc∧q.num<p.num)))∨(Bc p q=0∧p=q):=by
 unfold Bc
 repeat' split
 all_goals first
  |(left;refine⟨rfl,?_⟩;omega)
  |(right;left;refine⟨rfl,?_⟩;omega)
  |(right;right;refine⟨rfl,?_⟩;cases p;cases q;simp at *;omega)
def CN(p q:Ab):Bc q p = - Bc p q:=by
 rcases GV p q with ⟨h,h1⟩|⟨h,h1⟩|⟨h,h1⟩<;>rcases GV q p with ⟨k,k1⟩|⟨k,k1⟩|⟨k,k1⟩<;>first|omega|(subst h1;omega)|(subst k1;omega)
def Gc{p q:Ab}(h:Bc p q=0):p=q:=by
 rcases GV p q with ⟨k,_⟩|⟨k,_⟩|⟨_,k⟩
 ·omega
 ·omega
 ·exact k
def Cj(p:Ab):Bc p p=0:=by
 have:=CN p p;omega
def CU{p q r:Ab}(h1:Bc p q<0)(h2:Bc q r<0):Bc p r<0:=by
 rcases GV p q with ⟨_,a⟩|⟨a,_⟩|⟨a,_⟩
 ·rcases GV q r with ⟨_,b⟩|⟨b,_⟩|⟨b,_⟩
  ·rcases GV p r with ⟨c,_⟩|⟨_,c⟩|⟨_,c⟩
   ·omega
   ·omega
   ·subst c;omega
  ·omega
  ·omega
 ·omega
 ·omega
def kq:Go.Sort.SWO (Go.Proofs.ltOf Bc) where
 irrefl p:=by rw[IY,Cj];rfl
 trans p q r h1 h2:=by rw[IY]at *;simp only[zD]at *;exact CU h1 h2
 ntrans p q r h1 h2:=by
  rw[IY]at *;simp only[decide_eq_false_iff_not]at *;intro h
  by_cases e:Bc q p<0
  ·exact h2 (CU e h)
  ·have:Bc p q=0:=by have:=CN p q;omega
   rw[Gc this]at h;exact h2 h
def ku(p q:Ab)(h1:Go.Proofs.ltOf Bc p q=false)(h2:Go.Proofs.ltOf Bc q p=false):p=q:=by
 rw[IY]at *;simp only[decide_eq_false_iff_not]at *;refine Gc ?_;have:=CN p q;omega
def Ab.vs(p:Ab):List Value:=[.int .i64 p.site,.int .i64 p.inc,.int .i64 p.num]
def LI(ps:List Ab):List Ab:=ps.mergeSort fun x y=>!(Go.Proofs.ltOf Bc) y x
def aH(ps:List Ab)(h:ps.length≤1000000):Qi C0 197 3 (ps.map Ab.c) [.fn 61 []] ((LI ps).map Ab.c):=by
 have:=Qi.sort (C:=C0) rfl Tryz.jm 3 (by omega) (fun w=>Go.Abs.Ih F.jZ) (fun w=>Go.Abs.run_sizeOf F.kr) Ab.vs (fun _=>rfl) (fun x v hv=>by simp[Ab.vs]at hv;rcases hv with rfl|rfl|rfl<;>rfl) Bc kq ku 61
  (fun x y=>f61_ok x y) ⟨f197,f197.body.getD .skip,kR,kR,kR⟩ ps (by omega)
 exact this
def Dt:List Ab→List Ab
 |[]=>[]
 |[a]=>[a]
 | a::b::l=>if a=b then Dt (b::l) else a::Dt (b::l)
def MD:∀ (l:List Ab) (a b:Ab),Dt (l++[a]++[b])=if a=b then Dt (l++[a]) else Dt (l++[a])++[b]
 |[],a,b=>by
  by_cases h:a=b<;>simp[Dt,h]
 |[x],a,b=>by
  have:=MD [] a b;simp only[List.nil_append,List.cons_append]at this ⊢;simp only[Dt]at this ⊢
  by_cases h:a=b<;>by_cases h':x=a<;>simp[h,h']at this ⊢<;>(try simp[Dt])<;>simp_all
 | x::y::l,a,b=>by
  have:=MD (y::l) a b;simp only[List.cons_append]at this ⊢;simp only[Dt]
  by_cases h:x=y
  ·simp only[h,if_true];exact this
  ·simp only[h,if_false];rw[this]
   by_cases h':a=b<;>simp[h']
def Nj:∀ l:List Ab,(Dt l).length≤l.length
 |[]=>by simp[Dt]
 |[a]=>by simp[Dt]
 | a::b::l=>by
  have:=Nj (b::l);simp only[Dt];split
  ·simp at this ⊢;omega
  ·simp at this ⊢;omega
def HC{l:List Ab}{i:Nat}{b:Ab}(hb:l[i]?=some b):l.take (i+1)=l.take i++[b]:=by rw[tA,hb];rfl
def ME{l:List Ab}{i:Nat}{a b:Ab}(ha:l[i]?=some a)(hb:l[i+1]?=some b):Dt (l.take (i+2))=if a=b then Dt (l.take (i+1)) else Dt (l.take (i+1))++[b]:=by
 rw[HC hb,HC ha,MD]
@[reducible] def Lz(r:Nat)(l:List Ab):AV:=.sl (.own r 0) 3 (l.map Ab.c)
def ZA(k:Nat)(cs es:List (List AV)):(over 0 k cs es).take k=es.take k:=by
 refine List.ext_getElem? fun i=>?_
 rw[List.getElem?_take,List.getElem?_take];split
 ·rename_i h;have hn:¬ (k≤i):=by omega
  simp only[over,List.getElem?_mapIdx,Nat.zero_add,hn,if_false];cases es[i]?<;>rfl
 ·rfl
def Vo{α:Type}{l cur:List α}{d i:Nat}(h:cur.drop d=l.drop d)(hi:d≤i):cur[i]?=l[i]?:=by
 have:=congrArg (fun x=>x[i-d]?) h;simp only[List.getElem?_drop]at this
 rwa [show d+(i-d)=i by omega]at this
def f198_ok(l:List Ab)(hl:l.length≤1000000):Ad C0 198 [Lz 0 l] [] (Lz 1 (Dt l)) []:=by
 refine Ad.go f198 ?_;unfold f198
 by_cases h2:l.length<2
 ·have e1:((l.length:Int)<2)=True:=eq_true (by omega);have e:Dt l=l:=by
   match l,h2 with
   |[],_=>rfl
   |[a],_=>rfl
   | a::b::l,h=>simp at h;omega
  simp(disch:=omega)only[go_sem,e1];refine Bd ⟨[(0,1)],[],[]⟩ _ rfl ⟨rfl,rfl⟩ (by simp[lk]) ?_ trivial;simp(disch:=omega)only[go_sem,e]
 have e1:((l.length:Int)<2)=False:=eq_false (by omega);simp(disch:=omega)only[go_sem,e1,decide_false];refine Ac (α:=Nat) (fun i=>⟨[(3,I (i+1:Nat)),(0,Lz 0 l)],[]⟩) (fun i=>i+1≤l.length∧Dt (l.take (i+1))=l.take (i+1)) (fun i=>l.length-i) 0 ⟨by omega,by
  match l,h2 with
  | a::b::l,_=>rfl
  |[a],h=>exact absurd (by simp) h
  |[],h=>exact absurd (by simp) h⟩ ?_ ?_
 ·exact Imp.Ar gI gI
 rintro i ⟨hi,hc⟩ J hJ
 by_cases hlt:i+1<l.length
 ·have z1:(((i+1:Nat):Int)<l.length)=True:=eq_true (by omega);obtain⟨a,ha⟩:∃ a,l[i]?=some a:=⟨_,gE (by omega)⟩;obtain⟨b,hb⟩:∃ b,l[i+1]?=some b:=⟨_,gE (by omega)⟩;have z2:((i:Int)+1<l.length)=True:=eq_true (by omega);have z3:((i:Int)+1-1)=(i:Int):=by omega
  have z4:((i:Int)+1)=((i+1:Nat):Int):=rfl;simp(disch:=omega)only[go_sem,z1,z2];refine Aw 9 [([],[0]),([],[3]),([],[16,17]),([],[18]),([],[0]),([],[3]),([],[21]),([],[20,22]),([],[23])] fol ?_;simp(disch:=omega)only[go_sem,z3,gm,ha,hb];refine⟨fun h=>?_,fun h=>?_⟩;rotate_left
  ·have hne:a≠b:=fun e=>by simp[e]at h
   refine hJ _ (i+1) ⟨by omega,?_⟩ (by omega) AT;rw[ME ha hb,if_neg hne,hc,← HC hb]
  have hab:a=b:=by simp at h;exact h.symm
  have hcc:Dt (l.take (i+1+1))=l.take (i+1):=by rw[ME ha hb,if_pos hab,hc]
  clear hJ h hb z1 z2 z3 z4 ha hab hc;generalize hm:i+1=m at hlt hcc;refine Ac (α:=List Ab × Nat × Nat) (fun x=>⟨[(5,I x.2.2),(3,I x.2.1),(4,.sl (.own 0 m) 3 ((x.1.drop m).map Ab.c)),(0,Lz 0 x.1)],[]⟩)
   (fun x=>x.1.length=l.length∧1≤x.2.2∧m+x.2.2≤l.length∧m≤x.2.1∧x.2.1+1≤m+x.2.2∧x.1.take x.2.1=Dt (l.take (m+x.2.2))∧x.1.drop (m+x.2.2-1)=l.drop (m+x.2.2-1)) (fun x=>l.length-m-x.2.2) (l,m,1) ⟨rfl,by simp,by simp;omega,by simp,by simp,by simp[hcc],rfl⟩ ?_ ?_
  ·refine Imp.Ar ?_ gI;simp(disch:=omega)only[go_sem,hm];refine⟨.int (by omega),.sl ?_⟩;rw[List.map_drop];exact List.take_of_length_le (by simp)
  rintro⟨cur,k,j⟩ ⟨i1,i2,i3,i4,i5,i6,i7⟩ J hJ
  replace i1:cur.length=l.length:=i1
  replace i2:1≤j:=i2
  replace i3:m+j≤l.length:=i3
  replace i4:m≤k:=i4
  replace i5:k+1≤m+j:=i5
  replace i6:cur.take k=Dt (l.take (m+j)):=i6
  replace i7:cur.drop (m+j-1)=l.drop (m+j-1):=i7
  obtain⟨j,rfl⟩:∃ j',j=j'+1:=⟨j-1,by omega⟩
  by_cases hj:m+(j+1)<l.length
  ·have y1:((j:Int)+1<((l.length-m:Nat):Int))=True:=eq_true (by omega);obtain⟨x,hx⟩:∃ x,l[m+(j+1)]?=some x:=⟨_,gE hj⟩;obtain⟨y,hy⟩:∃ y,l[m+j]?=some y:=⟨_,gE (by omega)⟩;have cx:cur[m+(j+1)]?=some x:=by rw[Vo i7 (by omega),hx]
   have cy:cur[m+j]?=some y:=by rw[Vo i7 (by omega),hy]
   have hst:=ME hy hx;have y3:((j:Int)+1-1)=(j:Int):=by omega
   obtain⟨z,hz⟩:∃ z,cur[k]?=some z:=⟨_,gE (by omega)⟩;have y4:(m≤k)=True:=eq_true i4;simp(disch:=omega)only[go_sem,length_drop,i1,y1];refine Aw 9 [([],[4]),([],[5]),([],[35,36]),([],[37]),([],[4]),([],[5]),([],[40]),([],[39,41]),([],[42])] fol ?_;simp(disch:=omega)only[go_sem,y3,y4,gm,List.getElem?_drop,cx,cy,hz,length_drop,i1];refine⟨fun h=>?_,fun h=>?_⟩
   ·have hne:y≠x:=fun e=>by simp[e]at h
    rw[if_neg hne]at hst;refine hJ _ (cur.set k x,k+1,j+1+1) ⟨by simp[i1],by simp,by simp;omega,by simp;omega,by simp;omega,?_,?_⟩ (by simp;omega) (Imp.Ar ?_ gI)
    ·rw[show m+(j+1+1)=m+j+2 by omega,hst,show m+j+1=m+(j+1) by omega,← i6];rw[tA,List.getElem?_set_self (by omega),List.take_set_of_le (by omega)];rfl
    ·rw[show m+(j+1+1)-1=m+(j+1) by omega,List.drop_set_of_lt (by omega)];have:=congrArg (List.drop 1) i7;rw[drop_drop,drop_drop,show m+(j+1)-1+1=m+(j+1) by omega]at this;exact this
    ·simp(disch:=omega)only[go_sem];have hs1:(cur.set k x).drop m=(cur.drop m).set (k-m) x:=by rw[List.drop_set,if_neg (by omega)]
     refine⟨.sl ?_,.sl ?_⟩
     ·rw[hs1,map_set];rfl
     ·rw[map_set];rfl
   ·have hne:y=x:=by simp at h;exact h.symm
    rw[if_pos hne]at hst;refine hJ _ (cur,k,j+1+1) ⟨i1,by simp,by simp;omega,i4,by simp;omega,?_,?_⟩ (by simp;omega) AT
    ·rw[show m+(j+1+1)=m+j+2 by omega,hst,show m+j+1=m+(j+1) by omega,← i6]
    ·rw[show m+(j+1+1)-1=m+(j+1) by omega];have:=congrArg (List.drop 1) i7;rw[drop_drop,drop_drop,show m+(j+1)-1+1=m+(j+1) by omega]at this;exact this
  ·have y1:((j:Int)+1<((l.length-m:Nat):Int))=False:=eq_false (by omega);have hmj:m+(j+1)=l.length:=by omega
   rw[hmj,tL]at i6;have hkl:k≤l.length:=by omega
   have y4:(k≤l.length)=True:=eq_true hkl;have y5:(over 0 k (List.replicate (l.length-k) [.v (.int .i64 0),.v (.int .i64 0),.v (.int .i64 0)]) (cur.map Ab.c)).take k=(Dt l).map Ab.c:=by rw[ZA,← List.map_take,i6]
   clear hJ;simp(disch:=omega)only[go_sem,length_drop,i1,y1,decide_false,y4,Nat.sub_zero,Hw,List.length_take,Nat.min_self];refine Bd ⟨[(0,1)],[],[]⟩ _ rfl ⟨rfl,rfl⟩ (by simp[lk]) ?_ trivial;simp(disch:=omega)only[go_sem,y5]
 ·have hil:i+1=l.length:=by omega
  have z1:((i:Int)+1<l.length)=False:=eq_false (by omega);rw[hil,tL]at hc;simp(disch:=omega)only[go_sem,z1,decide_false];refine Bd ⟨[(0,1)],[],[]⟩ _ rfl ⟨rfl,rfl⟩ (by simp[lk]) ?_ trivial;simp(disch:=omega)only[go_sem,hc]
def bE{cs es:List (List AV)}(h:cs.length=es.length):over 0 0 cs es=cs:=by
 refine List.ext_getElem? fun i=>?_
 simp only[over,List.getElem?_mapIdx,Nat.zero_add,Nat.zero_le,if_true,Nat.sub_zero]
 by_cases hi:i<es.length
 ·rw[gE hi,gE (by omega)];simp
 ·rw[List.getElem?_eq_none (l:=es) (by omega),List.getElem?_eq_none (l:=cs) (by omega)];rfl
def IQ(l:List Ab):Prop:=l.Pairwise fun a b=>Bc a b<0
def OU(x:Ab):∀ l:List Ab,x∈Dt l↔x∈l
 |[]=>by simp[Dt]
 |[a]=>by simp[Dt]
 | a::b::l=>by
  have:=OU x (b::l);simp only[Dt];split
  ·rename_i h;subst h;rw[this];simp
  ·simp only[mem_cons]at this ⊢;rw[this]
def UT:∀ l:List Ab,(l.Pairwise fun a b=>Bc a b≤0)→IQ (Dt l)
 |[],_=>by simp[Dt,IQ]
 |[a],_=>by simp[Dt,IQ]
 | a::b::l,h=>by
  have hp:=pairwise_cons.1 h;have ih:=UT (b::l) hp.2;simp only[Dt];split
  ·exact ih
  ·rename_i hne;refine pairwise_cons.2 ⟨fun x hx=>?_,ih⟩;rw[OU]at hx;have h1:=hp.1 x hx;have h2:=hp.1 b (by simp);have hb:Bc b x≤0:=by
    rcases mem_cons.1 hx with e|e
    ·subst e;rw[Cj];omega
    ·exact(pairwise_cons.1 hp.2).1 x e
   have hab:Bc a b<0:=by
    rcases Int.lt_or_eq_of_le h2 with h|h
    ·exact h
    ·exact absurd (Gc h) hne
   rcases Int.lt_or_eq_of_le hb with h|h
   ·exact CU hab h
   ·rw[← Gc h];exact hab
def Zt(x:Ab)(l:List Ab):x∈LI l↔x∈l:=by
 unfold LI;exact List.mem_mergeSort
def XW(l:List Ab):(LI l).Pairwise fun a b=>Bc a b≤0:=by
 have:=List.pairwise_mergeSort (le:=fun x y=>!(Go.Proofs.ltOf Bc) y x) (fun a b c h1 h2=>by
  rw[IY]at *;simp only[not_eq_true',decide_eq_false_iff_not]at *;intro h;have e1:=CN a b;have e2:=CN b c
  by_cases h3:Bc a b=0
  ·rw[Gc h3]at h;exact h2 h
  ·exact h2 (CU h (by omega))) (fun a b=>by
  rw[IY,IY];have:=CN a b;simp only[Bool.or_eq_true,not_eq_true',decide_eq_false_iff_not];omega) l
 refine List.Pairwise.imp (fun {a b} h=>?_) this;rw[IY]at h;have:=CN a b;simp only[not_eq_true',decide_eq_false_iff_not]at h;omega
def Nd:∀ {l m:List Ab},IQ l→IQ m→(∀ x,x∈l↔x∈m)→l=m
 |[],[],_,_,_=>rfl
 |[],b::m,_,_,h=>by have:=(h b).2 (by simp);cases this
 | a::l,[],_,_,h=>by have:=(h a).1 (by simp);cases this
 | a::l,b::m,hl,hm,h=>by
  have h1:=pairwise_cons.1 hl;have h2:=pairwise_cons.1 hm;have hab:a=b:=by
   have ha:=(h a).1 (by simp);have hb:=(h b).2 (by simp);rcases mem_cons.1 ha with e|e
   ·exact e
   ·rcases mem_cons.1 hb with e'|e'
    ·exact e'.symm
    ·have k1:=h2.1 a e;have k2:=h1.1 b e';have:=CN a b;omega
  subst hab;have:l=m:=Nd h1.2 h2.2 fun x=>by
   have hx:=h x;simp only[mem_cons]at hx;constructor
   ·intro hm';rcases hx.1 (.inr hm') with e|e
    ·subst e;have:=h1.1 x hm';rw[Cj]at this;omega
    ·exact e
   ·intro hm';rcases hx.2 (.inr hm') with e|e
    ·subst e;have:=h2.1 x hm';rw[Cj]at this;omega
    ·exact e
  rw[this]
def Jq{l:List Ab}(h:IQ l):l.Nodup:=by
 refine List.Pairwise.imp (fun {a b} h e=>?_) h;subst e;rw[Cj]at h;omega
def Vs(p:Ab):List Ab→List Ab
 |[]=>[p]
 | x::l=>if Bc p x<0 then p::x::l else if p=x then x::l else x::Vs p l
def Vt:List Ab→List Ab
 |[]=>[]
 | p::l=>Vs p (Vt l)
def Rf(p x:Ab):∀ l:List Ab,x∈Vs p l↔x=p∨x∈l
 |[]=>by simp[Vs]
 | y::l=>by
  have:=Rf p x l;simp only[Vs];split
  ·simp
  ·split
   ·rename_i h;subst h;simp
   ·simp only[mem_cons,this];constructor
    ·rintro(h|h|h)
     ·exact .inr (.inl h)
     ·exact .inl h
     ·exact .inr (.inr h)
    ·rintro(h|h|h)
     ·exact .inr (.inl h)
     ·exact .inl h
     ·exact .inr (.inr h)
def UU(p:Ab):∀ l:List Ab,IQ l→IQ (Vs p l)
 |[],_=>by simp[Vs,IQ]
 | y::l,h=>by
  have hp:=pairwise_cons.1 h;simp only[Vs];split
  ·rename_i hlt;refine pairwise_cons.2 ⟨fun x hx=>?_,h⟩;rcases mem_cons.1 hx with e|e
   ·rw[e];exact hlt
   ·exact CU hlt (hp.1 x e)
  ·split
   ·exact h
   ·rename_i h1 h2;refine pairwise_cons.2 ⟨fun x hx=>?_,UU p l hp.2⟩;rcases(Rf p x l).1 hx with e|e
    ·subst e;have h3:=CN x y;have h4:Bc x y≠0:=fun e=>h2 (Gc e)
     omega
    ·exact hp.1 x e
def Rg(x:Ab):∀ l:List Ab,x∈Vt l↔x∈l
 |[]=>by simp[Vt]
 | y::l=>by simp only[Vt,Rf,Rg x l,mem_cons]
def Qs:∀ l:List Ab,IQ (Vt l)
 |[]=>by simp[Vt,IQ]
 | y::l=>UU y _ (Qs l)
def QD(l:List Ab):Dt (LI l)=Vt l:=Nd (UT _ (XW l)) (Qs l) fun x=>by rw[OU,Zt,Rg]
def KU(l:List Ab):List Ab:=Vt l
def Ig(x:Ab)(l:List Ab):x∈KU l↔x∈l:=Rg x l
def FI(l:List Ab):IQ (KU l):=Qs l
def KE(l:List Ab):(LI l).length=l.length:=by simp[LI]
def f131_ok(l:List Ab)(hl:l.length≤1000000):Ad C0 131 [AX l] [] (AX (KU l)) []:=by
 refine Ad.go f131 ?_;unfold f131;have hb:l.length≤4294967296:=by omega
 refine gO ?_;refine Z8 (aH l hl) rfl ?_;have ho:over 0 0 ((LI l).map Ab.c) (l.map Ab.c)=(LI l).map Ab.c:=bE (by simp[KE]);simp(disch:=omega)only[go_sem,ho];refine Bq ⟨⟨[(320,0)],[],[]⟩,[(1,576)],[]⟩ (f198_ok (LI l) (by rw[KE];exact hl)) gI rfl trivial (.inl rfl) ?_;refine gO ?_;refine CL ⟨[],[],[576]⟩ _ ?_;simp(disch:=omega)only[go_sem,KU,QD]
def f148_ok(l:List Ab)(p:Ab)(hl:l.length≤1000000):Ad C0 148 [AX l,.agg p.c] [] (I (match l.findIdx? (fun x=>decide (x=p)) with|some i=>i|none=>-1)) []:=by
 refine Ad.go f148 ?_;unfold f148;refine gO ?_;refine Ac (α:=Nat) (fun i=>⟨[(8,I i),(7,I l.length),(0,AX l),(3,.ptr 192 0)],[(192,p.c)]⟩) (fun i=>i≤(l).length∧(l.take i).find? (fun x=>decide (x=p))=none) (fun i=>(l).length-i) 0 ⟨by omega,rfl⟩ ?_ ?_
 ·exact B0
 rintro i ⟨hi,hP⟩ J hJ;refine gO ?_;refine gR (l:=l) hi (fun b hb hbm hlt=>?_) (fun hil=>?_);refine Aw 5 [([],[3]),([],[0]),([],[5]),([],[12,13]),([],[14])] fol ?_;simp(disch:=omega)only[go_sem,gm,hb]
 ·refine⟨fun h=>?_,fun h=>?_⟩
  ·have e:l.findIdx? (fun x=>decide (x=p))=some i:=F8 hP b hb (by simp at h;simp[h]);simp(disch:=omega)only[go_sem,e];exact AQ _
  ·refine hJ _ (i+1) ⟨by omega,(by rw[BW hP hb];simp at h;simp[Ne.symm h])⟩ (by omega) AT
 ·subst hil;rw[tL]at hP;have e:l.findIdx? (fun x=>decide (x=p))=none:=by
   rw[List.findIdx?_eq_none_iff];rw[List.find?_eq_none]at hP;intro x hx;simpa using hP x hx
  simp(disch:=omega)only[go_sem,e];exact AQ _
def f111_ok(l:List Ab)(p:Ab)(hl:l.length≤1000000):Ad C0 111 [AX l,.agg p.c] [] (B (B2 l p)) []:=by
 refine Ad.go f111 ?_;unfold f111;refine gO ?_;refine Ae (f148_ok l p hl) ?_;refine gO ?_;refine Bd ⟨[],[],[]⟩ _ rfl ⟨rfl,rfl⟩ (by simp) ?_ trivial;refine wb ?_;unfold B2;cases h:l.findIdx? (fun x=>decide (x=p)) with
 |none =>
  rw[List.findIdx?_eq_none_iff]at h;have:p∉l:=fun hp=>by simpa using h p hp
  simp[this]
 |some i =>
  have:=(List.findIdx?_eq_some_iff_getElem.1 h);obtain⟨h1,h2,_⟩:=this;have hm:p∈l:=by simp at h2;rw[← h2];exact List.getElem_mem h1
  simp[hm]
def f59_ok(l:List Ab)(p:Ab)(hl:l.length≤1000000):Ad C0 59 [AX l,.agg p.c] [] (B (B2 l p)) []:=by
 refine Ad.go f59 ?_;unfold f59;refine gO ?_;refine Ae (f111_ok l p hl) ?_;refine gO ?_;exact AQ _
def aI(l:List AK)(hl:l.length≤1000000):Ad C0 199 [AL l] [] (Lz 0 (C9 l)) []:=by
 refine Ad.go f199 ?_;unfold f199;refine gO ?_;refine Ac (α:=Nat) (fun i=>⟨[(8,I i),(7,I l.length),(6,AL l),(3,.sl (.own 1024 0) 3 ((C9 (l.take i)).map Ab.c))],[]⟩) (fun i=>i≤(l).length∧True) (fun i=>(l).length-i) 0 ⟨by omega,trivial⟩ ?_ ?_
 ·exact B0
 rintro i ⟨hi,hP⟩ J hJ;refine gO ?_;refine gR (l:=l) hi (fun b hb hbm hlt=>?_) (fun hil=>?_);simp(disch:=omega)only[go_sem,gm,hb]
 ·simp(disch:=omega)only[go_sem,C9];refine hJ _ (i+1) ⟨by omega,trivial⟩ (by omega) (Imp.Ar ?_ ?_)
  all_goals(try simp(disch:=omega)only[go_sem])
  all_goals(try(repeat'(with_reducible apply And.intro)))
  all_goals(first|exact .AO (by omega)|exact .AJ (by omega)|exact .sl (by simp[C9,tA,hb,Ab.c])|exact .int (by simp[C9,tA,hb,Ab.c])|exact .eq (by simp[C9,tA,hb,Ab.c]))
 ·subst hil;refine Bd ⟨[(1024,0)],[],[]⟩ _ rfl ⟨rfl,rfl⟩ (by simp[lk]) ?_ trivial;simp(disch:=omega)only[go_sem,tL]
def Bp(q:Queue):List Ab:=KU (C9 q.holds++BN (q.Ao++q.waits))
def f132_ok(q:Queue)(h:BG q≤1000000):Ad C0 132 [.agg q.c] [] (AX (Bp q)) []:=by
 have h1:q.holds.length≤1000000:=by unfold BG at h;omega
 have h2:q.Ao.length+q.waits.length≤1000000:=by unfold BG BK at h;omega
 have h3:(C9 q.holds).length+(BN (q.Ao++q.waits)).length≤1000000:=by simp[C9,BN];unfold BG BK at h;omega
 have h4:(C9 q.holds).length+(BN (q.Ao++q.waits)).length≤4294967296:=by omega
 refine Ad.go f132 ?_;unfold f132;refine gO ?_;refine Aw 4 [([],[1]),([],[3]),([],[4]),([],[1])] fol ?_;refine gO ?_;refine Az ⟨⟨[],[],[]⟩,[(0,320)],[]⟩ (aI q.holds h1) gI rfl rfl trivial (.inl rfl) ?_;refine gO ?_;refine Ae (f147_ok q h2) ?_;refine gO ?_;refine Is [512] (f131_ok (C9 q.holds++BN (q.Ao++q.waits)) (by simpa using h3)) (by simp(disch:=omega)only[go_sem];exact .sl (by simp)) rfl ?_;refine gO ?_;refine Cn _ ?_;simp(disch:=omega)only[go_sem,Bp]
def q0:Queue:=⟨⟨[],0,0,0⟩,[],[],[],0⟩
def FC(q:Queue)(p:Ab):Queue × List AK × Int:=if valid q then (if B2 (Bp q) p then (ET (Bw q p),(BT (Bw q p)).2,0) else (q0,[],10)) else (q0,[],2)
def Og(l:List Ab):(KU l).length≤l.length:=by
 have:=Nj (LI l);rw[KE,QD]at this;exact this
def IJ(q:Queue):(Bp q).length≤BG q:=by
 have:=Og (C9 q.holds++BN (q.Ao++q.waits));unfold Bp BG BK;simp[C9,BN]at this ⊢;omega
def f133_ok(q:Queue)(p:Ab)(h:BG q+1≤1000000):Ad C0 133 [.agg q.c,.agg p.c] [] (.tup [.agg (FC q p).1.c,AL (FC q p).2.1,I (FC q p).2.2]) []:=by
 have h1:q.holds.length≤1000000:=by unfold BG at h;omega
 have h2:q.Ao.length≤1000000:=by unfold BG BK at h;omega
 have h3:q.waits.length≤1000000:=by unfold BG BK at h;omega
 refine Ad.go f133 ?_;unfold f133;refine gO ?_;refine Ae (f101_ok q h1 h3) ?_;cases hv:valid q
 ·have e:FC q p=(q0,[],2):=by simp[FC,hv]
  simp(disch:=omega)only[go_sem,zF,e,q0];refine As _ ?_;refine .tup (Ai.AR ?_);simp(disch:=omega)only[go_sem]
  repeat'(with_reducible apply And.intro)
  all_goals(first|exact .AJ (by omega)|exact .agg (Ai.AR gI))
 simp(disch:=omega)only[go_sem,zT];refine Aw 3 [([],[2]),([],[12]),([],[3])] fol ?_;refine gO ?_;refine Av (f132_ok q (by omega)) ?_;refine gO ?_;refine Ae (f59_ok (Bp q) p (by have:=IJ q;omega)) ?_;refine gO ?_;refine And.intro (fun hh=>?_) (fun hh=>?_)
 ·have hh':B2 (Bp q) p=false:=by simpa using hh
  have e:FC q p=(q0,[],10):=by simp[FC,hv,hh']
  simp(disch:=omega)only[go_sem,e,q0];refine As _ ?_;refine .tup (Ai.AR ?_);simp(disch:=omega)only[go_sem]
  repeat'(with_reducible apply And.intro)
  all_goals(first|exact .AJ (by omega)|exact .agg (Ai.AR gI))
 have hh':B2 (Bp q) p=true:=by simpa using hh
 have e:FC q p=(ET (Bw q p),(BT (Bw q p)).2,0):=by simp[FC,hv,hh']
 simp(disch:=omega)only[go_sem,e];refine Ae (f200_ok q h1 h2 h3) ?_;refine gO ?_;refine Bq ⟨⟨[],[(448,63),(192,127)],[]⟩,[],[]⟩ (f201_ok q p h) gI rfl gI (.inl rfl) ?_;refine gO ?_;exact AQ _
end Go.Rd
