/- part 12 of the proof -/
import Derived.Test.YthachdiockkofaaGreatDoorProg
import Derived.Shelf.SlSortCmp.WholeK
import Derived.Shelf.SlSortCmp.NoneTotal
import Derived.Test.YthachdiockkofaaGreatDoorS11
set_option linter.all false
open Go Go.Abs Go.Proofs
set_option maxRecDepth 100000
namespace Go.Rd
set_option maxHeartbeats 8000000
open List (take_add_one take_length)
open Option (isSome_none isSome_some map_some)
open Nat (one_ne_zero)
open Tryz
attribute [go_sem] isSome_none isSome_some
@[go_sem] theorem dv(k:Nat):((k:Int)+1).toNat=k+1:=rfl
@[go_sem] theorem ca(k:Nat):(0≤(k:Int)+1)=True:=by simp;omega
def As(l:List Hold)(p:Proc):List Hold:=l.filter fun h=>decide (h.proc≠p)
def after'(p:Proc)(h:Hold):Bool:=decide (0<AT h.proc p)
def Ia(l:List Hold)(p:Proc):Int:=match l.findIdx? (after' p) with
 |some i=>i
 |none=>-1
def B8(l:List Hold)(p:Proc):Nat:=(l.findIdx? (after' p)).getD l.length
def BK(l:List Hold)(p:Proc)(a:Amt):List Hold:=if a.zero then As l p else (As l p).take (B8 (As l p) p)++⟨p,a⟩::(As l p).drop (B8 (As l p) p)
theorem Lw(l:List Hold)(p:Proc):B8 l p≤l.length:=by
 unfold B8;cases h:l.findIdx? (after' p) with
 |none=>simp
 |some i =>
  have:=(List.findIdx?_eq_some_iff_getElem.1 h).1;simp;omega
theorem UT(l:List Hold)(p:Proc)(h:Hold):Ia (l++[h]) p=if Ia l p<0∧after' p h=true then (l.length:Int) else Ia l p:=by
 unfold Ia;rw[List.findIdx?_append];cases hl:l.findIdx? (after' p) with
 |some i=>simp;omega
 |none =>
  simp only[Option.none_or,List.findIdx?_cons];cases after' p h<;>simp
theorem Wj(r:List (List AV))(z c:List AV)(k:Nat)(hk:k≤r.length):(over 0 (k+1) (((r++[z]).drop k).take ((r++[z]).length-(k+1))) (r++[z])).set k c=r.take k++c::r.drop k:=by
 refine List.ext_getElem? fun i=>?_
 rw[List.getElem?_set];simp only[G8,List.length_append,List.length_cons,List.length_nil]
 by_cases hi:k=i
 ·subst hi;rw[if_pos rfl,if_pos (by omega),List.getElem?_append_right (by simp;omega)];simp[Nat.min_eq_left hk]
 rw[if_neg hi];simp only[over,List.getElem?_mapIdx,Nat.zero_add]
 by_cases hlt:i<k
 ·rw[List.getElem?_append_left (by omega),List.getElem?_append_left (by simp;omega),List.getElem?_take (l:=r),if_pos hlt];have hn:¬ (k+1≤i):=by omega
  cases r[i]?<;>simp[hn]
 ·by_cases hle:i≤r.length
  ·rw[List.getElem?_append_right (l₁:=r.take k) (by simp;omega)];simp only[List.length_take,Nat.min_eq_left hk];obtain⟨j,rfl⟩:∃ j,i=k+1+j:=⟨i-(k+1),by omega⟩;rw[show k+1+j-k=j+1 by omega,List.getElem?_cons_succ,List.getElem?_drop];have e1:(r++[z])[k+1+j]?=some ((r++[z])[k+1+j]'(by simp;omega)):=gE _;rw[e1];simp only[map_some,show k+1≤k+1+j by omega,if_true,show k+1+j-(k+1)=j by omega];rw[List.getElem?_take,if_pos (by omega),List.getElem?_drop,List.getElem?_append_left (by omega)];rw[gE (by omega)];simp
  ·have e2:(r.take k++c::r.drop k)[i]?=none:=List.getElem?_eq_none (by simp;omega);rw[List.getElem?_eq_none (l:=r++[z]) (by simp;omega),e2];rfl
def z5:List AV:=[.v (.int .i64 0),.v (.int .i64 0),.v (.int .i64 0),.v (.int .i64 0),.v (.int .i64 0)]
theorem f203_ok(l:List Hold)(p:Proc)(a:Amt)(hl:l.length≤1000000):Ac C0 203 [AB l,.agg p.c,.agg a.c] [] (AB (BK l p a)) []:=by
 refine Ac.go f203 ?_;unfold f203;have hcap:((l.length:Int)+1≤4294967296)=True:=by simp;omega
 simp(disch:=omega)only[go_sem,hcap];refine Aa (α:=Nat) (fun i=>⟨[(17,I i),(16,I l.length),(15,AB l),(7,.sl (.own 2496 0) 5 ((As (l.take i) p).map Hold.c)),(8,I (Ia (As (l.take i) p) p)),(4,.ptr 256 0),(5,.ptr 320 0)],[(256,p.c),(320,a.c)]⟩) (fun i=>i≤(l).length∧(As (l.take i) p).length≤i) (fun i=>(l).length-i) 0 ⟨by omega,(by simp[As])⟩ ?_ ?_
 ·refine Imp.ren ⟨[(896,2496)],[(256,256),(320,320)],[]⟩ ⟨rfl,rfl⟩ (by simp[lk]) ?_ ?_
  all_goals(try simp(disch:=omega)only[go_sem])
  all_goals(try(repeat'(with_reducible apply And.intro)))
  all_goals(first|exact .AA (by omega)|exact .Az (by omega)|exact .sl (by simp[As,Ia])|exact .int (by simp[As,Ia])|exact .eq (by simp[As,Ia]))
 rintro i ⟨hi,hP⟩ J hJ;refine gO ?_;refine ⟨fun hlt=>?_,fun hge=>?_⟩;rotate_left;have hil:i=(l).length:=by simp at hge;omega
 rotate_left;obtain⟨b,hb⟩:∃ b,(l)[i]?=some b:=⟨_,gE (by simp at hlt;omega)⟩;have hbm:=mG hb;simp(disch:=omega)only[go_sem,gm,hb]
 ·refine⟨fun h=>?_,fun h=>?_⟩
  ·have e:As (l.take (i+1)) p=As (l.take i) p:=by simp at h;simp[As,take_add_one,hb,h]
   refine hJ _ (i+1) ⟨by simp at hlt;omega,(by rw[e];omega)⟩ (by simp at hlt;omega) (Imp.weak ?_ ?_)
   all_goals(try simp(disch:=omega)only[go_sem])
   all_goals(try(repeat'(with_reducible apply And.intro)))
   all_goals(first|exact .AA (by omega)|exact .Az (by omega)|exact .sl (by simp[e])|exact .int (by simp[e])|exact .eq (by simp[e]))
  ·have e:As (l.take (i+1)) p=As (l.take i) p++[b]:=by simp at h;simp[As,take_add_one,hb,h]
   have ep:=UT (As (l.take i) p) p b;rw[← e]at ep;generalize As (l.take i) p=r at hP e ep;have hbound:(r.length:Int)+1≤4294967296:=by simp at hlt;omega
   repeat'(first
    |(with_reducible refine And.intro (fun h=>?_) (fun h=>?_))
    |((with_reducible show AG _ _ 61 _ _ _);refine Af (f61_ok b.proc p) ?_ rfl ?_;(focus(simp(disch:=omega)only[go_sem];done));try simp(disch:=omega)only[go_sem])
    |((with_reducible show AF _ _ 61 _ _ _ _ _ _ _);refine Ao ⟨⟨[],[],[]⟩,[],[]⟩ (f61_ok b.proc p) ?_ rfl rfl trivial (.inl rfl) ?_;(focus(simp(disch:=omega)only[go_sem];done));try simp(disch:=omega)only[go_sem]))
   all_goals(refine hJ _ (i+1) ⟨by simp at hlt;omega,by rw[e];simp;omega⟩ (by simp at hlt;omega) (Imp.weak ?_ ?_))
   all_goals(try simp(disch:=omega)only[go_sem])
   all_goals(refine⟨.sl (by rw[e];simp[Hold.c]),.int ?_⟩)
   all_goals(simp_all[after']<;>omega)
 ·subst hil;simp only[take_length]at hP ⊢;have hb1:Ia (As l p) p=if (As l p).findIdx? (after' p)=none then -1 else (B8 (As l p) p:Int):=by
   unfold Ia B8;cases (As l p).findIdx? (after' p)<;>simp
  have hpn:=Lw (As l p) p;have hset:BK l p a=if a.zero then As l p else (As l p).take (B8 (As l p) p)++⟨p,a⟩::(As l p).drop (B8 (As l p) p):=rfl
  have hpd:(As l p).findIdx? (after' p)=none→B8 (As l p) p=(As l p).length:=fun h=>by simp[B8,h]
  generalize As l p=r at hP hb1 hpn hset hpd ⊢;generalize B8 r p=k at hb1 hpn hset hpd;refine Ab (f264_ok a) ?_;cases hz:a.zero
  ·rw[hz]at hset;have hbound:(r.length:Int)+1≤4294967296:=by omega
   have hfin:r.length+1≤4294967296:=by omega
   generalize hpi:Ia r p=q at hb1;have hk:q<0→k=r.length:=fun hq=>hpd (by
    cases h:r.findIdx? (after' p) with
    |none=>rfl
    |some i=>rw[h]at hb1;simp at hb1;omega)
   have hk':¬ q<0→q=(k:Int):=fun hq=>by
    split at hb1
    ·omega
    ·exact hb1
   clear hpd hb1 hJ;obtain⟨e,he⟩:∃ e:Hold,((r++[h0]).map Hold.c)[k]?=some e.c:=⟨(r++[h0])[k]'(by simp;omega),by rw[gm,gE (by simp;omega)];rfl⟩;have hover:∀ X,(over 0 (k+1) X (r.map Hold.c++[z5]))[k]?=some e.c:=fun X=>by
    have:r.map Hold.c++[z5]=(r++[h0]).map Hold.c:=by simp[h0,Hold.c,z5]
    rw[this];simp only[over,List.getElem?_mapIdx,he,map_some];rw[if_neg (by omega)]
   have tail:∀ X:List (List AV),X=((r.map Hold.c++[z5]).drop k).take (r.length+1-(k+1))→(over 0 (k+1) X (r.map Hold.c++[z5])).set k (Hold.c ⟨p,a⟩)=(BK l p a).map Hold.c:=fun X hX=>by
    have:=Wj (r.map Hold.c) z5 (Hold.c ⟨p,a⟩) k (by simpa using hpn);rw[hset,hX];simp only[List.length_append,List.length_map,List.length_cons,List.length_nil,Nat.zero_add]at this;rw[this];simp
   simp only[z5]at hover tail
   by_cases hq:q<0
   ·have e1:(q<0)=True:=by simp[hq]
    have:=hk hq;subst this;simp(disch:=omega)only[go_sem,e1];refine Aq 7 [([],[7]),([],[8]),([],[53]),([],[52,54]),([],[7]),([],[8]),([],[56,57])] fol ?_;simp(disch:=omega)only[go_sem,hover,G8];refine CT ⟨[],[],[3264]⟩ _ ?_;refine gO ?_;exact .sl (tail _ (by rw[List.take_take];congr 1;omega))
   ·have e1:(q<0)=False:=by simp[hq]
    have:=hk' hq;subst this;simp(disch:=omega)only[go_sem,e1];refine Aq 7 [([],[7]),([],[8]),([],[53]),([],[52,54]),([],[7]),([],[8]),([],[56,57])] fol ?_;simp(disch:=omega)only[go_sem,hover,G8];refine CT ⟨[],[],[3264]⟩ _ ?_;refine gO ?_;exact .sl (tail _ (by rw[List.take_take];congr 1;omega))
  ·rw[hz]at hset;refine gO ?_;refine CT ⟨[],[],[2496]⟩ _ ?_;simp(disch:=omega)only[go_sem,hset]
def Es(r:Res)(l:List Hold)(p:Proc)(a:Amt):Bool:=A4 r l&&p.ok&&r.fits a&&A4 r (BK l p a)
theorem f238_ok(r:Res)(l:List Hold)(p:Proc)(a:Amt)(hl:l.length≤1000000):Ac C0 238 [.agg r.c,AB l,.agg p.c,.agg a.c] [] (B (Es r l p a)) []:=by
 refine Ac.go f238 ?_;unfold f238;refine gO ?_;refine Aq 11 [([],[4]),([],[1]),([],[6]),([],[7]),([],[9,10,11,12]),([4],[13]),([4],[4,14]),([4],[1,14]),([4],[6,14]),([4],[7,14]),([4],[16,17,18,14])] fol ?_;refine gO ?_;refine Al (f271_ok r l p a) ?_;cases hc:(A4 r l&&p.ok&&r.fits a)
 ·simp(disch:=omega)only[go_sem];refine Ap _ ?_;exact wb (by simp[Es,hc])
 ·simp(disch:=omega)only[go_sem];refine Al (f203_ok l p a hl) ?_;refine gO ?_;refine Ab (f277_ok r (BK l p a)) ?_;refine gO ?_;refine Ap _ ?_;exact wb (by simp only[Es,hc];rfl)
@[reducible] def WD(r:Nat)(l:List Wait):AV:=.sl (.own r 0) 7 (l.map Wait.c)
theorem f305_ok(n:Nat)(hn:n≤1000000):Ac C0 305 [.v (.slice none 0 0),I n] [] (WD 0 []) []:=by
 refine Ac.go f305 ?_;unfold f305;have e1:((n:Int)<0)=False:=by simp
 simp(disch:=omega)only[go_sem,e1,Int.sub_zero,decide_false];refine⟨fun h=>?_,fun h=>?_⟩
 ·refine A1 ⟨[(1408,0)],[],[]⟩ _ rfl ⟨rfl,rfl⟩ (by simp[lk]) ?_ trivial;simp(disch:=omega)only[go_sem,WD]
 ·refine A1 ⟨[],[],[]⟩ _ rfl ⟨rfl,rfl⟩ (by simp[lk]) ?_ trivial;simp(disch:=omega)only[go_sem,WD]
@[reducible] def Nr(a b:List Wait):AV:=.sl .no 1 [[Bt a],[Bt b]]
theorem f270_ok(a b:List Wait)(h:a.length+b.length≤1000000):Ac C0 270 [Nr a b] [] (Bt (a++b)) []:=by
 refine Ac.go f270 ?_;unfold f270;have z0:(decide ((0:Int)<2))=true:=by decide
 have z1:(decide ((1:Int)<2))=true:=by decide
 have z2:(decide ((2:Int)<2))=false:=by decide
 have l1:((a.length:Int)<0)=False:=by simp
 have l2:((a.length:Int)+b.length<0)=False:=eq_false (by omega);refine gO ?_;refine Aa (α:=Nat) (fun i=>⟨[(11,I i),(10,I 2),(9,Nr a b),(3,I (if i=0 then 0 else if i=1 then a.length else a.length+b.length)),(0,Nr a b)],[]⟩) (fun i=>i≤2) (fun i=>2-i) 0 (by simp) ?_ ?_
 ·exact Imp.weak gI gI
 rintro i hi J hJ;obtain rfl|rfl|rfl:i=0∨i=1∨i=2:=by omega
 ·simp(disch:=omega)only[go_sem,z0,Int.zero_add,l1,decide_false];exact hJ _ 1 (by omega) (by omega) AK
 ·simp(disch:=omega)only[go_sem,z1,l2,decide_false,one_ne_zero];exact hJ _ 2 (by omega) (by omega) AK
 clear hJ;simp(disch:=omega)only[go_sem,z2];refine Be ⟨⟨[],[],[]⟩,[(0,1536)],[]⟩ (f305_ok (a.length+b.length) h) gI rfl trivial (.inl rfl) ?_;refine gO ?_;refine Aa (α:=Nat) (fun i=>⟨[(27,I i),(26,I 2),(25,Nr a b),(6,.sl (.own 2112 0) 7 ((if i=0 then [] else if i=1 then a else a++b).map Wait.c)),(0,Nr a b)],[]⟩) (fun i=>i≤2) (fun i=>2-i) 0 (by simp) ?_ ?_
 ·refine Imp.ren ⟨[(1536,2112)],[],[]⟩ ⟨rfl,rfl⟩ (by simp[lk]) ?_ ?_
  ·exact gI
  ·exact gI
 rintro i hi J hJ;obtain rfl|rfl|rfl:i=0∨i=1∨i=2:=by omega
 ·simp(disch:=omega)only[go_sem,z0];exact hJ _ 1 (by omega) (by omega) (Imp.weak (by simp(disch:=omega)only[go_sem,one_ne_zero]) gI)
 ·simp(disch:=omega)only[go_sem,z1,one_ne_zero];exact hJ _ 2 (by omega) (by omega) (Imp.weak (by simp(disch:=omega)only[go_sem];exact .sl (by simp)) gI)
 ·simp(disch:=omega)only[go_sem,z2];refine CT ⟨[],[],[2112]⟩ _ ?_;simp(disch:=omega)only[go_sem]
theorem f225_ok(q:Queue)(h:q.convs.length+q.waits.length≤1000000):Ac C0 225 [.agg q.c] [] (Bt (q.convs++q.waits)) []:=by
 refine Ac.go f225 ?_;unfold f225;refine gO ?_;refine HV [448] (f270_ok q.convs q.waits h) gI rfl ?_;refine gO ?_;exact AH _
def Aj(q:Queue)(p:Proc):Option Amt:=((q.convs++q.waits).find? fun w=>decide (w.proc=p)).map (·.amt)
theorem f228_ok(q:Queue)(p:Proc)(h:q.convs.length+q.waits.length≤1000000):Ac C0 228 [.agg q.c,.agg p.c] [] (.tup [.agg ((Aj q p).getD ⟨0,0⟩).c,B (Aj q p).isSome]) []:=by
 refine Ac.go f228 ?_;unfold f228;refine gO ?_;refine Ab (f225_ok q h) ?_;have hw:Aj q p=((q.convs++q.waits).find? fun w=>decide (w.proc=p)).map (·.amt):=rfl;have hl:(q.convs++q.waits).length≤1000000:=by simpa using h
 generalize q.convs++q.waits=l at hw hl;refine gO ?_;refine Aa (α:=Nat) (fun i=>⟨[(11,I i),(10,I l.length),(9,Bt l),(3,.ptr 192 0),(4,.ptr 256 0)],[(192,p.c),(256,(⟨0,0⟩:Amt).c)]⟩) (fun i=>i≤(l).length∧(l.take i).find? (fun h=>decide (h.proc=p))=none) (fun i=>(l).length-i) 0 ⟨by omega,rfl⟩ ?_ ?_
 ·exact Ca
 rintro i ⟨hi,hP⟩ J hJ;refine gO ?_;refine ⟨fun hlt=>?_,fun hge=>?_⟩;rotate_left;have hil:i=(l).length:=by simp at hge;omega
 rotate_left;obtain⟨b,hb⟩:∃ b,(l)[i]?=some b:=⟨_,gE (by simp at hlt;omega)⟩;have hbm:=mG hb;simp(disch:=omega)only[go_sem,gm,hb]
 ·refine⟨fun h=>?_,fun h=>?_⟩
  ·have e:Aj q p=some b.amt:=by rw[hw,Ix hP hb (by simpa using h)];rfl
   simp(disch:=omega)only[go_sem,e];exact AH _
  ·refine hJ _ (i+1) ⟨by simp at hlt;omega,(by rw[BU hP hb];simp at h;simp[h])⟩ (by simp at hlt;omega) AK
 ·subst hil;rw[take_length]at hP;have e:Aj q p=none:=by rw[hw,hP];rfl
  simp(disch:=omega)only[go_sem,e];exact AH _
def BI(l:List Wait):List Proc:=l.map (·.proc)
theorem f147_ok(q:Queue)(h:q.convs.length+q.waits.length≤1000000):Ac C0 147 [.agg q.c] [] (AD (BI (q.convs++q.waits))) []:=by
 refine Ac.go f147 ?_;unfold f147;refine gO ?_;refine Ab (f225_ok q h) ?_;have hl:(q.convs++q.waits).length≤1000000:=by simpa using h
 generalize q.convs++q.waits=l at hl;refine gO ?_;refine Aa (α:=Nat) (fun i=>⟨[(9,I i),(8,I l.length),(7,Bt l),(3,.sl (.own 1088 0) 3 ((BI (l.take i)).map Proc.c))],[]⟩) (fun i=>i≤(l).length∧True) (fun i=>(l).length-i) 0 ⟨by omega,trivial⟩ ?_ ?_
 ·exact Ca
 rintro i ⟨hi,hP⟩ J hJ;refine gO ?_;refine ⟨fun hlt=>?_,fun hge=>?_⟩;rotate_left;have hil:i=(l).length:=by simp at hge;omega
 rotate_left;obtain⟨b,hb⟩:∃ b,(l)[i]?=some b:=⟨_,gE (by simp at hlt;omega)⟩;have hbm:=mG hb;simp(disch:=omega)only[go_sem,gm,hb]
 ·simp(disch:=omega)only[go_sem,BI];refine hJ _ (i+1) ⟨by simp at hlt;omega,trivial⟩ (by simp at hlt;omega) (Imp.weak ?_ ?_)
  all_goals(try simp(disch:=omega)only[go_sem])
  all_goals(try(repeat'(with_reducible apply And.intro)))
  all_goals(first|exact .AA (by omega)|exact .Az (by omega)|exact .sl (by simp[BI,take_add_one,hb,Proc.c])|exact .int (by simp[BI,take_add_one,hb,Proc.c])|exact .eq (by simp[BI,take_add_one,hb,Proc.c]))
 ·subst hil;refine CT ⟨[],[],[1088]⟩ _ ?_;simp(disch:=omega)only[go_sem,take_length]
def valid(q:Queue):Bool:=sound q&&!(match AY q with
 |some w=>Es q.res q.holds w.proc w.amt
 |none=>false)
theorem f154_ok(q:Queue)(h1:q.holds.length≤1000000)(h2:q.waits.length≤1000000):Ac C0 154 [.agg q.c] [] (B (valid q)) []:=by
 refine Ac.go f154 ?_;unfold f154;refine gO ?_;refine Ab (f236_ok q h1 h2) ?_;cases hs:sound q
 ·simp(disch:=omega)only[go_sem];refine Ap _ ?_;exact wb (by simp[valid,hs])
 refine gO ?_;refine Ab (f237_ok q) ?_;cases hh:AY q with
 |none =>
  simp(disch:=omega)only[go_sem,isSome_none];refine Ap _ ?_;exact wb (by simp[valid,hs,hh])
 |some w =>
  simp(disch:=omega)only[go_sem,isSome_some];refine Ab (f238_ok q.res q.holds w.proc w.amt h1) ?_;refine gO ?_;refine Ap _ ?_;exact wb (by simp[valid,hs,hh])
theorem f101_ok(q:Queue)(h1:q.holds.length≤1000000)(h2:q.waits.length≤1000000):Ac C0 101 [.agg q.c] [] (B (valid q)) []:=by
 refine Ac.go f101 ?_;unfold f101;refine gO ?_;refine Ab (f154_ok q h1 h2) ?_;refine gO ?_;exact AH _
@[go_sem] theorem cQ:AB []=.sl .no 5 []:=rfl
@[go_sem] theorem dw:Bt []=.sl .no 7 []:=rfl
@[go_sem] theorem dc:AD []=.sl .no 3 []:=rfl
@[go_sem] theorem cj:Ay []=.sl .no 8 []:=rfl
@[go_sem] theorem cZ:Ho []=.sl .no 9 []:=rfl
@[go_sem] theorem cJ:Gy []=.sl .no 5 []:=rfl
@[go_sem] theorem cp:Bn []=.sl .no 3 []:=rfl
@[go_sem] theorem dA:Oo []=.sl .no 2 []:=rfl
def Cp(q:Queue)(w:Wait):Queue:=match q.convs with
 |_::l=>{ q with holds:=BK q.holds w.proc w.amt,convs:=l }
 |[]=>{ q with holds:=BK q.holds w.proc w.amt,waits:=q.waits.drop 1 }
def SD:Nat→Queue→Queue × List Hold
 | 0,q=>(q,[])
 | n+1,q=>match AY q with
  |some w=>if Es q.res q.holds w.proc w.amt then ((SD n (Cp q w)).1,⟨w.proc,w.amt⟩::(SD n (Cp q w)).2) else (q,[])
  |none=>(q,[])
def Bq(q:Queue):Nat:=q.convs.length+q.waits.length
def Bz(q:Queue):Queue × List Hold:=SD (Bq q) q
theorem Xk{n:Nat}{q:Queue}(h:AY q=none):SD n q=(q,[]):=by cases n<;>simp[SD,h]
theorem GB{q:Queue}{w:Wait}(h:AY q=some w):Bq (Cp q w)+1=Bq q:=by
 unfold AY at h;unfold Cp Bq;cases hq:q.convs with
 | cons a l=>simp;omega
 | nil =>
  cases hw:q.waits with
  | cons a l=>simp
  | nil=>simp[hq,hw]at h
theorem HT(q:Queue):Bz q=match AY q with
 |some w=>if Es q.res q.holds w.proc w.amt then ((Bz (Cp q w)).1,⟨w.proc,w.amt⟩::(Bz (Cp q w)).2) else (q,[])
 |none=>(q,[]):=by
 unfold Bz;cases h:AY q with
 |none=>simp[Xk h]
 |some w =>
  have:=GB h;rw[← this];simp only[SD,h]
theorem IF(l:List Hold)(p:Proc)(a:Amt):(BK l p a).length≤l.length+1:=by
 have h1:(As l p).length≤l.length:=List.length_filter_le _ _;have h2:=Lw (As l p) p;unfold BK;split
 ·omega
 ·simp;omega
def BA(q:Queue):Nat:=q.holds.length+Bq q
theorem TF{q:Queue}{w:Wait}(h:AY q=some w):BA (Cp q w)≤BA q:=by
 have h1:=GB h;have h2:(Cp q w).holds.length≤q.holds.length+1:=by
  unfold Cp;split<;>exact IF _ _ _
 unfold BA;omega
theorem f262_ok(q:Queue)(hall:BA q≤1000000):Ac C0 262 [.ptr 63 0] [(63,q.c)] (AB (Bz q).2) [(63,(Bz q).1.c)]:=by
 refine Ac.go f262 ?_;unfold f262;refine gO ?_;refine Aa (α:=Queue × List Hold) (fun x=>⟨[(3,.sl (.own 4736 0) 5 (x.2.map Hold.c)),(0,.ptr 63 0)],[(63,x.1.c)]⟩) (fun x=>x.2.length+Bq x.1=Bq q∧BA x.1≤1000000∧(Bz x.1).1=(Bz q).1∧x.2++(Bz x.1).2=(Bz q).2) (fun x=>Bq x.1) (q,[]) ⟨by simp,hall,rfl,rfl⟩ ?_ ?_
 ·refine Imp.weak ?_ ?_
  ·exact gI
  ·exact gI
 rintro⟨s,hs⟩ ⟨i1,i2,i3,i4⟩ J hJ
 replace i1:hs.length+Bq s=Bq q:=i1
 replace i2:BA s≤1000000:=i2
 replace i3:(Bz s).1=(Bz q).1:=i3
 replace i4:hs++(Bz s).2=(Bz q).2:=i4
 rw[HT s]at i3 i4;refine gO ?_;refine Ab (f237_ok s) ?_;cases hh:AY s with
 |none =>
  simp only[hh]at i3 i4;simp(disch:=omega)only[go_sem,isSome_none];refine Aq 15 [([],[5]),([],[22]),([],[23]),([],[0,24]),([],[25,24]),([],[26,24]),([],[27,24]),([],[0,24]),([],[29,24]),([],[30,24]),([],[31,24]),([],[4,24]),([],[33,24]),([],[4,24]),([],[35,24])] fol ?_;refine gO ?_;refine A1 ⟨[],[(63,63)],[4736]⟩ _ rfl ⟨rfl,rfl⟩ (by simp[lk]) ?_ ?_
  ·simp(disch:=omega)only[go_sem,← i4,List.append_nil]
  ·simp(disch:=omega)only[go_sem,← i3]
 |some w =>
  simp only[hh]at i3 i4;have hsz:=GB hh;have hpa:=TF hh;have hh1:s.holds.length≤1000000:=by unfold BA at i2;omega
  simp(disch:=omega)only[go_sem,isSome_some];refine Aq 15 [([],[5]),([],[22]),([],[23]),([],[0,24]),([],[25,24]),([],[26,24]),([],[27,24]),([],[0,24]),([],[29,24]),([],[30,24]),([],[31,24]),([],[4,24]),([],[33,24]),([],[4,24]),([],[35,24])] fol ?_;refine gO ?_;refine Ab (f238_ok s.res s.holds w.proc w.amt hh1) ?_;cases hr:Es s.res s.holds w.proc w.amt
  ·simp only[hr,Bool.false_eq_true,if_false]at i3 i4;refine gO ?_;refine A1 ⟨[],[(63,63)],[4736]⟩ _ rfl ⟨rfl,rfl⟩ (by simp[lk]) ?_ ?_
   ·simp(disch:=omega)only[go_sem,← i4,List.append_nil]
   ·simp(disch:=omega)only[go_sem,← i3]
  simp only[hr,if_true]at i3 i4;have step:∀ st',Imp ⟨C0,[63],[]⟩ st' ⟨[(3,.sl (.own 4736 0) 5 ((hs++[Hold.mk w.proc w.amt]).map Hold.c)),(0,.ptr 63 0)],[(63,(Cp s w).c)]⟩→J st':=fun st' h =>
   hJ st' (Cp s w,hs++[Hold.mk w.proc w.amt]) ⟨by simp;omega,by simp;omega,i3,by rw[← i4];simp⟩ (by simp;omega) h
  have hbound:hs.length+1≤4294967296:=by unfold BA at hall;omega
  cases hc:s.convs with
  | cons a l =>
   have hp:Cp s w = { s with holds:=BK s.holds w.proc w.amt,convs:=l }:=by unfold Cp;simp only[hc]
   rw[hp]at step;have z1:(0<(l.length:Int)+1)=True:=eq_true (by omega);have z2:(l.map Wait.c).take (l.length+1-1)=l.map Wait.c:=List.take_of_length_le (by simp);simp(disch:=omega)only[go_sem,hc,z1];refine Aq 10 [([],[0]),([],[0]),([],[56]),([],[57]),([],[58]),([],[4]),([],[60]),([],[4]),([],[62]),([],[59,61,63])] fol ?_;refine gO ?_;refine Al (f203_ok s.holds w.proc w.amt hh1) ?_;simp(disch:=omega)only[go_sem,z2];refine step _ (Imp.weak ?_ ?_)
   ·simp(disch:=omega)only[go_sem];exact .sl (by simp[Hold.c])
   ·exact gI
  | nil =>
   have hp:Cp s w = { s with holds:=BK s.holds w.proc w.amt,waits:=s.waits.drop 1 }:=by unfold Cp;simp only[hc]
   rw[hp]at step;have hw:1≤s.waits.length:=by unfold Bq at hsz;rw[hc]at hsz;simp at hsz;omega
   have z2:((s.waits.map Wait.c).drop 1).take (s.waits.length-1)=(s.waits.drop 1).map Wait.c:=by rw[← List.map_drop];exact List.take_of_length_le (by simp)
   simp(disch:=omega)only[go_sem,hc];refine Aq 10 [([],[0]),([],[0]),([],[56]),([],[57]),([],[58]),([],[4]),([],[60]),([],[4]),([],[62]),([],[59,61,63])] fol ?_;refine gO ?_;refine Al (f203_ok s.holds w.proc w.amt hh1) ?_;simp(disch:=omega)only[go_sem,z2];refine step _ (Imp.weak ?_ ?_)
   ·simp(disch:=omega)only[go_sem];exact .sl (by simp[Hold.c])
   ·simp(disch:=omega)only[go_sem,hc,List.map_nil]
theorem f202_ok(q:Queue)(p:Proc)(h:q.holds.length≤1000000):Ac C0 202 [.ptr 63 0,.ptr 127 0] [(63,q.c),(127,p.c)] (.tup []) [(63,{ q with holds:=BK q.holds p ⟨0,0⟩:Queue }.c),(127,p.c)]:=by
 refine Ac.go f202 ?_;unfold f202;refine gO ?_;refine Ab (f203_ok q.holds p ⟨0,0⟩ h) ?_;refine gO ?_;refine A1 ⟨[],[(63,63),(127,127)],[]⟩ _ rfl ⟨rfl,rfl⟩ (by simp[lk]) ?_ ?_
 ·exact gI
 ·exact gI
theorem f204_ok(q:Queue)(p:Proc)(h:q.convs.length≤1000000):Ac C0 204 [.ptr 63 0,.ptr 127 0] [(63,q.c),(127,p.c)] (.tup []) [(63,{ q with convs:=AI q.convs p:Queue }.c),(127,p.c)]:=by
 refine Ac.go f204 ?_;unfold f204;refine gO ?_;refine Ab (f205_ok q.convs p h) ?_;refine gO ?_;refine A1 ⟨[],[(63,63),(127,127)],[]⟩ _ rfl ⟨rfl,rfl⟩ (by simp[lk]) ?_ ?_
 ·exact gI
 ·exact gI
theorem f206_ok(q:Queue)(p:Proc)(h:q.waits.length≤1000000):Ac C0 206 [.ptr 63 0,.ptr 127 0] [(63,q.c),(127,p.c)] (.tup []) [(63,{ q with waits:=AI q.waits p:Queue }.c),(127,p.c)]:=by
 refine Ac.go f206 ?_;unfold f206;refine gO ?_;refine Ab (f205_ok q.waits p h) ?_;refine gO ?_;refine A1 ⟨[],[(63,63),(127,127)],[]⟩ _ rfl ⟨rfl,rfl⟩ (by simp[lk]) ?_ ?_
 ·exact gI
 ·exact gI
def Ba(q:Queue)(p:Proc):Queue:={ q with holds:=BK q.holds p ⟨0,0⟩,convs:=AI q.convs p,waits:=AI q.waits p }
def El(q:Queue):Queue:={ (Bz q).1 with gen:=KU (Bz q).1.gen }
@[reducible] def Z2(a b:Nat):AV:=.mem true [.fn 202 [.ptr a 0,.ptr b 0],.fn 204 [.ptr a 0,.ptr b 0],.fn 206 [.ptr a 0,.ptr b 0]]
theorem Bo(l:List Wait)(p:Proc):(AI l p).length≤l.length:=List.length_filter_le _ _
theorem f201_ok(q:Queue)(p:Proc)(h:BA q+1≤1000000):Ac C0 201 [.ptr 63 0,Z2 63 127] [(63,q.c),(127,p.c)] (.tup [.agg (El (Ba q p)).c,AB (Bz (Ba q p)).2,I 0]) [(63,(El (Ba q p)).c),(127,p.c)]:=by
 have h1:q.holds.length≤1000000:=by unfold BA at h;omega
 have h2:q.convs.length≤1000000:=by unfold BA Bq at h;omega
 have h3:q.waits.length≤1000000:=by unfold BA Bq at h;omega
 have h4:BA (Ba q p)≤1000000:=by
  have:=IF q.holds p ⟨0,0⟩;have:=Bo q.convs p;have:=Bo q.waits p;unfold BA Bq at h ⊢;simp only[Ba];omega
 refine Ac.go f201 ?_;unfold f201;have z0:(decide ((0:Int)<3))=true:=by decide
 have z1:(decide ((1:Int)<3))=true:=by decide
 have z2:(decide ((2:Int)<3))=true:=by decide
 have z3:(decide ((3:Int)<3))=false:=by decide
 refine gO ?_;refine Aa (α:=Nat) (fun i=>⟨[(12,I i),(11,I 3),(10,Z2 63 127),(0,.ptr 63 0),(4,.ptr 256 0)],[(63,(if i=0 then q else if i=1 then { q with holds:=BK q.holds p ⟨0,0⟩:Queue } else if i=2 then { q with holds:=BK q.holds p ⟨0,0⟩,convs:=AI q.convs p:Queue } else Ba q p).c),(127,p.c),(256,(⟨⟨[],0,0,0⟩,[],[],[],0⟩:Queue).c)]⟩) (fun i=>i≤3) (fun i=>3-i) 0 (by simp) ?_ ?_
 ·refine Imp.weak ?_ ?_
  ·exact gI
  ·exact gI
 rintro i hi J hJ;obtain rfl|rfl|rfl|rfl:i=0∨i=1∨i=2∨i=3:=by omega
 ·simp(disch:=omega)only[go_sem,z0];refine Be ⟨⟨[],[(63,63),(127,127)],[]⟩,[],[]⟩ (f202_ok q p h1) gI rfl gI (.inl rfl) ?_;refine gO ?_;refine hJ _ 1 (by omega) (by omega) (Imp.weak gI (by simp(disch:=omega)only[go_sem,one_ne_zero]))
 ·simp(disch:=omega)only[go_sem,z1,one_ne_zero];refine Be ⟨⟨[],[(63,63),(127,127)],[]⟩,[],[]⟩ (f204_ok { q with holds:=BK q.holds p ⟨0,0⟩ } p h2) gI rfl gI (.inl rfl) ?_;refine gO ?_;refine hJ _ 2 (by omega) (by omega) (Imp.weak gI (by simp(disch:=omega)only[go_sem,one_ne_zero]))
 ·simp(disch:=omega)only[go_sem,z2];refine Be ⟨⟨[],[(63,63),(127,127)],[]⟩,[],[]⟩ (f206_ok { q with holds:=BK q.holds p ⟨0,0⟩,convs:=AI q.convs p } p h3) gI rfl gI (.inl rfl) ?_;refine gO ?_;refine hJ _ 3 (by omega) (by omega) (Imp.weak gI (by simp(disch:=omega)only[go_sem,Ba]))
 ·clear hJ;simp(disch:=omega)only[go_sem,z3];refine Be ⟨⟨[],[(63,63)],[]⟩,[],[]⟩ (f262_ok (Ba q p) h4) gI rfl gI (.inl rfl) ?_;refine gO ?_;refine Ab (f263_ok (Bz (Ba q p)).1.gen) ?_;refine gO ?_;refine A1 ⟨[],[(63,63),(127,127)],[]⟩ _ (by(try simp(disch:=omega)only[go_sem,Dm,K7])<;>rfl) ⟨rfl,rfl⟩ (by simp[lk]) ?_ ?_
  ·simp(disch:=omega)only[go_sem,El]
  ·simp(disch:=omega)only[go_sem,El]
end Go.Rd
namespace Go.Proofs
open Go.Shelf
def Tryz.Yr : Go.Shelf.Ren := ⟨fun | 6 => 197 | 15 => 261 | 14 => 260 | 28 => 301 | 29 => 302 | 20 => 293 | 21 => 294 | 22 => 295 | 23 => 296 | 24 => 297 | 25 => 298 | 26 => 299 | 27 => 300 | 46 => 316 | 47 => 317 | 48 => 318 | 49 => 319 | 50 => 320 | 57 => 324 | n => n, fun | 22 => 31 | 24 => 38 | 25 => 114 | 3 => 3 | 39 => 270 | 0 => 0 | 53 => 323 | 55 => 325 | 4 => 4 | 46 => 316 | 45 => 315 | 50 => 320 | 5 => 5 | 9 => 9 | 66 => 331 | 70 => 276 | 76 => 338 | 77 => 305 | n => n, fun | n => n⟩
theorem Tryz.fI : Go.Proofs.SlLaysF0.n6 Tryz.prog Tryz.Yr := {
  mixed := by kernel_rfl
  f6 := ⟨Tryz.f197.name, by decide, Tryz.func197.trans (congrArg some (by kernel_rfl))⟩
  f14 := ⟨Tryz.f260.name, by decide, Tryz.func260.trans (congrArg some (by kernel_rfl))⟩
  f15 := Tryz.func261.trans (congrArg some (by kernel_rfl))
  f20 := ⟨Tryz.f293.name, by decide, Tryz.func293.trans (congrArg some (by kernel_rfl))⟩
  f21 := ⟨Tryz.f294.name, by decide, Tryz.func294.trans (congrArg some (by kernel_rfl))⟩
  f22 := ⟨Tryz.f295.name, by decide, Tryz.func295.trans (congrArg some (by kernel_rfl))⟩
  f23 := ⟨Tryz.f296.name, by decide, Tryz.func296.trans (congrArg some (by kernel_rfl))⟩
  f24 := ⟨Tryz.f297.name, by decide, Tryz.func297.trans (congrArg some (by kernel_rfl))⟩
  f25 := ⟨Tryz.f298.name, by decide, Tryz.func298.trans (congrArg some (by kernel_rfl))⟩
  f26 := ⟨Tryz.f299.name, by decide, Tryz.func299.trans (congrArg some (by kernel_rfl))⟩
  f27 := ⟨Tryz.f300.name, by decide, Tryz.func300.trans (congrArg some (by kernel_rfl))⟩
  f28 := Tryz.func301.trans (congrArg some (by kernel_rfl))
  f29 := Tryz.func302.trans (congrArg some (by kernel_rfl))
  f46 := ⟨Tryz.f316.name, by decide, Tryz.func316.trans (congrArg some (by kernel_rfl))⟩
  f47 := Tryz.func317.trans (congrArg some (by kernel_rfl))
  f48 := Tryz.func318.trans (congrArg some (by kernel_rfl))
  f49 := ⟨Tryz.f319.name, by decide, Tryz.func319.trans (congrArg some (by kernel_rfl))⟩
  f50 := ⟨Tryz.f320.name, by decide, Tryz.func320.trans (congrArg some (by kernel_rfl))⟩
  f57 := ⟨Tryz.f324.name, by decide, Tryz.func324.trans (congrArg some (by kernel_rfl))⟩
  t0 := Tryz.underlying0
  a0 := Tryz.isAgg0
  z0 := Tryz.sizeOf0
  v0 := Tryz.zeroValue0
  t3 := Tryz.underlying3
  a3 := Tryz.isAgg3
  z3 := Tryz.sizeOf3
  v3 := Tryz.zeroValue3
  t4 := Tryz.underlying4
  a4 := Tryz.isAgg4
  z4 := Tryz.sizeOf4
  v4 := Tryz.zeroValue4
  t5 := Tryz.underlying5
  a5 := Tryz.isAgg5
  z5 := Tryz.sizeOf5
  v5 := Tryz.zeroValue5
  t9 := Tryz.underlying9
  a9 := Tryz.isAgg9
  z9 := Tryz.sizeOf9
  v9 := Tryz.zeroValue9
  t22 := Tryz.underlying31
  a22 := Tryz.isAgg31
  z22 := Tryz.sizeOf31
  v22 := Tryz.zeroValue31
  t25 := Tryz.underlying114
  a25 := Tryz.isAgg114
  z25 := Tryz.sizeOf114
  v25 := Tryz.zeroValue114
  t39 := Tryz.underlying270
  a39 := Tryz.isAgg270
  z39 := Tryz.sizeOf270
  v39 := Tryz.zeroValue270
  t45 := Tryz.underlying315
  a45 := Tryz.isAgg315
  z45 := Tryz.sizeOf315
  v45 := Tryz.zeroValue315
  t46 := Tryz.underlying316
  a46 := Tryz.isAgg316
  z46 := Tryz.sizeOf316
  v46 := Tryz.zeroValue316
  t50 := Tryz.underlying320
  a50 := Tryz.isAgg320
  z50 := Tryz.sizeOf320
  v50 := Tryz.zeroValue320
  t53 := Tryz.underlying323
  a53 := Tryz.isAgg323
  z53 := Tryz.sizeOf323
  v53 := Tryz.zeroValue323
  t55 := Tryz.underlying325
  a55 := Tryz.isAgg325
  z55 := Tryz.sizeOf325
  v55 := Tryz.zeroValue325
  t66 := Tryz.underlying331
  a66 := Tryz.isAgg331
  z66 := Tryz.sizeOf331
  v66 := Tryz.zeroValue331
  t70 := Tryz.underlying276
  a70 := Tryz.isAgg276
  z70 := Tryz.sizeOf276
  v70 := Tryz.zeroValue276
  t76 := Tryz.underlying338
  a76 := Tryz.isAgg338
  z76 := Tryz.sizeOf338
  v76 := Tryz.zeroValue338
  t77 := Tryz.underlying305
  a77 := Tryz.isAgg305
  z77 := Tryz.sizeOf305
  v77 := Tryz.zeroValue305 }
end Go.Proofs
namespace Go.Abs
open Go.Proofs Go.Shelf Go.RowKit Go.Lib Go.Sort
variable {P:Program} {ρ:Go.Shelf.Ren} {α:Type} [Inhabited α]
theorem XU{w w':World}(hs:w.heap.size≤w'.heap.size)(ho:∀ b,b<w.heap.size→w'.heap[b]?=w.heap[b]?):w'.heap=w.heap++w'.heap.extract w.heap.size w'.heap.size:=by
 apply Array.ext_getElem?;intro b
 by_cases hb:b<w.heap.size
 ·rw[ho b hb,Array.getElem?_append_left hb]
 ·rw[Array.getElem?_append_right (by omega),Array.getElem?_extract]
  by_cases hb':b<w'.heap.size
  ·rw[if_pos (by omega)];congr 1;omega
  ·rw[if_neg (by omega),Array.getElem?_eq_none (by omega)]
theorem Xy{C:Ctx}{g:Nat}{xs:List AV}{us:List Value}{v:Value}(h:Ac C g xs [] (.v v) [])(G:Gh)(W:World)(hG:Glob C G W)(hro:∀ b,G.own b=.ro∨G.own b=.other)(hx:VRs G W xs us) :
 Calls C.P g us.toArray W fun e w'=>e=.returned v∧∃ q os',w'=grow (W.drewN q) os':=by
 refine Calls.mono (h.2 G W us hG hx fun _ _ h=>by cases h) fun e w' ⟨u,g',he,hfr,hy,_⟩=>?_
 simp only[VR]at hy;subst hy;refine⟨he,w'.drawn-W.drawn,w'.heap.extract W.heap.size w'.heap.size,?_⟩;have hh:=XU (w:=W) (w':=w') hfr.size fun b hb=>(hfr.keep b hb (hro b)).1
 obtain⟨ht,hd⟩:=hfr.tape;have ho:=hfr.os;have hp:=hfr.output;cases w' with
 | mk heap tape drawn os output =>
  simp only at hh ht hd ho hp;simp only[grow,World.drewN];rw[← hh,ht,ho,hp];congr 1;omega
def Of(G:Gh):Gh:={ G with own:=fun b=>match G.own b with
 |.ro=>.ro
 |_=>.other }
theorem Pt.sort{C:Ctx}(hC:C.P=P)(L:SlLaysF0.n6 P ρ)(k:Nat)(hk0:0<k)(aE:∀ w,(isAgg (ρ.t 24)).run P w=.ok true w)(zE:∀ w,(Go.sizeOf (ρ.t 24)).run P w=.ok k w)(enc:α→List Value)(hk:∀ x,(enc x).length=k)
 (h1:∀ x,∀ v∈enc x,v.oneCell'=true) (cf:α→α→Int) (hO:SWO (ltOf cf)) (hT:∀ x y,(ltOf cf) x y=false→(ltOf cf) y x=false→x=y) (g0:Nat)
 (hcmp:∀ x y,Ac C g0 [.agg (vals (enc x)),.agg (vals (enc y))] [] (.v (.int .i64 (cf x y))) []) (hf:∃ fn c,P.funcs[ρ.f 6]?=some fn∧(fn.name=="runtime.NumGoroutine")=false∧fn.body=some c) (ps:List α) (hsz:ps.length<4611686018427387904) :
 Pt C (ρ.f 6) k (ps.map fun x=>vals (enc x)) [.fn g0 []] ((ps.mergeSort fun x y=>!(ltOf cf) y x).map fun x=>vals (enc x)):=by
 subst hC;refine⟨hf,fun G w r u us hG hu hv=>?_⟩
 match us,hv with
 |[fv],hv =>
  simp only[VRs,VR,and_true]at hv;obtain⟨cs,rfl,hcs⟩:=hv;have hcs0:cs = #[]:=by
   cases hl:cs.toList with
   | nil=>exact Array.toList_eq_nil_iff.1 hl
   | cons a b=>rw[hl]at hcs;simp[VRs]at hcs
  subst hcs0;obtain⟨_,⟨rfl,hes⟩|⟨h0,_⟩|⟨cap,cur,T,rfl,h2,h3,h5,h6,h7,h8⟩⟩:=hu
  ·have hps:ps=[]:=by simpa using hes
   subst hps;exact Calls.mono (AnyF.slices_SortFunc_none L none 0 _ w) fun e w' ⟨he,hw⟩=>⟨he,.inl ⟨by simp,by subst hw;exact⟨rfl,⟨rfl,Nat.le_refl _⟩,rfl,Nat.le_refl _,fun _ _=>rfl⟩⟩⟩
  ·omega
  ·simp only[Nat.zero_mul,Nat.zero_add]at h7 h8;have hlt:G.row r<w.heap.size:=DH h6;obtain⟨fn0,c0,hfn0,hname0,hb0⟩:=(hcmp default default).1;have eg:∀ args w,(callFunc g0 args).run C.P w=.ok (.enter g0 args) w:=fun args w=>LA hfn0 hname0 hb0 args w
   have hcell:∀ i x,ps[i]?=some x→∀ j v,(enc x)[j]?=some v→w.cell? ⟨G.row r,i*k+j,none⟩=some v:=fun i x hx j v hj=>by
    obtain⟨e1,e2⟩:=PRe.at_ _ _ k 0 h8 i (vals (enc x)) (by rw[List.getElem?_map,hx];rfl);obtain⟨us,k1,k2⟩:=PRc.list _ _ _ e2;obtain⟨v',hv',hp⟩:=PRl.get k1 j (.v v) (by simp[vals,hj]);simp only[PR]at hp;have:=k2 j v' hv';rw[add_lit]at this;rw[hp.1]at this;simpa using this
   have hH:HoldsK enc k w (G.row r) 0 ps.toArray:=fun j hj=>by
    have hj':j<ps.length*k:=by simpa using hj
    have hd:j / k<ps.length:=Nat.div_lt_of_lt_mul (by rwa [Nat.mul_comm]);have hm:j%k<k:=Nat.mod_lt _ hk0;rw[get_flatK enc k _ j (by simpa using hj')];have hx:ps[j / k]?=some ps[j / k]:=List.getElem?_eq_getElem hd;have hv:(enc ps[j / k])[j%k]?=some (enc ps[j / k])[j%k]!:=by
     rw[List.getElem?_eq_getElem (by rw[hk];exact hm),getElem!_pos _ _ (by rw[hk];exact hm)]
    have hc:=hcell (j / k) _ hx (j%k) _ hv;rw[Nat.div_add_mod' j k]at hc;have hp:ps.toArray[j / k]! = ps[j / k]:=by rw[getElem!_pos _ _ (by simpa using hd)];simp
    rw[Nat.zero_add,hp];refine⟨hc,?_⟩;simp[World.frozen?,h6]
   have hlays:CmpLays C.P g0 #[] enc k cf (G.row r) 0 ps.toArray.size w:=fun m os dk hdk x y=>by
    have hold:∀ b,b<w.heap.size→Bl G b→Bl (Of G) b∧(sortWorldK enc k w (G.row r) 0 m dk os).heap[b]?=w.heap[b]?:=fun b hb hr=>by
     have hne:G.row r≠b:=fun e=>by rw[MY,← e,h5]at hr;cases hr
     refine⟨by simp only[MY,Of]at hr ⊢;rw[hr],?_⟩;simp only[sortWorldK,grow,putRowK,putRow,mapBlock,ahead];rw[Array.getElem?_append_left (by simpa using hb),Array.getElem?_modify,if_neg hne];rfl
    have hG':Glob C (Of G) (sortWorldK enc k w (G.row r) 0 m dk os):=fun i cs hi=>by
     obtain⟨q1,q2,q3⟩:=hG i cs hi;refine⟨q1,by simp only[MY,Of]at q2 ⊢;rw[q2],PRc.mono hold _ ⟨i,0,none⟩ 0 q2 q3⟩
    have:=Xy (hcmp x y) (Of G) _ hG' (fun b=>by simp only[Of];cases G.own b<;>simp) (us:=[.agg (enc x).toArray,.agg (enc y).toArray]) (by
     simp only[VRs,VR,and_true];exact⟨⟨_,rfl,GU _⟩,⟨_,rfl,GU _⟩⟩)
    exact this
   have hlen:(ps.map fun x=>vals (enc x)).length=ps.toArray.size:=by simp
   rw[hlen,Nat.zero_mul];refine Calls.mono (AnyQ.slices_SortFunc_total L k aE zE enc hk h1 cf hO g0 #[] (G.row r) 0 cap ps.toArray w eg hlays hH hlt (by simpa using hsz) hT) fun e w' ⟨he,n,os,hw⟩=>?_
   refine⟨he,.inr ?_⟩;generalize hqs:(ps.mergeSort fun x y=>!(ltOf cf) y x)=qs at hw;have hql:qs.length=ps.length:=by rw[← hqs];simp
   have hcs:cap*k≤cur.size:=h7;have hle:ps.length*k≤cur.size:=Nat.le_trans (Nat.mul_le_mul_right _ (by simpa using h2)) hcs;refine⟨cur,putCells id 0 (flatK enc k qs.toArray) cur,T,⟨h5,h6,by simp[putCells],fun p hp=>?_,?_⟩,?_⟩
   ·have hp':ps.length*k≤p:=by
     rcases hp with h|h
     ·omega
     ·simpa [hql]using h
    simp only[putCells,Array.getElem?_mapIdx,size_flatK,List.size_toArray,hql];cases cur[p]? with
    |none=>rfl
    |some y =>
     simp only[Option.map_some];rw[if_neg (by omega)]
   ·refine PRe.UP _ _ _ 0 fun i e he'=>?_
    rw[List.getElem?_map]at he';obtain⟨x,hx,rfl⟩:=Option.map_eq_some_iff.1 he';refine⟨by simp[vals,hk],?_⟩;refine PRc.CP _ (enc x) _ _ (Km _ ?_) fun j v hj=>?_
    ·have:∀ zs:List Value,(∀ v∈zs,v.oneCell'=true)→BR (vals zs)=true:=by
      intro zs
      induction zs with
      | nil=>intro _;rfl
      | cons z zs ih =>
       intro hz;have:=ih fun v hv=>hz v (by simp[hv])
       simp only[vals,List.map_cons,BR,H8,Bool.and_eq_true]at this ⊢;exact⟨hz z (by simp),this⟩
     exact this _ (h1 x)
    ·have hi:i<qs.length:=by
      rcases Nat.lt_or_ge i qs.length with h|h
      ·exact h
      ·rw[List.getElem?_eq_none h]at hx;cases hx
     have hjk:j<k:=by
      rcases Nat.lt_or_ge j (enc x).length with h|h
      ·rwa [hk]at h
      ·rw[List.getElem?_eq_none h]at hj;cases hj
     have hlt2:i*k+j<qs.length*k:=by
      have:(i+1)*k≤qs.length*k:=Nat.mul_le_mul_right _ hi;rw[Nat.add_mul]at this;omega
     simp only[Nat.zero_mul,Nat.zero_add,add_lit];rw[cell_of_row _ _ _ _ _ _ (setRow_heap w _ cur _ T _ h6)];simp only[putCells,Array.getElem?_mapIdx,size_flatK,List.size_toArray];rw[Array.getElem?_eq_getElem (by rw[hql]at hlt2;omega),Option.map_some,if_pos ⟨Nat.zero_le _,by omega⟩,Nat.sub_zero,get_flatK enc k _ _ (by simpa using hlt2)];have e1:(i*k+j) / k=i:=by rw[Nat.mul_comm,Nat.mul_add_div hk0,Nat.div_eq_of_lt hjk,Nat.add_zero]
     have e2:(i*k+j)%k=j:=by rw[Nat.mul_comm,Nat.mul_add_mod,Nat.mod_eq_of_lt hjk]
     have e3:qs.toArray[i]! = x:=by
      have e4:qs.toArray[i]! = qs[i]:=by rw[getElem!_pos _ _ (by simpa using hi)];simp
      rw[e4];rw[List.getElem?_eq_getElem hi]at hx;exact Option.some.inj hx
     rw[e1,e2,e3];rw[List.getElem?_eq_getElem (by rw[hk];exact hjk)]at hj;injection hj with hj
     rw[getElem!_pos _ _ (by rw[hk];exact hjk),hj];rfl
   ·subst hw;refine⟨rfl,⟨rfl,Nat.le_add_right _ _⟩,rfl,?_,fun b hb=>?_⟩
    ·simp[sortWorldK,grow,putRowK,putRow,mapBlock,ahead,World.setRow]
    ·have hb':b<w.heap.size:=by simpa [World.setRow]using hb
     simp only[sortWorldK,grow,putRowK,putRow,mapBlock,ahead];rw[Array.getElem?_append_left (by simpa using hb'),Array.getElem?_modify]
     by_cases hbr:G.row r=b
     ·subst hbr;have e:(Go.Sort.ahead w n).heap[G.row r]?=some (.cells cur T (0,0)):=h6;rw[if_pos rfl,e,setRow_heap w _ cur _ T _ h6];rfl
     ·rw[if_neg hbr,setRow_other w _ _ _ (Ne.symm hbr)];rfl
 |[],hv=>simp[VRs]at hv
 |_::_::_,hv=>simp[VRs]at hv
end Go.Abs
open Go Go.Abs Go.Proofs
set_option maxRecDepth 100000
namespace Go.Rd
set_option maxHeartbeats 8000000
open Tryz
instance:Inhabited Proc:=⟨p0⟩
theorem Iu(p q:Proc):Go.Proofs.ltOf AT p q=decide (AT p q<0):=rfl
theorem Gv(p q:Proc):(AT p q = -1∧(p.site<q.site∨p.site=q.site∧(p.inc<q.inc∨p.inc=q.inc∧p.num<q.num)))∨(AT p q=1∧(q.site<p.site∨p.site=q.site∧(q.inc<p.inc∨p.inc=q.inc∧q.num<p.num)))∨(AT p q=0∧p=q):=by
 unfold AT
 repeat' split
 all_goals first
  |(left;refine⟨rfl,?_⟩;omega)
  |(right;left;refine⟨rfl,?_⟩;omega)
  |(right;right;refine⟨rfl,?_⟩;cases p;cases q;simp at *;omega)
theorem Cs(p q:Proc):AT q p = - AT p q:=by
 rcases Gv p q with ⟨h,h1⟩|⟨h,h1⟩|⟨h,h1⟩<;>rcases Gv q p with ⟨k,k1⟩|⟨k,k1⟩|⟨k,k1⟩<;>first|omega|(subst h1;omega)|(subst k1;omega)
theorem FM{p q:Proc}(h:AT p q=0):p=q:=by
 rcases Gv p q with ⟨k,_⟩|⟨k,_⟩|⟨_,k⟩
 ·omega
 ·omega
 ·exact k
theorem BT(p:Proc):AT p p=0:=by
 have:=Cs p p;omega
theorem Cz{p q r:Proc}(h1:AT p q<0)(h2:AT q r<0):AT p r<0:=by
 rcases Gv p q with ⟨_,a⟩|⟨a,_⟩|⟨a,_⟩
 ·rcases Gv q r with ⟨_,b⟩|⟨b,_⟩|⟨b,_⟩
  ·rcases Gv p r with ⟨c,_⟩|⟨_,c⟩|⟨_,c⟩
   ·omega
   ·omega
   ·subst c;omega
  ·omega
  ·omega
 ·omega
 ·omega
theorem gS:Go.Sort.SWO (Go.Proofs.ltOf AT) where
 irrefl p:=by rw[Iu,BT];rfl
 trans p q r h1 h2:=by rw[Iu]at *;simp only[decide_eq_true_eq]at *;exact Cz h1 h2
 ntrans p q r h1 h2:=by
  rw[Iu]at *;simp only[decide_eq_false_iff_not]at *;intro h
  by_cases e:AT q p<0
  ·exact h2 (Cz e h)
  ·have:AT p q=0:=by have:=Cs p q;omega
   rw[FM this]at h;exact h2 h
theorem gU(p q:Proc)(h1:Go.Proofs.ltOf AT p q=false)(h2:Go.Proofs.ltOf AT q p=false):p=q:=by
 rw[Iu]at *;simp only[decide_eq_false_iff_not]at *;refine FM ?_;have:=Cs p q;omega
def Proc.vs(p:Proc):List Value:=[.int .i64 p.site,.int .i64 p.inc,.int .i64 p.num]
def Lb(ps:List Proc):List Proc:=ps.mergeSort fun x y=>!(Go.Proofs.ltOf AT) y x
theorem Y5(ps:List Proc)(h:ps.length≤1000000):Pt C0 197 3 (ps.map Proc.c) [.fn 61 []] ((Lb ps).map Proc.c):=by
 have:=Pt.sort (C:=C0) rfl Tryz.fI 3 (by omega) (fun w=>Go.Abs.HJ F.gC) (fun w=>Go.Abs.run_sizeOf F.gT) Proc.vs (fun _=>rfl) (fun x v hv=>by simp[Proc.vs]at hv;rcases hv with rfl|rfl|rfl<;>rfl) AT gS gU 61
  (fun x y=>f61_ok x y) ⟨f197,f197.body.getD .skip,by kernel_rfl,by kernel_rfl,by kernel_rfl⟩ ps (by omega)
 exact this
def C1:List Proc→List Proc
 |[]=>[]
 |[a]=>[a]
 | a::b::l=>if a=b then C1 (b::l) else a::C1 (b::l)
end Go.Rd
