/- part 12 of the proof -/
import Derived.Test.YthachdiockkofaaGreatDoorProg
import Derived.Shelf.SlSortCmp.WholeK
import Derived.Shelf.SlSortCmp.NoneTotal
import Derived.Test.YthachdiockkofaaGreatDoorW11
set_option linter.all false
open Go Go.Abs Go.Proofs
set_option maxRecDepth 100000
namespace Go.Rd
set_option maxHeartbeats 8000000
open List (take_add_one take_length)
open Option (isSome_none isSome_some map_some)
open Nat (one_ne_zero)
open Tryz
attribute [go_sem] isSome_none isSome_some
@[go_sem] theorem dr(k:Nat):((k:Int)+1).toNat=k+1:=rfl
@[go_sem] theorem cl(k:Nat):(0≤(k:Int)+1)=True:=by simp;omega
def AK(l:List AO)(p:Ae):List AO:=l.filter fun h=>decide (h.proc≠p)
def after'(p:Ae)(h:AO):Bool:=decide (0<Bo h.proc p)
def H3(l:List AO)(p:Ae):Int:=match l.findIdx? (after' p) with
 |some i=>i
 |none=>-1
def Cl(l:List AO)(p:Ae):Nat:=(l.findIdx? (after' p)).getD l.length
def BX(l:List AO)(p:Ae)(a:Amt):List AO:=if a.zero then AK l p else (AK l p).take (Cl (AK l p) p)++⟨p,a⟩::(AK l p).drop (Cl (AK l p) p)
theorem LA(l:List AO)(p:Ae):Cl l p≤l.length:=by
 unfold Cl;cases h:l.findIdx? (after' p) with
 |none=>simp
 |some i =>
  have:=(List.findIdx?_eq_some_iff_getElem.1 h).1;simp;omega
theorem UY(l:List AO)(p:Ae)(h:AO):H3 (l++[h]) p=if H3 l p<0∧after' p h=true then (l.length:Int) else H3 l p:=by
 unfold H3;rw[List.findIdx?_append];cases hl:l.findIdx? (after' p) with
 |some i=>simp;omega
 |none =>
  simp only[Option.none_or,List.findIdx?_cons];cases after' p h<;>simp
theorem Wj(r:List (List AV))(z c:List AV)(k:Nat)(hk:k≤r.length):(over 0 (k+1) (((r++[z]).drop k).take ((r++[z]).length-(k+1))) (r++[z])).set k c=r.take k++c::r.drop k:=by
 refine List.ext_getElem? fun i=>?_
 rw[List.getElem?_set];simp only[GY,List.length_append,List.length_cons,List.length_nil]
 by_cases hi:k=i
 ·subst hi;rw[if_pos rfl,if_pos (by omega),List.getElem?_append_right (by simp;omega)];simp[Nat.min_eq_left hk]
 rw[if_neg hi];simp only[over,List.getElem?_mapIdx,Nat.zero_add]
 by_cases hlt:i<k
 ·rw[List.getElem?_append_left (by omega),List.getElem?_append_left (by simp;omega),List.getElem?_take (l:=r),if_pos hlt];have hn:¬ (k+1≤i):=by omega
  cases r[i]?<;>simp[hn]
 ·by_cases hle:i≤r.length
  ·rw[List.getElem?_append_right (l₁:=r.take k) (by simp;omega)];simp only[List.length_take,Nat.min_eq_left hk];obtain⟨j,rfl⟩:∃ j,i=k+1+j:=⟨i-(k+1),by omega⟩;rw[show k+1+j-k=j+1 by omega,List.getElem?_cons_succ,List.getElem?_drop];have e1:(r++[z])[k+1+j]?=some ((r++[z])[k+1+j]'(by simp;omega)):=gE _;rw[e1];simp only[map_some,show k+1≤k+1+j by omega,if_true,show k+1+j-(k+1)=j by omega];rw[List.getElem?_take,if_pos (by omega),List.getElem?_drop,List.getElem?_append_left (by omega)];rw[gE (by omega)];simp
  ·have e2:(r.take k++c::r.drop k)[i]?=none:=List.getElem?_eq_none (by simp;omega);rw[List.getElem?_eq_none (l:=r++[z]) (by simp;omega),e2];rfl
def z5:List AV:=[.v (.int .i64 0),.v (.int .i64 0),.v (.int .i64 0),.v (.int .i64 0),.v (.int .i64 0)]
theorem f203_ok(l:List AO)(p:Ae)(a:Amt)(hl:l.length≤1000000):Ad C0 203 [AH l,.agg p.c,.agg a.c] [] (AH (BX l p a)) []:=by
 refine Ad.go f203 ?_;unfold f203;have hcap:((l.length:Int)+1≤4294967296)=True:=by simp;omega
 simp(disch:=omega)only[go_sem,hcap];refine Ab (α:=Nat) (fun i=>⟨[(17,I i),(16,I l.length),(15,AH l),(7,.sl (.own 2496 0) 5 ((AK (l.take i) p).map AO.c)),(8,I (H3 (AK (l.take i) p) p)),(4,.ptr 256 0),(5,.ptr 320 0)],[(256,p.c),(320,a.c)]⟩) (fun i=>i≤(l).length∧(AK (l.take i) p).length≤i) (fun i=>(l).length-i) 0 ⟨by omega,(by simp[AK])⟩ ?_ ?_
 ·refine Imp.ren ⟨[(896,2496)],[(256,256),(320,320)],[]⟩ ⟨rfl,rfl⟩ (by simp[lk]) ?_ ?_
  all_goals(try simp(disch:=omega)only[go_sem])
  all_goals(try(repeat'(with_reducible apply And.intro)))
  all_goals(first|exact .AG (by omega)|exact .Az (by omega)|exact .sl (by simp[AK,H3])|exact .int (by simp[AK,H3])|exact .eq (by simp[AK,H3]))
 rintro i ⟨hi,hP⟩ J hJ;refine gO ?_;refine ⟨fun hlt=>?_,fun hge=>?_⟩;rotate_left;have hil:i=(l).length:=by simp at hge;omega
 rotate_left;obtain⟨b,hb⟩:∃ b,(l)[i]?=some b:=⟨_,gE (by simp at hlt;omega)⟩;have hbm:=mG hb;simp(disch:=omega)only[go_sem,gm,hb]
 ·refine⟨fun h=>?_,fun h=>?_⟩
  ·have e:AK (l.take (i+1)) p=AK (l.take i) p:=by simp at h;simp[AK,take_add_one,hb,h]
   refine hJ _ (i+1) ⟨by simp at hlt;omega,(by rw[e];omega)⟩ (by simp at hlt;omega) (Imp.Am ?_ ?_)
   all_goals(try simp(disch:=omega)only[go_sem])
   all_goals(try(repeat'(with_reducible apply And.intro)))
   all_goals(first|exact .AG (by omega)|exact .Az (by omega)|exact .sl (by simp[e])|exact .int (by simp[e])|exact .eq (by simp[e]))
  ·have e:AK (l.take (i+1)) p=AK (l.take i) p++[b]:=by simp at h;simp[AK,take_add_one,hb,h]
   have ep:=UY (AK (l.take i) p) p b;rw[← e]at ep;generalize AK (l.take i) p=r at hP e ep;have hbound:(r.length:Int)+1≤4294967296:=by simp at hlt;omega
   repeat'(first
    |(with_reducible refine And.intro (fun h=>?_) (fun h=>?_))
    |((with_reducible show AY _ _ 61 _ _ _);refine Ai (f61_ok b.proc p) ?_ rfl ?_;(focus(simp(disch:=omega)only[go_sem];done));try simp(disch:=omega)only[go_sem])
    |((with_reducible show AW _ _ 61 _ _ _ _ _ _ _);refine Aw ⟨⟨[],[],[]⟩,[],[]⟩ (f61_ok b.proc p) ?_ rfl rfl trivial (.inl rfl) ?_;(focus(simp(disch:=omega)only[go_sem];done));try simp(disch:=omega)only[go_sem]))
   all_goals(refine hJ _ (i+1) ⟨by simp at hlt;omega,by rw[e];simp;omega⟩ (by simp at hlt;omega) (Imp.Am ?_ ?_))
   all_goals(try simp(disch:=omega)only[go_sem])
   all_goals(refine⟨.sl (by rw[e];simp[AO.c]),.int ?_⟩)
   all_goals(simp_all[after']<;>omega)
 ·subst hil;simp only[take_length]at hP ⊢;have hb1:H3 (AK l p) p=if (AK l p).findIdx? (after' p)=none then -1 else (Cl (AK l p) p:Int):=by
   unfold H3 Cl;cases (AK l p).findIdx? (after' p)<;>simp
  have hpn:=LA (AK l p) p;have hset:BX l p a=if a.zero then AK l p else (AK l p).take (Cl (AK l p) p)++⟨p,a⟩::(AK l p).drop (Cl (AK l p) p):=rfl
  have hpd:(AK l p).findIdx? (after' p)=none→Cl (AK l p) p=(AK l p).length:=fun h=>by simp[Cl,h]
  generalize AK l p=r at hP hb1 hpn hset hpd ⊢;generalize Cl r p=k at hb1 hpn hset hpd;refine Ac (f264_ok a) ?_;cases hz:a.zero
  ·rw[hz]at hset;have hbound:(r.length:Int)+1≤4294967296:=by omega
   have hfin:r.length+1≤4294967296:=by omega
   generalize hpi:H3 r p=q at hb1;have hk:q<0→k=r.length:=fun hq=>hpd (by
    cases h:r.findIdx? (after' p) with
    |none=>rfl
    |some i=>rw[h]at hb1;simp at hb1;omega)
   have hk':¬ q<0→q=(k:Int):=fun hq=>by
    split at hb1
    ·omega
    ·exact hb1
   clear hpd hb1 hJ;obtain⟨e,he⟩:∃ e:AO,((r++[h0]).map AO.c)[k]?=some e.c:=⟨(r++[h0])[k]'(by simp;omega),by rw[gm,gE (by simp;omega)];rfl⟩;have hover:∀ X,(over 0 (k+1) X (r.map AO.c++[z5]))[k]?=some e.c:=fun X=>by
    have:r.map AO.c++[z5]=(r++[h0]).map AO.c:=by simp[h0,AO.c,z5]
    rw[this];simp only[over,List.getElem?_mapIdx,he,map_some];rw[if_neg (by omega)]
   have tail:∀ X:List (List AV),X=((r.map AO.c++[z5]).drop k).take (r.length+1-(k+1))→(over 0 (k+1) X (r.map AO.c++[z5])).set k (AO.c ⟨p,a⟩)=(BX l p a).map AO.c:=fun X hX=>by
    have:=Wj (r.map AO.c) z5 (AO.c ⟨p,a⟩) k (by simpa using hpn);rw[hset,hX];simp only[List.length_append,List.length_map,List.length_cons,List.length_nil,Nat.zero_add]at this;rw[this];simp
   simp only[z5]at hover tail
   by_cases hq:q<0
   ·have e1:(q<0)=True:=by simp[hq]
    have:=hk hq;subst this;simp(disch:=omega)only[go_sem,e1];refine Aq 7 [([],[7]),([],[8]),([],[53]),([],[52,54]),([],[7]),([],[8]),([],[56,57])] fol ?_;simp(disch:=omega)only[go_sem,hover,GY];refine Cf ⟨[],[],[3264]⟩ _ ?_;refine gO ?_;exact .sl (tail _ (by rw[List.take_take];congr 1;omega))
   ·have e1:(q<0)=False:=by simp[hq]
    have:=hk' hq;subst this;simp(disch:=omega)only[go_sem,e1];refine Aq 7 [([],[7]),([],[8]),([],[53]),([],[52,54]),([],[7]),([],[8]),([],[56,57])] fol ?_;simp(disch:=omega)only[go_sem,hover,GY];refine Cf ⟨[],[],[3264]⟩ _ ?_;refine gO ?_;exact .sl (tail _ (by rw[List.take_take];congr 1;omega))
  ·rw[hz]at hset;refine gO ?_;refine Cf ⟨[],[],[2496]⟩ _ ?_;simp(disch:=omega)only[go_sem,hset]
def DP(r:Res)(l:List AO)(p:Ae)(a:Amt):Bool:=Ba r l&&p.ok&&r.fits a&&Ba r (BX l p a)
theorem f238_ok(r:Res)(l:List AO)(p:Ae)(a:Amt)(hl:l.length≤1000000):Ad C0 238 [.agg r.c,AH l,.agg p.c,.agg a.c] [] (B (DP r l p a)) []:=by
 refine Ad.go f238 ?_;unfold f238;refine gO ?_;refine Aq 11 [([],[4]),([],[1]),([],[6]),([],[7]),([],[9,10,11,12]),([4],[13]),([4],[4,14]),([4],[1,14]),([4],[6,14]),([4],[7,14]),([4],[16,17,18,14])] fol ?_;refine gO ?_;refine Ar (f271_ok r l p a) ?_;cases hc:(Ba r l&&p.ok&&r.fits a)
 ·simp(disch:=omega)only[go_sem];refine Ap _ ?_;exact wb (by simp[DP,hc])
 ·simp(disch:=omega)only[go_sem];refine Ar (f203_ok l p a hl) ?_;refine gO ?_;refine Ac (f277_ok r (BX l p a)) ?_;refine gO ?_;refine Ap _ ?_;exact wb (by simp only[DP,hc];rfl)
@[reducible] def WC(r:Nat)(l:List AS):AV:=.sl (.own r 0) 7 (l.map AS.c)
theorem f305_ok(n:Nat)(hn:n≤1000000):Ad C0 305 [.v (.slice none 0 0),I n] [] (WC 0 []) []:=by
 refine Ad.go f305 ?_;unfold f305;have e1:((n:Int)<0)=False:=by simp
 simp(disch:=omega)only[go_sem,e1,Int.sub_zero,decide_false];refine⟨fun h=>?_,fun h=>?_⟩
 ·refine Bc ⟨[(1408,0)],[],[]⟩ _ rfl ⟨rfl,rfl⟩ (by simp[lk]) ?_ trivial;simp(disch:=omega)only[go_sem,WC]
 ·refine Bc ⟨[],[],[]⟩ _ rfl ⟨rfl,rfl⟩ (by simp[lk]) ?_ trivial;simp(disch:=omega)only[go_sem,WC]
@[reducible] def NH(a b:List AS):AV:=.sl .no 1 [[A7 a],[A7 b]]
theorem f270_ok(a b:List AS)(h:a.length+b.length≤1000000):Ad C0 270 [NH a b] [] (A7 (a++b)) []:=by
 refine Ad.go f270 ?_;unfold f270;have z0:(decide ((0:Int)<2))=true:=by decide
 have z1:(decide ((1:Int)<2))=true:=by decide
 have z2:(decide ((2:Int)<2))=false:=by decide
 have l1:((a.length:Int)<0)=False:=by simp
 have l2:((a.length:Int)+b.length<0)=False:=eq_false (by omega);refine gO ?_;refine Ab (α:=Nat) (fun i=>⟨[(11,I i),(10,I 2),(9,NH a b),(3,I (if i=0 then 0 else if i=1 then a.length else a.length+b.length)),(0,NH a b)],[]⟩) (fun i=>i≤2) (fun i=>2-i) 0 (by simp) ?_ ?_
 ·exact Imp.Am gI gI
 rintro i hi J hJ;obtain rfl|rfl|rfl:i=0∨i=1∨i=2:=by omega
 ·simp(disch:=omega)only[go_sem,z0,Int.zero_add,l1,decide_false];exact hJ _ 1 (by omega) (by omega) AR
 ·simp(disch:=omega)only[go_sem,z1,l2,decide_false,one_ne_zero];exact hJ _ 2 (by omega) (by omega) AR
 clear hJ;simp(disch:=omega)only[go_sem,z2];refine Bn ⟨⟨[],[],[]⟩,[(0,1536)],[]⟩ (f305_ok (a.length+b.length) h) gI rfl trivial (.inl rfl) ?_;refine gO ?_;refine Ab (α:=Nat) (fun i=>⟨[(27,I i),(26,I 2),(25,NH a b),(6,.sl (.own 2112 0) 7 ((if i=0 then [] else if i=1 then a else a++b).map AS.c)),(0,NH a b)],[]⟩) (fun i=>i≤2) (fun i=>2-i) 0 (by simp) ?_ ?_
 ·refine Imp.ren ⟨[(1536,2112)],[],[]⟩ ⟨rfl,rfl⟩ (by simp[lk]) ?_ ?_
  ·exact gI
  ·exact gI
 rintro i hi J hJ;obtain rfl|rfl|rfl:i=0∨i=1∨i=2:=by omega
 ·simp(disch:=omega)only[go_sem,z0];exact hJ _ 1 (by omega) (by omega) (Imp.Am (by simp(disch:=omega)only[go_sem,one_ne_zero]) gI)
 ·simp(disch:=omega)only[go_sem,z1,one_ne_zero];exact hJ _ 2 (by omega) (by omega) (Imp.Am (by simp(disch:=omega)only[go_sem];exact .sl (by simp)) gI)
 ·simp(disch:=omega)only[go_sem,z2];refine Cf ⟨[],[],[2112]⟩ _ ?_;simp(disch:=omega)only[go_sem]
theorem f225_ok(q:Queue)(h:q.An.length+q.waits.length≤1000000):Ad C0 225 [.agg q.c] [] (A7 (q.An++q.waits)) []:=by
 refine Ad.go f225 ?_;unfold f225;refine gO ?_;refine FW [448] (f270_ok q.An q.waits h) gI rfl ?_;refine gO ?_;exact AE _
def As(q:Queue)(p:Ae):Option Amt:=((q.An++q.waits).find? fun w=>decide (w.proc=p)).map (·.amt)
theorem f228_ok(q:Queue)(p:Ae)(h:q.An.length+q.waits.length≤1000000):Ad C0 228 [.agg q.c,.agg p.c] [] (.tup [.agg ((As q p).getD ⟨0,0⟩).c,B (As q p).isSome]) []:=by
 refine Ad.go f228 ?_;unfold f228;refine gO ?_;refine Ac (f225_ok q h) ?_;have hw:As q p=((q.An++q.waits).find? fun w=>decide (w.proc=p)).map (·.amt):=rfl;have hl:(q.An++q.waits).length≤1000000:=by simpa using h
 generalize q.An++q.waits=l at hw hl;refine gO ?_;refine Ab (α:=Nat) (fun i=>⟨[(11,I i),(10,I l.length),(9,A7 l),(3,.ptr 192 0),(4,.ptr 256 0)],[(192,p.c),(256,(⟨0,0⟩:Amt).c)]⟩) (fun i=>i≤(l).length∧(l.take i).find? (fun h=>decide (h.proc=p))=none) (fun i=>(l).length-i) 0 ⟨by omega,rfl⟩ ?_ ?_
 ·exact BB
 rintro i ⟨hi,hP⟩ J hJ;refine gO ?_;refine ⟨fun hlt=>?_,fun hge=>?_⟩;rotate_left;have hil:i=(l).length:=by simp at hge;omega
 rotate_left;obtain⟨b,hb⟩:∃ b,(l)[i]?=some b:=⟨_,gE (by simp at hlt;omega)⟩;have hbm:=mG hb;simp(disch:=omega)only[go_sem,gm,hb]
 ·refine⟨fun h=>?_,fun h=>?_⟩
  ·have e:As q p=some b.amt:=by rw[hw,GI hP hb (by simpa using h)];rfl
   simp(disch:=omega)only[go_sem,e];exact AE _
  ·refine hJ _ (i+1) ⟨by simp at hlt;omega,(by rw[BS hP hb];simp at h;simp[h])⟩ (by simp at hlt;omega) AR
 ·subst hil;rw[take_length]at hP;have e:As q p=none:=by rw[hw,hP];rfl
  simp(disch:=omega)only[go_sem,e];exact AE _
def Bt(l:List AS):List Ae:=l.map (·.proc)
theorem f147_ok(q:Queue)(h:q.An.length+q.waits.length≤1000000):Ad C0 147 [.agg q.c] [] (Ax (Bt (q.An++q.waits))) []:=by
 refine Ad.go f147 ?_;unfold f147;refine gO ?_;refine Ac (f225_ok q h) ?_;have hl:(q.An++q.waits).length≤1000000:=by simpa using h
 generalize q.An++q.waits=l at hl;refine gO ?_;refine Ab (α:=Nat) (fun i=>⟨[(9,I i),(8,I l.length),(7,A7 l),(3,.sl (.own 1088 0) 3 ((Bt (l.take i)).map Ae.c))],[]⟩) (fun i=>i≤(l).length∧True) (fun i=>(l).length-i) 0 ⟨by omega,trivial⟩ ?_ ?_
 ·exact BB
 rintro i ⟨hi,hP⟩ J hJ;refine gO ?_;refine ⟨fun hlt=>?_,fun hge=>?_⟩;rotate_left;have hil:i=(l).length:=by simp at hge;omega
 rotate_left;obtain⟨b,hb⟩:∃ b,(l)[i]?=some b:=⟨_,gE (by simp at hlt;omega)⟩;have hbm:=mG hb;simp(disch:=omega)only[go_sem,gm,hb]
 ·simp(disch:=omega)only[go_sem,Bt];refine hJ _ (i+1) ⟨by simp at hlt;omega,trivial⟩ (by simp at hlt;omega) (Imp.Am ?_ ?_)
  all_goals(try simp(disch:=omega)only[go_sem])
  all_goals(try(repeat'(with_reducible apply And.intro)))
  all_goals(first|exact .AG (by omega)|exact .Az (by omega)|exact .sl (by simp[Bt,take_add_one,hb,Ae.c])|exact .int (by simp[Bt,take_add_one,hb,Ae.c])|exact .eq (by simp[Bt,take_add_one,hb,Ae.c]))
 ·subst hil;refine Cf ⟨[],[],[1088]⟩ _ ?_;simp(disch:=omega)only[go_sem,take_length]
def valid(q:Queue):Bool:=sound q&&!(match Bj q with
 |some w=>DP q.res q.holds w.proc w.amt
 |none=>false)
theorem f154_ok(q:Queue)(h1:q.holds.length≤1000000)(h2:q.waits.length≤1000000):Ad C0 154 [.agg q.c] [] (B (valid q)) []:=by
 refine Ad.go f154 ?_;unfold f154;refine gO ?_;refine Ac (f236_ok q h1 h2) ?_;cases hs:sound q
 ·simp(disch:=omega)only[go_sem];refine Ap _ ?_;exact wb (by simp[valid,hs])
 refine gO ?_;refine Ac (f237_ok q) ?_;cases hh:Bj q with
 |none =>
  simp(disch:=omega)only[go_sem,isSome_none];refine Ap _ ?_;exact wb (by simp[valid,hs,hh])
 |some w =>
  simp(disch:=omega)only[go_sem,isSome_some];refine Ac (f238_ok q.res q.holds w.proc w.amt h1) ?_;refine gO ?_;refine Ap _ ?_;exact wb (by simp[valid,hs,hh])
theorem f101_ok(q:Queue)(h1:q.holds.length≤1000000)(h2:q.waits.length≤1000000):Ad C0 101 [.agg q.c] [] (B (valid q)) []:=by
 refine Ad.go f101 ?_;unfold f101;refine gO ?_;refine Ac (f154_ok q h1 h2) ?_;refine gO ?_;exact AE _
@[go_sem] theorem cP:AH []=.sl .no 5 []:=rfl
@[go_sem] theorem dt:A7 []=.sl .no 7 []:=rfl
@[go_sem] theorem da:Ax []=.sl .no 3 []:=rfl
@[go_sem] theorem cq:Ay []=.sl .no 8 []:=rfl
@[go_sem] theorem cY:DU []=.sl .no 9 []:=rfl
@[go_sem] theorem cJ:EJ []=.sl .no 5 []:=rfl
@[go_sem] theorem cB:Bv []=.sl .no 3 []:=rfl
@[go_sem] theorem dx:OE []=.sl .no 2 []:=rfl
def CI(q:Queue)(w:AS):Queue:=match q.An with
 |_::l=>{ q with holds:=BX q.holds w.proc w.amt,An:=l }
 |[]=>{ q with holds:=BX q.holds w.proc w.amt,waits:=q.waits.drop 1 }
def SJ:Nat→Queue→Queue × List AO
 | 0,q=>(q,[])
 | n+1,q=>match Bj q with
  |some w=>if DP q.res q.holds w.proc w.amt then ((SJ n (CI q w)).1,⟨w.proc,w.amt⟩::(SJ n (CI q w)).2) else (q,[])
  |none=>(q,[])
def BQ(q:Queue):Nat:=q.An.length+q.waits.length
def B1(q:Queue):Queue × List AO:=SJ (BQ q) q
theorem Xn{n:Nat}{q:Queue}(h:Bj q=none):SJ n q=(q,[]):=by cases n<;>simp[SJ,h]
theorem HE{q:Queue}{w:AS}(h:Bj q=some w):BQ (CI q w)+1=BQ q:=by
 unfold Bj at h;unfold CI BQ;cases hq:q.An with
 | cons a l=>simp;omega
 | nil =>
  cases hw:q.waits with
  | cons a l=>simp
  | nil=>simp[hq,hw]at h
theorem Kf(q:Queue):B1 q=match Bj q with
 |some w=>if DP q.res q.holds w.proc w.amt then ((B1 (CI q w)).1,⟨w.proc,w.amt⟩::(B1 (CI q w)).2) else (q,[])
 |none=>(q,[]):=by
 unfold B1;cases h:Bj q with
 |none=>simp[Xn h]
 |some w =>
  have:=HE h;rw[← this];simp only[SJ,h]
theorem Ix(l:List AO)(p:Ae)(a:Amt):(BX l p a).length≤l.length+1:=by
 have h1:(AK l p).length≤l.length:=List.length_filter_le _ _;have h2:=LA (AK l p) p;unfold BX;split
 ·omega
 ·simp;omega
def BC(q:Queue):Nat:=q.holds.length+BQ q
theorem TL{q:Queue}{w:AS}(h:Bj q=some w):BC (CI q w)≤BC q:=by
 have h1:=HE h;have h2:(CI q w).holds.length≤q.holds.length+1:=by
  unfold CI;split<;>exact Ix _ _ _
 unfold BC;omega
theorem f262_ok(q:Queue)(hall:BC q≤1000000):Ad C0 262 [.ptr 63 0] [(63,q.c)] (AH (B1 q).2) [(63,(B1 q).1.c)]:=by
 refine Ad.go f262 ?_;unfold f262;refine gO ?_;refine Ab (α:=Queue × List AO) (fun x=>⟨[(3,.sl (.own 4736 0) 5 (x.2.map AO.c)),(0,.ptr 63 0)],[(63,x.1.c)]⟩) (fun x=>x.2.length+BQ x.1=BQ q∧BC x.1≤1000000∧(B1 x.1).1=(B1 q).1∧x.2++(B1 x.1).2=(B1 q).2) (fun x=>BQ x.1) (q,[]) ⟨by simp,hall,rfl,rfl⟩ ?_ ?_
 ·refine Imp.Am ?_ ?_
  ·exact gI
  ·exact gI
 rintro⟨s,hs⟩ ⟨i1,i2,i3,i4⟩ J hJ
 replace i1:hs.length+BQ s=BQ q:=i1
 replace i2:BC s≤1000000:=i2
 replace i3:(B1 s).1=(B1 q).1:=i3
 replace i4:hs++(B1 s).2=(B1 q).2:=i4
 rw[Kf s]at i3 i4;refine gO ?_;refine Ac (f237_ok s) ?_;cases hh:Bj s with
 |none =>
  simp only[hh]at i3 i4;simp(disch:=omega)only[go_sem,isSome_none];refine Aq 15 [([],[5]),([],[22]),([],[23]),([],[0,24]),([],[25,24]),([],[26,24]),([],[27,24]),([],[0,24]),([],[29,24]),([],[30,24]),([],[31,24]),([],[4,24]),([],[33,24]),([],[4,24]),([],[35,24])] fol ?_;refine gO ?_;refine Bc ⟨[],[(63,63)],[4736]⟩ _ rfl ⟨rfl,rfl⟩ (by simp[lk]) ?_ ?_
  ·simp(disch:=omega)only[go_sem,← i4,List.append_nil]
  ·simp(disch:=omega)only[go_sem,← i3]
 |some w =>
  simp only[hh]at i3 i4;have hsz:=HE hh;have hpa:=TL hh;have hh1:s.holds.length≤1000000:=by unfold BC at i2;omega
  simp(disch:=omega)only[go_sem,isSome_some];refine Aq 15 [([],[5]),([],[22]),([],[23]),([],[0,24]),([],[25,24]),([],[26,24]),([],[27,24]),([],[0,24]),([],[29,24]),([],[30,24]),([],[31,24]),([],[4,24]),([],[33,24]),([],[4,24]),([],[35,24])] fol ?_;refine gO ?_;refine Ac (f238_ok s.res s.holds w.proc w.amt hh1) ?_;cases hr:DP s.res s.holds w.proc w.amt
  ·simp only[hr,Bool.false_eq_true,if_false]at i3 i4;refine gO ?_;refine Bc ⟨[],[(63,63)],[4736]⟩ _ rfl ⟨rfl,rfl⟩ (by simp[lk]) ?_ ?_
   ·simp(disch:=omega)only[go_sem,← i4,List.append_nil]
   ·simp(disch:=omega)only[go_sem,← i3]
  simp only[hr,if_true]at i3 i4;have step:∀ st',Imp ⟨C0,[63],[]⟩ st' ⟨[(3,.sl (.own 4736 0) 5 ((hs++[AO.mk w.proc w.amt]).map AO.c)),(0,.ptr 63 0)],[(63,(CI s w).c)]⟩→J st':=fun st' h =>
   hJ st' (CI s w,hs++[AO.mk w.proc w.amt]) ⟨by simp;omega,by simp;omega,i3,by rw[← i4];simp⟩ (by simp;omega) h
  have hbound:hs.length+1≤4294967296:=by unfold BC at hall;omega
  cases hc:s.An with
  | cons a l =>
   have hp:CI s w = { s with holds:=BX s.holds w.proc w.amt,An:=l }:=by unfold CI;simp only[hc]
   rw[hp]at step;have z1:(0<(l.length:Int)+1)=True:=eq_true (by omega);have z2:(l.map AS.c).take (l.length+1-1)=l.map AS.c:=List.take_of_length_le (by simp);simp(disch:=omega)only[go_sem,hc,z1];refine Aq 10 [([],[0]),([],[0]),([],[56]),([],[57]),([],[58]),([],[4]),([],[60]),([],[4]),([],[62]),([],[59,61,63])] fol ?_;refine gO ?_;refine Ar (f203_ok s.holds w.proc w.amt hh1) ?_;simp(disch:=omega)only[go_sem,z2];refine step _ (Imp.Am ?_ ?_)
   ·simp(disch:=omega)only[go_sem];exact .sl (by simp[AO.c])
   ·exact gI
  | nil =>
   have hp:CI s w = { s with holds:=BX s.holds w.proc w.amt,waits:=s.waits.drop 1 }:=by unfold CI;simp only[hc]
   rw[hp]at step;have hw:1≤s.waits.length:=by unfold BQ at hsz;rw[hc]at hsz;simp at hsz;omega
   have z2:((s.waits.map AS.c).drop 1).take (s.waits.length-1)=(s.waits.drop 1).map AS.c:=by rw[← List.map_drop];exact List.take_of_length_le (by simp)
   simp(disch:=omega)only[go_sem,hc];refine Aq 10 [([],[0]),([],[0]),([],[56]),([],[57]),([],[58]),([],[4]),([],[60]),([],[4]),([],[62]),([],[59,61,63])] fol ?_;refine gO ?_;refine Ar (f203_ok s.holds w.proc w.amt hh1) ?_;simp(disch:=omega)only[go_sem,z2];refine step _ (Imp.Am ?_ ?_)
   ·simp(disch:=omega)only[go_sem];exact .sl (by simp[AO.c])
   ·simp(disch:=omega)only[go_sem,hc,List.map_nil]
theorem f202_ok(q:Queue)(p:Ae)(h:q.holds.length≤1000000):Ad C0 202 [.ptr 63 0,.ptr 127 0] [(63,q.c),(127,p.c)] (.tup []) [(63,{ q with holds:=BX q.holds p ⟨0,0⟩:Queue }.c),(127,p.c)]:=by
 refine Ad.go f202 ?_;unfold f202;refine gO ?_;refine Ac (f203_ok q.holds p ⟨0,0⟩ h) ?_;refine gO ?_;refine Bc ⟨[],[(63,63),(127,127)],[]⟩ _ rfl ⟨rfl,rfl⟩ (by simp[lk]) ?_ ?_
 ·exact gI
 ·exact gI
theorem f204_ok(q:Queue)(p:Ae)(h:q.An.length≤1000000):Ad C0 204 [.ptr 63 0,.ptr 127 0] [(63,q.c),(127,p.c)] (.tup []) [(63,{ q with An:=Bu q.An p:Queue }.c),(127,p.c)]:=by
 refine Ad.go f204 ?_;unfold f204;refine gO ?_;refine Ac (f205_ok q.An p h) ?_;refine gO ?_;refine Bc ⟨[],[(63,63),(127,127)],[]⟩ _ rfl ⟨rfl,rfl⟩ (by simp[lk]) ?_ ?_
 ·exact gI
 ·exact gI
theorem f206_ok(q:Queue)(p:Ae)(h:q.waits.length≤1000000):Ad C0 206 [.ptr 63 0,.ptr 127 0] [(63,q.c),(127,p.c)] (.tup []) [(63,{ q with waits:=Bu q.waits p:Queue }.c),(127,p.c)]:=by
 refine Ad.go f206 ?_;unfold f206;refine gO ?_;refine Ac (f205_ok q.waits p h) ?_;refine gO ?_;refine Bc ⟨[],[(63,63),(127,127)],[]⟩ _ rfl ⟨rfl,rfl⟩ (by simp[lk]) ?_ ?_
 ·exact gI
 ·exact gI
def B3(q:Queue)(p:Ae):Queue:={ q with holds:=BX q.holds p ⟨0,0⟩,An:=Bu q.An p,waits:=Bu q.waits p }
def Fh(q:Queue):Queue:={ (B1 q).1 with gen:=KU (B1 q).1.gen }
@[reducible] def ah(a b:Nat):AV:=.mem true [.fn 202 [.ptr a 0,.ptr b 0],.fn 204 [.ptr a 0,.ptr b 0],.fn 206 [.ptr a 0,.ptr b 0]]
theorem BN(l:List AS)(p:Ae):(Bu l p).length≤l.length:=List.length_filter_le _ _
theorem f201_ok(q:Queue)(p:Ae)(h:BC q+1≤1000000):Ad C0 201 [.ptr 63 0,ah 63 127] [(63,q.c),(127,p.c)] (.tup [.agg (Fh (B3 q p)).c,AH (B1 (B3 q p)).2,I 0]) [(63,(Fh (B3 q p)).c),(127,p.c)]:=by
 have h1:q.holds.length≤1000000:=by unfold BC at h;omega
 have h2:q.An.length≤1000000:=by unfold BC BQ at h;omega
 have h3:q.waits.length≤1000000:=by unfold BC BQ at h;omega
 have h4:BC (B3 q p)≤1000000:=by
  have:=Ix q.holds p ⟨0,0⟩;have:=BN q.An p;have:=BN q.waits p;unfold BC BQ at h ⊢;simp only[B3];omega
 refine Ad.go f201 ?_;unfold f201;have z0:(decide ((0:Int)<3))=true:=by decide
 have z1:(decide ((1:Int)<3))=true:=by decide
 have z2:(decide ((2:Int)<3))=true:=by decide
 have z3:(decide ((3:Int)<3))=false:=by decide
 refine gO ?_;refine Ab (α:=Nat) (fun i=>⟨[(12,I i),(11,I 3),(10,ah 63 127),(0,.ptr 63 0),(4,.ptr 256 0)],[(63,(if i=0 then q else if i=1 then { q with holds:=BX q.holds p ⟨0,0⟩:Queue } else if i=2 then { q with holds:=BX q.holds p ⟨0,0⟩,An:=Bu q.An p:Queue } else B3 q p).c),(127,p.c),(256,(⟨⟨[],0,0,0⟩,[],[],[],0⟩:Queue).c)]⟩) (fun i=>i≤3) (fun i=>3-i) 0 (by simp) ?_ ?_
 ·refine Imp.Am ?_ ?_
  ·exact gI
  ·exact gI
 rintro i hi J hJ;obtain rfl|rfl|rfl|rfl:i=0∨i=1∨i=2∨i=3:=by omega
 ·simp(disch:=omega)only[go_sem,z0];refine Bn ⟨⟨[],[(63,63),(127,127)],[]⟩,[],[]⟩ (f202_ok q p h1) gI rfl gI (.inl rfl) ?_;refine gO ?_;refine hJ _ 1 (by omega) (by omega) (Imp.Am gI (by simp(disch:=omega)only[go_sem,one_ne_zero]))
 ·simp(disch:=omega)only[go_sem,z1,one_ne_zero];refine Bn ⟨⟨[],[(63,63),(127,127)],[]⟩,[],[]⟩ (f204_ok { q with holds:=BX q.holds p ⟨0,0⟩ } p h2) gI rfl gI (.inl rfl) ?_;refine gO ?_;refine hJ _ 2 (by omega) (by omega) (Imp.Am gI (by simp(disch:=omega)only[go_sem,one_ne_zero]))
 ·simp(disch:=omega)only[go_sem,z2];refine Bn ⟨⟨[],[(63,63),(127,127)],[]⟩,[],[]⟩ (f206_ok { q with holds:=BX q.holds p ⟨0,0⟩,An:=Bu q.An p } p h3) gI rfl gI (.inl rfl) ?_;refine gO ?_;refine hJ _ 3 (by omega) (by omega) (Imp.Am gI (by simp(disch:=omega)only[go_sem,B3]))
 ·clear hJ;simp(disch:=omega)only[go_sem,z3];refine Bn ⟨⟨[],[(63,63)],[]⟩,[],[]⟩ (f262_ok (B3 q p) h4) gI rfl gI (.inl rfl) ?_;refine gO ?_;refine Ac (f263_ok (B1 (B3 q p)).1.gen) ?_;refine gO ?_;refine Bc ⟨[],[(63,63),(127,127)],[]⟩ _ (by(try simp(disch:=omega)only[go_sem,C6,IJ])<;>rfl) ⟨rfl,rfl⟩ (by simp[lk]) ?_ ?_
  ·simp(disch:=omega)only[go_sem,Fh]
  ·simp(disch:=omega)only[go_sem,Fh]
end Go.Rd
namespace Go.Proofs
open Go.Shelf
def Tryz.Yv : Go.Shelf.Ren := ⟨fun | 6 => 197 | 15 => 261 | 14 => 260 | 28 => 301 | 29 => 302 | 20 => 293 | 21 => 294 | 22 => 295 | 23 => 296 | 24 => 297 | 25 => 298 | 26 => 299 | 27 => 300 | 46 => 316 | 47 => 317 | 48 => 318 | 49 => 319 | 50 => 320 | 57 => 324 | n => n, fun | 22 => 31 | 24 => 38 | 25 => 114 | 3 => 3 | 39 => 270 | 0 => 0 | 53 => 323 | 55 => 325 | 4 => 4 | 46 => 316 | 45 => 315 | 50 => 320 | 5 => 5 | 9 => 9 | 66 => 331 | 70 => 276 | 76 => 338 | 77 => 305 | n => n, fun | n => n⟩
theorem Tryz.fH : Go.Proofs.SlLaysF0.n6 Tryz.prog Tryz.Yv := {
  mixed := by kernel_rfl
  f6 := ⟨Tryz.f197.name, by decide, Tryz.func197.trans (congrArg some (by kernel_rfl))⟩
  f14 := ⟨Tryz.f260.name, by decide, Tryz.func260.trans (congrArg some (by kernel_rfl))⟩
  f15 := Tryz.func261.trans (congrArg some (by kernel_rfl))
  f20 := ⟨Tryz.f293.name, by decide, Tryz.func293.trans (congrArg some (by kernel_rfl))⟩
  f21 := ⟨Tryz.f294.name, by decide, Tryz.func294.trans (congrArg some (by kernel_rfl))⟩
  f22 := ⟨Tryz.f295.name, by decide, Tryz.func295.trans (congrArg some (by kernel_rfl))⟩
  f23 := ⟨Tryz.f296.name, by decide, Tryz.func296.trans (congrArg some (by kernel_rfl))⟩
  f24 := ⟨Tryz.f297.name, by decide, Tryz.func297.trans (congrArg some (by kernel_rfl))⟩
  f25 := ⟨Tryz.f298.name, by decide, Tryz.func298.trans (congrArg some (by kernel_rfl))⟩
  f26 := ⟨Tryz.f299.name, by decide, Tryz.func299.trans (congrArg some (by kernel_rfl))⟩
  f27 := ⟨Tryz.f300.name, by decide, Tryz.func300.trans (congrArg some (by kernel_rfl))⟩
  f28 := Tryz.func301.trans (congrArg some (by kernel_rfl))
  f29 := Tryz.func302.trans (congrArg some (by kernel_rfl))
  f46 := ⟨Tryz.f316.name, by decide, Tryz.func316.trans (congrArg some (by kernel_rfl))⟩
  f47 := Tryz.func317.trans (congrArg some (by kernel_rfl))
  f48 := Tryz.func318.trans (congrArg some (by kernel_rfl))
  f49 := ⟨Tryz.f319.name, by decide, Tryz.func319.trans (congrArg some (by kernel_rfl))⟩
  f50 := ⟨Tryz.f320.name, by decide, Tryz.func320.trans (congrArg some (by kernel_rfl))⟩
  f57 := ⟨Tryz.f324.name, by decide, Tryz.func324.trans (congrArg some (by kernel_rfl))⟩
  t0 := Tryz.underlying0
  a0 := Tryz.isAgg0
  z0 := Tryz.sizeOf0
  v0 := Tryz.zeroValue0
  t3 := Tryz.underlying3
  a3 := Tryz.isAgg3
  z3 := Tryz.sizeOf3
  v3 := Tryz.zeroValue3
  t4 := Tryz.underlying4
  a4 := Tryz.isAgg4
  z4 := Tryz.sizeOf4
  v4 := Tryz.zeroValue4
  t5 := Tryz.underlying5
  a5 := Tryz.isAgg5
  z5 := Tryz.sizeOf5
  v5 := Tryz.zeroValue5
  t9 := Tryz.underlying9
  a9 := Tryz.isAgg9
  z9 := Tryz.sizeOf9
  v9 := Tryz.zeroValue9
  t22 := Tryz.underlying31
  a22 := Tryz.isAgg31
  z22 := Tryz.sizeOf31
  v22 := Tryz.zeroValue31
  t25 := Tryz.underlying114
  a25 := Tryz.isAgg114
  z25 := Tryz.sizeOf114
  v25 := Tryz.zeroValue114
  t39 := Tryz.underlying270
  a39 := Tryz.isAgg270
  z39 := Tryz.sizeOf270
  v39 := Tryz.zeroValue270
  t45 := Tryz.underlying315
  a45 := Tryz.isAgg315
  z45 := Tryz.sizeOf315
  v45 := Tryz.zeroValue315
  t46 := Tryz.underlying316
  a46 := Tryz.isAgg316
  z46 := Tryz.sizeOf316
  v46 := Tryz.zeroValue316
  t50 := Tryz.underlying320
  a50 := Tryz.isAgg320
  z50 := Tryz.sizeOf320
  v50 := Tryz.zeroValue320
  t53 := Tryz.underlying323
  a53 := Tryz.isAgg323
  z53 := Tryz.sizeOf323
  v53 := Tryz.zeroValue323
  t55 := Tryz.underlying325
  a55 := Tryz.isAgg325
  z55 := Tryz.sizeOf325
  v55 := Tryz.zeroValue325
  t66 := Tryz.underlying331
  a66 := Tryz.isAgg331
  z66 := Tryz.sizeOf331
  v66 := Tryz.zeroValue331
  t70 := Tryz.underlying276
  a70 := Tryz.isAgg276
  z70 := Tryz.sizeOf276
  v70 := Tryz.zeroValue276
  t76 := Tryz.underlying338
  a76 := Tryz.isAgg338
  z76 := Tryz.sizeOf338
  v76 := Tryz.zeroValue338
  t77 := Tryz.underlying305
  a77 := Tryz.isAgg305
  z77 := Tryz.sizeOf305
  v77 := Tryz.zeroValue305 }
end Go.Proofs
namespace Go.Abs
open Go.Proofs Go.Shelf Go.RowKit Go.Lib Go.Sort
variable {P:Program} {ρ:Go.Shelf.Ren} {α:Type} [Inhabited α]
theorem X0{w w':World}(hs:w.heap.size≤w'.heap.size)(ho:∀ b,b<w.heap.size→w'.heap[b]?=w.heap[b]?):w'.heap=w.heap++w'.heap.extract w.heap.size w'.heap.size:=by
 apply Array.ext_getElem?;intro b
 by_cases hb:b<w.heap.size
 ·rw[ho b hb,Array.getElem?_append_left hb]
 ·rw[Array.getElem?_append_right (by omega),Array.getElem?_extract]
  by_cases hb':b<w'.heap.size
  ·rw[if_pos (by omega)];congr 1;omega
  ·rw[if_neg (by omega),Array.getElem?_eq_none (by omega)]
theorem XB{C:Ctx}{g:Nat}{xs:List AV}{us:List Value}{v:Value}(h:Ad C g xs [] (.v v) [])(G:Gh)(W:World)(hG:Glob C G W)(hro:∀ b,G.own b=.ro∨G.own b=.other)(hx:VRs G W xs us) :
 Calls C.P g us.toArray W fun e w'=>e=.returned v∧∃ q os',w'=grow (W.drewN q) os':=by
 refine Calls.mono (h.2 G W us hG hx fun _ _ h=>by cases h) fun e w' ⟨u,g',he,hfr,hy,_⟩=>?_
 simp only[VR]at hy;subst hy;refine⟨he,w'.drawn-W.drawn,w'.heap.extract W.heap.size w'.heap.size,?_⟩;have hh:=X0 (w:=W) (w':=w') hfr.size fun b hb=>(hfr.keep b hb (hro b)).1
 obtain⟨ht,hd⟩:=hfr.tape;have ho:=hfr.os;have hp:=hfr.output;cases w' with
 | mk heap tape drawn os output =>
  simp only at hh ht hd ho hp;simp only[grow,World.drewN];rw[← hh,ht,ho,hp];congr 1;omega
def Oq(G:Gh):Gh:={ G with own:=fun b=>match G.own b with
 |.ro=>.ro
 |_=>.other }
theorem PD.sort{C:Ctx}(hC:C.P=P)(L:SlLaysF0.n6 P ρ)(k:Nat)(hk0:0<k)(aE:∀ w,(isAgg (ρ.t 24)).run P w=.ok true w)(zE:∀ w,(Go.sizeOf (ρ.t 24)).run P w=.ok k w)(enc:α→List Value)(hk:∀ x,(enc x).length=k)
 (h1:∀ x,∀ v∈enc x,v.oneCell'=true) (cf:α→α→Int) (hO:SWO (ltOf cf)) (hT:∀ x y,(ltOf cf) x y=false→(ltOf cf) y x=false→x=y) (g0:Nat)
 (hcmp:∀ x y,Ad C g0 [.agg (vals (enc x)),.agg (vals (enc y))] [] (.v (.int .i64 (cf x y))) []) (hf:∃ fn c,P.funcs[ρ.f 6]?=some fn∧(fn.name=="runtime.NumGoroutine")=false∧fn.body=some c) (ps:List α) (hsz:ps.length<4611686018427387904) :
 PD C (ρ.f 6) k (ps.map fun x=>vals (enc x)) [.fn g0 []] ((ps.mergeSort fun x y=>!(ltOf cf) y x).map fun x=>vals (enc x)):=by
 subst hC;refine⟨hf,fun G w r u us hG hu hv=>?_⟩
 match us,hv with
 |[fv],hv =>
  simp only[VRs,VR,and_true]at hv;obtain⟨cs,rfl,hcs⟩:=hv;have hcs0:cs = #[]:=by
   cases hl:cs.toList with
   | nil=>exact Array.toList_eq_nil_iff.1 hl
   | cons a b=>rw[hl]at hcs;simp[VRs]at hcs
  subst hcs0;obtain⟨_,⟨rfl,hes⟩|⟨h0,_⟩|⟨cap,cur,T,rfl,h2,h3,h5,h6,h7,h8⟩⟩:=hu
  ·have hps:ps=[]:=by simpa using hes
   subst hps;exact Calls.mono (AnyF.slices_SortFunc_none L none 0 _ w) fun e w' ⟨he,hw⟩=>⟨he,.inl ⟨by simp,by subst hw;exact⟨rfl,⟨rfl,Nat.le_refl _⟩,rfl,Nat.le_refl _,fun _ _=>rfl⟩⟩⟩
  ·omega
  ·simp only[Nat.zero_mul,Nat.zero_add]at h7 h8;have hlt:G.row r<w.heap.size:=DS h6;obtain⟨fn0,c0,hfn0,hname0,hb0⟩:=(hcmp default default).1;have eg:∀ args w,(callFunc g0 args).run C.P w=.ok (.enter g0 args) w:=fun args w=>LF hfn0 hname0 hb0 args w
   have hcell:∀ i x,ps[i]?=some x→∀ j v,(enc x)[j]?=some v→w.cell? ⟨G.row r,i*k+j,none⟩=some v:=fun i x hx j v hj=>by
    obtain⟨e1,e2⟩:=PRe.at_ _ _ k 0 h8 i (vals (enc x)) (by rw[List.getElem?_map,hx];rfl);obtain⟨us,k1,k2⟩:=PRc.list _ _ _ e2;obtain⟨v',hv',hp⟩:=PRl.get k1 j (.v v) (by simp[vals,hj]);simp only[PR]at hp;have:=k2 j v' hv';rw[add_lit]at this;rw[hp.1]at this;simpa using this
   have hH:HoldsK enc k w (G.row r) 0 ps.toArray:=fun j hj=>by
    have hj':j<ps.length*k:=by simpa using hj
    have hd:j / k<ps.length:=Nat.div_lt_of_lt_mul (by rwa [Nat.mul_comm]);have hm:j%k<k:=Nat.mod_lt _ hk0;rw[get_flatK enc k _ j (by simpa using hj')];have hx:ps[j / k]?=some ps[j / k]:=List.getElem?_eq_getElem hd;have hv:(enc ps[j / k])[j%k]?=some (enc ps[j / k])[j%k]!:=by
     rw[List.getElem?_eq_getElem (by rw[hk];exact hm),getElem!_pos _ _ (by rw[hk];exact hm)]
    have hc:=hcell (j / k) _ hx (j%k) _ hv;rw[Nat.div_add_mod' j k]at hc;have hp:ps.toArray[j / k]! = ps[j / k]:=by rw[getElem!_pos _ _ (by simpa using hd)];simp
    rw[Nat.zero_add,hp];refine⟨hc,?_⟩;simp[World.frozen?,h6]
   have hlays:CmpLays C.P g0 #[] enc k cf (G.row r) 0 ps.toArray.size w:=fun m os dk hdk x y=>by
    have hold:∀ b,b<w.heap.size→BM G b→BM (Oq G) b∧(sortWorldK enc k w (G.row r) 0 m dk os).heap[b]?=w.heap[b]?:=fun b hb hr=>by
     have hne:G.row r≠b:=fun e=>by rw[M8,← e,h5]at hr;cases hr
     refine⟨by simp only[M8,Oq]at hr ⊢;rw[hr],?_⟩;simp only[sortWorldK,grow,putRowK,putRow,mapBlock,ahead];rw[Array.getElem?_append_left (by simpa using hb),Array.getElem?_modify,if_neg hne];rfl
    have hG':Glob C (Oq G) (sortWorldK enc k w (G.row r) 0 m dk os):=fun i cs hi=>by
     obtain⟨q1,q2,q3⟩:=hG i cs hi;refine⟨q1,by simp only[M8,Oq]at q2 ⊢;rw[q2],PRc.mono hold _ ⟨i,0,none⟩ 0 q2 q3⟩
    have:=XB (hcmp x y) (Oq G) _ hG' (fun b=>by simp only[Oq];cases G.own b<;>simp) (us:=[.agg (enc x).toArray,.agg (enc y).toArray]) (by
     simp only[VRs,VR,and_true];exact⟨⟨_,rfl,GM _⟩,⟨_,rfl,GM _⟩⟩)
    exact this
   have hlen:(ps.map fun x=>vals (enc x)).length=ps.toArray.size:=by simp
   rw[hlen,Nat.zero_mul];refine Calls.mono (AnyQ.slices_SortFunc_total L k aE zE enc hk h1 cf hO g0 #[] (G.row r) 0 cap ps.toArray w eg hlays hH hlt (by simpa using hsz) hT) fun e w' ⟨he,n,os,hw⟩=>?_
   refine⟨he,.inr ?_⟩;generalize hqs:(ps.mergeSort fun x y=>!(ltOf cf) y x)=qs at hw;have hql:qs.length=ps.length:=by rw[← hqs];simp
   have hcs:cap*k≤cur.size:=h7;have hle:ps.length*k≤cur.size:=Nat.le_trans (Nat.mul_le_mul_right _ (by simpa using h2)) hcs;refine⟨cur,putCells id 0 (flatK enc k qs.toArray) cur,T,⟨h5,h6,by simp[putCells],fun p hp=>?_,?_⟩,?_⟩
   ·have hp':ps.length*k≤p:=by
     rcases hp with h|h
     ·omega
     ·simpa [hql]using h
    simp only[putCells,Array.getElem?_mapIdx,size_flatK,List.size_toArray,hql];cases cur[p]? with
    |none=>rfl
    |some y =>
     simp only[Option.map_some];rw[if_neg (by omega)]
   ·refine PRe.UU _ _ _ 0 fun i e he'=>?_
    rw[List.getElem?_map]at he';obtain⟨x,hx,rfl⟩:=Option.map_eq_some_iff.1 he';refine⟨by simp[vals,hk],?_⟩;refine PRc.C4 _ (enc x) _ _ (Kd _ ?_) fun j v hj=>?_
    ·have:∀ zs:List Value,(∀ v∈zs,v.oneCell'=true)→Cc (vals zs)=true:=by
      intro zs
      induction zs with
      | nil=>intro _;rfl
      | cons z zs ih =>
       intro hz;have:=ih fun v hv=>hz v (by simp[hv])
       simp only[vals,List.map_cons,Cc,H2,Bool.and_eq_true]at this ⊢;exact⟨hz z (by simp),this⟩
     exact this _ (h1 x)
    ·have hi:i<qs.length:=by
      rcases Nat.lt_or_ge i qs.length with h|h
      ·exact h
      ·rw[List.getElem?_eq_none h]at hx;cases hx
     have hjk:j<k:=by
      rcases Nat.lt_or_ge j (enc x).length with h|h
      ·rwa [hk]at h
      ·rw[List.getElem?_eq_none h]at hj;cases hj
     have hlt2:i*k+j<qs.length*k:=by
      have:(i+1)*k≤qs.length*k:=Nat.mul_le_mul_right _ hi;rw[Nat.add_mul]at this;omega
     simp only[Nat.zero_mul,Nat.zero_add,add_lit];rw[cell_of_row _ _ _ _ _ _ (setRow_heap w _ cur _ T _ h6)];simp only[putCells,Array.getElem?_mapIdx,size_flatK,List.size_toArray];rw[Array.getElem?_eq_getElem (by rw[hql]at hlt2;omega),Option.map_some,if_pos ⟨Nat.zero_le _,by omega⟩,Nat.sub_zero,get_flatK enc k _ _ (by simpa using hlt2)];have e1:(i*k+j) / k=i:=by rw[Nat.mul_comm,Nat.mul_add_div hk0,Nat.div_eq_of_lt hjk,Nat.add_zero]
     have e2:(i*k+j)%k=j:=by rw[Nat.mul_comm,Nat.mul_add_mod,Nat.mod_eq_of_lt hjk]
     have e3:qs.toArray[i]! = x:=by
      have e4:qs.toArray[i]! = qs[i]:=by rw[getElem!_pos _ _ (by simpa using hi)];simp
      rw[e4];rw[List.getElem?_eq_getElem hi]at hx;exact Option.some.inj hx
     rw[e1,e2,e3];rw[List.getElem?_eq_getElem (by rw[hk];exact hjk)]at hj;injection hj with hj
     rw[getElem!_pos _ _ (by rw[hk];exact hjk),hj];rfl
   ·subst hw;refine⟨rfl,⟨rfl,Nat.le_add_right _ _⟩,rfl,?_,fun b hb=>?_⟩
    ·simp[sortWorldK,grow,putRowK,putRow,mapBlock,ahead,World.setRow]
    ·have hb':b<w.heap.size:=by simpa [World.setRow]using hb
     simp only[sortWorldK,grow,putRowK,putRow,mapBlock,ahead];rw[Array.getElem?_append_left (by simpa using hb'),Array.getElem?_modify]
     by_cases hbr:G.row r=b
     ·subst hbr;have e:(Go.Sort.ahead w n).heap[G.row r]?=some (.cells cur T (0,0)):=h6;rw[if_pos rfl,e,setRow_heap w _ cur _ T _ h6];rfl
     ·rw[if_neg hbr,setRow_other w _ _ _ (Ne.symm hbr)];rfl
 |[],hv=>simp[VRs]at hv
 |_::_::_,hv=>simp[VRs]at hv
end Go.Abs
open Go Go.Abs Go.Proofs
set_option maxRecDepth 100000
namespace Go.Rd
set_option maxHeartbeats 8000000
open Tryz
instance:Inhabited Ae:=⟨p0⟩
theorem Ih(p q:Ae):Go.Proofs.ltOf Bo p q=decide (Bo p q<0):=rfl
theorem Gq(p q:Ae):(Bo p q = -1∧(p.site<q.site∨p.site=q.site∧(p.inc<q.inc∨p.inc=q.inc∧p.num<q.num)))∨(Bo p q=1∧(q.site<p.site∨p.site=q.site∧(q.inc<p.inc∨p.inc=q.inc∧q.num<p.num)))∨(Bo p q=0∧p=q):=by
 unfold Bo
 repeat' split
 all_goals first
  |(left;refine⟨rfl,?_⟩;omega)
  |(right;left;refine⟨rfl,?_⟩;omega)
  |(right;right;refine⟨rfl,?_⟩;cases p;cases q;simp at *;omega)
theorem C3(p q:Ae):Bo q p = - Bo p q:=by
 rcases Gq p q with ⟨h,h1⟩|⟨h,h1⟩|⟨h,h1⟩<;>rcases Gq q p with ⟨k,k1⟩|⟨k,k1⟩|⟨k,k1⟩<;>first|omega|(subst h1;omega)|(subst k1;omega)
theorem FX{p q:Ae}(h:Bo p q=0):p=q:=by
 rcases Gq p q with ⟨k,_⟩|⟨k,_⟩|⟨_,k⟩
 ·omega
 ·omega
 ·exact k
theorem DI(p:Ae):Bo p p=0:=by
 have:=C3 p p;omega
theorem Dt{p q r:Ae}(h1:Bo p q<0)(h2:Bo q r<0):Bo p r<0:=by
 rcases Gq p q with ⟨_,a⟩|⟨a,_⟩|⟨a,_⟩
 ·rcases Gq q r with ⟨_,b⟩|⟨b,_⟩|⟨b,_⟩
  ·rcases Gq p r with ⟨c,_⟩|⟨_,c⟩|⟨_,c⟩
   ·omega
   ·omega
   ·subst c;omega
  ·omega
  ·omega
 ·omega
 ·omega
theorem gR:Go.Sort.SWO (Go.Proofs.ltOf Bo) where
 irrefl p:=by rw[Ih,DI];rfl
 trans p q r h1 h2:=by rw[Ih]at *;simp only[decide_eq_true_eq]at *;exact Dt h1 h2
 ntrans p q r h1 h2:=by
  rw[Ih]at *;simp only[decide_eq_false_iff_not]at *;intro h
  by_cases e:Bo q p<0
  ·exact h2 (Dt e h)
  ·have:Bo p q=0:=by have:=C3 p q;omega
   rw[FX this]at h;exact h2 h
theorem gT(p q:Ae)(h1:Go.Proofs.ltOf Bo p q=false)(h2:Go.Proofs.ltOf Bo q p=false):p=q:=by
 rw[Ih]at *;simp only[decide_eq_false_iff_not]at *;refine FX ?_;have:=C3 p q;omega
def Ae.vs(p:Ae):List Value:=[.int .i64 p.site,.int .i64 p.inc,.int .i64 p.num]
def K9(ps:List Ae):List Ae:=ps.mergeSort fun x y=>!(Go.Proofs.ltOf Bo) y x
theorem Y9(ps:List Ae)(h:ps.length≤1000000):PD C0 197 3 (ps.map Ae.c) [.fn 61 []] ((K9 ps).map Ae.c):=by
 have:=PD.sort (C:=C0) rfl Tryz.fH 3 (by omega) (fun w=>Go.Abs.HI F.gA) (fun w=>Go.Abs.run_sizeOf F.gS) Ae.vs (fun _=>rfl) (fun x v hv=>by simp[Ae.vs]at hv;rcases hv with rfl|rfl|rfl<;>rfl) Bo gR gT 61
  (fun x y=>f61_ok x y) ⟨f197,f197.body.getD .skip,by kernel_rfl,by kernel_rfl,by kernel_rfl⟩ ps (by omega)
 exact this
def Dn:List Ae→List Ae
 |[]=>[]
 |[a]=>[a]
 | a::b::l=>if a=b then Dn (b::l) else a::Dn (b::l)
end Go.Rd
