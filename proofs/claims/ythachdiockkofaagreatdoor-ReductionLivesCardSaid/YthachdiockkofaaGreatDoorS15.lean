/- part 15 of the proof -/
import Derived.Test.YthachdiockkofaaGreatDoorS14
set_option linter.all false
open Go Go.Abs Go.Proofs
set_option maxRecDepth 100000
namespace Go.Rd
set_option maxHeartbeats 8000000
open List (any_append map_nil mem_append mem_cons mem_singleton take_add_one take_length)
open Bool (false_eq_true)
open Option (isSome_none isSome_some)
open Nat (lt_succ_self)
open Tryz
theorem f187_ok(n:Int):Ac C0 187 [I n] [] (I (KU n)) []:=by
 refine Ac.go f187 ?_;unfold f187;simp(disch:=omega)only[go_sem]
 repeat'(with_reducible refine And.intro (fun h=>?_) (fun h=>?_))
 all_goals(refine B0 _ ?_)
 all_goals(try simp(disch:=omega)only[go_sem])
 all_goals(first|(simp_all[KU];done)|exact wi (by simp_all[KU,IntKind.wrap,IntKind.signed,IntKind.bits]<;>omega))
theorem f166_ok(l:List Wait)(p:Proc)(hl:l.length≤1000000):Ac C0 166 [Bt l,.agg p.c] [] (.tup [Bt (AI l p),B (decide ((AI l p).length<l.length))]) []:=by
 refine Ac.go f166 ?_;unfold f166;refine gO ?_;have hd:∀ i,(AI (l.take i) p).length≤l.length:=fun i=>Nat.le_trans (Bo _ _) (by simp;omega)
 refine Aa (α:=Nat) (fun i=>⟨[(7,I i),(0,Bt l),(3,.ptr 192 0),(6,.sl (.own 1728 0) 7 ((AI (l.take i) p).map Wait.c))],[(192,p.c)]⟩) (fun i=>i≤(l).length∧True) (fun i=>(l).length-i) 0 ⟨by omega,trivial⟩ ?_ ?_
 ·exact Ca
 rintro i ⟨hi,hP⟩ J hJ;refine gO ?_;refine ⟨fun hlt=>?_,fun hge=>?_⟩;rotate_left;have hil:i=(l).length:=by simp at hge;omega
 rotate_left;obtain⟨b,hb⟩:∃ b,(l)[i]?=some b:=⟨_,gE (by simp at hlt;omega)⟩;have hbm:=mG hb;have hlt2:i<(l).length:=by simp at hlt;omega
 refine Aq 6 [([],[0]),([],[7]),([],[14,15]),([],[16]),([],[17]),([],[3])] fol ?_;simp(disch:=omega)only[go_sem,gm,hb]
 ·have hdi:=hd i
  by_cases hb':b.proc=p
  ·simp(disch:=omega)only[go_sem,hb',decide_false];refine hJ _ (i+1) ⟨by simp at hlt;omega,trivial⟩ (by simp at hlt;omega) (Imp.weak ?_ ?_)
   all_goals(try simp(disch:=omega)only[go_sem])
   all_goals(try(repeat'(with_reducible apply And.intro)))
   all_goals(first|exact .AA (by omega)|exact .Az (by omega)|exact .sl (by simp[AI,take_add_one,hb,hb'])|exact .int (by simp[AI,take_add_one,hb,hb'])|exact .eq (by simp[AI,take_add_one,hb,hb']))
  ·simp(disch:=omega)only[go_sem,hb',decide_true,gm,hb];refine hJ _ (i+1) ⟨by simp at hlt;omega,trivial⟩ (by simp at hlt;omega) (Imp.weak ?_ ?_)
   all_goals(try simp(disch:=omega)only[go_sem])
   all_goals(try(repeat'(with_reducible apply And.intro)))
   all_goals(first|exact .AA (by omega)|exact .Az (by omega)|exact .sl (by simp[AI,take_add_one,hb,hb',Wait.c])|exact .int (by simp[AI,take_add_one,hb,hb',Wait.c])|exact .eq (by simp[AI,take_add_one,hb,hb',Wait.c]))
 ·subst hil;have hdi:=hd l.length;rw[take_length]at hdi ⊢;have e:decide (((AI l p).length:Int)<l.length)=decide ((AI l p).length<l.length):=by simp
  refine A1 ⟨[],[],[1728]⟩ _ (by(try simp(disch:=omega)only[go_sem,Dm,K7])<;>rfl) ⟨rfl,rfl⟩ (by simp[lk]) ?_ trivial;simp(disch:=omega)only[go_sem,e]
def C8(l:List Hold)(p:Proc)(a:Amt):Bool:=a.zero||(As l p).any (after' p)
def IS(l:List Hold)(p:Proc)(a:Amt):List Hold:=if C8 l p a then BK l p a else As l p
theorem Q1{l:List Hold}{p:Proc}{b:Hold}(h:b.proc=p):As (l++[b]) p=As l p:=by simp[As,h]
theorem EA{l:List Hold}{p:Proc}{b:Hold}(h:b.proc≠p):As (l++[b]) p=As l p++[b]:=by simp[As,h]
theorem br{l:List Hold}{p:Proc}{a:Amt}{b:Hold}(h:b.proc=p):IS (l++[b]) p a=IS l p a∧C8 (l++[b]) p a=C8 l p a:=by
 simp[IS,C8,BK,Q1 h]
theorem Wl{k:List Hold}{p:Proc}(b:Hold)(h:k.any (after' p)=true):B8 (k++[b]) p=B8 k p:=by
 unfold B8;rw[List.findIdx?_append];cases hf:k.findIdx? (after' p) with
 |some i=>simp
 |none =>
  rw[List.findIdx?_eq_none_iff]at hf;obtain⟨x,hx,hy⟩:=List.any_eq_true.1 h;rw[hf x hx]at hy;simp at hy
theorem RF{k:List Hold}{p:Proc}(h:k.any (after' p)=false):k.findIdx? (after' p)=none:=by
 rw[List.findIdx?_eq_none_iff];intro x hx;rw[List.any_eq_false]at h;simpa using h x hx
theorem Yb{l:List Hold}{p:Proc}{a:Amt}{b:Hold}(h:b.proc≠p)(hd:C8 l p a=true):IS (l++[b]) p a=IS l p a++[b]∧C8 (l++[b]) p a=true:=by
 have h2:C8 (l++[b]) p a=true:=by
  unfold C8 at hd ⊢;rw[EA h,any_append];revert hd;cases a.zero<;>simp<;>(try intro x hx h;exact .inl ⟨x,hx,h⟩)
 refine⟨?_,h2⟩;unfold IS;rw[h2,hd];simp only[if_true];unfold BK;rw[EA h];cases hz:a.zero
 ·have ha:(As l p).any (after' p)=true:=by simpa [C8,hz]using hd
  simp only[false_eq_true,if_false];have:=Lw (As l p) p;rw[Wl b ha,List.take_append_of_le_length this,List.drop_append_of_le_length this];simp
 ·simp
theorem ZG{l:List Hold}{p:Proc}{a:Amt}{b:Hold}(h:b.proc≠p)(hd:C8 l p a=false)(hb:0<AT b.proc p):IS (l++[b]) p a=IS l p a++[⟨p,a⟩,b]∧C8 (l++[b]) p a=true:=by
 have ha:a.zero=false∧(As l p).any (after' p)=false:=by unfold C8 at hd;simpa using hd
 have hb':after' p b=true:=by simpa [after']using hb
 have h2:C8 (l++[b]) p a=true:=by
  unfold C8;rw[EA h,any_append];simp[hb']
 refine⟨?_,h2⟩;unfold IS;rw[h2,hd];simp only[if_true,false_eq_true,if_false];unfold BK;rw[EA h,ha.1];have e:B8 (As l p++[b]) p=(As l p).length:=by
  unfold B8;rw[List.findIdx?_append,RF ha.2];simp[hb']
 rw[e];simp
theorem bt{l:List Hold}{p:Proc}{a:Amt}{b:Hold}(h:b.proc≠p)(hd:C8 l p a=false)(hb:¬ 0<AT b.proc p):IS (l++[b]) p a=IS l p a++[b]∧C8 (l++[b]) p a=false:=by
 have ha:a.zero=false∧(As l p).any (after' p)=false:=by unfold C8 at hd;simpa using hd
 have hb':after' p b=false:=by simpa [after']using hb
 have h2:C8 (l++[b]) p a=false:=by
  unfold C8;rw[EA h,any_append];simp[hb',ha.1,ha.2]
 refine⟨?_,h2⟩;unfold IS;rw[h2,hd];simp only[false_eq_true,if_false];exact EA h
theorem ZE{l:List Hold}{p:Proc}{a:Amt}:BK l p a=if C8 l p a then IS l p a else IS l p a++[⟨p,a⟩]:=by
 unfold IS;cases hd:C8 l p a
 ·have ha:a.zero=false∧(As l p).any (after' p)=false:=by unfold C8 at hd;simpa using hd
  have e:B8 (As l p) p=(As l p).length:=by
   unfold B8;rw[RF ha.2];rfl
  simp[BK,ha.1,e]
 ·simp
theorem ZF(l:List Hold)(p:Proc)(a:Amt):(IS l p a).length≤l.length+1:=by
 have h1:(As l p).length≤l.length:=List.length_filter_le _ _;have:=IF l p a;unfold IS;split<;>omega
theorem UR(p:Proc)(a:Amt):IS [] p a=[]∧C8 [] p a=a.zero:=by
 have h:C8 [] p a=a.zero:=by simp[C8,As]
 refine⟨?_,h⟩;unfold IS;rw[h];cases hz:a.zero<;>simp[BK,As,hz]
theorem f165_ok(l:List Hold)(p:Proc)(a:Amt)(hl:l.length≤1000000):Ac C0 165 [AB l,.agg p.c,.agg a.c] [] (AB (BK l p a)) []:=by
 refine Ac.go f165 ?_;unfold f165;refine gO ?_;refine Ab (f162_ok a) ?_;refine gO ?_;have hd:∀ i,(IS (l.take i) p a).length≤l.length+1:=fun i=>by have:=ZF (l.take i) p a;simp at this;omega
 refine Aa (α:=Nat) (fun i=>⟨[(9,I i),(0,AB l),(4,.ptr 256 0),(5,.ptr 320 0),(8,B (C8 (l.take i) p a)),(7,.sl (.own 3136 0) 5 ((IS (l.take i) p a).map Hold.c))],[(256,p.c),(320,a.c)]⟩) (fun i=>i≤(l).length∧True) (fun i=>(l).length-i) 0 ⟨by omega,trivial⟩ ?_ ?_
 ·refine Imp.weak ?_ ?_
  all_goals(try simp(disch:=omega)only[go_sem,List.take_zero,(UR p a).1,(UR p a).2,map_nil])
  all_goals(try(repeat'(with_reducible apply And.intro)))
  all_goals(first|exact .AA (by omega)|exact .Az (by omega)|exact .sl (by simp[C8])|exact .int (by simp[C8])|exact .eq (by simp[C8]))
 rintro i ⟨hi,hP⟩ J hJ;refine gO ?_;refine ⟨fun hlt=>?_,fun hge=>?_⟩;rotate_left;have hil:i=(l).length:=by simp at hge;omega
 rotate_left;obtain⟨b,hb⟩:∃ b,(l)[i]?=some b:=⟨_,gE (by simp at hlt;omega)⟩;have hbm:=mG hb;have hlt2:i<(l).length:=by simp at hlt;omega
 refine Aq 6 [([],[0]),([],[9]),([],[18,19]),([],[20]),([],[21]),([],[4])] fol ?_;simp(disch:=omega)only[go_sem,gm,hb]
 ·have hdi:=hd i
  by_cases hb':b.proc=p
  ·obtain⟨e1,e2⟩:=br (l:=l.take i) (a:=a) hb';simp(disch:=omega)only[go_sem,hb',decide_true];refine hJ _ (i+1) ⟨by simp at hlt;omega,trivial⟩ (by simp at hlt;omega) (Imp.weak ?_ ?_)
   all_goals(try simp(disch:=omega)only[go_sem])
   all_goals(try(repeat'(with_reducible apply And.intro)))
   all_goals(first|exact .AA (by omega)|exact .Az (by omega)|exact .sl (by simp[take_add_one,hb,e1,e2])|exact .int (by simp[take_add_one,hb,e1,e2])|exact .eq (by simp[take_add_one,hb,e1,e2]))
  ·simp(disch:=omega)only[go_sem,hb',decide_false];refine Aq 9 [([],[8]),([],[25]),([],[26]),([],[0,27]),([],[9,27]),([],[28,29,27]),([],[30,27]),([],[31,27]),([],[4,27])] fol ?_;refine gO ?_;cases hdo:C8 (l.take i) p a
   ·simp(disch:=omega)only[go_sem,gm,hb]
    first|(refine Ab (f107_ok b.proc p) ?_)|(refine Al (f107_ok b.proc p) ?_)
    refine gO ?_
    by_cases hc:0<AT b.proc p
    ·obtain⟨e1,e2⟩:=ZG (a:=a) hb' hdo hc;simp(disch:=omega)only[go_sem,hc,decide_true,gm,hb];refine hJ _ (i+1) ⟨by simp at hlt;omega,trivial⟩ (by simp at hlt;omega) (Imp.weak ?_ ?_)
     all_goals(try simp(disch:=omega)only[go_sem])
     all_goals(try(repeat'(with_reducible apply And.intro)))
     all_goals(first|exact .AA (by omega)|exact .Az (by omega)|exact .sl (by simp[take_add_one,hb,e1,e2,Hold.c])|exact .int (by simp[take_add_one,hb,e1,e2,Hold.c])|exact .eq (by simp[take_add_one,hb,e1,e2,Hold.c]))
    ·obtain⟨e1,e2⟩:=bt (a:=a) hb' hdo hc;simp(disch:=omega)only[go_sem,hc,decide_false,gm,hb];refine hJ _ (i+1) ⟨by simp at hlt;omega,trivial⟩ (by simp at hlt;omega) (Imp.weak ?_ ?_)
     all_goals(try simp(disch:=omega)only[go_sem])
     all_goals(try(repeat'(with_reducible apply And.intro)))
     all_goals(first|exact .AA (by omega)|exact .Az (by omega)|exact .sl (by simp[take_add_one,hb,e1,e2,Hold.c])|exact .int (by simp[take_add_one,hb,e1,e2,Hold.c])|exact .eq (by simp[take_add_one,hb,e1,e2,Hold.c]))
   ·obtain⟨e1,e2⟩:=Yb (a:=a) hb' hdo;simp(disch:=omega)only[go_sem,gm,hb];refine hJ _ (i+1) ⟨by simp at hlt;omega,trivial⟩ (by simp at hlt;omega) (Imp.weak ?_ ?_)
    all_goals(try simp(disch:=omega)only[go_sem])
    all_goals(try(repeat'(with_reducible apply And.intro)))
    all_goals(first|exact .AA (by omega)|exact .Az (by omega)|exact .sl (by simp[take_add_one,hb,e1,e2,Hold.c])|exact .int (by simp[take_add_one,hb,e1,e2,Hold.c])|exact .eq (by simp[take_add_one,hb,e1,e2,Hold.c]))
 ·subst hil;have hdi:=hd l.length;have he:=ZE (l:=l) (p:=p) (a:=a);rw[take_length]at hdi ⊢;cases hdo:C8 l p a
  ·rw[hdo]at he;simp only[false_eq_true,if_false]at he;refine gO ?_;refine CT ⟨[],[],[3648]⟩ _ ?_;simp(disch:=omega)only[go_sem,he];exact .sl (by simp[Hold.c])
  ·rw[hdo]at he;simp only[if_true]at he;refine gO ?_;refine CT ⟨[],[],[3136]⟩ _ ?_;simp(disch:=omega)only[go_sem,he]
theorem f283_ok(q:Queue):Ac C0 283 [.agg q.c] [] (.tup [.agg ((AY q).getD w0).c,B (AY q).isSome]) []:=by
 refine Ac.go f283 ?_;unfold f283
 match hq:q.convs,hw:q.waits with
 | w::l,_ =>
  have e:AY q=some w:=by simp[AY,hq]
  have e1:(0<(l.length:Int)+1)=True:=by simp
  simp(disch:=omega)only[go_sem,hq,e,e1,isSome_some];exact AH _
 |[],w::l =>
  have e:AY q=some w:=by simp[AY,hq,hw]
  have e1:(0<(l.length:Int)+1)=True:=by simp
  simp(disch:=omega)only[go_sem,hq,hw,e,e1,isSome_some];exact AH _
 |[],[] =>
  have e:AY q=none:=by simp[AY,hq,hw]
  simp(disch:=omega)only[go_sem,hq,hw,e,isSome_none,w0];exact AH _
theorem f266_ok(r:Res)(l:List Hold)(p:Proc)(a:Amt)(hl:l.length≤1000000):Ac C0 266 [.agg r.c,AB l,.agg p.c,.agg a.c] [] (B (Es r l p a)) []:=by
 have h2:(BK l p a).length≤1000000∨l.length=1000000:=by have:=IF l p a;omega
 refine Ac.go f266 ?_;unfold f266;refine gO ?_;refine Aq 18 [([],[4]),([],[1]),([],[9,10]),([2],[11]),([2],[6,12]),([2],[13,12]),([2,5],[12,14]),([2,5],[15]),([2,5],[4,16]),([2,5],[7,16]),([2,5],[17,18,16]),([2,5,10],[16,19]),([2,5,10],[20]),([2,5,10],[4,21]),([2,5,10],[1,21]),([2,5,10],[6,21]),([2,5,10],[7,21]),([2,5,10],[23,24,25,21])] fol ?_;simp(disch:=omega)only[go_sem]
 first|(refine Ab (f265_ok r l hl) ?_)|(refine Al (f265_ok r l hl) ?_)
 cases h1:A4 r l
 ·simp(disch:=omega)only[go_sem];refine Ap _ ?_;exact wb (by simp[Es,h1])
 have h8:l.length≤8:=by simp[A4]at h1;omega
 have h9:(BK l p a).length≤1000000:=by omega
 simp(disch:=omega)only[go_sem]
 repeat'(first
  |(with_reducible refine And.intro (fun h=>?_) (fun h=>?_))
  |((with_reducible show AG _ _ 105 _ _ _);refine Af (f105_ok p) ?_ rfl ?_;(focus(simp(disch:=omega)only[go_sem];done));try simp(disch:=omega)only[go_sem])
  |((with_reducible show AF _ _ 105 _ _ _ _ _ _ _);refine Ao ⟨⟨[],[],[]⟩,[],[]⟩ (f105_ok p) ?_ rfl rfl trivial (.inl rfl) ?_;(focus(simp(disch:=omega)only[go_sem];done));try simp(disch:=omega)only[go_sem])
  |((with_reducible show AG _ _ 171 _ _ _);refine Af (f171_ok r a) ?_ rfl ?_;(focus(simp(disch:=omega)only[go_sem];done));try simp(disch:=omega)only[go_sem])
  |((with_reducible show AF _ _ 171 _ _ _ _ _ _ _);refine Ao ⟨⟨[],[],[]⟩,[],[]⟩ (f171_ok r a) ?_ rfl rfl trivial (.inl rfl) ?_;(focus(simp(disch:=omega)only[go_sem];done));try simp(disch:=omega)only[go_sem])
  |((with_reducible show AG _ _ 165 _ _ _);refine Af (f165_ok l p a hl) ?_ rfl ?_;(focus(simp(disch:=omega)only[go_sem];done));try simp(disch:=omega)only[go_sem])
  |((with_reducible show AF _ _ 165 _ _ _ _ _ _ _);refine Ao ⟨⟨[],[],[]⟩,[],[]⟩ (f165_ok l p a hl) ?_ rfl rfl trivial (.inl rfl) ?_;(focus(simp(disch:=omega)only[go_sem];done));try simp(disch:=omega)only[go_sem])
  |((with_reducible show AG _ _ 265 _ _ _);refine Af (f265_ok r (BK l p a) h9) ?_ rfl ?_;(focus(simp(disch:=omega)only[go_sem];done));try simp(disch:=omega)only[go_sem])
  |((with_reducible show AF _ _ 265 _ _ _ _ _ _ _);refine Ao ⟨⟨[],[],[]⟩,[],[]⟩ (f265_ok r (BK l p a) h9) ?_ rfl rfl trivial (.inl rfl) ?_;(focus(simp(disch:=omega)only[go_sem];done));try simp(disch:=omega)only[go_sem]))
 all_goals(refine B0 _ ?_)
 all_goals(try simp(disch:=omega)only[go_sem])
 all_goals(refine wb ?_)
 all_goals(simp_all[Es])
theorem f243_ok(q:Queue)(h1:q.holds.length≤1000000)(h2:q.waits.length≤1000000):Ac C0 243 [.agg q.c] [] (B (valid q)) []:=by
 refine Ac.go f243 ?_;unfold f243;refine gO ?_;refine Ab (f242_ok q h1 h2) ?_;cases hs:sound q
 ·simp(disch:=omega)only[go_sem];refine Ap _ ?_;exact wb (by simp[valid,hs])
 refine gO ?_;refine Ab (f283_ok q) ?_;cases hh:AY q with
 |none =>
  simp(disch:=omega)only[go_sem,isSome_none];refine Ap _ ?_;exact wb (by simp[valid,hs,hh])
 |some w =>
  simp(disch:=omega)only[go_sem,isSome_some];refine Ab (f266_ok q.res q.holds w.proc w.amt h1) ?_;refine gO ?_;refine Ap _ ?_;exact wb (by simp[valid,hs,hh])
theorem f158_ok(q:Queue)(h1:q.holds.length≤1000000)(h2:q.waits.length≤1000000):Ac C0 158 [.agg q.c] [] (B (valid q)) []:=by
 refine Ac.go f158 ?_;unfold f158;refine gO ?_;refine Ab (f242_ok q h1 h2) ?_;cases hs:sound q
 ·simp(disch:=omega)only[go_sem];refine Ap _ ?_;exact wb (by simp[valid,hs])
 refine gO ?_;refine Ab (f243_ok q h1 h2) ?_;refine gO ?_;exact AH _
theorem Sj{q:Queue}(h:Sound q):BA q≤16:=by
 have h':=(HN q).2 h;simp only[sound,DQ,DS,Bool.and_eq_true,decide_eq_true_eq]at h';unfold BA Bq;omega
def TC(q:Queue):Queue × List Hold:=if sound q then Bz q else (q0,[])
theorem f245_ok(q:Queue)(h1:q.holds.length≤1000000)(h2:q.convs.length≤1000000)(h3:q.waits.length≤1000000):Ac C0 245 [.agg q.c] [] (.tup [.agg (TC q).1.c,AB (TC q).2]) []:=by
 refine Ac.go f245 ?_;unfold f245;refine gO ?_;refine Ab (f242_ok q h1 h3) ?_;cases hs:sound q
 ·have e:TC q=(q0,[]):=by simp[TC,hs]
  simp(disch:=omega)only[go_sem,e,q0];refine Ap _ ?_;refine .tup (Ah.AE ?_);simp(disch:=omega)only[go_sem]
  repeat'(with_reducible apply And.intro)
  all_goals(first|exact .Az (by omega)|exact .agg (Ah.AE gI))
 have e:TC q=Bz q:=by simp[TC,hs]
 rw[e];refine gO ?_;refine Ab (f164_ok q h1 h2 h3) ?_;refine gO ?_;refine Aa (α:=Queue × List Hold) (fun x=>⟨[(1,.ptr 64 0),(2,.ptr 128 0),(4,.sl (.own 3072 0) 5 (x.2.map Hold.c))],[(64,x.1.c),(128,q0.c)]⟩) (fun x=>x.2.length+Bq x.1=Bq q∧Sound x.1∧(Bz x.1).1=(Bz q).1∧x.2++(Bz x.1).2=(Bz q).2) (fun x=>Bq x.1) (q,[]) ⟨by simp,(HN q).1 hs,rfl,rfl⟩ ?_ ?_
 ·refine Imp.weak ?_ ?_
  ·exact gI
  ·simp(disch:=omega)only[go_sem,q0]
 rintro⟨s,hs⟩ ⟨i1,i2,i3,i4⟩ J hJ
 replace i1:hs.length+Bq s=Bq q:=i1
 replace i2:Sound s:=i2
 replace i3:(Bz s).1=(Bz q).1:=i3
 replace i4:hs++(Bz s).2=(Bz q).2:=i4
 rw[HT s]at i3 i4;have hsl:=Sj i2;have hlen:s.holds.length≤1000000∧s.waits.length≤1000000∧s.convs.length≤1000000:=by unfold BA Bq at hsl;omega
 refine gO ?_;refine Ab (f243_ok s hlen.1 hlen.2.1) ?_;have hvd:valid s=(match AY s with|some w=>!Es s.res s.holds w.proc w.amt|none=>true):=by
  have:=(HN s).2 i2;unfold valid;cases AY s<;>simp[this]
 have fin:∀ (P:Prop),True:=fun _=>trivial
 cases hh:AY s with
 |none =>
  simp only[hh]at i3 i4 hvd;simp(disch:=omega)only[go_sem,hvd];refine A1 ⟨[],[],[3072]⟩ _ (by(try simp(disch:=omega)only[go_sem,Dm,K7])<;>rfl) ⟨rfl,rfl⟩ (by simp[lk]) ?_ trivial;simp(disch:=omega)only[go_sem,← i3,← i4,List.append_nil]
 |some w =>
  simp only[hh]at i3 i4 hvd;have hsz:=GB hh;cases hr:Es s.res s.holds w.proc w.amt
  ·simp only[hr,false_eq_true,if_false,Bool.not_false]at i3 i4 hvd;simp(disch:=omega)only[go_sem,hvd];refine A1 ⟨[],[],[3072]⟩ _ (by(try simp(disch:=omega)only[go_sem,Dm,K7])<;>rfl) ⟨rfl,rfl⟩ (by simp[lk]) ?_ trivial;simp(disch:=omega)only[go_sem,← i3,← i4,List.append_nil]
  simp only[hr,if_true,Bool.not_true]at i3 i4 hvd;have step:∀ st',Imp ⟨C0,[],[]⟩ st' ⟨[(1,.ptr 64 0),(2,.ptr 128 0),(4,.sl (.own 3072 0) 5 ((hs++[Hold.mk w.proc w.amt]).map Hold.c))],[(64,(Cp s w).c),(128,q0.c)]⟩→J st':=fun st' h =>
   hJ st' (Cp s w,hs++[Hold.mk w.proc w.amt]) ⟨by simp;omega,Jp i2 hh hr,i3,by rw[← i4];simp⟩ (by simp;omega) h
  have hbound:hs.length+1≤4294967296:=by unfold Bq at i1;omega
  simp(disch:=omega)only[go_sem,hvd];refine Ab (f283_ok s) ?_;cases hc:s.convs with
  | cons a l =>
   have hp:Cp s w = { s with holds:=BK s.holds w.proc w.amt,convs:=l }:=by unfold Cp;simp only[hc]
   rw[hp]at step;have z1:(0<(l.length:Int)+1)=True:=eq_true (by omega);have z2:(l.map Wait.c).take (l.length+1-1)=l.map Wait.c:=List.take_of_length_le (by simp);simp(disch:=omega)only[go_sem,hc,hh,z1,z2];refine Ab (f165_ok s.holds w.proc w.amt hlen.1) ?_;simp(disch:=omega)only[go_sem,hc,hh,z1,z2];refine step _ (Imp.weak ?_ ?_)
   ·simp(disch:=omega)only[go_sem];exact .sl (by simp[Hold.c])
   ·simp(disch:=omega)only[go_sem,z2]
  | nil =>
   have hp:Cp s w = { s with holds:=BK s.holds w.proc w.amt,waits:=s.waits.drop 1 }:=by unfold Cp;simp only[hc]
   rw[hp]at step;have hw:1≤s.waits.length:=by unfold Bq at hsz;rw[hc]at hsz;simp at hsz;omega
   have z2:((s.waits.map Wait.c).drop 1).take (s.waits.length-1)=(s.waits.drop 1).map Wait.c:=by rw[← List.map_drop];exact List.take_of_length_le (by simp)
   simp(disch:=omega)only[go_sem,hc,hh,z2];refine Ab (f165_ok s.holds w.proc w.amt hlen.1) ?_;simp(disch:=omega)only[go_sem,hc,hh,z2];refine step _ (Imp.weak ?_ ?_)
   ·simp(disch:=omega)only[go_sem];exact .sl (by simp[Hold.c])
   ·simp(disch:=omega)only[go_sem,hc,z2,map_nil]
theorem f167_ok(q:Queue)(hs:Sound q)(h1:q.holds.length≤1000000)(h2:q.convs.length≤1000000)(h3:q.waits.length≤1000000):Ac C0 167 [.agg q.c] [] (.tup [.agg (El q).c,AB (Bz q).2,I 0]) []:=by
 refine Ac.go f167 ?_;unfold f167;refine gO ?_;refine Ab (f245_ok q h1 h2 h3) ?_;have e:TC q=Bz q:=by simp[TC,(HN q).2 hs]
 have eg:(Bz q).1.gen=q.gen:=(Pd q).2;rw[e];refine gO ?_;refine Ab (f187_ok q.gen) ?_;refine gO ?_;refine Ap _ ?_;simp(disch:=omega)only[go_sem,El,eg]
theorem eU{q:Queue}(h:valid q=true)(p:Proc):LF q p=Br (A6 q) p:=by
 have hs:=((Bm q).1 h).1;have hz:∀ x∈q.holds,x.amt.zero=false:=fun x hx=>by
  have hs':=(HN q).2 hs;simp only[sound,Bool.and_eq_true]at hs';have:=(CJ q.res q.holds).1 (by simp_all);exact FN (this.2.2.1 x hx).2
 have e1:Br (A6 q) p=true↔inQ q p:=by rw[← DJ];simp[Br]
 have e2:LF q p=true↔inQ q p:=by
  unfold LF inQ Aj;rw[Bool.or_eq_true,Option.isSome_map,List.find?_isSome];constructor
  ·rintro(⟨w,hw,h2⟩|h2)
   ·have h3:w.proc=p:=by simpa using h2
    rcases mem_append.1 hw with h|h
    ·exact .inr (.inl ⟨w,h,h3⟩)
    ·exact .inr (.inr ⟨w,h,h3⟩)
   ·exact .inl (HG (by simpa using h2))
  ·rintro(⟨x,hx,h2⟩|⟨w,hw,h2⟩|⟨w,hw,h2⟩)
   ·right;unfold Ak;cases hf:q.holds.find? (fun h=>decide (h.proc=p)) with
    |none=>rw[List.find?_eq_none]at hf;exact absurd h2 (by simpa using hf x hx)
    |some y=>simp[hz y (List.mem_of_find?_eq_some hf)]
   ·exact .inl ⟨w,mem_append.2 (.inl hw),by simp[h2]⟩
   ·exact .inl ⟨w,mem_append.2 (.inr hw),by simp[h2]⟩
 exact Bool.eq_iff_iff.2 (e2.trans e1.symm)
theorem f110_ok(q:Queue)(p:Proc)(h:BA q≤100):Ac C0 110 [.agg q.c,.agg p.c] [] (.tup [.agg (E9 q p).1.c,AB (E9 q p).2.1,I (E9 q p).2.2]) []:=by
 obtain⟨h1,h2,h3⟩:=Bw h;refine Ac.go f110 ?_;unfold f110;refine gO ?_;refine Ab (f158_ok q h1 h3) ?_;cases hv:valid q
 ·have e:E9 q p=(q0,[],2):=by simp[E9,hv]
  simp(disch:=omega)only[go_sem,Bool.not_false,e,q0];refine Ap _ ?_;refine .tup (Ah.AE ?_);simp(disch:=omega)only[go_sem]
  repeat'(with_reducible apply And.intro)
  all_goals(first|exact .Az (by omega)|exact .agg (Ah.AE gI))
 refine gO ?_;refine Ab (f109_ok q p (by omega)) ?_;rw[eU hv p];cases hp:Br (A6 q) p
 ·have e:E9 q p=(q0,[],10):=by simp[E9,hv,hp]
  simp(disch:=omega)only[go_sem,Bool.not_false,e,q0];refine Ap _ ?_;refine .tup (Ah.AE ?_);simp(disch:=omega)only[go_sem]
  repeat'(with_reducible apply And.intro)
  all_goals(first|exact .Az (by omega)|exact .agg (Ah.AE gI))
 have e:E9 q p=(El (Ba q p),(Bz (Ba q p)).2,0):=by simp[E9,hv,hp]
 rw[e];refine gO ?_;refine Ab (f164_ok q h1 h2 h3) ?_;refine gO ?_;refine Ab (f165_ok q.holds p ⟨0,0⟩ h1) ?_;refine gO ?_;refine Ab (f166_ok q.convs p h2) ?_;refine gO ?_;refine Ab (f166_ok q.waits p h3) ?_;refine gO ?_;have ha:=WK q p;obtain⟨g1,g2,g3⟩:=Bw (q:=Ba q p) (by omega);refine Af (f167_ok (Ba q p) (HM ((Bm q).1 hv).1 p) g1 g2 g3) (by simp(disch:=omega)only[go_sem,Ba]) rfl ?_;refine gO ?_;exact AH _
mutual
def Dn:Expr→Int→Int × Int
 |.mk _ _ kids,lv=>if 4<lv∨24<kids.length then (25,0) else EV kids lv 1 0
def EV:List Expr→Int→Int→Int→Int × Int
 |[],_,n,m=>(n,m+1)
 | e::l,lv,n,m=>if 24<n+(Dn e (lv+1)).1 then (25,0) else EV l lv (n+(Dn e (lv+1)).1) (max m (Dn e (lv+1)).2)
end
theorem GJ(e:Expr)(lv:Int):Dn e lv=if 4<lv∨24<e.kids.length then (25,0) else EV e.kids lv 1 0:=by
 cases e;simp only[Dn];rfl
def sbd(lv:Int)(x:Int × Int):Prop:=1≤x.1∧x.1≤25∧0≤x.2∧x.2≤5-lv
theorem Vf(lv:Int)(h1:1≤lv)(h4:lv≤4):∀ (l:List Expr) (n m:Int),(∀ e∈l,sbd (lv+1) (Dn e (lv+1)))→1≤n→n≤24→0≤m→m≤4-lv→sbd lv (EV l lv n m)
 |[],n,m,_,hn,hn2,hd,hd2=>by simp only[EV,sbd];omega
 | e::l,n,m,hk,hn,hn2,hd,hd2=>by
  obtain⟨b1,b2,b3,b4⟩:=hk e (by simp);simp only[EV];split
  ·simp only[sbd];omega
  ·exact Vf lv h1 h4 l _ _ (fun e' he=>hk e' (by simp[he])) (by omega) (by omega) (by omega) (by omega)
theorem Jo:∀ (N:Nat) (e:Expr),SizeOf.sizeOf e<N→∀ lv:Int,1≤lv→lv≤5→sbd lv (Dn e lv)
 | 0,_,h,_,_,_=>by omega
 | N+1,e,h,lv,h1,h5=>by
  rw[GJ];split
  ·simp only[sbd];omega
  ·rename_i hc;exact Vf lv h1 (by omega) _ _ _ (fun e' he=>Jo N e' (by have:=DY he;omega) _ (by omega) (by omega)) (by omega) (by omega) (by omega) (by omega)
theorem f273_ok:∀ (N:Nat) (e:Expr),SizeOf.sizeOf e<N→∀ lv:Int,1≤lv→lv≤5 →
 Ac C0 273 [.agg e.c,I lv] [] (.tup [I (Dn e lv).1,I (Dn e lv).2]) []
 | 0,_,h,_,_,_=>by omega
 | N+1,e,h,lv,h1,h5=>by
  refine Ac.lens f273 fun hlen=>?_
  simp only[Fz,lens,Expr.FF,List.length_map,and_true,true_and]at hlen;refine Ac.go f273 ?_;unfold f273
  by_cases hc:4<lv∨24<e.kids.length
  ·have em:Dn e lv=(25,0):=by rw[GJ,if_pos hc]
   simp(disch:=omega)only[go_sem,em]
   repeat'(with_reducible refine And.intro (fun h=>?_) (fun h=>?_))
   all_goals(try(exfalso;simp_all;omega))
   all_goals(refine B0 _ ?_)
   all_goals simp(disch:=omega)only[go_sem]
  have em:Dn e lv=EV e.kids lv 1 0:=by rw[GJ,if_neg hc]
  have hc1:(4<lv)=False:=by simp;omega
  have hc2:(24<(e.kids.length:Int))=False:=by simp;omega
  simp(disch:=omega)only[go_sem,em,hc1,hc2,decide_false];refine Aa (α:=Nat × Int × Int) (fun q=>⟨[(8,I q.1),(1,I lv),(2,.ptr 128 0),(6,I q.2.1),(7,I q.2.2)],[(128,e.c)]⟩)
   (fun q=>q.1≤e.kids.length∧1≤q.2.1∧q.2.1≤24∧0≤q.2.2∧q.2.2≤4-lv∧EV (e.kids.drop q.1) lv q.2.1 q.2.2=EV e.kids lv 1 0) (fun q=>e.kids.length-q.1) (0,1,0) ⟨by simp,by simp,by simp,by simp,by simp;omega,by simp⟩ ?_ ?_
  ·refine Imp.weak ?_ ?_
   ·exact gI
   ·exact gI
  rintro⟨i,n,m⟩ ⟨hi,hm0,hm,hd0,hd,hr⟩ J hJ
  replace hi:i≤e.kids.length:=hi
  replace hm0:1≤n:=hm0
  replace hm:n≤24:=hm
  replace hd0:0≤m:=hd0
  replace hd:m≤4-lv:=hd
  replace hr:EV (e.kids.drop i) lv n m=EV e.kids lv 1 0:=hr
  refine gO ?_;refine ⟨fun hlt=>?_,fun hge=>?_⟩
  ·have hlt':i<e.kids.length:=by simp at hlt;omega
   have hb:e.kids[i]?=some e.kids[i]:=gE hlt';have hsz:=DY (List.getElem_mem hlt');have hdr:e.kids.drop i=e.kids[i]::e.kids.drop (i+1):=List.drop_eq_getElem_cons hlt';generalize e.kids[i]=b at hb hsz hdr;rw[hdr]at hr;simp only[EV]at hr;simp(disch:=omega)only[go_sem,gm,hb]
   first|(refine Ab (f273_ok N b (by omega) (lv+1) (by omega) (by omega)) ?_)|(refine Al (f273_ok N b (by omega) (lv+1) (by omega) (by omega)) ?_)
   obtain⟨b1,b2,b3,b4⟩:=Jo N b (by omega) (lv+1) (by omega) (by omega);generalize Dn b (lv+1)=x at hr b1 b2 b3 b4
   by_cases h24:24<n+x.1
   ·have d24:(24<n+x.1)=True:=eq_true h24;rw[if_pos h24]at hr;simp(disch:=omega)only[go_sem,d24]
    repeat'(with_reducible refine And.intro (fun h=>?_) (fun h=>?_))
    all_goals(refine B0 _ ?_)
    all_goals simp(disch:=omega)only[go_sem,← hr]
   ·have d24:(24<n+x.1)=False:=eq_false h24;rw[if_neg h24]at hr;simp(disch:=omega)only[go_sem,d24,decide_false]
    by_cases hmx:m<x.2
    ·have e1:max m x.2=x.2:=by omega
     have d1:(m<x.2)=True:=eq_true hmx;rw[e1]at hr;simp(disch:=omega)only[go_sem,d1];refine hJ _ (i+1,n+x.1,x.2) ⟨by simp;omega,by simp;omega,by simp;omega,by simp;omega,by simp;omega,hr⟩ (by simp;omega) (Imp.weak ?_ ?_)
     ·exact gI
     ·exact gI
    ·have e1:max m x.2=m:=by omega
     have d1:(m<x.2)=False:=eq_false hmx;rw[e1]at hr;simp(disch:=omega)only[go_sem,d1,decide_false];refine hJ _ (i+1,n+x.1,m) ⟨by simp;omega,by simp;omega,by simp;omega,by simp;omega,by simp;omega,hr⟩ (by simp;omega) (Imp.weak ?_ ?_)
     ·exact gI
     ·exact gI
  ·have hil:i=e.kids.length:=by simp at hge;omega
   subst hil;rw[List.drop_length]at hr;simp only[EV]at hr;simp(disch:=omega)only[go_sem,← hr];exact AH _
def Gc(e:Expr):Int:=if 24<(Dn e 1).1 then 0 else (Dn e 1).1
theorem f232_ok(e:Expr):Ac C0 232 [.agg e.c] [] (I (Gc e)) []:=by
 refine Ac.go f232 ?_;unfold f232;refine gO ?_;refine Ab (f273_ok _ e (lt_succ_self _) 1 (by omega) (by omega)) ?_
 by_cases h24:24<(Dn e 1).1
 ·have d24:(24<(Dn e 1).1)=True:=eq_true h24;have en:Gc e=0:=by simp[Gc,h24]
  simp(disch:=omega)only[go_sem,d24,en];exact AH _
 ·have d24:(24<(Dn e 1).1)=False:=eq_false h24;have en:Gc e=(Dn e 1).1:=by simp[Gc,h24]
  simp(disch:=omega)only[go_sem,d24,en,decide_false];exact AH _
mutual
def Gj:Expr→List Atom→List Atom × Bool
 |.mk k a kids,l=>if kids.length=0 then (if k=0∧JC a=true then (DU l a,true) else (l,false))
  else if k<1∨(kids.length:Int)<k∨a≠a0 then (l,false) else Hu kids l
def Hu:List Expr→List Atom→List Atom × Bool
 |[],l=>(l,true)
 | e::es,l=>if (Gj e l).2=true then Hu es (Gj e l).1 else (l,false)
end
theorem HS(e:Expr)(l:List Atom):Gj e l=if e.kids.length=0 then (if e.k=0∧JC e.atom=true then (DU l e.atom,true) else (l,false))
 else if e.k<1∨(e.kids.length:Int)<e.k∨e.atom≠a0 then (l,false) else Hu e.kids l:=by
 cases e;simp only[Gj];rfl
mutual
def cnt:Expr→Nat
 |.mk _ _ kids=>1+PK kids
def PK:List Expr→Nat
 |[]=>0
 | e::l=>cnt e+PK l
end
theorem SL(e:Expr):cnt e=1+PK e.kids:=by cases e;simp only[cnt];rfl
@[reducible] def Xj(x:List Atom × Bool):AV:=if x.2 then .tup [CG 1 x.1,B true] else .tup [.undef,B false]
theorem Xp(l:List Atom)(a:Atom):(DU l a).length≤l.length+1:=by unfold DU;split<;>simp
theorem Tz:∀ (es:List Expr) (l:List Atom),(∀ e∈es,∀ l,(Gj e l).1.length≤l.length+cnt e)→(Hu es l).1.length≤l.length+PK es
 |[],l,_=>by simp[Hu]
 | e::es,l,h=>by
  have h1:=h e (by simp) l;have h2:=Tz es (Gj e l).1 fun e' he=>h e' (by simp[he])
  simp only[Hu,PK];split
  ·omega
  ·simp only;omega
theorem Px:∀ (N:Nat) (e:Expr),SizeOf.sizeOf e<N→∀ l:List Atom,(Gj e l).1.length≤l.length+cnt e
 | 0,_,h,_=>by omega
 | N+1,e,h,l=>by
  rw[HS,SL];split
  ·split
   ·have:=Xp l e.atom;simp only;omega
   ·simp only;omega
  ·split
   ·simp only;omega
   ·have:=Tz e.kids l fun e' he l'=>Px N e' (by have:=DY he;omega) l'
    omega
theorem f233_ok:∀ (N:Nat) (e:Expr),SizeOf.sizeOf e<N→∀ l:List Atom,l.length+cnt e≤1000000 →
 Ac C0 233 [CG 0 l,.agg e.c] [] (Xj (Gj e l)) []
 | 0,_,h,_,_=>by omega
 | N+1,e,h,l,hl=>by
  refine Ac.lens f233 fun hlen=>?_
  simp only[Fz,lens,Expr.FF,List.length_map,and_true,true_and]at hlen;have hc0:=SL e;refine Ac.go f233 ?_;unfold f233
  by_cases hk:e.kids.length=0
  ·have e1:((e.kids.length:Int)==0)=true:=by simp[hk]
   by_cases hbad:e.k=0∧JC e.atom=true
   rotate_left
   ·have ep:Gj e l=(l,false):=by rw[HS,if_pos hk,if_neg hbad]
    have ev:Xj (Gj e l)=.tup [.undef,B false]:=by rw[ep];rfl
    rw[ev];simp(disch:=omega)only[go_sem,e1]
    repeat'(first
     |(with_reducible refine And.intro (fun h=>?_) (fun h=>?_))
     |((with_reducible show AG _ _ 247 _ _ _);refine Af (f247_ok e.atom.name) ?_ rfl ?_;(focus(simp(disch:=omega)only[go_sem];done));try simp(disch:=omega)only[go_sem])
     |((with_reducible show AF _ _ 247 _ _ _ _ _ _ _);refine Ao ⟨⟨[],[],[]⟩,[],[]⟩ (f247_ok e.atom.name) ?_ rfl rfl trivial (.inl rfl) ?_;(focus(simp(disch:=omega)only[go_sem];done));try simp(disch:=omega)only[go_sem])
     |((with_reducible show AG _ _ 274 _ _ _);refine Af (f274_ok e.atom.amt) ?_ rfl ?_;(focus(simp(disch:=omega)only[go_sem];done));try simp(disch:=omega)only[go_sem])
     |((with_reducible show AF _ _ 274 _ _ _ _ _ _ _);refine Ao ⟨⟨[],[],[]⟩,[],[]⟩ (f274_ok e.atom.amt) ?_ rfl rfl trivial (.inl rfl) ?_;(focus(simp(disch:=omega)only[go_sem];done));try simp(disch:=omega)only[go_sem]))
    all_goals(first
     |(refine CT ⟨[(0,1)],[],[]⟩ _ ?_;simp(disch:=omega)only[go_sem];exact .tup (Ah.AE gI))
     |(exfalso;refine hbad ?_;simp_all[JC];done))
   ·have ep:Gj e l=(DU l e.atom,true):=by rw[HS,if_pos hk,if_pos hbad]
    have ev:Xj (Gj e l)=.tup [CG 1 (DU l e.atom),B true]:=by rw[ep];rfl
    rw[ev];have ha:(Bp e.atom.name&&(G4.fits e.atom.amt||Ha.fits e.atom.amt))=true:=hbad.2;have ha1:Bp e.atom.name=true:=by simp at ha;exact ha.1
    have ha2:(G4.fits e.atom.amt||Ha.fits e.atom.amt)=true:=by simp at ha;simp[ha.2]
    have e2:(e.k==0)=true:=by simp[hbad.1]
    simp(disch:=omega)only[go_sem,e1,e2];refine And.intro (fun _=>?_) (fun h=>?_);rotate_left
    ·exfalso;simp_all
    refine Ab (f247_ok e.atom.name) ?_;simp(disch:=omega)only[go_sem,ha1];refine Ab (f274_ok e.atom.amt) ?_;simp(disch:=omega)only[go_sem,ha2];refine Aa (α:=Nat) (fun i=>⟨[(6,I i),(0,CG 0 l),(3,.ptr 192 0)],[(192,e.c)]⟩) (fun i=>i≤(l).length∧e.atom∉l.take i) (fun i=>(l).length-i) 0 ⟨by omega,(by simp)⟩ ?_ ?_
    ·exact Ca
    rintro i ⟨hi,hP⟩ J hJ;refine gO ?_;refine ⟨fun hlt=>?_,fun hge=>?_⟩;rotate_left;have hil:i=(l).length:=by simp at hge;omega
    rotate_left;obtain⟨b,hb⟩:∃ b,(l)[i]?=some b:=⟨_,gE (by simp at hlt;omega)⟩;have hbm:=mG hb;have hlt2:i<(l).length:=by simp at hlt;omega
    refine Aq 6 [([],[0]),([],[6]),([],[38,39]),([],[40]),([],[3]),([],[42])] fol ?_;simp(disch:=omega)only[go_sem,gm,hb]
    ·refine⟨fun h=>?_,fun h=>?_⟩
     ·have hbe:b=e.atom:=by simpa using h
      have e3:DU l e.atom=l:=by unfold DU;rw[if_pos (hbe▸hbm)]
      simp(disch:=omega)only[go_sem,e3];refine CT ⟨[(0,1)],[],[]⟩ _ ?_;simp(disch:=omega)only[go_sem]
     ·have hbe:b≠e.atom:=by simpa using h
      refine hJ _ (i+1) ⟨by simp at hlt;omega,(by rw[take_add_one,hb];simp only[Option.toList,mem_append,mem_singleton];intro hx;rcases hx with hx|hx;exact hP hx;exact hbe hx.symm)⟩ (by simp at hlt;omega) AK
    ·subst hil;rw[take_length]at hP;have e3:DU l e.atom=l++[e.atom]:=by unfold DU;rw[if_neg hP]
     have hb32:l.length+1≤4294967296:=by omega
     simp(disch:=omega)only[go_sem,e3];refine CT ⟨[(3200,1)],[],[]⟩ _ ?_;refine gO ?_;exact .tup (Ah.AE (by simp(disch:=omega)only[go_sem];exact .sl (by simp[Atom.c])))
  have e1:((e.kids.length:Int)==0)=false:=by simp only[beq_eq_false_iff_ne,ne_eq];omega
  have ez:(e.atom.name==[]&&(e.atom.amt.mode==0&&e.atom.amt.units==0))=decide (e.atom=a0):=SG e.atom
  by_cases hbad:e.k<1∨(e.kids.length:Int)<e.k∨e.atom≠a0
  ·have ep:Gj e l=(l,false):=by rw[HS,if_neg hk,if_pos hbad]
   have ev:Xj (Gj e l)=.tup [.undef,B false]:=by rw[ep];rfl
   rw[ev];simp(disch:=omega)only[go_sem,e1,ez]
   repeat'(with_reducible refine And.intro (fun h=>?_) (fun h=>?_))
   all_goals(try(exfalso;simp_all;omega))
   all_goals(refine CT ⟨[(0,1)],[],[]⟩ _ ?_)
   all_goals simp(disch:=omega)only[go_sem]
   all_goals exact .tup (Ah.AE gI)
  have ep:Gj e l=Hu e.kids l:=by rw[HS,if_neg hk,if_neg hbad]
  have b1:(e.k<1)=False:=by simp;omega
  have b2:((e.kids.length:Int)<e.k)=False:=by simp;omega
  have b3:e.atom=a0:=by
   by_cases h:e.atom=a0
   ·exact h
   ·exact absurd (Or.inr (Or.inr h)) hbad
  have ez':(e.atom.name==[]&&(e.atom.amt.mode==0&&e.atom.amt.units==0))=true:=by rw[ez];simp[b3]
  rw[ep];simp(disch:=omega)only[go_sem,e1,ez',b1,b2,decide_false];refine Aa (α:=Nat × List Atom) (fun q=>⟨[(7,I q.1),(0,CG 5376 q.2),(3,.ptr 192 0)],[(192,e.c)]⟩)
   (fun q=>q.1≤e.kids.length∧q.2.length+PK (e.kids.drop q.1)≤1000000∧Hu (e.kids.drop q.1) q.2=Hu e.kids l) (fun q=>e.kids.length-q.1) (0,l) ⟨by simp,by simp;omega,by simp⟩ ?_ ?_
  ·refine Imp.ren ⟨[(0,5376)],[(192,192)],[]⟩ ⟨rfl,rfl⟩ (by simp[lk]) ?_ ?_
   ·exact gI
   ·exact gI
  rintro⟨i,m⟩ ⟨hi,hm,hr⟩ J hJ
  replace hi:i≤e.kids.length:=hi
  replace hm:m.length+PK (e.kids.drop i)≤1000000:=hm
  replace hr:Hu (e.kids.drop i) m=Hu e.kids l:=hr
  refine gO ?_;refine ⟨fun hlt=>?_,fun hge=>?_⟩
  ·have hlt':i<e.kids.length:=by simp at hlt;omega
   have hb:e.kids[i]?=some e.kids[i]:=gE hlt';have hsz:=DY (List.getElem_mem hlt');have hdr:e.kids.drop i=e.kids[i]::e.kids.drop (i+1):=List.drop_eq_getElem_cons hlt';generalize e.kids[i]=b at hb hsz hdr;rw[hdr]at hr hm;simp only[Hu]at hr;simp only[PK]at hm;have hbl:=Px _ b (lt_succ_self _) m;have hcall:=f233_ok N b (by omega) m (by omega);simp(disch:=omega)only[go_sem,gm,hb];generalize Gj b m=x at hr hbl hcall;obtain⟨x1,x2⟩:=x;cases x2
   ·simp only[false_eq_true,if_false]at hr;have ev:Xj (Hu e.kids l)=.tup [.undef,B false]:=by rw[← hr];rfl
    rw[ev];refine Be ⟨⟨[(5376,0)],[],[]⟩,[(1,5377)],[]⟩ (show Ac C0 233 [CG 0 m,.agg b.c] [] (.tup [.undef,B false]) [] from hcall) gI rfl gI (.inl rfl) ?_;refine gO ?_;exact AH _
   ·simp only[if_true]at hr;refine Be ⟨⟨[(5376,0)],[],[]⟩,[(1,5377)],[]⟩ (show Ac C0 233 [CG 0 m,.agg b.c] [] (.tup [CG 1 x1,B true]) [] from hcall) gI rfl gI (.inl rfl) ?_;refine gO ?_;refine hJ _ (i+1,x1) ⟨by simp;omega,by simp at hbl ⊢;omega,hr⟩ (by simp;omega) (Imp.ren ⟨[(5377,5376)],[(192,192)],[]⟩ ⟨rfl,rfl⟩ (by simp[lk]) ?_ ?_)
    ·exact gI
    ·exact gI
  ·have hil:i=e.kids.length:=by simp at hge;omega
   subst hil;rw[List.drop_length]at hr;simp only[Hu]at hr;have ev:Xj (Hu e.kids l)=.tup [CG 1 m,B true]:=by rw[← hr];rfl
   rw[ev];refine CT ⟨[(5376,1)],[],[]⟩ _ ?_;simp(disch:=omega)only[go_sem]
theorem Vg{lv:Int}(h1:0≤lv)(h4:lv≤4):∀ (l:List Expr) (n m:Int),n≤24→n≤(EV l lv n m).1
 |[],n,m,_=>by simp[EV]
 | e::l,n,m,hn=>by
  have b:=Jo _ e (lt_succ_self _) (lv+1) (by omega) (by omega);simp only[EV];split
  ·simp only;omega
  ·have:=Vg h1 h4 l (n+(Dn e (lv+1)).1) (max m (Dn e (lv+1)).2) (by omega);have:=b.1;omega
def msC(e:Expr)(lv:Int):Prop:=∀ n:Int,0≤n→n≤24→((meas e lv n).1≠0→Dn e lv=((meas e lv n).2-n,(meas e lv n).1))∧((meas e lv n).1=0→24<n+(Dn e lv).1)
theorem Ql{lv:Int}(h1:1≤lv)(h4:lv≤4):∀ (l:List Expr) (n0 n m:Int),(∀ e∈l,msC e (lv+1))→1≤n→0≤n0→n0+n≤24→0≤m →
 ((ES l lv (n0+n) m).1≠0→EV l lv n m=((ES l lv (n0+n) m).2-n0,(ES l lv (n0+n) m).1))∧((ES l lv (n0+n) m).1=0→24<n0+(EV l lv n m).1)
 |[],n0,n,m,_,_,_,_,hm=>by
  simp only[ES,EV];exact⟨fun _=>by rw[show n0+n-n0=n by omega],fun h=>by omega⟩
 | e::l,n0,n,m,hk,a1,a2,a3,hm=>by
  obtain⟨k1,k2⟩:=hk e (by simp) (n0+n) (by omega) a3;have b:=M5 _ e (lt_succ_self _) (lv+1) (n0+n) (by omega) (by omega) (by omega) a3;simp only[ES,EV]
  by_cases hz:(meas e (lv+1) (n0+n)).1=0
  ·have h24:=k2 hz;rw[if_pos hz];refine⟨fun h=>absurd rfl h,fun _=>?_⟩;split
   ·simp only;omega
   ·have:=Vg (by omega) h4 l (n+(Dn e (lv+1)).1) (max m (Dn e (lv+1)).2) (by omega);omega
  ·have hs:=k1 hz;have hb:=b.2.2.2.2 hz;have hb0:=b.1;have hge:=S8 _ e (lt_succ_self _) (lv+1) (n0+n);rw[if_neg hz,hs];simp only;have e1:n+((meas e (lv+1) (n0+n)).2-(n0+n))=(meas e (lv+1) (n0+n)).2-n0:=by omega
   rw[e1,if_neg (by omega)];have ih:=Ql h1 h4 l n0 ((meas e (lv+1) (n0+n)).2-n0) (max m (meas e (lv+1) (n0+n)).1) (fun e' he=>hk e' (by simp[he])) (by omega) a2 (by omega) (by omega);have e2:n0+((meas e (lv+1) (n0+n)).2-n0)=(meas e (lv+1) (n0+n)).2:=by omega
   rw[e2]at ih;exact ih
theorem RZ:∀ (N:Nat) (e:Expr),SizeOf.sizeOf e<N→∀ lv:Int,1≤lv→lv≤5→msC e lv
 | 0,_,h,_,_,_=>by omega
 | N+1,e,h,lv,h1,h5=>by
  intro n hn0 hn;have sb:=Jo _ e (lt_succ_self _) lv h1 h5;rw[KP]
  by_cases hc:4<lv∨24<n+1
  ·rw[if_pos hc];refine⟨fun h=>absurd rfl h,fun _=>?_⟩
   by_cases h4:4<lv
   ·rw[GJ,if_pos (.inl h4)];simp only;omega
   ·have:=sb.1;omega
  ·rw[if_neg hc];have hL:=Ql h1 (by omega) e.kids n 1 0 (fun e' he=>RZ N e' (by have:=DY he;omega) _ (by omega) (by omega)) (by omega) hn0 (by omega) (by omega)
   by_cases h24:24<e.kids.length
   ·rw[GJ,if_pos (.inr h24)];refine⟨fun h=>?_,fun _=>by simp only;omega⟩;have:=UE e.kids (n+1) 0 h (by omega) (by omega) fun e' _ n' k1 k2 k3=>⟨S8 _ e' (lt_succ_self _) _ _,(M5 _ e' (lt_succ_self _) (lv+1) n' (by omega) (by omega) k1 k2).2.2.2.2 k3⟩
    omega
   ·rw[GJ,if_neg (by omega)];exact hL
theorem KV(e:Expr):Gc e=0↔depth e=0:=by
 have h:=RZ _ e (lt_succ_self _) 1 (by omega) (by omega) 0 (by omega) (by omega);have b:=M5 _ e (lt_succ_self _) 1 0 (by omega) (by omega) (by omega) (by omega);have sb:=(Jo _ e (lt_succ_self _) 1 (by omega) (by omega)).1;unfold Gc depth
 by_cases hz:(meas e 1 0).1=0
 ·have:=h.2 hz;rw[if_pos (by omega)];simp[hz]
 ·have h1:=h.1 hz;have h2:=b.2.2.2.2 hz;have h3:(Dn e 1).1=(meas e 1 0).2:=by rw[h1];simp
  rw[if_neg (by omega)];constructor
  ·intro h;omega
  ·intro h;exact absurd h hz
theorem Sg{lv:Int}:∀ (l:List Expr) (n m:Int),(∀ e∈l,(Dn e (lv+1)).1≤24→(cnt e:Int)=(Dn e (lv+1)).1)→1≤lv→lv≤4→0≤n→n≤24→(EV l lv n m).1≤24→n+(PK l:Int)=(EV l lv n m).1
 |[],n,m,_,_,_,_,_,_=>by simp[EV,PK]
 | e::l,n,m,hk,h1,h4,hn,hn2,h=>by
  have b:=Jo _ e (lt_succ_self _) (lv+1) (by omega) (by omega);simp only[EV,PK]at h ⊢;split at h
  ·simp at h
  ·rename_i hlt;rw[if_neg hlt];have b1:=b.1;have:=hk e (by simp) (by omega);have ih:=Sg l _ _ (fun e' he=>hk e' (by simp[he])) h1 h4 (by omega) (by omega) h;rw[← ih];omega
theorem Sf:∀ (N:Nat) (e:Expr),SizeOf.sizeOf e<N→∀ lv:Int,1≤lv→lv≤5→(Dn e lv).1≤24→(cnt e:Int)=(Dn e lv).1
 | 0,_,h,_,_,_,_=>by omega
 | N+1,e,h,lv,h1,h5,hs=>by
  rw[GJ]at hs ⊢;split at hs
  ·simp at hs
  ·rename_i hc;rw[if_neg hc,SL];have:=Sg e.kids 1 0 (fun e' he hs'=>Sf N e' (by have:=DY he;omega) _ (by omega) (by omega) hs') h1 (by omega) (by omega) (by omega) hs;rw[← this];omega
theorem X9{e:Expr}(h:Gc e≠0):cnt e≤24:=by
 unfold Gc at h
 by_cases h24:24<(Dn e 1).1
 ·simp[h24]at h
 ·have:=Sf _ e (lt_succ_self _) 1 (by omega) (by omega) (by omega);omega
def Ja(l:List Atom):Prop:=l.length≤8∧l.Pairwise fun a b=>a.name≠b.name
theorem Ug{l m:List Atom}(h:l <+: m)(hg:Ja m):Ja l:=⟨Nat.le_trans h.length_le hg.1,hg.2.sublist h.sublist⟩
theorem MA(l:List Atom)(a:Atom):l <+: DU l a:=by
 unfold DU;split
 ·exact List.prefix_refl l
 ·exact List.prefix_append l [a]
theorem Kn:∀ (es:List Expr) (l:List Atom),(∀ e∈es,∀ l,(Gj e l).2=true→l <+: (Gj e l).1)→(Hu es l).2=true→l <+: (Hu es l).1
 |[],l,_,_=>by simp[Hu]
 | e::es,l,hk,h=>by
  simp only[Hu]at h ⊢;split at h
  ·rename_i ht;rw[if_pos ht];exact List.IsPrefix.trans (hk e (by simp) l ht) (Kn es _ (fun e' he=>hk e' (by simp[he])) h)
  ·simp at h
theorem Ol:∀ (N:Nat) (e:Expr),SizeOf.sizeOf e<N→∀ l,(Gj e l).2=true→l <+: (Gj e l).1
 | 0,_,h,_,_=>by omega
 | N+1,e,h,l,ht=>by
  rw[HS]at ht ⊢;split at ht
  ·rename_i h0;rw[if_pos h0];split at ht
   ·rename_i h1;rw[if_pos h1];exact MA _ _
   ·simp at ht
  ·rename_i h0;rw[if_neg h0];split at ht
   ·simp at ht
   ·rename_i h1;rw[if_neg h1];exact Kn _ _ (fun e' he l'=>Ol N e' (by have:=DY he;omega) l') ht
def paC(e:Expr):Prop:=∀ l,Ja l→((prop e l).1=true→Gj e l=((prop e l).2,true)∧Ja (prop e l).2)∧((prop e l).1=false→(Gj e l).2=true→¬ Ja (Gj e l).1)
theorem R8:∀ (es:List Expr),(∀ e∈es,paC e)→∀ l,Ja l→((BW es l).1=true→Hu es l=((BW es l).2,true)∧Ja (BW es l).2)∧((BW es l).1=false→(Hu es l).2=true→¬ Ja (Hu es l).1)
 |[],_,l,hg=>by simp[BW,Hu,hg]
 | e::es,hk,l,hg=>by
  obtain⟨k1,k2⟩:=hk e (by simp) l hg;simp only[BW,Hu];cases hp:(prop e l).1
  ·simp only[false_eq_true,if_false,false_implies,true_and,true_implies];cases ha:(Gj e l).2
   ·simp
   ·intro ht hgo;simp only[if_true]at ht hgo;have h1:=k2 hp ha;exact h1 (Ug (Kn es _ (fun e' he l'=>Ol _ e' (lt_succ_self _) l') ht) hgo)
  ·obtain⟨h1,h2⟩:=k1 hp;rw[h1];simp only[if_true];exact R8 es (fun e' he=>hk e' (by simp[he])) _ h2
theorem bu{l:List Atom}(h:l.Pairwise fun a b=>a.name≠b.name){a b:Atom}(ha:a∈l)(hb:b∈l)(hn:a.name=b.name):a=b:=by
 induction l with
 | nil=>simp at ha
 | cons x l ih =>
  rw[List.pairwise_cons]at h;rcases mem_cons.1 ha with e1|ha
  ·rcases mem_cons.1 hb with e2|hb
   ·rw[e1,e2]
   ·exact absurd hn (e1▸h.1 b hb)
  ·rcases mem_cons.1 hb with e2|hb
   ·exact absurd hn.symm (e2▸h.1 a ha)
   ·exact ih h.2 ha hb
theorem Qy:∀ (N:Nat) (e:Expr),SizeOf.sizeOf e<N→paC e
 | 0,_,h=>by omega
 | N+1,e,h=>by
  intro l hg;rw[DD,HS]
  by_cases h0:e.kids.length=0
  ·rw[if_pos h0,if_pos h0]
   by_cases h1:e.k=0∧JC e.atom=true
   ·rw[if_pos h1,if_pos h1];simp only;unfold ET;cases hf:l.find? (hit e.atom) with
    |some b =>
     have hb:=List.mem_of_find?_eq_some hf;have hh:=List.find?_some hf
     by_cases hab:e.atom=b
     ·have:DU l e.atom=l:=by unfold DU;rw[if_pos (hab▸hb)]
      rw[this];simp[hab,hg]
     ·simp[hab];have hname:e.atom.name=b.name:=by
       unfold hit at hh;simpa [hab]using hh
      intro hgo;have hb':b∈DU l e.atom:=(MA l e.atom).subset hb;have ha':e.atom∈DU l e.atom:=by unfold DU;split<;>simp_all
      exact hab (bu hgo.2 ha' hb' hname)
    |none =>
     have hno:∀ x∈l,e.atom≠x∧e.atom.name≠x.name:=by
      intro x hx;rw[List.find?_eq_none]at hf;have:=hf x hx;unfold hit at this;simpa using this
     have hm:e.atom∉l:=fun hx=>(hno _ hx).1 rfl
     have hE:DU l e.atom=l++[e.atom]:=by unfold DU;rw[if_neg hm]
     rw[hE]
     by_cases h8:l.length=8
     ·simp[h8];intro hgo;have:=hgo.1;simp at this;omega
     ·simp[h8];refine⟨by have:=hg.1;simp;omega,?_⟩;rw[List.pairwise_append];refine⟨hg.2,by simp,fun a ha b hb=>?_⟩;rw[mem_singleton.1 hb];exact fun hx=>(hno a ha).2 hx.symm
   ·rw[if_neg h1,if_neg h1];simp
  ·rw[if_neg h0,if_neg h0]
   by_cases h1:e.k<1∨(e.kids.length:Int)<e.k∨e.atom≠a0
   ·rw[if_pos h1,if_pos h1];simp
   ·rw[if_neg h1,if_neg h1];exact R8 e.kids (fun e' he=>Qy N e' (by have:=DY he;omega)) l hg
theorem dd{e:Expr}(h:A5 e=true):Gc e≠0∧Gj e []=(Ad e,true)∧Ja (Ad e):=by
 have hp:=E1 h;have hk:=(Qy _ e (lt_succ_self _) [] ⟨by simp,by simp⟩).1 hp;have hc:=Ig _ e (lt_succ_self _) [] hp;have ha:Ad e=(prop e []).2:=by unfold Ad;rw[if_pos h,hc]
 rw[ha];refine⟨?_,hk⟩;rw[Ne,KV];simp[A5]at h;exact h.1
theorem bz{e:Expr}(h:A5 e=false)(hn:Gc e≠0)(ha:(Gj e []).2=true):¬ Ja (Gj e []).1:=by
 have hk:=(Qy _ e (lt_succ_self _) [] ⟨by simp,by simp⟩).2;rw[Ne,KV]at hn;refine hk ?_ ha;simp[A5,hn]at h;exact h
theorem f150_ok(e:Expr):Ac C0 150 [.agg e.c] [] (.tup [Bn (Ad e),B (A5 e)]) []:=by
 refine Ac.go f150 ?_;unfold f150;refine gO ?_;refine Ab (f232_ok e) ?_;have bad:A5 e=false→Ad e=[]:=fun h=>by simp[Ad,h]
 by_cases hn:Gc e=0
 ·have e0:(Gc e==0)=true:=by simp[hn]
  have hx:A5 e=false:=by simp[A5,(KV e).1 hn]
  simp(disch:=omega)only[go_sem,e0,hx,bad hx];exact Fb _
 have e0:(Gc e==0)=false:=by simp[hn]
 have hc:=X9 hn;have hl:=Px _ e (lt_succ_self _) [];have hcall:=f233_ok _ e (lt_succ_self _) [] (by simp;omega);have hok:=@dd e;have hbad:=@bz e;simp(disch:=omega)only[go_sem,e0];generalize Gj e []=x at hl hcall hok hbad;obtain⟨m,ok⟩:=x;cases ok
 ·have hx:A5 e=false:=by
   cases h:A5 e
   ·rfl
   ·have:=(hok h).2.1;simp at this
  refine Be ⟨⟨[],[],[]⟩,[(1,832)],[]⟩ (show Ac C0 233 [CG 0 [],.agg e.c] [] (.tup [.undef,B false]) [] from hcall) (by simp(disch:=omega)only[go_sem,map_nil];exact .AA (by omega)) rfl gI (.inl rfl) ?_;simp(disch:=omega)only[go_sem,hx,bad hx];exact Fb _
 simp only[List.length_nil]at hl;refine Be ⟨⟨[],[],[]⟩,[(1,832)],[]⟩ (show Ac C0 233 [CG 0 [],.agg e.c] [] (.tup [CG 1 m,B true]) [] from hcall) (by simp(disch:=omega)only[go_sem,map_nil];exact .AA (by omega)) rfl gI (.inl rfl) ?_;have hb2:A5 e=false→¬ Ja m:=fun h=>hbad h hn rfl
 have hng:¬ Ja m→A5 e=false:=fun h=>by
  cases hx:A5 e
  ·rfl
  ·have h2:=hok hx;have:m=Ad e:=by have:=h2.2.1;simp at this;exact this
   exact absurd (this▸h2.2.2) h
 by_cases h8:8<m.length
 ·have d8:(8<(m.length:Int))=True:=by simp;omega
  have hx:A5 e=false:=hng fun h=>by have:=h.1;omega
  simp(disch:=omega)only[go_sem,d8,hx,bad hx];exact Fb _
 have d8:(8<(m.length:Int))=False:=by simp;omega
 simp(disch:=omega)only[go_sem,d8,decide_false];refine Aa (α:=Nat) (fun i=>⟨[(6,I i),(4,CG 832 m)],[]⟩) (fun i=>i≤m.length∧(m.take i).Pairwise fun a b=>a.name≠b.name) (fun i=>m.length-i) 0 ⟨by omega,by simp⟩ ?_ ?_
 ·refine Imp.weak ?_ ?_
  ·exact gI
  ·exact gI
 rintro i ⟨hi,hP⟩ J hJ;refine gO ?_;refine ⟨fun hlt=>?_,fun hge=>?_⟩;rotate_left
 ·have hil:i=m.length:=by simp at hge;omega
  subst hil;rw[take_length]at hP;have hg:Ja m:=⟨by omega,hP⟩;have hx:A5 e=true:=by
   cases h:A5 e
   ·exact absurd hg (hb2 h)
   ·rfl
  have hm:m=Ad e:=by have:=(hok hx).2.1;simp at this;exact this
  simp(disch:=omega)only[go_sem,hx,← hm];refine CT ⟨[],[],[832]⟩ _ ?_;simp(disch:=omega)only[go_sem,hm]
 obtain⟨b,hb⟩:∃ b,m[i]?=some b:=⟨_,gE (by simp at hlt;omega)⟩;have hlt2:i<m.length:=by simp at hlt;omega
 refine Aa (α:=Nat) (fun j=>⟨[(7,I j),(6,I i),(4,CG 832 m)],[]⟩) (fun j=>j≤i∧∀ x∈m.take j,x.name≠b.name) (fun j=>i-j) 0 ⟨by omega,by simp⟩ ?_ ?_
 ·refine Imp.weak ?_ ?_
  ·exact gI
  ·exact gI
 rintro j ⟨hj,hQ⟩ K hK;refine gO ?_;refine And.intro (fun hlt'=>?_) (fun hge'=>?_);rotate_left
 ·have hji:j=i:=by simp at hge';omega
  subst hji;refine hJ _ (j+1) ⟨by omega,?_⟩ (by omega) (Imp.weak ?_ ?_)
  ·rw[take_add_one,hb,List.pairwise_append];exact⟨hP,by simp,fun a ha c hc=>by simp at hc;rw[hc];exact hQ a ha⟩
  ·exact gI
  ·exact gI
 ·have hjl:j<i:=by simp at hlt';omega
  obtain⟨c,hc'⟩:∃ c,m[j]?=some c:=⟨_,gE (by omega)⟩;refine Aq 10 [([],[4]),([],[6]),([],[34,35]),([],[36]),([],[37]),([],[4]),([],[7]),([],[39,40]),([],[41]),([],[42])] fol ?_;simp(disch:=omega)only[go_sem,gm,hb,hc']
  by_cases hne:b.name=c.name
  ·have e9:(b.name==c.name)=true:=by simp[hne]
   have hx:A5 e=false:=hng fun h=>by
    have:=List.pairwise_iff_getElem.1 h.2 j i (by omega) hlt2 hjl;rw[gE (by omega)]at hb hc';simp at hb hc';rw[hb,hc']at this;exact this hne.symm
   simp(disch:=omega)only[go_sem,e9,hx,bad hx];exact Fb _
  ·have e9:(b.name==c.name)=false:=by simp[hne]
   simp(disch:=omega)only[go_sem,e9];refine hK _ (j+1) ⟨by omega,?_⟩ (by omega) AK;intro x hx;rw[take_add_one,hc']at hx;simp only[Option.toList,mem_append,mem_singleton]at hx;rcases hx with hx|hx
   ·exact hQ x hx
   ·rw[hx];exact fun h=>hne h.symm
theorem f106_ok(e:Expr):Ac C0 106 [.agg e.c] [] (B (A5 e)) []:=by
 refine Ac.go f106 ?_;unfold f106;refine gO ?_;refine Ab (f150_ok e) ?_;refine gO ?_;exact AH _
theorem f93_ok(e:Expr):Ac C0 93 [.agg e.c] [] (Bn (Ad e)) []:=by
 refine Ac.go f93 ?_;unfold f93;refine gO ?_;refine Ab (f150_ok e) ?_;refine gO ?_;exact AH _
end Go.Rd
