/- part 15 of the proof -/
import Derived.Test.YthachdiockkofaaGreatDoorW14
set_option linter.all false
open Go Go.Abs Go.Proofs
set_option maxRecDepth 100000
namespace Go.Rd
set_option maxHeartbeats 8000000
open List (any_append map_nil mem_append mem_cons mem_singleton take_add_one take_length)
open Bool (false_eq_true)
open Option (isSome_none isSome_some)
open Nat (lt_succ_self)
open Tryz
theorem f187_ok(n:Int):Ad C0 187 [I n] [] (I (KU n)) []:=by
 refine Ad.go f187 ?_;unfold f187;simp(disch:=omega)only[go_sem]
 repeat'(with_reducible refine And.intro (fun h=>?_) (fun h=>?_))
 all_goals(refine B8 _ ?_)
 all_goals(try simp(disch:=omega)only[go_sem])
 all_goals(first|(simp_all[KU];done)|exact wi (by simp_all[KU,IntKind.wrap,IntKind.signed,IntKind.bits]<;>omega))
theorem f166_ok(l:List AS)(p:Ae)(hl:l.length≤1000000):Ad C0 166 [A7 l,.agg p.c] [] (.tup [A7 (Bu l p),B (decide ((Bu l p).length<l.length))]) []:=by
 refine Ad.go f166 ?_;unfold f166;refine gO ?_;have hd:∀ i,(Bu (l.take i) p).length≤l.length:=fun i=>Nat.le_trans (BN _ _) (by simp;omega)
 refine Ab (α:=Nat) (fun i=>⟨[(7,I i),(0,A7 l),(3,.ptr 192 0),(6,.sl (.own 1728 0) 7 ((Bu (l.take i) p).map AS.c))],[(192,p.c)]⟩) (fun i=>i≤(l).length∧True) (fun i=>(l).length-i) 0 ⟨by omega,trivial⟩ ?_ ?_
 ·exact BB
 rintro i ⟨hi,hP⟩ J hJ;refine gO ?_;refine ⟨fun hlt=>?_,fun hge=>?_⟩;rotate_left;have hil:i=(l).length:=by simp at hge;omega
 rotate_left;obtain⟨b,hb⟩:∃ b,(l)[i]?=some b:=⟨_,gE (by simp at hlt;omega)⟩;have hbm:=mG hb;have hlt2:i<(l).length:=by simp at hlt;omega
 refine Aq 6 [([],[0]),([],[7]),([],[14,15]),([],[16]),([],[17]),([],[3])] fol ?_;simp(disch:=omega)only[go_sem,gm,hb]
 ·have hdi:=hd i
  by_cases hb':b.proc=p
  ·simp(disch:=omega)only[go_sem,hb',decide_false];refine hJ _ (i+1) ⟨by simp at hlt;omega,trivial⟩ (by simp at hlt;omega) (Imp.Am ?_ ?_)
   all_goals(try simp(disch:=omega)only[go_sem])
   all_goals(try(repeat'(with_reducible apply And.intro)))
   all_goals(first|exact .AG (by omega)|exact .Az (by omega)|exact .sl (by simp[Bu,take_add_one,hb,hb'])|exact .int (by simp[Bu,take_add_one,hb,hb'])|exact .eq (by simp[Bu,take_add_one,hb,hb']))
  ·simp(disch:=omega)only[go_sem,hb',decide_true,gm,hb];refine hJ _ (i+1) ⟨by simp at hlt;omega,trivial⟩ (by simp at hlt;omega) (Imp.Am ?_ ?_)
   all_goals(try simp(disch:=omega)only[go_sem])
   all_goals(try(repeat'(with_reducible apply And.intro)))
   all_goals(first|exact .AG (by omega)|exact .Az (by omega)|exact .sl (by simp[Bu,take_add_one,hb,hb',AS.c])|exact .int (by simp[Bu,take_add_one,hb,hb',AS.c])|exact .eq (by simp[Bu,take_add_one,hb,hb',AS.c]))
 ·subst hil;have hdi:=hd l.length;rw[take_length]at hdi ⊢;have e:decide (((Bu l p).length:Int)<l.length)=decide ((Bu l p).length<l.length):=by simp
  refine Bc ⟨[],[],[1728]⟩ _ (by(try simp(disch:=omega)only[go_sem,C6,IJ])<;>rfl) ⟨rfl,rfl⟩ (by simp[lk]) ?_ trivial;simp(disch:=omega)only[go_sem,e]
def Du(l:List AO)(p:Ae)(a:Amt):Bool:=a.zero||(AK l p).any (after' p)
def II(l:List AO)(p:Ae)(a:Amt):List AO:=if Du l p a then BX l p a else AK l p
theorem Rf{l:List AO}{p:Ae}{b:AO}(h:b.proc=p):AK (l++[b]) p=AK l p:=by simp[AK,h]
theorem ED{l:List AO}{p:Ae}{b:AO}(h:b.proc≠p):AK (l++[b]) p=AK l p++[b]:=by simp[AK,h]
theorem bB{l:List AO}{p:Ae}{a:Amt}{b:AO}(h:b.proc=p):II (l++[b]) p a=II l p a∧Du (l++[b]) p a=Du l p a:=by
 simp[II,Du,BX,Rf h]
theorem Wm{k:List AO}{p:Ae}(b:AO)(h:k.any (after' p)=true):Cl (k++[b]) p=Cl k p:=by
 unfold Cl;rw[List.findIdx?_append];cases hf:k.findIdx? (after' p) with
 |some i=>simp
 |none =>
  rw[List.findIdx?_eq_none_iff]at hf;obtain⟨x,hx,hy⟩:=List.any_eq_true.1 h;rw[hf x hx]at hy;simp at hy
theorem RT{k:List AO}{p:Ae}(h:k.any (after' p)=false):k.findIdx? (after' p)=none:=by
 rw[List.findIdx?_eq_none_iff];intro x hx;rw[List.any_eq_false]at h;simpa using h x hx
theorem Yh{l:List AO}{p:Ae}{a:Amt}{b:AO}(h:b.proc≠p)(hd:Du l p a=true):II (l++[b]) p a=II l p a++[b]∧Du (l++[b]) p a=true:=by
 have h2:Du (l++[b]) p a=true:=by
  unfold Du at hd ⊢;rw[ED h,any_append];revert hd;cases a.zero<;>simp<;>(try intro x hx h;exact .inl ⟨x,hx,h⟩)
 refine⟨?_,h2⟩;unfold II;rw[h2,hd];simp only[if_true];unfold BX;rw[ED h];cases hz:a.zero
 ·have ha:(AK l p).any (after' p)=true:=by simpa [Du,hz]using hd
  simp only[false_eq_true,if_false];have:=LA (AK l p) p;rw[Wm b ha,List.take_append_of_le_length this,List.drop_append_of_le_length this];simp
 ·simp
theorem ZT{l:List AO}{p:Ae}{a:Amt}{b:AO}(h:b.proc≠p)(hd:Du l p a=false)(hb:0<Bo b.proc p):II (l++[b]) p a=II l p a++[⟨p,a⟩,b]∧Du (l++[b]) p a=true:=by
 have ha:a.zero=false∧(AK l p).any (after' p)=false:=by unfold Du at hd;simpa using hd
 have hb':after' p b=true:=by simpa [after']using hb
 have h2:Du (l++[b]) p a=true:=by
  unfold Du;rw[ED h,any_append];simp[hb']
 refine⟨?_,h2⟩;unfold II;rw[h2,hd];simp only[if_true,false_eq_true,if_false];unfold BX;rw[ED h,ha.1];have e:Cl (AK l p++[b]) p=(AK l p).length:=by
  unfold Cl;rw[List.findIdx?_append,RT ha.2];simp[hb']
 rw[e];simp
theorem bC{l:List AO}{p:Ae}{a:Amt}{b:AO}(h:b.proc≠p)(hd:Du l p a=false)(hb:¬ 0<Bo b.proc p):II (l++[b]) p a=II l p a++[b]∧Du (l++[b]) p a=false:=by
 have ha:a.zero=false∧(AK l p).any (after' p)=false:=by unfold Du at hd;simpa using hd
 have hb':after' p b=false:=by simpa [after']using hb
 have h2:Du (l++[b]) p a=false:=by
  unfold Du;rw[ED h,any_append];simp[hb',ha.1,ha.2]
 refine⟨?_,h2⟩;unfold II;rw[h2,hd];simp only[false_eq_true,if_false];exact ED h
theorem ZR{l:List AO}{p:Ae}{a:Amt}:BX l p a=if Du l p a then II l p a else II l p a++[⟨p,a⟩]:=by
 unfold II;cases hd:Du l p a
 ·have ha:a.zero=false∧(AK l p).any (after' p)=false:=by unfold Du at hd;simpa using hd
  have e:Cl (AK l p) p=(AK l p).length:=by
   unfold Cl;rw[RT ha.2];rfl
  simp[BX,ha.1,e]
 ·simp
theorem ZS(l:List AO)(p:Ae)(a:Amt):(II l p a).length≤l.length+1:=by
 have h1:(AK l p).length≤l.length:=List.length_filter_le _ _;have:=Ix l p a;unfold II;split<;>omega
theorem UX(p:Ae)(a:Amt):II [] p a=[]∧Du [] p a=a.zero:=by
 have h:Du [] p a=a.zero:=by simp[Du,AK]
 refine⟨?_,h⟩;unfold II;rw[h];cases hz:a.zero<;>simp[BX,AK,hz]
theorem f165_ok(l:List AO)(p:Ae)(a:Amt)(hl:l.length≤1000000):Ad C0 165 [AH l,.agg p.c,.agg a.c] [] (AH (BX l p a)) []:=by
 refine Ad.go f165 ?_;unfold f165;refine gO ?_;refine Ac (f162_ok a) ?_;refine gO ?_;have hd:∀ i,(II (l.take i) p a).length≤l.length+1:=fun i=>by have:=ZS (l.take i) p a;simp at this;omega
 refine Ab (α:=Nat) (fun i=>⟨[(9,I i),(0,AH l),(4,.ptr 256 0),(5,.ptr 320 0),(8,B (Du (l.take i) p a)),(7,.sl (.own 3136 0) 5 ((II (l.take i) p a).map AO.c))],[(256,p.c),(320,a.c)]⟩) (fun i=>i≤(l).length∧True) (fun i=>(l).length-i) 0 ⟨by omega,trivial⟩ ?_ ?_
 ·refine Imp.Am ?_ ?_
  all_goals(try simp(disch:=omega)only[go_sem,List.take_zero,(UX p a).1,(UX p a).2,map_nil])
  all_goals(try(repeat'(with_reducible apply And.intro)))
  all_goals(first|exact .AG (by omega)|exact .Az (by omega)|exact .sl (by simp[Du])|exact .int (by simp[Du])|exact .eq (by simp[Du]))
 rintro i ⟨hi,hP⟩ J hJ;refine gO ?_;refine ⟨fun hlt=>?_,fun hge=>?_⟩;rotate_left;have hil:i=(l).length:=by simp at hge;omega
 rotate_left;obtain⟨b,hb⟩:∃ b,(l)[i]?=some b:=⟨_,gE (by simp at hlt;omega)⟩;have hbm:=mG hb;have hlt2:i<(l).length:=by simp at hlt;omega
 refine Aq 6 [([],[0]),([],[9]),([],[18,19]),([],[20]),([],[21]),([],[4])] fol ?_;simp(disch:=omega)only[go_sem,gm,hb]
 ·have hdi:=hd i
  by_cases hb':b.proc=p
  ·obtain⟨e1,e2⟩:=bB (l:=l.take i) (a:=a) hb';simp(disch:=omega)only[go_sem,hb',decide_true];refine hJ _ (i+1) ⟨by simp at hlt;omega,trivial⟩ (by simp at hlt;omega) (Imp.Am ?_ ?_)
   all_goals(try simp(disch:=omega)only[go_sem])
   all_goals(try(repeat'(with_reducible apply And.intro)))
   all_goals(first|exact .AG (by omega)|exact .Az (by omega)|exact .sl (by simp[take_add_one,hb,e1,e2])|exact .int (by simp[take_add_one,hb,e1,e2])|exact .eq (by simp[take_add_one,hb,e1,e2]))
  ·simp(disch:=omega)only[go_sem,hb',decide_false];refine Aq 9 [([],[8]),([],[25]),([],[26]),([],[0,27]),([],[9,27]),([],[28,29,27]),([],[30,27]),([],[31,27]),([],[4,27])] fol ?_;refine gO ?_;cases hdo:Du (l.take i) p a
   ·simp(disch:=omega)only[go_sem,gm,hb]
    first|(refine Ac (f107_ok b.proc p) ?_)|(refine Ar (f107_ok b.proc p) ?_)
    refine gO ?_
    by_cases hc:0<Bo b.proc p
    ·obtain⟨e1,e2⟩:=ZT (a:=a) hb' hdo hc;simp(disch:=omega)only[go_sem,hc,decide_true,gm,hb];refine hJ _ (i+1) ⟨by simp at hlt;omega,trivial⟩ (by simp at hlt;omega) (Imp.Am ?_ ?_)
     all_goals(try simp(disch:=omega)only[go_sem])
     all_goals(try(repeat'(with_reducible apply And.intro)))
     all_goals(first|exact .AG (by omega)|exact .Az (by omega)|exact .sl (by simp[take_add_one,hb,e1,e2,AO.c])|exact .int (by simp[take_add_one,hb,e1,e2,AO.c])|exact .eq (by simp[take_add_one,hb,e1,e2,AO.c]))
    ·obtain⟨e1,e2⟩:=bC (a:=a) hb' hdo hc;simp(disch:=omega)only[go_sem,hc,decide_false,gm,hb];refine hJ _ (i+1) ⟨by simp at hlt;omega,trivial⟩ (by simp at hlt;omega) (Imp.Am ?_ ?_)
     all_goals(try simp(disch:=omega)only[go_sem])
     all_goals(try(repeat'(with_reducible apply And.intro)))
     all_goals(first|exact .AG (by omega)|exact .Az (by omega)|exact .sl (by simp[take_add_one,hb,e1,e2,AO.c])|exact .int (by simp[take_add_one,hb,e1,e2,AO.c])|exact .eq (by simp[take_add_one,hb,e1,e2,AO.c]))
   ·obtain⟨e1,e2⟩:=Yh (a:=a) hb' hdo;simp(disch:=omega)only[go_sem,gm,hb];refine hJ _ (i+1) ⟨by simp at hlt;omega,trivial⟩ (by simp at hlt;omega) (Imp.Am ?_ ?_)
    all_goals(try simp(disch:=omega)only[go_sem])
    all_goals(try(repeat'(with_reducible apply And.intro)))
    all_goals(first|exact .AG (by omega)|exact .Az (by omega)|exact .sl (by simp[take_add_one,hb,e1,e2,AO.c])|exact .int (by simp[take_add_one,hb,e1,e2,AO.c])|exact .eq (by simp[take_add_one,hb,e1,e2,AO.c]))
 ·subst hil;have hdi:=hd l.length;have he:=ZR (l:=l) (p:=p) (a:=a);rw[take_length]at hdi ⊢;cases hdo:Du l p a
  ·rw[hdo]at he;simp only[false_eq_true,if_false]at he;refine gO ?_;refine Cf ⟨[],[],[3648]⟩ _ ?_;simp(disch:=omega)only[go_sem,he];exact .sl (by simp[AO.c])
  ·rw[hdo]at he;simp only[if_true]at he;refine gO ?_;refine Cf ⟨[],[],[3136]⟩ _ ?_;simp(disch:=omega)only[go_sem,he]
theorem f283_ok(q:Queue):Ad C0 283 [.agg q.c] [] (.tup [.agg ((Bj q).getD w0).c,B (Bj q).isSome]) []:=by
 refine Ad.go f283 ?_;unfold f283
 match hq:q.An,hw:q.waits with
 | w::l,_ =>
  have e:Bj q=some w:=by simp[Bj,hq]
  have e1:(0<(l.length:Int)+1)=True:=by simp
  simp(disch:=omega)only[go_sem,hq,e,e1,isSome_some];exact AE _
 |[],w::l =>
  have e:Bj q=some w:=by simp[Bj,hq,hw]
  have e1:(0<(l.length:Int)+1)=True:=by simp
  simp(disch:=omega)only[go_sem,hq,hw,e,e1,isSome_some];exact AE _
 |[],[] =>
  have e:Bj q=none:=by simp[Bj,hq,hw]
  simp(disch:=omega)only[go_sem,hq,hw,e,isSome_none,w0];exact AE _
theorem f266_ok(r:Res)(l:List AO)(p:Ae)(a:Amt)(hl:l.length≤1000000):Ad C0 266 [.agg r.c,AH l,.agg p.c,.agg a.c] [] (B (DP r l p a)) []:=by
 have h2:(BX l p a).length≤1000000∨l.length=1000000:=by have:=Ix l p a;omega
 refine Ad.go f266 ?_;unfold f266;refine gO ?_;refine Aq 18 [([],[4]),([],[1]),([],[9,10]),([2],[11]),([2],[6,12]),([2],[13,12]),([2,5],[12,14]),([2,5],[15]),([2,5],[4,16]),([2,5],[7,16]),([2,5],[17,18,16]),([2,5,10],[16,19]),([2,5,10],[20]),([2,5,10],[4,21]),([2,5,10],[1,21]),([2,5,10],[6,21]),([2,5,10],[7,21]),([2,5,10],[23,24,25,21])] fol ?_;simp(disch:=omega)only[go_sem]
 first|(refine Ac (f265_ok r l hl) ?_)|(refine Ar (f265_ok r l hl) ?_)
 cases h1:Ba r l
 ·simp(disch:=omega)only[go_sem];refine Ap _ ?_;exact wb (by simp[DP,h1])
 have h8:l.length≤8:=by simp[Ba]at h1;omega
 have h9:(BX l p a).length≤1000000:=by omega
 simp(disch:=omega)only[go_sem]
 repeat'(first
  |(with_reducible refine And.intro (fun h=>?_) (fun h=>?_))
  |((with_reducible show AY _ _ 105 _ _ _);refine Ai (f105_ok p) ?_ rfl ?_;(focus(simp(disch:=omega)only[go_sem];done));try simp(disch:=omega)only[go_sem])
  |((with_reducible show AW _ _ 105 _ _ _ _ _ _ _);refine Aw ⟨⟨[],[],[]⟩,[],[]⟩ (f105_ok p) ?_ rfl rfl trivial (.inl rfl) ?_;(focus(simp(disch:=omega)only[go_sem];done));try simp(disch:=omega)only[go_sem])
  |((with_reducible show AY _ _ 171 _ _ _);refine Ai (f171_ok r a) ?_ rfl ?_;(focus(simp(disch:=omega)only[go_sem];done));try simp(disch:=omega)only[go_sem])
  |((with_reducible show AW _ _ 171 _ _ _ _ _ _ _);refine Aw ⟨⟨[],[],[]⟩,[],[]⟩ (f171_ok r a) ?_ rfl rfl trivial (.inl rfl) ?_;(focus(simp(disch:=omega)only[go_sem];done));try simp(disch:=omega)only[go_sem])
  |((with_reducible show AY _ _ 165 _ _ _);refine Ai (f165_ok l p a hl) ?_ rfl ?_;(focus(simp(disch:=omega)only[go_sem];done));try simp(disch:=omega)only[go_sem])
  |((with_reducible show AW _ _ 165 _ _ _ _ _ _ _);refine Aw ⟨⟨[],[],[]⟩,[],[]⟩ (f165_ok l p a hl) ?_ rfl rfl trivial (.inl rfl) ?_;(focus(simp(disch:=omega)only[go_sem];done));try simp(disch:=omega)only[go_sem])
  |((with_reducible show AY _ _ 265 _ _ _);refine Ai (f265_ok r (BX l p a) h9) ?_ rfl ?_;(focus(simp(disch:=omega)only[go_sem];done));try simp(disch:=omega)only[go_sem])
  |((with_reducible show AW _ _ 265 _ _ _ _ _ _ _);refine Aw ⟨⟨[],[],[]⟩,[],[]⟩ (f265_ok r (BX l p a) h9) ?_ rfl rfl trivial (.inl rfl) ?_;(focus(simp(disch:=omega)only[go_sem];done));try simp(disch:=omega)only[go_sem]))
 all_goals(refine B8 _ ?_)
 all_goals(try simp(disch:=omega)only[go_sem])
 all_goals(refine wb ?_)
 all_goals(simp_all[DP])
theorem f243_ok(q:Queue)(h1:q.holds.length≤1000000)(h2:q.waits.length≤1000000):Ad C0 243 [.agg q.c] [] (B (valid q)) []:=by
 refine Ad.go f243 ?_;unfold f243;refine gO ?_;refine Ac (f242_ok q h1 h2) ?_;cases hs:sound q
 ·simp(disch:=omega)only[go_sem];refine Ap _ ?_;exact wb (by simp[valid,hs])
 refine gO ?_;refine Ac (f283_ok q) ?_;cases hh:Bj q with
 |none =>
  simp(disch:=omega)only[go_sem,isSome_none];refine Ap _ ?_;exact wb (by simp[valid,hs,hh])
 |some w =>
  simp(disch:=omega)only[go_sem,isSome_some];refine Ac (f266_ok q.res q.holds w.proc w.amt h1) ?_;refine gO ?_;refine Ap _ ?_;exact wb (by simp[valid,hs,hh])
theorem f158_ok(q:Queue)(h1:q.holds.length≤1000000)(h2:q.waits.length≤1000000):Ad C0 158 [.agg q.c] [] (B (valid q)) []:=by
 refine Ad.go f158 ?_;unfold f158;refine gO ?_;refine Ac (f242_ok q h1 h2) ?_;cases hs:sound q
 ·simp(disch:=omega)only[go_sem];refine Ap _ ?_;exact wb (by simp[valid,hs])
 refine gO ?_;refine Ac (f243_ok q h1 h2) ?_;refine gO ?_;exact AE _
theorem Sw{q:Queue}(h:Sound q):BC q≤16:=by
 have h':=(GD q).2 h;simp only[sound,D2,D4,Bool.and_eq_true,decide_eq_true_eq]at h';unfold BC BQ;omega
def TI(q:Queue):Queue × List AO:=if sound q then B1 q else (q0,[])
theorem f245_ok(q:Queue)(h1:q.holds.length≤1000000)(h2:q.An.length≤1000000)(h3:q.waits.length≤1000000):Ad C0 245 [.agg q.c] [] (.tup [.agg (TI q).1.c,AH (TI q).2]) []:=by
 refine Ad.go f245 ?_;unfold f245;refine gO ?_;refine Ac (f242_ok q h1 h3) ?_;cases hs:sound q
 ·have e:TI q=(q0,[]):=by simp[TI,hs]
  simp(disch:=omega)only[go_sem,e,q0];refine Ap _ ?_;refine .tup (Aj.AM ?_);simp(disch:=omega)only[go_sem]
  repeat'(with_reducible apply And.intro)
  all_goals(first|exact .Az (by omega)|exact .agg (Aj.AM gI))
 have e:TI q=B1 q:=by simp[TI,hs]
 rw[e];refine gO ?_;refine Ac (f164_ok q h1 h2 h3) ?_;refine gO ?_;refine Ab (α:=Queue × List AO) (fun x=>⟨[(1,.ptr 64 0),(2,.ptr 128 0),(4,.sl (.own 3072 0) 5 (x.2.map AO.c))],[(64,x.1.c),(128,q0.c)]⟩) (fun x=>x.2.length+BQ x.1=BQ q∧Sound x.1∧(B1 x.1).1=(B1 q).1∧x.2++(B1 x.1).2=(B1 q).2) (fun x=>BQ x.1) (q,[]) ⟨by simp,(GD q).1 hs,rfl,rfl⟩ ?_ ?_
 ·refine Imp.Am ?_ ?_
  ·exact gI
  ·simp(disch:=omega)only[go_sem,q0]
 rintro⟨s,hs⟩ ⟨i1,i2,i3,i4⟩ J hJ
 replace i1:hs.length+BQ s=BQ q:=i1
 replace i2:Sound s:=i2
 replace i3:(B1 s).1=(B1 q).1:=i3
 replace i4:hs++(B1 s).2=(B1 q).2:=i4
 rw[Kf s]at i3 i4;have hsl:=Sw i2;have hlen:s.holds.length≤1000000∧s.waits.length≤1000000∧s.An.length≤1000000:=by unfold BC BQ at hsl;omega
 refine gO ?_;refine Ac (f243_ok s hlen.1 hlen.2.1) ?_;have hvd:valid s=(match Bj s with|some w=>!DP s.res s.holds w.proc w.amt|none=>true):=by
  have:=(GD s).2 i2;unfold valid;cases Bj s<;>simp[this]
 have fin:∀ (P:Prop),True:=fun _=>trivial
 cases hh:Bj s with
 |none =>
  simp only[hh]at i3 i4 hvd;simp(disch:=omega)only[go_sem,hvd];refine Bc ⟨[],[],[3072]⟩ _ (by(try simp(disch:=omega)only[go_sem,C6,IJ])<;>rfl) ⟨rfl,rfl⟩ (by simp[lk]) ?_ trivial;simp(disch:=omega)only[go_sem,← i3,← i4,List.append_nil]
 |some w =>
  simp only[hh]at i3 i4 hvd;have hsz:=HE hh;cases hr:DP s.res s.holds w.proc w.amt
  ·simp only[hr,false_eq_true,if_false,Bool.not_false]at i3 i4 hvd;simp(disch:=omega)only[go_sem,hvd];refine Bc ⟨[],[],[3072]⟩ _ (by(try simp(disch:=omega)only[go_sem,C6,IJ])<;>rfl) ⟨rfl,rfl⟩ (by simp[lk]) ?_ trivial;simp(disch:=omega)only[go_sem,← i3,← i4,List.append_nil]
  simp only[hr,if_true,Bool.not_true]at i3 i4 hvd;have step:∀ st',Imp ⟨C0,[],[]⟩ st' ⟨[(1,.ptr 64 0),(2,.ptr 128 0),(4,.sl (.own 3072 0) 5 ((hs++[AO.mk w.proc w.amt]).map AO.c))],[(64,(CI s w).c),(128,q0.c)]⟩→J st':=fun st' h =>
   hJ st' (CI s w,hs++[AO.mk w.proc w.amt]) ⟨by simp;omega,LH i2 hh hr,i3,by rw[← i4];simp⟩ (by simp;omega) h
  have hbound:hs.length+1≤4294967296:=by unfold BQ at i1;omega
  simp(disch:=omega)only[go_sem,hvd];refine Ac (f283_ok s) ?_;cases hc:s.An with
  | cons a l =>
   have hp:CI s w = { s with holds:=BX s.holds w.proc w.amt,An:=l }:=by unfold CI;simp only[hc]
   rw[hp]at step;have z1:(0<(l.length:Int)+1)=True:=eq_true (by omega);have z2:(l.map AS.c).take (l.length+1-1)=l.map AS.c:=List.take_of_length_le (by simp);simp(disch:=omega)only[go_sem,hc,hh,z1,z2];refine Ac (f165_ok s.holds w.proc w.amt hlen.1) ?_;simp(disch:=omega)only[go_sem,hc,hh,z1,z2];refine step _ (Imp.Am ?_ ?_)
   ·simp(disch:=omega)only[go_sem];exact .sl (by simp[AO.c])
   ·simp(disch:=omega)only[go_sem,z2]
  | nil =>
   have hp:CI s w = { s with holds:=BX s.holds w.proc w.amt,waits:=s.waits.drop 1 }:=by unfold CI;simp only[hc]
   rw[hp]at step;have hw:1≤s.waits.length:=by unfold BQ at hsz;rw[hc]at hsz;simp at hsz;omega
   have z2:((s.waits.map AS.c).drop 1).take (s.waits.length-1)=(s.waits.drop 1).map AS.c:=by rw[← List.map_drop];exact List.take_of_length_le (by simp)
   simp(disch:=omega)only[go_sem,hc,hh,z2];refine Ac (f165_ok s.holds w.proc w.amt hlen.1) ?_;simp(disch:=omega)only[go_sem,hc,hh,z2];refine step _ (Imp.Am ?_ ?_)
   ·simp(disch:=omega)only[go_sem];exact .sl (by simp[AO.c])
   ·simp(disch:=omega)only[go_sem,hc,z2,map_nil]
theorem f167_ok(q:Queue)(hs:Sound q)(h1:q.holds.length≤1000000)(h2:q.An.length≤1000000)(h3:q.waits.length≤1000000):Ad C0 167 [.agg q.c] [] (.tup [.agg (Fh q).c,AH (B1 q).2,I 0]) []:=by
 refine Ad.go f167 ?_;unfold f167;refine gO ?_;refine Ac (f245_ok q h1 h2 h3) ?_;have e:TI q=B1 q:=by simp[TI,(GD q).2 hs]
 have eg:(B1 q).1.gen=q.gen:=(Pq q).2;rw[e];refine gO ?_;refine Ac (f187_ok q.gen) ?_;refine gO ?_;refine Ap _ ?_;simp(disch:=omega)only[go_sem,Fh,eg]
theorem cg{q:Queue}(h:valid q=true)(p:Ae):Qm q p=Be (Br q) p:=by
 have hs:=((C9 q).1 h).1;have hz:∀ x∈q.holds,x.amt.zero=false:=fun x hx=>by
  have hs':=(GD q).2 hs;simp only[sound,Bool.and_eq_true]at hs';have:=(CW q.res q.holds).1 (by simp_all);exact Hv (this.2.2.1 x hx).2
 have e1:Be (Br q) p=true↔inQ q p:=by rw[← Db];simp[Be]
 have e2:Qm q p=true↔inQ q p:=by
  unfold Qm inQ As;rw[Bool.or_eq_true,Option.isSome_map,List.find?_isSome];constructor
  ·rintro(⟨w,hw,h2⟩|h2)
   ·have h3:w.proc=p:=by simpa using h2
    rcases mem_append.1 hw with h|h
    ·exact .inr (.inl ⟨w,h,h3⟩)
    ·exact .inr (.inr ⟨w,h,h3⟩)
   ·exact .inl (Ls (by simpa using h2))
  ·rintro(⟨x,hx,h2⟩|⟨w,hw,h2⟩|⟨w,hw,h2⟩)
   ·right;unfold AB;cases hf:q.holds.find? (fun h=>decide (h.proc=p)) with
    |none=>rw[List.find?_eq_none]at hf;exact absurd h2 (by simpa using hf x hx)
    |some y=>simp[hz y (List.mem_of_find?_eq_some hf)]
   ·exact .inl ⟨w,mem_append.2 (.inl hw),by simp[h2]⟩
   ·exact .inl ⟨w,mem_append.2 (.inr hw),by simp[h2]⟩
 exact Bool.eq_iff_iff.2 (e2.trans e1.symm)
theorem f110_ok(q:Queue)(p:Ae)(h:BC q≤100):Ad C0 110 [.agg q.c,.agg p.c] [] (.tup [.agg (E9 q p).1.c,AH (E9 q p).2.1,I (E9 q p).2.2]) []:=by
 obtain⟨h1,h2,h3⟩:=Bb h;refine Ad.go f110 ?_;unfold f110;refine gO ?_;refine Ac (f158_ok q h1 h3) ?_;cases hv:valid q
 ·have e:E9 q p=(q0,[],2):=by simp[E9,hv]
  simp(disch:=omega)only[go_sem,Bool.not_false,e,q0];refine Ap _ ?_;refine .tup (Aj.AM ?_);simp(disch:=omega)only[go_sem]
  repeat'(with_reducible apply And.intro)
  all_goals(first|exact .Az (by omega)|exact .agg (Aj.AM gI))
 refine gO ?_;refine Ac (f109_ok q p (by omega)) ?_;rw[cg hv p];cases hp:Be (Br q) p
 ·have e:E9 q p=(q0,[],10):=by simp[E9,hv,hp]
  simp(disch:=omega)only[go_sem,Bool.not_false,e,q0];refine Ap _ ?_;refine .tup (Aj.AM ?_);simp(disch:=omega)only[go_sem]
  repeat'(with_reducible apply And.intro)
  all_goals(first|exact .Az (by omega)|exact .agg (Aj.AM gI))
 have e:E9 q p=(Fh (B3 q p),(B1 (B3 q p)).2,0):=by simp[E9,hv,hp]
 rw[e];refine gO ?_;refine Ac (f164_ok q h1 h2 h3) ?_;refine gO ?_;refine Ac (f165_ok q.holds p ⟨0,0⟩ h1) ?_;refine gO ?_;refine Ac (f166_ok q.An p h2) ?_;refine gO ?_;refine Ac (f166_ok q.waits p h3) ?_;refine gO ?_;have ha:=WL q p;obtain⟨g1,g2,g3⟩:=Bb (q:=B3 q p) (by omega);refine Ai (f167_ok (B3 q p) (Jk ((C9 q).1 hv).1 p) g1 g2 g3) (by simp(disch:=omega)only[go_sem,B3]) rfl ?_;refine gO ?_;exact AE _
mutual
def DF:Expr→Int→Int × Int
 |.mk _ _ kids,lv=>if 4<lv∨24<kids.length then (25,0) else EW kids lv 1 0
def EW:List Expr→Int→Int→Int→Int × Int
 |[],_,n,m=>(n,m+1)
 | e::l,lv,n,m=>if 24<n+(DF e (lv+1)).1 then (25,0) else EW l lv (n+(DF e (lv+1)).1) (max m (DF e (lv+1)).2)
end
theorem GC(e:Expr)(lv:Int):DF e lv=if 4<lv∨24<e.kids.length then (25,0) else EW e.kids lv 1 0:=by
 cases e;simp only[DF];rfl
def sbd(lv:Int)(x:Int × Int):Prop:=1≤x.1∧x.1≤25∧0≤x.2∧x.2≤5-lv
theorem Vi(lv:Int)(h1:1≤lv)(h4:lv≤4):∀ (l:List Expr) (n m:Int),(∀ e∈l,sbd (lv+1) (DF e (lv+1)))→1≤n→n≤24→0≤m→m≤4-lv→sbd lv (EW l lv n m)
 |[],n,m,_,hn,hn2,hd,hd2=>by simp only[EW,sbd];omega
 | e::l,n,m,hk,hn,hn2,hd,hd2=>by
  obtain⟨b1,b2,b3,b4⟩:=hk e (by simp);simp only[EW];split
  ·simp only[sbd];omega
  ·exact Vi lv h1 h4 l _ _ (fun e' he=>hk e' (by simp[he])) (by omega) (by omega) (by omega) (by omega)
theorem Jj:∀ (N:Nat) (e:Expr),SizeOf.sizeOf e<N→∀ lv:Int,1≤lv→lv≤5→sbd lv (DF e lv)
 | 0,_,h,_,_,_=>by omega
 | N+1,e,h,lv,h1,h5=>by
  rw[GC];split
  ·simp only[sbd];omega
  ·rename_i hc;exact Vi lv h1 (by omega) _ _ _ (fun e' he=>Jj N e' (by have:=CX he;omega) _ (by omega) (by omega)) (by omega) (by omega) (by omega) (by omega)
theorem f273_ok:∀ (N:Nat) (e:Expr),SizeOf.sizeOf e<N→∀ lv:Int,1≤lv→lv≤5 →
 Ad C0 273 [.agg e.c,I lv] [] (.tup [I (DF e lv).1,I (DF e lv).2]) []
 | 0,_,h,_,_,_=>by omega
 | N+1,e,h,lv,h1,h5=>by
  refine Ad.lens f273 fun hlen=>?_
  simp only[D9,lens,Expr.By,List.length_map,and_true,true_and]at hlen;refine Ad.go f273 ?_;unfold f273
  by_cases hc:4<lv∨24<e.kids.length
  ·have em:DF e lv=(25,0):=by rw[GC,if_pos hc]
   simp(disch:=omega)only[go_sem,em]
   repeat'(with_reducible refine And.intro (fun h=>?_) (fun h=>?_))
   all_goals(try(exfalso;simp_all;omega))
   all_goals(refine B8 _ ?_)
   all_goals simp(disch:=omega)only[go_sem]
  have em:DF e lv=EW e.kids lv 1 0:=by rw[GC,if_neg hc]
  have hc1:(4<lv)=False:=by simp;omega
  have hc2:(24<(e.kids.length:Int))=False:=by simp;omega
  simp(disch:=omega)only[go_sem,em,hc1,hc2,decide_false];refine Ab (α:=Nat × Int × Int) (fun q=>⟨[(8,I q.1),(1,I lv),(2,.ptr 128 0),(6,I q.2.1),(7,I q.2.2)],[(128,e.c)]⟩)
   (fun q=>q.1≤e.kids.length∧1≤q.2.1∧q.2.1≤24∧0≤q.2.2∧q.2.2≤4-lv∧EW (e.kids.drop q.1) lv q.2.1 q.2.2=EW e.kids lv 1 0) (fun q=>e.kids.length-q.1) (0,1,0) ⟨by simp,by simp,by simp,by simp,by simp;omega,by simp⟩ ?_ ?_
  ·refine Imp.Am ?_ ?_
   ·exact gI
   ·exact gI
  rintro⟨i,n,m⟩ ⟨hi,hm0,hm,hd0,hd,hr⟩ J hJ
  replace hi:i≤e.kids.length:=hi
  replace hm0:1≤n:=hm0
  replace hm:n≤24:=hm
  replace hd0:0≤m:=hd0
  replace hd:m≤4-lv:=hd
  replace hr:EW (e.kids.drop i) lv n m=EW e.kids lv 1 0:=hr
  refine gO ?_;refine ⟨fun hlt=>?_,fun hge=>?_⟩
  ·have hlt':i<e.kids.length:=by simp at hlt;omega
   have hb:e.kids[i]?=some e.kids[i]:=gE hlt';have hsz:=CX (List.getElem_mem hlt');have hdr:e.kids.drop i=e.kids[i]::e.kids.drop (i+1):=List.drop_eq_getElem_cons hlt';generalize e.kids[i]=b at hb hsz hdr;rw[hdr]at hr;simp only[EW]at hr;simp(disch:=omega)only[go_sem,gm,hb]
   first|(refine Ac (f273_ok N b (by omega) (lv+1) (by omega) (by omega)) ?_)|(refine Ar (f273_ok N b (by omega) (lv+1) (by omega) (by omega)) ?_)
   obtain⟨b1,b2,b3,b4⟩:=Jj N b (by omega) (lv+1) (by omega) (by omega);generalize DF b (lv+1)=x at hr b1 b2 b3 b4
   by_cases h24:24<n+x.1
   ·have d24:(24<n+x.1)=True:=eq_true h24;rw[if_pos h24]at hr;simp(disch:=omega)only[go_sem,d24]
    repeat'(with_reducible refine And.intro (fun h=>?_) (fun h=>?_))
    all_goals(refine B8 _ ?_)
    all_goals simp(disch:=omega)only[go_sem,← hr]
   ·have d24:(24<n+x.1)=False:=eq_false h24;rw[if_neg h24]at hr;simp(disch:=omega)only[go_sem,d24,decide_false]
    by_cases hmx:m<x.2
    ·have e1:max m x.2=x.2:=by omega
     have d1:(m<x.2)=True:=eq_true hmx;rw[e1]at hr;simp(disch:=omega)only[go_sem,d1];refine hJ _ (i+1,n+x.1,x.2) ⟨by simp;omega,by simp;omega,by simp;omega,by simp;omega,by simp;omega,hr⟩ (by simp;omega) (Imp.Am ?_ ?_)
     ·exact gI
     ·exact gI
    ·have e1:max m x.2=m:=by omega
     have d1:(m<x.2)=False:=eq_false hmx;rw[e1]at hr;simp(disch:=omega)only[go_sem,d1,decide_false];refine hJ _ (i+1,n+x.1,m) ⟨by simp;omega,by simp;omega,by simp;omega,by simp;omega,by simp;omega,hr⟩ (by simp;omega) (Imp.Am ?_ ?_)
     ·exact gI
     ·exact gI
  ·have hil:i=e.kids.length:=by simp at hge;omega
   subst hil;rw[List.drop_length]at hr;simp only[EW]at hr;simp(disch:=omega)only[go_sem,← hr];exact AE _
def F5(e:Expr):Int:=if 24<(DF e 1).1 then 0 else (DF e 1).1
theorem f232_ok(e:Expr):Ad C0 232 [.agg e.c] [] (I (F5 e)) []:=by
 refine Ad.go f232 ?_;unfold f232;refine gO ?_;refine Ac (f273_ok _ e (lt_succ_self _) 1 (by omega) (by omega)) ?_
 by_cases h24:24<(DF e 1).1
 ·have d24:(24<(DF e 1).1)=True:=eq_true h24;have en:F5 e=0:=by simp[F5,h24]
  simp(disch:=omega)only[go_sem,d24,en];exact AE _
 ·have d24:(24<(DF e 1).1)=False:=eq_false h24;have en:F5 e=(DF e 1).1:=by simp[F5,h24]
  simp(disch:=omega)only[go_sem,d24,en,decide_false];exact AE _
mutual
def Gc:Expr→List Atom→List Atom × Bool
 |.mk k a kids,l=>if kids.length=0 then (if k=0∧Ju a=true then (Ds l a,true) else (l,false))
  else if k<1∨(kids.length:Int)<k∨a≠a0 then (l,false) else Ho kids l
def Ho:List Expr→List Atom→List Atom × Bool
 |[],l=>(l,true)
 | e::es,l=>if (Gc e l).2=true then Ho es (Gc e l).1 else (l,false)
end
theorem HP(e:Expr)(l:List Atom):Gc e l=if e.kids.length=0 then (if e.k=0∧Ju e.atom=true then (Ds l e.atom,true) else (l,false))
 else if e.k<1∨(e.kids.length:Int)<e.k∨e.atom≠a0 then (l,false) else Ho e.kids l:=by
 cases e;simp only[Gc];rfl
mutual
def cnt:Expr→Nat
 |.mk _ _ kids=>1+PZ kids
def PZ:List Expr→Nat
 |[]=>0
 | e::l=>cnt e+PZ l
end
theorem SX(e:Expr):cnt e=1+PZ e.kids:=by cases e;simp only[cnt];rfl
@[reducible] def Xm(x:List Atom × Bool):AV:=if x.2 then .tup [CS 1 x.1,B true] else .tup [.undef,B false]
theorem Xr(l:List Atom)(a:Atom):(Ds l a).length≤l.length+1:=by unfold Ds;split<;>simp
theorem TF:∀ (es:List Expr) (l:List Atom),(∀ e∈es,∀ l,(Gc e l).1.length≤l.length+cnt e)→(Ho es l).1.length≤l.length+PZ es
 |[],l,_=>by simp[Ho]
 | e::es,l,h=>by
  have h1:=h e (by simp) l;have h2:=TF es (Gc e l).1 fun e' he=>h e' (by simp[he])
  simp only[Ho,PZ];split
  ·omega
  ·simp only;omega
theorem PH:∀ (N:Nat) (e:Expr),SizeOf.sizeOf e<N→∀ l:List Atom,(Gc e l).1.length≤l.length+cnt e
 | 0,_,h,_=>by omega
 | N+1,e,h,l=>by
  rw[HP,SX];split
  ·split
   ·have:=Xr l e.atom;simp only;omega
   ·simp only;omega
  ·split
   ·simp only;omega
   ·have:=TF e.kids l fun e' he l'=>PH N e' (by have:=CX he;omega) l'
    omega
theorem f233_ok:∀ (N:Nat) (e:Expr),SizeOf.sizeOf e<N→∀ l:List Atom,l.length+cnt e≤1000000 →
 Ad C0 233 [CS 0 l,.agg e.c] [] (Xm (Gc e l)) []
 | 0,_,h,_,_=>by omega
 | N+1,e,h,l,hl=>by
  refine Ad.lens f233 fun hlen=>?_
  simp only[D9,lens,Expr.By,List.length_map,and_true,true_and]at hlen;have hc0:=SX e;refine Ad.go f233 ?_;unfold f233
  by_cases hk:e.kids.length=0
  ·have e1:((e.kids.length:Int)==0)=true:=by simp[hk]
   by_cases hbad:e.k=0∧Ju e.atom=true
   rotate_left
   ·have ep:Gc e l=(l,false):=by rw[HP,if_pos hk,if_neg hbad]
    have ev:Xm (Gc e l)=.tup [.undef,B false]:=by rw[ep];rfl
    rw[ev];simp(disch:=omega)only[go_sem,e1]
    repeat'(first
     |(with_reducible refine And.intro (fun h=>?_) (fun h=>?_))
     |((with_reducible show AY _ _ 247 _ _ _);refine Ai (f247_ok e.atom.name) ?_ rfl ?_;(focus(simp(disch:=omega)only[go_sem];done));try simp(disch:=omega)only[go_sem])
     |((with_reducible show AW _ _ 247 _ _ _ _ _ _ _);refine Aw ⟨⟨[],[],[]⟩,[],[]⟩ (f247_ok e.atom.name) ?_ rfl rfl trivial (.inl rfl) ?_;(focus(simp(disch:=omega)only[go_sem];done));try simp(disch:=omega)only[go_sem])
     |((with_reducible show AY _ _ 274 _ _ _);refine Ai (f274_ok e.atom.amt) ?_ rfl ?_;(focus(simp(disch:=omega)only[go_sem];done));try simp(disch:=omega)only[go_sem])
     |((with_reducible show AW _ _ 274 _ _ _ _ _ _ _);refine Aw ⟨⟨[],[],[]⟩,[],[]⟩ (f274_ok e.atom.amt) ?_ rfl rfl trivial (.inl rfl) ?_;(focus(simp(disch:=omega)only[go_sem];done));try simp(disch:=omega)only[go_sem]))
    all_goals(first
     |(refine Cf ⟨[(0,1)],[],[]⟩ _ ?_;simp(disch:=omega)only[go_sem];exact .tup (Aj.AM gI))
     |(exfalso;refine hbad ?_;simp_all[Ju];done))
   ·have ep:Gc e l=(Ds l e.atom,true):=by rw[HP,if_pos hk,if_pos hbad]
    have ev:Xm (Gc e l)=.tup [CS 1 (Ds l e.atom),B true]:=by rw[ep];rfl
    rw[ev];have ha:(Dd e.atom.name&&(GX.fits e.atom.amt||G0.fits e.atom.amt))=true:=hbad.2;have ha1:Dd e.atom.name=true:=by simp at ha;exact ha.1
    have ha2:(GX.fits e.atom.amt||G0.fits e.atom.amt)=true:=by simp at ha;simp[ha.2]
    have e2:(e.k==0)=true:=by simp[hbad.1]
    simp(disch:=omega)only[go_sem,e1,e2];refine And.intro (fun _=>?_) (fun h=>?_);rotate_left
    ·exfalso;simp_all
    refine Ac (f247_ok e.atom.name) ?_;simp(disch:=omega)only[go_sem,ha1];refine Ac (f274_ok e.atom.amt) ?_;simp(disch:=omega)only[go_sem,ha2];refine Ab (α:=Nat) (fun i=>⟨[(6,I i),(0,CS 0 l),(3,.ptr 192 0)],[(192,e.c)]⟩) (fun i=>i≤(l).length∧e.atom∉l.take i) (fun i=>(l).length-i) 0 ⟨by omega,(by simp)⟩ ?_ ?_
    ·exact BB
    rintro i ⟨hi,hP⟩ J hJ;refine gO ?_;refine ⟨fun hlt=>?_,fun hge=>?_⟩;rotate_left;have hil:i=(l).length:=by simp at hge;omega
    rotate_left;obtain⟨b,hb⟩:∃ b,(l)[i]?=some b:=⟨_,gE (by simp at hlt;omega)⟩;have hbm:=mG hb;have hlt2:i<(l).length:=by simp at hlt;omega
    refine Aq 6 [([],[0]),([],[6]),([],[38,39]),([],[40]),([],[3]),([],[42])] fol ?_;simp(disch:=omega)only[go_sem,gm,hb]
    ·refine⟨fun h=>?_,fun h=>?_⟩
     ·have hbe:b=e.atom:=by simpa using h
      have e3:Ds l e.atom=l:=by unfold Ds;rw[if_pos (hbe▸hbm)]
      simp(disch:=omega)only[go_sem,e3];refine Cf ⟨[(0,1)],[],[]⟩ _ ?_;simp(disch:=omega)only[go_sem]
     ·have hbe:b≠e.atom:=by simpa using h
      refine hJ _ (i+1) ⟨by simp at hlt;omega,(by rw[take_add_one,hb];simp only[Option.toList,mem_append,mem_singleton];intro hx;rcases hx with hx|hx;exact hP hx;exact hbe hx.symm)⟩ (by simp at hlt;omega) AR
    ·subst hil;rw[take_length]at hP;have e3:Ds l e.atom=l++[e.atom]:=by unfold Ds;rw[if_neg hP]
     have hb32:l.length+1≤4294967296:=by omega
     simp(disch:=omega)only[go_sem,e3];refine Cf ⟨[(3200,1)],[],[]⟩ _ ?_;refine gO ?_;exact .tup (Aj.AM (by simp(disch:=omega)only[go_sem];exact .sl (by simp[Atom.c])))
  have e1:((e.kids.length:Int)==0)=false:=by simp only[beq_eq_false_iff_ne,ne_eq];omega
  have ez:(e.atom.name==[]&&(e.atom.amt.mode==0&&e.atom.amt.AA==0))=decide (e.atom=a0):=SO e.atom
  by_cases hbad:e.k<1∨(e.kids.length:Int)<e.k∨e.atom≠a0
  ·have ep:Gc e l=(l,false):=by rw[HP,if_neg hk,if_pos hbad]
   have ev:Xm (Gc e l)=.tup [.undef,B false]:=by rw[ep];rfl
   rw[ev];simp(disch:=omega)only[go_sem,e1,ez]
   repeat'(with_reducible refine And.intro (fun h=>?_) (fun h=>?_))
   all_goals(try(exfalso;simp_all;omega))
   all_goals(refine Cf ⟨[(0,1)],[],[]⟩ _ ?_)
   all_goals simp(disch:=omega)only[go_sem]
   all_goals exact .tup (Aj.AM gI)
  have ep:Gc e l=Ho e.kids l:=by rw[HP,if_neg hk,if_neg hbad]
  have b1:(e.k<1)=False:=by simp;omega
  have b2:((e.kids.length:Int)<e.k)=False:=by simp;omega
  have b3:e.atom=a0:=by
   by_cases h:e.atom=a0
   ·exact h
   ·exact absurd (Or.inr (Or.inr h)) hbad
  have ez':(e.atom.name==[]&&(e.atom.amt.mode==0&&e.atom.amt.AA==0))=true:=by rw[ez];simp[b3]
  rw[ep];simp(disch:=omega)only[go_sem,e1,ez',b1,b2,decide_false];refine Ab (α:=Nat × List Atom) (fun q=>⟨[(7,I q.1),(0,CS 5376 q.2),(3,.ptr 192 0)],[(192,e.c)]⟩)
   (fun q=>q.1≤e.kids.length∧q.2.length+PZ (e.kids.drop q.1)≤1000000∧Ho (e.kids.drop q.1) q.2=Ho e.kids l) (fun q=>e.kids.length-q.1) (0,l) ⟨by simp,by simp;omega,by simp⟩ ?_ ?_
  ·refine Imp.ren ⟨[(0,5376)],[(192,192)],[]⟩ ⟨rfl,rfl⟩ (by simp[lk]) ?_ ?_
   ·exact gI
   ·exact gI
  rintro⟨i,m⟩ ⟨hi,hm,hr⟩ J hJ
  replace hi:i≤e.kids.length:=hi
  replace hm:m.length+PZ (e.kids.drop i)≤1000000:=hm
  replace hr:Ho (e.kids.drop i) m=Ho e.kids l:=hr
  refine gO ?_;refine ⟨fun hlt=>?_,fun hge=>?_⟩
  ·have hlt':i<e.kids.length:=by simp at hlt;omega
   have hb:e.kids[i]?=some e.kids[i]:=gE hlt';have hsz:=CX (List.getElem_mem hlt');have hdr:e.kids.drop i=e.kids[i]::e.kids.drop (i+1):=List.drop_eq_getElem_cons hlt';generalize e.kids[i]=b at hb hsz hdr;rw[hdr]at hr hm;simp only[Ho]at hr;simp only[PZ]at hm;have hbl:=PH _ b (lt_succ_self _) m;have hcall:=f233_ok N b (by omega) m (by omega);simp(disch:=omega)only[go_sem,gm,hb];generalize Gc b m=x at hr hbl hcall;obtain⟨x1,x2⟩:=x;cases x2
   ·simp only[false_eq_true,if_false]at hr;have ev:Xm (Ho e.kids l)=.tup [.undef,B false]:=by rw[← hr];rfl
    rw[ev];refine Bn ⟨⟨[(5376,0)],[],[]⟩,[(1,5377)],[]⟩ (show Ad C0 233 [CS 0 m,.agg b.c] [] (.tup [.undef,B false]) [] from hcall) gI rfl gI (.inl rfl) ?_;refine gO ?_;exact AE _
   ·simp only[if_true]at hr;refine Bn ⟨⟨[(5376,0)],[],[]⟩,[(1,5377)],[]⟩ (show Ad C0 233 [CS 0 m,.agg b.c] [] (.tup [CS 1 x1,B true]) [] from hcall) gI rfl gI (.inl rfl) ?_;refine gO ?_;refine hJ _ (i+1,x1) ⟨by simp;omega,by simp at hbl ⊢;omega,hr⟩ (by simp;omega) (Imp.ren ⟨[(5377,5376)],[(192,192)],[]⟩ ⟨rfl,rfl⟩ (by simp[lk]) ?_ ?_)
    ·exact gI
    ·exact gI
  ·have hil:i=e.kids.length:=by simp at hge;omega
   subst hil;rw[List.drop_length]at hr;simp only[Ho]at hr;have ev:Xm (Ho e.kids l)=.tup [CS 1 m,B true]:=by rw[← hr];rfl
   rw[ev];refine Cf ⟨[(5376,1)],[],[]⟩ _ ?_;simp(disch:=omega)only[go_sem]
theorem Vj{lv:Int}(h1:0≤lv)(h4:lv≤4):∀ (l:List Expr) (n m:Int),n≤24→n≤(EW l lv n m).1
 |[],n,m,_=>by simp[EW]
 | e::l,n,m,hn=>by
  have b:=Jj _ e (lt_succ_self _) (lv+1) (by omega) (by omega);simp only[EW];split
  ·simp only;omega
  ·have:=Vj h1 h4 l (n+(DF e (lv+1)).1) (max m (DF e (lv+1)).2) (by omega);have:=b.1;omega
def msC(e:Expr)(lv:Int):Prop:=∀ n:Int,0≤n→n≤24→((meas e lv n).1≠0→DF e lv=((meas e lv n).2-n,(meas e lv n).1))∧((meas e lv n).1=0→24<n+(DF e lv).1)
theorem QB{lv:Int}(h1:1≤lv)(h4:lv≤4):∀ (l:List Expr) (n0 n m:Int),(∀ e∈l,msC e (lv+1))→1≤n→0≤n0→n0+n≤24→0≤m →
 ((EU l lv (n0+n) m).1≠0→EW l lv n m=((EU l lv (n0+n) m).2-n0,(EU l lv (n0+n) m).1))∧((EU l lv (n0+n) m).1=0→24<n0+(EW l lv n m).1)
 |[],n0,n,m,_,_,_,_,hm=>by
  simp only[EU,EW];exact⟨fun _=>by rw[show n0+n-n0=n by omega],fun h=>by omega⟩
 | e::l,n0,n,m,hk,a1,a2,a3,hm=>by
  obtain⟨k1,k2⟩:=hk e (by simp) (n0+n) (by omega) a3;have b:=Ly _ e (lt_succ_self _) (lv+1) (n0+n) (by omega) (by omega) (by omega) a3;simp only[EU,EW]
  by_cases hz:(meas e (lv+1) (n0+n)).1=0
  ·have h24:=k2 hz;rw[if_pos hz];refine⟨fun h=>absurd rfl h,fun _=>?_⟩;split
   ·simp only;omega
   ·have:=Vj (by omega) h4 l (n+(DF e (lv+1)).1) (max m (DF e (lv+1)).2) (by omega);omega
  ·have hs:=k1 hz;have hb:=b.2.2.2.2 hz;have hb0:=b.1;have hge:=Py _ e (lt_succ_self _) (lv+1) (n0+n);rw[if_neg hz,hs];simp only;have e1:n+((meas e (lv+1) (n0+n)).2-(n0+n))=(meas e (lv+1) (n0+n)).2-n0:=by omega
   rw[e1,if_neg (by omega)];have ih:=QB h1 h4 l n0 ((meas e (lv+1) (n0+n)).2-n0) (max m (meas e (lv+1) (n0+n)).1) (fun e' he=>hk e' (by simp[he])) (by omega) a2 (by omega) (by omega);have e2:n0+((meas e (lv+1) (n0+n)).2-n0)=(meas e (lv+1) (n0+n)).2:=by omega
   rw[e2]at ih;exact ih
theorem Sb:∀ (N:Nat) (e:Expr),SizeOf.sizeOf e<N→∀ lv:Int,1≤lv→lv≤5→msC e lv
 | 0,_,h,_,_,_=>by omega
 | N+1,e,h,lv,h1,h5=>by
  intro n hn0 hn;have sb:=Jj _ e (lt_succ_self _) lv h1 h5;rw[I9]
  by_cases hc:4<lv∨24<n+1
  ·rw[if_pos hc];refine⟨fun h=>absurd rfl h,fun _=>?_⟩
   by_cases h4:4<lv
   ·rw[GC,if_pos (.inl h4)];simp only;omega
   ·have:=sb.1;omega
  ·rw[if_neg hc];have hL:=QB h1 (by omega) e.kids n 1 0 (fun e' he=>Sb N e' (by have:=CX he;omega) _ (by omega) (by omega)) (by omega) hn0 (by omega) (by omega)
   by_cases h24:24<e.kids.length
   ·rw[GC,if_pos (.inr h24)];refine⟨fun h=>?_,fun _=>by simp only;omega⟩;have:=QA e.kids (n+1) 0 h (by omega) (by omega) fun e' _ n' k1 k2 k3=>⟨Py _ e' (lt_succ_self _) _ _,(Ly _ e' (lt_succ_self _) (lv+1) n' (by omega) (by omega) k1 k2).2.2.2.2 k3⟩
    omega
   ·rw[GC,if_neg (by omega)];exact hL
theorem KV(e:Expr):F5 e=0↔depth e=0:=by
 have h:=Sb _ e (lt_succ_self _) 1 (by omega) (by omega) 0 (by omega) (by omega);have b:=Ly _ e (lt_succ_self _) 1 0 (by omega) (by omega) (by omega) (by omega);have sb:=(Jj _ e (lt_succ_self _) 1 (by omega) (by omega)).1;unfold F5 depth
 by_cases hz:(meas e 1 0).1=0
 ·have:=h.2 hz;rw[if_pos (by omega)];simp[hz]
 ·have h1:=h.1 hz;have h2:=b.2.2.2.2 hz;have h3:(DF e 1).1=(meas e 1 0).2:=by rw[h1];simp
  rw[if_neg (by omega)];constructor
  ·intro h;omega
  ·intro h;exact absurd h hz
theorem Su{lv:Int}:∀ (l:List Expr) (n m:Int),(∀ e∈l,(DF e (lv+1)).1≤24→(cnt e:Int)=(DF e (lv+1)).1)→1≤lv→lv≤4→0≤n→n≤24→(EW l lv n m).1≤24→n+(PZ l:Int)=(EW l lv n m).1
 |[],n,m,_,_,_,_,_,_=>by simp[EW,PZ]
 | e::l,n,m,hk,h1,h4,hn,hn2,h=>by
  have b:=Jj _ e (lt_succ_self _) (lv+1) (by omega) (by omega);simp only[EW,PZ]at h ⊢;split at h
  ·simp at h
  ·rename_i hlt;rw[if_neg hlt];have b1:=b.1;have:=hk e (by simp) (by omega);have ih:=Su l _ _ (fun e' he=>hk e' (by simp[he])) h1 h4 (by omega) (by omega) h;rw[← ih];omega
theorem Ss:∀ (N:Nat) (e:Expr),SizeOf.sizeOf e<N→∀ lv:Int,1≤lv→lv≤5→(DF e lv).1≤24→(cnt e:Int)=(DF e lv).1
 | 0,_,h,_,_,_,_=>by omega
 | N+1,e,h,lv,h1,h5,hs=>by
  rw[GC]at hs ⊢;split at hs
  ·simp at hs
  ·rename_i hc;rw[if_neg hc,SX];have:=Su e.kids 1 0 (fun e' he hs'=>Ss N e' (by have:=CX he;omega) _ (by omega) (by omega) hs') h1 (by omega) (by omega) (by omega) hs;rw[← this];omega
theorem Yf{e:Expr}(h:F5 e≠0):cnt e≤24:=by
 unfold F5 at h
 by_cases h24:24<(DF e 1).1
 ·simp[h24]at h
 ·have:=Ss _ e (lt_succ_self _) 1 (by omega) (by omega) (by omega);omega
def I5(l:List Atom):Prop:=l.length≤8∧l.Pairwise fun a b=>a.name≠b.name
theorem Un{l m:List Atom}(h:l <+: m)(hg:I5 m):I5 l:=⟨Nat.le_trans h.length_le hg.1,hg.2.sublist h.sublist⟩
theorem MG(l:List Atom)(a:Atom):l <+: Ds l a:=by
 unfold Ds;split
 ·exact List.prefix_refl l
 ·exact List.prefix_append l [a]
theorem Ke:∀ (es:List Expr) (l:List Atom),(∀ e∈es,∀ l,(Gc e l).2=true→l <+: (Gc e l).1)→(Ho es l).2=true→l <+: (Ho es l).1
 |[],l,_,_=>by simp[Ho]
 | e::es,l,hk,h=>by
  simp only[Ho]at h ⊢;split at h
  ·rename_i ht;rw[if_pos ht];exact List.IsPrefix.trans (hk e (by simp) l ht) (Ke es _ (fun e' he=>hk e' (by simp[he])) h)
  ·simp at h
theorem OA:∀ (N:Nat) (e:Expr),SizeOf.sizeOf e<N→∀ l,(Gc e l).2=true→l <+: (Gc e l).1
 | 0,_,h,_,_=>by omega
 | N+1,e,h,l,ht=>by
  rw[HP]at ht ⊢;split at ht
  ·rename_i h0;rw[if_pos h0];split at ht
   ·rename_i h1;rw[if_pos h1];exact MG _ _
   ·simp at ht
  ·rename_i h0;rw[if_neg h0];split at ht
   ·simp at ht
   ·rename_i h1;rw[if_neg h1];exact Ke _ _ (fun e' he l'=>OA N e' (by have:=CX he;omega) l') ht
def paC(e:Expr):Prop:=∀ l,I5 l→((prop e l).1=true→Gc e l=((prop e l).2,true)∧I5 (prop e l).2)∧((prop e l).1=false→(Gc e l).2=true→¬ I5 (Gc e l).1)
theorem Sl:∀ (es:List Expr),(∀ e∈es,paC e)→∀ l,I5 l→((B5 es l).1=true→Ho es l=((B5 es l).2,true)∧I5 (B5 es l).2)∧((B5 es l).1=false→(Ho es l).2=true→¬ I5 (Ho es l).1)
 |[],_,l,hg=>by simp[B5,Ho,hg]
 | e::es,hk,l,hg=>by
  obtain⟨k1,k2⟩:=hk e (by simp) l hg;simp only[B5,Ho];cases hp:(prop e l).1
  ·simp only[false_eq_true,if_false,false_implies,true_and,true_implies];cases ha:(Gc e l).2
   ·simp
   ·intro ht hgo;simp only[if_true]at ht hgo;have h1:=k2 hp ha;exact h1 (Un (Ke es _ (fun e' he l'=>OA _ e' (lt_succ_self _) l') ht) hgo)
  ·obtain⟨h1,h2⟩:=k1 hp;rw[h1];simp only[if_true];exact Sl es (fun e' he=>hk e' (by simp[he])) _ h2
theorem bD{l:List Atom}(h:l.Pairwise fun a b=>a.name≠b.name){a b:Atom}(ha:a∈l)(hb:b∈l)(hn:a.name=b.name):a=b:=by
 induction l with
 | nil=>simp at ha
 | cons x l ih =>
  rw[List.pairwise_cons]at h;rcases mem_cons.1 ha with e1|ha
  ·rcases mem_cons.1 hb with e2|hb
   ·rw[e1,e2]
   ·exact absurd hn (e1▸h.1 b hb)
  ·rcases mem_cons.1 hb with e2|hb
   ·exact absurd hn.symm (e2▸h.1 a ha)
   ·exact ih h.2 ha hb
theorem QO:∀ (N:Nat) (e:Expr),SizeOf.sizeOf e<N→paC e
 | 0,_,h=>by omega
 | N+1,e,h=>by
  intro l hg;rw[Dz,HP]
  by_cases h0:e.kids.length=0
  ·rw[if_pos h0,if_pos h0]
   by_cases h1:e.k=0∧Ju e.atom=true
   ·rw[if_pos h1,if_pos h1];simp only;unfold EV;cases hf:l.find? (hit e.atom) with
    |some b =>
     have hb:=List.mem_of_find?_eq_some hf;have hh:=List.find?_some hf
     by_cases hab:e.atom=b
     ·have:Ds l e.atom=l:=by unfold Ds;rw[if_pos (hab▸hb)]
      rw[this];simp[hab,hg]
     ·simp[hab];have hname:e.atom.name=b.name:=by
       unfold hit at hh;simpa [hab]using hh
      intro hgo;have hb':b∈Ds l e.atom:=(MG l e.atom).subset hb;have ha':e.atom∈Ds l e.atom:=by unfold Ds;split<;>simp_all
      exact hab (bD hgo.2 ha' hb' hname)
    |none =>
     have hno:∀ x∈l,e.atom≠x∧e.atom.name≠x.name:=by
      intro x hx;rw[List.find?_eq_none]at hf;have:=hf x hx;unfold hit at this;simpa using this
     have hm:e.atom∉l:=fun hx=>(hno _ hx).1 rfl
     have hE:Ds l e.atom=l++[e.atom]:=by unfold Ds;rw[if_neg hm]
     rw[hE]
     by_cases h8:l.length=8
     ·simp[h8];intro hgo;have:=hgo.1;simp at this;omega
     ·simp[h8];refine⟨by have:=hg.1;simp;omega,?_⟩;rw[List.pairwise_append];refine⟨hg.2,by simp,fun a ha b hb=>?_⟩;rw[mem_singleton.1 hb];exact fun hx=>(hno a ha).2 hx.symm
   ·rw[if_neg h1,if_neg h1];simp
  ·rw[if_neg h0,if_neg h0]
   by_cases h1:e.k<1∨(e.kids.length:Int)<e.k∨e.atom≠a0
   ·rw[if_pos h1,if_pos h1];simp
   ·rw[if_neg h1,if_neg h1];exact Sl e.kids (fun e' he=>QO N e' (by have:=CX he;omega)) l hg
theorem db{e:Expr}(h:A4 e=true):F5 e≠0∧Gc e []=(Ag e,true)∧I5 (Ag e):=by
 have hp:=Eh h;have hk:=(QO _ e (lt_succ_self _) [] ⟨by simp,by simp⟩).1 hp;have hc:=G1 _ e (lt_succ_self _) [] hp;have ha:Ag e=(prop e []).2:=by unfold Ag;rw[if_pos h,hc]
 rw[ha];refine⟨?_,hk⟩;rw[Ne,KV];simp[A4]at h;exact h.1
theorem bG{e:Expr}(h:A4 e=false)(hn:F5 e≠0)(ha:(Gc e []).2=true):¬ I5 (Gc e []).1:=by
 have hk:=(QO _ e (lt_succ_self _) [] ⟨by simp,by simp⟩).2;rw[Ne,KV]at hn;refine hk ?_ ha;simp[A4,hn]at h;exact h
theorem f150_ok(e:Expr):Ad C0 150 [.agg e.c] [] (.tup [Bv (Ag e),B (A4 e)]) []:=by
 refine Ad.go f150 ?_;unfold f150;refine gO ?_;refine Ac (f232_ok e) ?_;have bad:A4 e=false→Ag e=[]:=fun h=>by simp[Ag,h]
 by_cases hn:F5 e=0
 ·have e0:(F5 e==0)=true:=by simp[hn]
  have hx:A4 e=false:=by simp[A4,(KV e).1 hn]
  simp(disch:=omega)only[go_sem,e0,hx,bad hx];exact EL _
 have e0:(F5 e==0)=false:=by simp[hn]
 have hc:=Yf hn;have hl:=PH _ e (lt_succ_self _) [];have hcall:=f233_ok _ e (lt_succ_self _) [] (by simp;omega);have hok:=@db e;have hbad:=@bG e;simp(disch:=omega)only[go_sem,e0];generalize Gc e []=x at hl hcall hok hbad;obtain⟨m,ok⟩:=x;cases ok
 ·have hx:A4 e=false:=by
   cases h:A4 e
   ·rfl
   ·have:=(hok h).2.1;simp at this
  refine Bn ⟨⟨[],[],[]⟩,[(1,832)],[]⟩ (show Ad C0 233 [CS 0 [],.agg e.c] [] (.tup [.undef,B false]) [] from hcall) (by simp(disch:=omega)only[go_sem,map_nil];exact .AG (by omega)) rfl gI (.inl rfl) ?_;simp(disch:=omega)only[go_sem,hx,bad hx];exact EL _
 simp only[List.length_nil]at hl;refine Bn ⟨⟨[],[],[]⟩,[(1,832)],[]⟩ (show Ad C0 233 [CS 0 [],.agg e.c] [] (.tup [CS 1 m,B true]) [] from hcall) (by simp(disch:=omega)only[go_sem,map_nil];exact .AG (by omega)) rfl gI (.inl rfl) ?_;have hb2:A4 e=false→¬ I5 m:=fun h=>hbad h hn rfl
 have hng:¬ I5 m→A4 e=false:=fun h=>by
  cases hx:A4 e
  ·rfl
  ·have h2:=hok hx;have:m=Ag e:=by have:=h2.2.1;simp at this;exact this
   exact absurd (this▸h2.2.2) h
 by_cases h8:8<m.length
 ·have d8:(8<(m.length:Int))=True:=by simp;omega
  have hx:A4 e=false:=hng fun h=>by have:=h.1;omega
  simp(disch:=omega)only[go_sem,d8,hx,bad hx];exact EL _
 have d8:(8<(m.length:Int))=False:=by simp;omega
 simp(disch:=omega)only[go_sem,d8,decide_false];refine Ab (α:=Nat) (fun i=>⟨[(6,I i),(4,CS 832 m)],[]⟩) (fun i=>i≤m.length∧(m.take i).Pairwise fun a b=>a.name≠b.name) (fun i=>m.length-i) 0 ⟨by omega,by simp⟩ ?_ ?_
 ·refine Imp.Am ?_ ?_
  ·exact gI
  ·exact gI
 rintro i ⟨hi,hP⟩ J hJ;refine gO ?_;refine ⟨fun hlt=>?_,fun hge=>?_⟩;rotate_left
 ·have hil:i=m.length:=by simp at hge;omega
  subst hil;rw[take_length]at hP;have hg:I5 m:=⟨by omega,hP⟩;have hx:A4 e=true:=by
   cases h:A4 e
   ·exact absurd hg (hb2 h)
   ·rfl
  have hm:m=Ag e:=by have:=(hok hx).2.1;simp at this;exact this
  simp(disch:=omega)only[go_sem,hx,← hm];refine Cf ⟨[],[],[832]⟩ _ ?_;simp(disch:=omega)only[go_sem,hm]
 obtain⟨b,hb⟩:∃ b,m[i]?=some b:=⟨_,gE (by simp at hlt;omega)⟩;have hlt2:i<m.length:=by simp at hlt;omega
 refine Ab (α:=Nat) (fun j=>⟨[(7,I j),(6,I i),(4,CS 832 m)],[]⟩) (fun j=>j≤i∧∀ x∈m.take j,x.name≠b.name) (fun j=>i-j) 0 ⟨by omega,by simp⟩ ?_ ?_
 ·refine Imp.Am ?_ ?_
  ·exact gI
  ·exact gI
 rintro j ⟨hj,hQ⟩ K hK;refine gO ?_;refine And.intro (fun hlt'=>?_) (fun hge'=>?_);rotate_left
 ·have hji:j=i:=by simp at hge';omega
  subst hji;refine hJ _ (j+1) ⟨by omega,?_⟩ (by omega) (Imp.Am ?_ ?_)
  ·rw[take_add_one,hb,List.pairwise_append];exact⟨hP,by simp,fun a ha c hc=>by simp at hc;rw[hc];exact hQ a ha⟩
  ·exact gI
  ·exact gI
 ·have hjl:j<i:=by simp at hlt';omega
  obtain⟨c,hc'⟩:∃ c,m[j]?=some c:=⟨_,gE (by omega)⟩;refine Aq 10 [([],[4]),([],[6]),([],[34,35]),([],[36]),([],[37]),([],[4]),([],[7]),([],[39,40]),([],[41]),([],[42])] fol ?_;simp(disch:=omega)only[go_sem,gm,hb,hc']
  by_cases hne:b.name=c.name
  ·have e9:(b.name==c.name)=true:=by simp[hne]
   have hx:A4 e=false:=hng fun h=>by
    have:=List.pairwise_iff_getElem.1 h.2 j i (by omega) hlt2 hjl;rw[gE (by omega)]at hb hc';simp at hb hc';rw[hb,hc']at this;exact this hne.symm
   simp(disch:=omega)only[go_sem,e9,hx,bad hx];exact EL _
  ·have e9:(b.name==c.name)=false:=by simp[hne]
   simp(disch:=omega)only[go_sem,e9];refine hK _ (j+1) ⟨by omega,?_⟩ (by omega) AR;intro x hx;rw[take_add_one,hc']at hx;simp only[Option.toList,mem_append,mem_singleton]at hx;rcases hx with hx|hx
   ·exact hQ x hx
   ·rw[hx];exact fun h=>hne h.symm
theorem f106_ok(e:Expr):Ad C0 106 [.agg e.c] [] (B (A4 e)) []:=by
 refine Ad.go f106 ?_;unfold f106;refine gO ?_;refine Ac (f150_ok e) ?_;refine gO ?_;exact AE _
theorem f93_ok(e:Expr):Ad C0 93 [.agg e.c] [] (Bv (Ag e)) []:=by
 refine Ad.go f93 ?_;unfold f93;refine gO ?_;refine Ac (f150_ok e) ?_;refine gO ?_;exact AE _
end Go.Rd
