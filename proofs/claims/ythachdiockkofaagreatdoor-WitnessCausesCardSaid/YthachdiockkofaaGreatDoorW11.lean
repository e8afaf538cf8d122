/- part 11 of the proof -/
import Derived.Test.YthachdiockkofaaGreatDoorW10
set_option linter.all false
open Go Go.Abs Go.Proofs
set_option maxRecDepth 100000
namespace Go.Rd
set_option maxHeartbeats 8000000
open List (all_cons any_cons any_nil mem_append take_add_one take_length)
open Tryz
theorem wb{a b:Bool}(h:a=b):BW (.v (.bool a)) (B b):=.eq (by rw[h])
theorem wi{a b:Int}(h:a=b):BW (.v (.int .i64 a)) (I b):=.eq (by rw[h])
def Be(l:List Ae)(p:Ae):Bool:=decide (p∈l)
theorem Rg{α:Type}[DecidableEq α]{l:List α}{p:α}(h:l.find? (fun x=>decide (x=p))=none):p∉l:=by
 rw[List.find?_eq_none]at h;intro hp;simpa using h p hp
theorem f29_ok(l:List Ae)(p:Ae)(hl:l.length≤1000000):Ad C0 29 [Ax l,.agg p.c] [] (B (Be l p)) []:=by
 refine Ad.go f29 ?_;unfold f29;refine gO ?_;refine Ab (α:=Nat) (fun i=>⟨[(5,I i),(0,Ax l),(3,.ptr 192 0)],[(192,p.c)]⟩) (fun i=>i≤(l).length∧(l.take i).find? (fun x=>decide (x=p))=none) (fun i=>(l).length-i) 0 ⟨by omega,rfl⟩ ?_ ?_
 ·exact BB
 rintro i ⟨hi,hP⟩ J hJ;refine gO ?_;refine ⟨fun hlt=>?_,fun hge=>?_⟩;rotate_left;have hil:i=(l).length:=by simp at hge;omega
 rotate_left;obtain⟨b,hb⟩:∃ b,(l)[i]?=some b:=⟨_,gE (by simp at hlt;omega)⟩;have hbm:=mG hb;have hlt2:i<(l).length:=by simp at hlt;omega
 refine Aq 5 [([],[0]),([],[5]),([],[12,13]),([],[14]),([],[3])] fol ?_;simp(disch:=omega)only[go_sem,gm,hb]
 ·refine⟨fun h=>?_,fun h=>?_⟩
  ·have e:Be l p=true:=by simp at h;subst h;simp[Be,hbm]
   simp(disch:=omega)only[go_sem,e];exact AE _
  ·refine hJ _ (i+1) ⟨by simp at hlt;omega,(by rw[BS hP hb];simp at h;simp[h])⟩ (by simp at hlt;omega) AR
 ·subst hil;rw[take_length]at hP;have e:Be l p=false:=by simp[Be,Rg hP]
  simp(disch:=omega)only[go_sem,e];exact AE _
def ord(a b:Int):Int:=if a<b then -1 else if b<a then 1 else 0
theorem f159_ok(a b:Int):Ad C0 159 [I a,I b] [] (I (ord a b)) []:=by
 refine Ad.go f159 ?_;unfold f159;simp(disch:=omega)only[go_sem]
 repeat'(with_reducible refine And.intro (fun h=>?_) (fun h=>?_))
 all_goals(refine B8 _ ?_)
 all_goals(try simp(disch:=omega)only[go_sem])
 all_goals(first|refine wb ?_|refine wi ?_|refine .eq ?_)
 all_goals(first|(simp_all[ord]<;>omega)|(refine Bool.eq_iff_iff.2 ?_;simp_all[ord]<;>omega))
theorem YU(p q:Ae):Bo p q=if ord p.site q.site≠0 then ord p.site q.site else if ord p.inc q.inc≠0 then ord p.inc q.inc else ord p.num q.num:=by
 unfold Bo ord
 repeat' split
 all_goals first|rfl|omega
theorem f107_ok(p q:Ae):Ad C0 107 [.agg p.c,.agg q.c] [] (I (Bo p q)) []:=by
 refine Ad.go f107 ?_;unfold f107;refine gO ?_;refine Ac (f159_ok p.site q.site) ?_;refine gO ?_;have hc:=YU p q;refine⟨fun h=>?_,fun h=>?_⟩
 ·simp at h;rw[if_pos h]at hc;refine Ap _ ?_;exact .eq (by rw[hc])
 simp at h;rw[if_neg (by simp[h])]at hc;refine Ac (f159_ok p.inc q.inc) ?_;refine gO ?_;refine⟨fun h=>?_,fun h=>?_⟩
 ·simp at h;rw[if_pos h]at hc;refine Ap _ ?_;exact .eq (by rw[hc])
 simp at h;rw[if_neg (by simp[h])]at hc;refine Ac (f159_ok p.num q.num) ?_;refine gO ?_;refine Ap _ ?_;exact .eq (by rw[hc])
theorem f162_ok(a:Amt):Ad C0 162 [.agg a.c] [] (B a.zero) []:=by
 refine Ad.go f162 ?_;unfold f162;simp(disch:=omega)only[go_sem]
 repeat'(with_reducible refine And.intro (fun h=>?_) (fun h=>?_))
 all_goals(refine B8 _ ?_)
 all_goals(try simp(disch:=omega)only[go_sem])
 all_goals(first|refine wb ?_|refine wi ?_|refine .eq ?_)
 all_goals(first|(simp_all[Amt.zero]<;>omega)|(refine Bool.eq_iff_iff.2 ?_;simp_all[Amt.zero]<;>omega))
theorem f250_ok(r:Res):Ad C0 250 [.agg r.c] [] (B r.shaped) []:=by
 refine Ad.go f250 ?_;unfold f250;simp(disch:=omega)only[go_sem]
 repeat'(with_reducible refine And.intro (fun h=>?_) (fun h=>?_))
 all_goals(refine B8 _ ?_)
 all_goals(try simp(disch:=omega)only[go_sem])
 all_goals(first|refine wb ?_|refine wi ?_|refine .eq ?_)
 all_goals(first|(simp_all[Res.shaped,AL]<;>omega)|(refine Bool.eq_iff_iff.2 ?_;simp_all[Res.shaped,AL]<;>omega))
theorem f251_ok(m:Int):Ad C0 251 [I m] [] (B (Bf m)) []:=by
 refine Ad.go f251 ?_;unfold f251;simp(disch:=omega)only[go_sem]
 repeat'(with_reducible refine And.intro (fun h=>?_) (fun h=>?_))
 all_goals(refine B8 _ ?_)
 all_goals(try simp(disch:=omega)only[go_sem])
 all_goals(first|refine wb ?_|refine wi ?_|refine .eq ?_)
 all_goals(first|(simp_all[Bf,AL]<;>omega)|(refine Bool.eq_iff_iff.2 ?_;simp_all[Bf,AL]<;>omega))
theorem f171_ok(r:Res)(a:Amt):Ad C0 171 [.agg r.c,.agg a.c] [] (B (r.fits a)) []:=by
 refine Ad.go f171 ?_;unfold f171;simp(disch:=omega)only[go_sem]
 repeat'(first
  |(with_reducible refine And.intro (fun h=>?_) (fun h=>?_))
  |((with_reducible show AY _ _ 250 _ _ _);refine Ai (f250_ok r) ?_ rfl ?_;(focus(simp(disch:=omega)only[go_sem];done));try simp(disch:=omega)only[go_sem])
  |((with_reducible show AY _ _ 251 _ _ _);refine Ai (f251_ok a.mode) ?_ rfl ?_;(focus(simp(disch:=omega)only[go_sem];done));try simp(disch:=omega)only[go_sem]))
 all_goals(refine B8 _ ?_)
 all_goals(try simp(disch:=omega)only[go_sem])
 all_goals(first|refine wb ?_|refine wi ?_|refine .eq ?_)
 all_goals(first|(simp_all[Res.fits,AL]<;>omega)|(refine Bool.eq_iff_iff.2 ?_;simp_all[Res.fits,AL]<;>omega))
theorem f153_ok(l:List AS)(p:Ae)(hl:l.length≤1000000):Ad C0 153 [A7 l,.agg p.c] [] (I (E3 l p)) []:=by
 refine Ad.go f153 ?_;unfold f153;refine gO ?_;refine Ab (α:=Nat) (fun i=>⟨[(5,I i),(0,A7 l),(3,.ptr 192 0)],[(192,p.c)]⟩) (fun i=>i≤(l).length∧(l.take i).find? (fun h=>decide (h.proc=p))=none) (fun i=>(l).length-i) 0 ⟨by omega,rfl⟩ ?_ ?_
 ·exact BB
 rintro i ⟨hi,hP⟩ J hJ;refine gO ?_;refine ⟨fun hlt=>?_,fun hge=>?_⟩;rotate_left;have hil:i=(l).length:=by simp at hge;omega
 rotate_left;obtain⟨b,hb⟩:∃ b,(l)[i]?=some b:=⟨_,gE (by simp at hlt;omega)⟩;have hbm:=mG hb;have hlt2:i<(l).length:=by simp at hlt;omega
 refine Aq 6 [([],[0]),([],[5]),([],[12,13]),([],[14]),([],[15]),([],[3])] fol ?_;simp(disch:=omega)only[go_sem,gm,hb]
 ·refine⟨fun h=>?_,fun h=>?_⟩
  ·have e:E3 l p=i:=by unfold E3;rw[FA hP b hb (by simpa using h)]
   simp(disch:=omega)only[go_sem,e];exact AE _
  ·refine hJ _ (i+1) ⟨by simp at hlt;omega,(by rw[BS hP hb];simp at h;simp[h])⟩ (by simp at hlt;omega) AR
 ·subst hil;rw[take_length]at hP;have e:E3 l p = -1:=by
   unfold E3;have:l.findIdx? (fun h=>decide (h.proc=p))=none:=by
    rw[List.findIdx?_eq_none_iff];rw[List.find?_eq_none]at hP;intro x hx;simpa using hP x hx
   rw[this]
  simp(disch:=omega)only[go_sem,e];exact AE _
theorem f244_ok(l:List AO)(p:Ae)(hl:l.length≤1000000):Ad C0 244 [AH l,.agg p.c] [] (.agg (AB l p).c) []:=by
 refine Ad.go f244 ?_;unfold f244;refine gO ?_;refine Ab (α:=Nat) (fun i=>⟨[(5,I i),(0,AH l),(3,.ptr 192 0),(4,.ptr 256 0)],[(192,p.c),(256,(⟨0,0⟩:Amt).c)]⟩) (fun i=>i≤(l).length∧(l.take i).find? (fun h=>decide (h.proc=p))=none) (fun i=>(l).length-i) 0 ⟨by omega,rfl⟩ ?_ ?_
 ·exact BB
 rintro i ⟨hi,hP⟩ J hJ;refine gO ?_;refine ⟨fun hlt=>?_,fun hge=>?_⟩;rotate_left;have hil:i=(l).length:=by simp at hge;omega
 rotate_left;obtain⟨b,hb⟩:∃ b,(l)[i]?=some b:=⟨_,gE (by simp at hlt;omega)⟩;have hbm:=mG hb;have hlt2:i<(l).length:=by simp at hlt;omega
 refine Aq 6 [([],[0]),([],[5]),([],[12,13]),([],[14]),([],[15]),([],[3])] fol ?_;simp(disch:=omega)only[go_sem,gm,hb]
 ·refine⟨fun h=>?_,fun h=>?_⟩
  ·have e:AB l p=b.amt:=by unfold AB;rw[GI hP hb (by simpa using h)]
   simp(disch:=omega)only[go_sem,e];exact AE _
  ·refine hJ _ (i+1) ⟨by simp at hlt;omega,(by rw[BS hP hb];simp at h;simp[h])⟩ (by simp at hlt;omega) AR
 ·subst hil;rw[take_length]at hP;have e:AB l p=⟨0,0⟩:=by unfold AB;rw[hP]
  simp(disch:=omega)only[go_sem,e];exact AE _
theorem f284_ok(c:UInt8):Ad C0 284 [.v (.int .u8 c.toNat)] [] (B (letter c)) []:=by
 refine Ad.go f284 ?_;unfold f284;simp(disch:=omega)only[go_sem]
 repeat'(with_reducible refine And.intro (fun h=>?_) (fun h=>?_))
 all_goals(refine B8 _ ?_)
 all_goals(try simp(disch:=omega)only[go_sem])
 all_goals(first|refine wb ?_|refine wi ?_|refine .eq ?_)
 all_goals(first|(simp_all[letter]<;>omega)|(refine Bool.eq_iff_iff.2 ?_;simp_all[letter]<;>omega))
theorem f285_ok(s:Bs):Ad C0 285 [.v (.string (str s))] [] (B (reserved s)) []:=by
 refine Ad.go f285 ?_;unfold f285;simp(disch:=omega)only[go_sem]
 repeat'(first
  |(with_reducible refine And.intro (fun h=>?_) (fun h=>?_))
)
 all_goals(refine B8 _ ?_)
 all_goals(try simp(disch:=omega)only[go_sem])
 all_goals(first|refine wb ?_|refine wi ?_|refine .eq ?_)
 all_goals(first|(simp_all[reserved]<;>omega)|(refine Bool.eq_iff_iff.2 ?_;simp_all[reserved]<;>omega))
def part(c:UInt8):Bool:=letter c||other c
theorem f286_ok(c:UInt8):Ad C0 286 [.v (.int .u8 c.toNat)] [] (B (part c)) []:=by
 refine Ad.go f286 ?_;unfold f286;simp(disch:=omega)only[go_sem]
 repeat'(first
  |(with_reducible refine And.intro (fun h=>?_) (fun h=>?_))
  |((with_reducible show AY _ _ 284 _ _ _);refine Ai (f284_ok c) ?_ rfl ?_;(focus(simp(disch:=omega)only[go_sem];done));try simp(disch:=omega)only[go_sem]))
 all_goals(refine B8 _ ?_)
 all_goals(try simp(disch:=omega)only[go_sem])
 all_goals(first|refine wb ?_|refine wi ?_|refine .eq ?_)
 all_goals(first|(simp_all[part,letter,other]<;>omega)|(refine Bool.eq_iff_iff.2 ?_;simp_all[part,letter,other]<;>omega))
theorem Wg(s:Bs):Dd s=(decide (1≤s.length)&&decide (s.length≤12)&&(match s with | []=>false|c::_=>letter c)&&!reserved s&&s.all part):=by
 cases s with
 | nil=>rfl
 | cons c l =>
  have h:∀ (l:List UInt8) (k:Nat),((l.zipIdx (k+1)).all fun x=>okc x.2 x.1)=l.all part:=by
   intro l
   induction l with
   | nil=>intro k;rfl
   | cons x l ih =>
    intro k;simp only[List.zipIdx_cons,all_cons,ih];simp[okc,part]
  simp only[Dd,B2,List.zipIdx_cons,all_cons,h];simp only[okc,part];cases letter c<;>simp
theorem PK{α:Type}{f:α→Bool}{l:List α}{i:Nat}{b:α}(hb:l[i]?=some b):(l.take (i+1)).all f=((l.take i).all f&&f b):=by
 simp[take_add_one,hb,List.all_append]
theorem all_false{α:Type}{f:α→Bool}{l:List α}{b:α}(hb:b∈l)(h:f b=false):l.all f=false:=by
 rw[List.all_eq_false];exact⟨b,hb,by simp[h]⟩
theorem UP(c:UInt8)(l s:Bs)(hs:s=c::l):Dd s=(decide (s.length≤12)&&letter c&&!reserved s&&s.all part):=by
 rw[Wg];subst hs;simp
theorem f247_ok(s:Bs):Ad C0 247 [.v (.string (str s))] [] (B (Dd s)) []:=by
 refine Ad.go f247 ?_;unfold f247;cases hs:s with
 | nil =>
  simp(disch:=omega)only[go_sem,List.length_nil];refine Ap _ ?_;exact wb (by decide)
 | cons c l =>
  have e3:s[0]?=some c:=by rw[hs];rfl
  have hk:=UP c l s hs;have e1:((s.length:Int)<1)=False:=by rw[hs];simp;omega
  rw[← hs];clear hs
  by_cases h2:12<s.length
  ·have e2:(12<(s.length:Int))=True:=by simp;omega
   simp(disch:=omega)only[go_sem,e1,e2,decide_false];refine Ap _ ?_;exact .eq (by rw[hk];simp;omega)
  ·have e2:(12<(s.length:Int))=False:=by simp;omega
   have e5:decide (s.length≤12)=true:=by simp;omega
   rw[e5]at hk;simp(disch:=omega)only[go_sem,e1,e2,e3,decide_false];refine Ac (f284_ok c) ?_;cases hc:letter c
   ·rw[hc]at hk;simp(disch:=omega)only[go_sem,Bool.not_false,hk];exact AE _
   simp(disch:=omega)only[go_sem,Bool.not_true];refine Ac (f285_ok s) ?_;cases hr:reserved s;rotate_left
   ·rw[hr]at hk;simp(disch:=omega)only[go_sem,hk];exact AE _
   refine gO ?_;refine Ab (α:=Nat) (fun i=>⟨[(3,I i),(0,.v (.string (str s)))],[]⟩) (fun i=>i≤(s).length∧(s.take i).all part=true) (fun i=>(s).length-i) 0 ⟨by omega,rfl⟩ ?_ ?_
   ·exact BB
   rintro i ⟨hi,hP⟩ J hJ;refine gO ?_;refine ⟨fun hlt=>?_,fun hge=>?_⟩;rotate_left;have hil:i=(s).length:=by simp at hge;omega
   rotate_left;obtain⟨b,hb⟩:∃ b,(s)[i]?=some b:=⟨_,gE (by simp at hlt;omega)⟩;have hbm:=mG hb;have hlt2:i<(s).length:=by simp at hlt;omega
   simp(disch:=omega)only[go_sem,gm,hb]
   ·refine Ac (f286_ok b) ?_;cases hp:part b
    ·simp(disch:=omega)only[go_sem,Bool.not_false];refine Ap _ ?_;exact .eq (by rw[hk,all_false hbm hp];simp)
    ·simp(disch:=omega)only[go_sem,Bool.not_true];refine hJ _ (i+1) ⟨by simp at hlt;omega,(by rw[PK hb,hP,hp];rfl)⟩ (by simp at hlt;omega) AR
   ·subst hil;rw[take_length]at hP;refine Ap _ ?_;exact .eq (by rw[hk,hc,hr,hP];rfl)
theorem f246_ok(r:Res):Ad C0 246 [.agg r.c] [] (B (Dd r.name&&r.shaped&&AL r.home 0 3)) []:=by
 refine Ad.go f246 ?_;unfold f246;simp(disch:=omega)only[go_sem]
 repeat'(first
  |(with_reducible refine And.intro (fun h=>?_) (fun h=>?_))
  |((with_reducible show AY _ _ 247 _ _ _);refine Ai (f247_ok r.name) ?_ rfl ?_;(focus(simp(disch:=omega)only[go_sem];done));try simp(disch:=omega)only[go_sem])
  |((with_reducible show AY _ _ 250 _ _ _);refine Ai (f250_ok r) ?_ rfl ?_;(focus(simp(disch:=omega)only[go_sem];done));try simp(disch:=omega)only[go_sem]))
 all_goals(refine B8 _ ?_)
 all_goals(try simp(disch:=omega)only[go_sem])
 all_goals(first|refine wb ?_|refine wi ?_|refine .eq ?_)
 all_goals(first|(simp_all[AL]<;>omega)|(refine Bool.eq_iff_iff.2 ?_;simp_all[AL]<;>omega))
theorem f287_ok(a b:Int):Ad C0 287 [I a,I b] [] (B (Bd a b)) []:=by
 refine Ad.go f287 ?_;unfold f287;refine gO ?_;refine Ac (f251_ok a) ?_;cases ha:Bf a
 ·simp(disch:=omega)only[go_sem,Bool.not_false];refine Ap _ ?_;exact .eq (by simp[Bd,ha])
 simp(disch:=omega)only[go_sem,Bool.not_true];refine Ac (f251_ok b) ?_;cases hb:Bf b
 ·simp(disch:=omega)only[go_sem,Bool.not_false];refine Ap _ ?_;exact .eq (by simp[Bd,hb])
 simp(disch:=omega)only[go_sem,Bool.not_true];obtain rfl|rfl|rfl|rfl|rfl:=AT ha<;>obtain rfl|rfl|rfl|rfl|rfl:=AT hb
 all_goals(try simp(disch:=omega)only[go_sem])
 all_goals(refine B8 _ ?_)
 all_goals simp(disch:=omega)only[go_sem]
 all_goals exact wb (by decide)
theorem f289_ok(r:Res)(a:Amt):Ad C0 289 [.agg r.c,.agg a.c] [] (B (r.permits a)) []:=by
 refine Ad.go f289 ?_;unfold f289;simp(disch:=omega)only[go_sem]
 repeat'(first
  |(with_reducible refine And.intro (fun h=>?_) (fun h=>?_))
  |((with_reducible show AY _ _ 250 _ _ _);refine Ai (f250_ok r) ?_ rfl ?_;(focus(simp(disch:=omega)only[go_sem];done));try simp(disch:=omega)only[go_sem])
  |((with_reducible show AY _ _ 162 _ _ _);refine Ai (f162_ok a) ?_ rfl ?_;(focus(simp(disch:=omega)only[go_sem];done));try simp(disch:=omega)only[go_sem])
  |((with_reducible show AY _ _ 171 _ _ _);refine Ai (f171_ok r a) ?_ rfl ?_;(focus(simp(disch:=omega)only[go_sem];done));try simp(disch:=omega)only[go_sem]))
 all_goals(refine B8 _ ?_)
 all_goals(try simp(disch:=omega)only[go_sem])
 all_goals(first|refine wb ?_|refine wi ?_|refine .eq ?_)
 all_goals(first|(simp_all[Res.permits]<;>omega)|(refine Bool.eq_iff_iff.2 ?_;simp_all[Res.permits]<;>omega))
theorem f105_ok(p:Ae):Ad C0 105 [.agg p.c] [] (B p.ok) []:=by
 refine Ad.go f105 ?_;unfold f105;simp(disch:=omega)only[go_sem]
 repeat'(with_reducible refine And.intro (fun h=>?_) (fun h=>?_))
 all_goals(refine B8 _ ?_)
 all_goals(try simp(disch:=omega)only[go_sem])
 all_goals(first|refine wb ?_|refine wi ?_|refine .eq ?_)
 all_goals(first|(simp_all[Ae.ok,AL]<;>omega)|(refine Bool.eq_iff_iff.2 ?_;simp_all[Ae.ok,AL]<;>omega))
theorem f304_ok(a b:Int):Ad C0 304 [I a,I b] [] (B (BF a b)) []:=by
 refine Ad.go f304 ?_;unfold f304;refine gO ?_;refine Ac (f251_ok a) ?_;cases ha:Bf a
 ·simp(disch:=omega)only[go_sem,Bool.not_false];refine Ap _ ?_;exact .eq (by simp[BF,ha])
 simp(disch:=omega)only[go_sem,Bool.not_true];refine Ac (f251_ok b) ?_;cases hb:Bf b
 ·simp(disch:=omega)only[go_sem,Bool.not_false];refine Ap _ ?_;exact .eq (by simp[BF,hb])
 simp(disch:=omega)only[go_sem,Bool.not_true];obtain rfl|rfl|rfl|rfl|rfl:=AT ha<;>obtain rfl|rfl|rfl|rfl|rfl:=AT hb
 all_goals(try simp(disch:=omega)only[go_sem])
 all_goals(refine B8 _ ?_)
 all_goals simp(disch:=omega)only[go_sem]
 all_goals exact wb (by decide)
theorem MQ(a b:Int):BF a b=BF b a:=by
 cases ha:Bf a
 ·simp[BF,ha]
 cases hb:Bf b
 ·simp[BF,hb]
 obtain rfl|rfl|rfl|rfl|rfl:=AT ha<;>obtain rfl|rfl|rfl|rfl|rfl:=AT hb<;>decide
theorem f303_ok(l:List AO)(hl:l.length≤1000000):Ad C0 303 [AH l] [] (OE (l.map (·.amt))) []:=by
 refine Ad.go f303 ?_;unfold f303;refine gO ?_;refine Ab (α:=Nat) (fun i=>⟨[(4,I i),(0,AH l),(3,.sl (.own 1152 0) 2 ((l.take i).map fun h=>h.amt.c))],[]⟩) (fun i=>i≤(l).length∧True) (fun i=>(l).length-i) 0 ⟨by omega,trivial⟩ ?_ ?_
 ·exact BB
 rintro i ⟨hi,hP⟩ J hJ;refine gO ?_;refine ⟨fun hlt=>?_,fun hge=>?_⟩;rotate_left;have hil:i=(l).length:=by simp at hge;omega
 rotate_left;obtain⟨b,hb⟩:∃ b,(l)[i]?=some b:=⟨_,gE (by simp at hlt;omega)⟩;have hbm:=mG hb;have hlt2:i<(l).length:=by simp at hlt;omega
 simp(disch:=omega)only[go_sem,gm,hb]
 ·refine hJ _ (i+1) ⟨by simp at hlt;omega,trivial⟩ (by simp at hlt;omega) (Imp.Am ?_ gI);refine gO ?_;exact .sl (by simp[take_add_one,hb,Amt.c])
 ·subst hil;refine Cf ⟨[],[],[1152]⟩ _ ?_;simp(disch:=omega)only[go_sem,take_length];exact .sl (by simp[Amt.c])
theorem f274_ok(a:Amt):Ad C0 274 [.agg a.c] [] (B (GX.fits a||G0.fits a)) []:=by
 have e:(GX.fits a||G0.fits a)=(Bf a.mode&&a.AA==0||(a.mode==0&&decide (1≤a.AA)&&decide (a.AA≤8))):=by
  refine Bool.eq_iff_iff.2 ?_;simp[GX,G0,Res.fits,Res.shaped,AL,and_assoc];exact⟨fun h=>h.imp id fun h=>⟨h.1,h.2.1,of_decide_eq_true h.2.2⟩,fun h=>h.imp id fun h=>⟨h.1,h.2.1,decide_eq_true h.2.2⟩⟩
 rw[e];refine Ad.go f274 ?_;unfold f274;simp(disch:=omega)only[go_sem]
 repeat'(first
  |(with_reducible refine And.intro (fun h=>?_) (fun h=>?_))
  |((with_reducible show AY _ _ 251 _ _ _);refine Ai (f251_ok a.mode) ?_ rfl ?_;(focus(simp(disch:=omega)only[go_sem];done));try simp(disch:=omega)only[go_sem]))
 all_goals(refine B8 _ ?_)
 all_goals(try simp(disch:=omega)only[go_sem])
 all_goals(first|refine wb ?_|refine wi ?_|refine .eq ?_)
 all_goals(first|(simp_all[]<;>omega)|(refine Bool.eq_iff_iff.2 ?_;simp_all[]<;>omega))
theorem f315_ok(w:AS):Ad C0 315 [.agg w.c] [] (B w.ok) []:=by
 refine Ad.go f315 ?_;unfold f315;simp(disch:=omega)only[go_sem]
 repeat'(first
  |(with_reducible refine And.intro (fun h=>?_) (fun h=>?_))
  |((with_reducible show AY _ _ 105 _ _ _);refine Ai (f105_ok w.proc) ?_ rfl ?_;(focus(simp(disch:=omega)only[go_sem];done));try simp(disch:=omega)only[go_sem])
  |((with_reducible show AY _ _ 274 _ _ _);refine Ai (f274_ok w.amt) ?_ rfl ?_;(focus(simp(disch:=omega)only[go_sem];done));try simp(disch:=omega)only[go_sem]))
 all_goals(refine B8 _ ?_)
 all_goals(try simp(disch:=omega)only[go_sem])
 all_goals(first|refine wb ?_|refine wi ?_|refine .eq ?_)
 all_goals(first|(simp_all[AS.ok,AL]<;>omega)|(refine Bool.eq_iff_iff.2 ?_;simp_all[AS.ok,AL]<;>omega))
theorem f282_ok(l:List AS)(hl:l.length≤1000000):Ad C0 282 [A7 l] [] (B (Dm l)) []:=by
 refine Ad.go f282 ?_;unfold f282
 by_cases h1:8<l.length
 ·have e1:(8<(l.length:Int))=True:=by simp;omega
  simp(disch:=omega)only[go_sem,e1];refine Ap _ ?_;exact .eq (by simp[Dm];omega)
 have e1:(8<(l.length:Int))=False:=by simp;omega
 simp(disch:=omega)only[go_sem,e1,decide_false];refine Ab (α:=Nat) (fun i=>⟨[(3,I i),(0,A7 l)],[]⟩) (fun i=>i≤(l).length∧B2 (ET l) (l.take i)=true) (fun i=>(l).length-i) 0 ⟨by omega,rfl⟩ ?_ ?_
 ·exact BB
 rintro i ⟨hi,hP⟩ J hJ;refine gO ?_;refine ⟨fun hlt=>?_,fun hge=>?_⟩;rotate_left;have hil:i=(l).length:=by simp at hge;omega
 rotate_left;obtain⟨b,hb⟩:∃ b,(l)[i]?=some b:=⟨_,gE (by simp at hlt;omega)⟩;have hbm:=mG hb;have hlt2:i<(l).length:=by simp at hlt;omega
 simp(disch:=omega)only[go_sem,gm,hb]
 ·refine Ac (f315_ok b) ?_;cases hw:b.ok
  ·have e:Dm l=false:=by simp[Dm,Bx hb (show ET l i b=false by simp[ET,hw])]
   simp(disch:=omega)only[go_sem,Bool.not_false,e];exact AE _
  simp(disch:=omega)only[go_sem,Bool.not_true,gm,hb];refine Ac (f153_ok l b.proc (by omega)) ?_;refine gO ?_;refine⟨fun h=>?_,fun h=>?_⟩
  ·have e:Dm l=false:=by simp[Dm,Bx hb (show ET l i b=false by simp at h;simp[ET,h])]
   simp(disch:=omega)only[go_sem,e];exact AE _
  ·refine hJ _ (i+1) ⟨by simp at hlt;omega,(by rw[B7 hb,hP];simp at h;simp[ET,hw,h])⟩ (by simp at hlt;omega) AR
 ·subst hil;rw[take_length]at hP;have e:Dm l=true:=by simp[Dm,hP];omega
  simp(disch:=omega)only[go_sem,e];exact AE _
def Er(l:List Amt):List Bool:=(List.range 6).map fun k:Nat=>decide (k≠0)&&l.any fun a=>a.mode==((k:Nat):Int)
theorem Wy:Er []=no6:=rfl
theorem QV(l:List Amt)(k:Nat)(hk:k<6):(Er l).getD k false=(decide (k≠0)&&l.any fun a=>a.mode==(k:Int)):=by
 simp[Er,List.getD,hk]
theorem Nv(l:List Amt)(a:Amt)(h:a.mode=0):Er (l++[a])=Er l:=by
 unfold Er;refine List.map_congr_left fun k hk=>?_
 simp only[List.any_append,any_cons,any_nil,h]
 by_cases hk0:k=0
 ·simp[hk0]
 ·have:((0:Int)==(k:Int))=false:=by simp;omega
  simp[this]
theorem Vg(l:List Amt)(a:Amt)(h:Bf a.mode=true):Er (l++[a])=(Er l).set a.mode.toNat true:=by
 have hm:=AT h;refine List.ext_getElem (by simp[Er]) fun k h1 h2=>?_
 have hk:k<6:=by simpa [Er]using h1
 simp only[Er,List.getElem_map,List.getElem_range,List.any_append,any_cons,any_nil,List.getElem_set]
 by_cases hx:a.mode.toNat=k
 ·have e:(a.mode==(k:Int))=true:=by simp;omega
  rw[if_pos hx,e];have:decide (k≠0)=true:=by simp;omega
  simp[this]
 ·have e:(a.mode==(k:Int))=false:=by simp;omega
  rw[if_neg hx,e];simp
theorem Yq{l:List Amt}{m:Int}(h:∀ a∈l,a.mode≠0→BF m a.mode=true):CJ (Er l) m=true:=by
 unfold CJ;rw[List.all_eq_true];intro k hk;have hk6:k<6:=by simpa using hk
 rw[QV l k hk6]
 by_cases hk0:k=0
 ·simp[hk0]
 cases ha:l.any fun a=>a.mode==(k:Int)
 ·simp
 ·obtain⟨a,hm,he⟩:=List.any_eq_true.1 ha;have he':a.mode=k:=by simpa using he
  have:=h a hm (by omega);rw[he',MQ]at this;simp[this]
theorem Wx{l:List Amt}{m:Int}{a:Amt}(hm:a∈l)(h0:Bf a.mode=true)(h:BF m a.mode=false):CJ (Er l) m=false:=by
 have hc:=AT h0;unfold CJ;rw[List.all_eq_false];refine⟨a.mode.toNat,by simp;omega,?_⟩;rw[QV l _ (by omega)];have e1:decide (a.mode.toNat≠0)=true:=by simp;omega
 have e2:((a.mode.toNat:Nat):Int)=a.mode:=by omega
 have e3:(l.any fun b=>b.mode==((a.mode.toNat:Nat):Int))=true:=by
  rw[List.any_eq_true];exact⟨a,hm,by simp[e2]⟩
 rw[e1,e3,e2,MQ,h];decide
theorem Nl{r:Res}{a:Amt}(hk:r.kind=1)(h:r.permits a=true):a.AA=0∧(a.mode=0∨Bf a.mode=true)∧a.zero=decide (a.mode=0):=by
 simp only[Res.permits,Bool.and_eq_true,Bool.or_eq_true,Res.fits,hk,if_true]at h;obtain⟨h1,h2|h2⟩:=h
 ·have hz:=h2;simp[Amt.zero]at h2;exact⟨h2.2,.inl h2.1,by rw[hz];simp[h2.1]⟩
 ·obtain⟨_,h3,h4⟩:=h2;have:=AT h3;simp at h4;exact⟨h4,.inr h3,by simp[Amt.zero,h4];rfl⟩
theorem Tn{r:Res}{a:Amt}(hk:r.kind=2)(h:r.permits a=true):0≤a.AA∧a.AA≤8∧a.mode=0:=by
 have h':=It h;simp only[Res.permits,Bool.and_eq_true,Bool.or_eq_true,Res.fits,hk]at h;obtain⟨h1,h2|h2⟩:=h
 ·simp[Amt.zero]at h2;omega
 ·simp at h2;omega
theorem Pb{r:Res}(h:r.shaped=true):(r.kind=1∧r.AA=1)∨r.kind=2:=by
 simp only[Res.shaped]at h;split at h
 ·simp at h;exact .inl ⟨by assumption,h⟩
 ·split at h
  ·exact .inr (by assumption)
  ·cases h
theorem f267_ok(r:Res)(l:List Amt)(hl:l.length≤1000000):Ad C0 267 [.agg r.c,OE l] [] (B (r.compat l)) []:=by
 refine Ad.go f267 ?_;unfold f267;refine gO ?_;refine Ac (f250_ok r) ?_;cases hs:r.shaped
 ·have e:r.compat l=false:=by simp[Res.compat,hs]
  simp(disch:=omega)only[go_sem,Bool.not_false,e];exact AE _
 obtain⟨hu1,hu2⟩:=JU hs;have hkind:=Pb hs;have hcomp:r.compat l=Bl r l 0 no6:=by simp[Res.compat,hs]
 simp(disch:=omega)only[go_sem,Bool.not_true];refine Ab (α:=Nat × Int) (fun q=>⟨[(6,I q.1),(1,OE l),(5,I q.2),(2,.ptr 128 0)],[(128,r.c)]⟩)
  (fun q=>q.1≤l.length∧(r.kind=1→q.2=0)∧0≤q.2∧q.2≤8∧(∀ a∈l.take q.1,r.permits a=true)∧Bl r (l.drop q.1) q.2 (Er (l.take q.1))=Bl r l 0 no6) (fun q=>l.length-q.1) (0,0) ⟨by simp,by simp,by simp,by simp,by simp,by simp[Wy]⟩ ?_ ?_
 ·refine Imp.Am ?_ ?_
  ·exact gI
  ·exact gI
 rintro⟨i,sum⟩ ⟨hi,hk1,hs0,hs8,hperm,hc⟩ J hJ
 replace hi:i≤l.length:=hi
 replace hk1:r.kind=1→sum=0:=hk1
 replace hs0:0≤sum:=hs0
 replace hs8:sum≤8:=hs8
 replace hperm:∀ a∈l.take i,r.permits a=true:=hperm
 replace hc:Bl r (l.drop i) sum (Er (l.take i))=Bl r l 0 no6:=hc
 refine gO ?_;refine ⟨fun hlt=>?_,fun hge=>?_⟩
 ·have hlt':i<l.length:=by simp at hlt;omega
  obtain⟨b,hb⟩:∃ b,l[i]?=some b:=⟨_,gE hlt'⟩;have hd:l.drop i=b::l.drop (i+1):=by
   rw[List.drop_eq_getElem_cons hlt'];rw[gE hlt']at hb;injection hb with hb
   rw[hb]
  have ht:l.take (i+1)=l.take i++[b]:=by rw[take_add_one,hb];rfl
  rw[hd]at hc;simp only[Bl]at hc;refine Aq 5 [([],[2]),([],[1]),([],[6]),([],[18,19]),([],[20])] fol ?_;simp(disch:=omega)only[go_sem,gm,hb];refine Ac (f289_ok r b) ?_;cases hp:r.permits b
  ·have e:r.compat l=false:=by rw[hcomp,← hc,hp];rfl
   simp(disch:=omega)only[go_sem,Bool.not_false,e];exact AE _
  obtain⟨hb0,hb8,hbm⟩:=It hp;have hperm':∀ a∈l.take (i+1),r.permits a=true:=fun a ha=>by
   rw[ht]at ha;rcases mem_append.1 ha with h|h
   ·exact hperm a h
   ·simp at h;rw[h];exact hp
  rw[hp]at hc
  by_cases hk2:r.kind=2
  ·have e2:(r.kind==2)=true:=by simp[hk2]
   obtain⟨_,_,hm⟩:=Tn hk2 hp
   by_cases hgt:r.AA<sum+b.AA
   ·have e:r.compat l=false:=by rw[hcomp,← hc];simp[hgt]
    simp(disch:=omega)only[go_sem,Bool.not_true,e2,gm,hb,hgt,e];exact AE _
   simp(disch:=omega)only[go_sem,Bool.not_true,e2,gm,hb,hgt,decide_false];refine hJ _ (i+1,sum+b.AA) ⟨by simp;omega,by simp;omega,by simp;omega,by simp;omega,hperm',?_⟩ (by simp;omega) AR;simp only[ht];rw[Nv _ _ hm];simpa [hgt,hm]using hc
  have hk1':r.kind=1:=by rcases hkind with h|h;exact h.1;exact absurd h hk2
  have hru:r.AA=1:=by rcases hkind with h|h;exact h.2;exact absurd h hk2
  have e2:(r.kind==2)=false:=by simp[hk2]
  have hsum:=hk1 hk1';subst hsum;obtain⟨hbu,hbmm,hbz⟩:=Nl hk1' hp;have hgt:¬ r.AA<0+b.AA:=by omega
  have hcs:(if b.mode=0 then Bl r (l.drop (i+1)) 0 (Er (l.take i)) else CJ (Er (l.take i)) b.mode&&Bl r (l.drop (i+1)) 0 ((Er (l.take i)).set b.mode.toNat true))=Bl r l 0 no6:=by
   rw[hbu]at hc hgt;simp only[Int.add_zero]at hc hgt;rw[decide_eq_false hgt]at hc;exact hc
  simp(disch:=omega)only[go_sem,Bool.not_true,e2];refine Ab (α:=Nat) (fun k=>⟨[(7,I k),(6,I i),(1,OE l),(5,I 0),(2,.ptr 128 0)],[(128,r.c)]⟩)
   (fun k=>k≤i∧(b.mode=0∨∀ a∈l.take k,a.mode≠0→BF b.mode a.mode=true)) (fun k=>i-k) 0 ⟨by omega,.inr (by simp)⟩ ?_ ?_
  ·refine Imp.Am ?_ ?_
   ·exact gI
   ·exact gI
  rintro k ⟨hk,hka⟩ J2 hJ2;refine gO ?_;refine And.intro (fun hlt3=>?_) (fun hge3=>?_)
  ·have hki:k<i:=by simp at hlt3;omega
   obtain⟨a,ha⟩:∃ a,l[k]?=some a:=⟨_,gE (by omega)⟩;have hak:l.take (k+1)=l.take k++[a]:=by rw[take_add_one,ha];rfl
   have ham:a∈l.take i:=by
    rw[List.mem_take_iff_getElem];exact⟨k,by omega,by rw[gE (by omega)]at ha;injection ha⟩
   obtain⟨hau,hamm,haz⟩:=Nl hk1' (hperm a ham);refine Aq 25 [([],[1]),([],[6]),([],[43,44]),([],[45]),([],[46]),([4],[47]),([4],[48]),([4],[1,49]),([4],[7,49]),([4],[50,51,49]),([4],[52,49]),([4],[53,49]),([4,11],[54,49]),([4,11],[49,55]),([4,11],[56]),([4,11],[1,57]),([4,11],[6,57]),([4,11],[58,59,57]),([4,11],[60,57]),([4,11],[61,57]),([4,11],[1,57]),([4,11],[7,57]),([4,11],[63,64,57]),([4,11],[65,57]),([4,11],[66,57])] fol ?_;simp(disch:=omega)only[go_sem,gm,hb,ha];refine Ar (f162_ok b) ?_;rw[hbz]
   by_cases hbm0:b.mode=0
   ·simp(disch:=omega)only[go_sem,hbm0,decide_true,Bool.not_true];refine hJ2 _ (k+1) ⟨by omega,.inl hbm0⟩ (by omega) AR
   simp(disch:=omega)only[go_sem,hbm0,decide_false,Bool.not_false,gm,ha,hb];refine Ar (f162_ok a) ?_;rw[haz]
   by_cases ham0:a.mode=0
   ·simp(disch:=omega)only[go_sem,ham0,decide_true,Bool.not_true];refine hJ2 _ (k+1) ⟨by omega,?_⟩ (by omega) AR;rcases hka with h|h
    ·exact .inl h
    ·refine .inr fun x hx hx0=>?_
     rw[hak]at hx;rcases mem_append.1 hx with h'|h'
     ·exact h x h' hx0
     ·simp at h';rw[h']at hx0;exact absurd ham0 hx0
   simp(disch:=omega)only[go_sem,ham0,decide_false,Bool.not_false,gm,hb,ha];refine Ac (f304_ok b.mode a.mode) ?_;have hamo:Bf a.mode=true:=by rcases hamm with h|h;exact absurd h ham0;exact h
   cases hcm:BF b.mode a.mode
   ·have e:r.compat l=false:=by
     rw[hcomp,← hcs,if_neg hbm0,Wx ham hamo hcm];rfl
    simp(disch:=omega)only[go_sem,Bool.not_false,e];exact AE _
   ·simp(disch:=omega)only[go_sem,Bool.not_true];refine hJ2 _ (k+1) ⟨by omega,?_⟩ (by omega) AR;rcases hka with h|h
    ·exact .inl h
    ·refine .inr fun x hx hx0=>?_
     rw[hak]at hx;rcases mem_append.1 hx with h'|h'
     ·exact h x h' hx0
     ·simp at h';rw[h'];exact hcm
  ·have hki:k=i:=by simp at hge3;omega
   subst hki;refine hJ _ (k+1,0) ⟨by simp;omega,by simp,by simp,by simp,hperm',?_⟩ (by simp;omega) AR;simp only[ht]
   by_cases hbm0:b.mode=0
   ·rw[Nv _ _ hbm0]
    rwa [if_pos hbm0]at hcs
   ·have hbo:Bf b.mode=true:=by rcases hbmm with h|h;exact absurd h hbm0;exact h
    rw[Vg _ _ hbo];rw[if_neg hbm0]at hcs;have hso:CJ (Er (l.take k)) b.mode=true:=Yq (by rcases hka with h|h;exact absurd h hbm0;exact h)
    rwa [hso,Bool.true_and]at hcs
 ·have hil:i=l.length:=by simp at hge;omega
  subst hil;rw[List.drop_length]at hc;have e:r.compat l=true:=by rw[hcomp,← hc];rfl
  simp(disch:=omega)only[go_sem,e];exact AE _
theorem f253_ok(r:Res)(a b:Amt):Ad C0 253 [.agg r.c,.agg a.c,.agg b.c] [] (B (r.covers a b)) []:=by
 refine Ad.go f253 ?_;unfold f253;simp(disch:=omega)only[go_sem]
 repeat'(first
  |(with_reducible refine And.intro (fun h=>?_) (fun h=>?_))
  |((with_reducible show AY _ _ 289 _ _ _);refine Ai (f289_ok r a) ?_ rfl ?_;(focus(simp(disch:=omega)only[go_sem];done));try simp(disch:=omega)only[go_sem])
  |((with_reducible show AY _ _ 289 _ _ _);refine Ai (f289_ok r b) ?_ rfl ?_;(focus(simp(disch:=omega)only[go_sem];done));try simp(disch:=omega)only[go_sem])
  |((with_reducible show AY _ _ 162 _ _ _);refine Ai (f162_ok a) ?_ rfl ?_;(focus(simp(disch:=omega)only[go_sem];done));try simp(disch:=omega)only[go_sem])
  |((with_reducible show AY _ _ 162 _ _ _);refine Ai (f162_ok b) ?_ rfl ?_;(focus(simp(disch:=omega)only[go_sem];done));try simp(disch:=omega)only[go_sem])
  |((with_reducible show AY _ _ 287 _ _ _);refine Ai (f287_ok a.mode b.mode) ?_ rfl ?_;(focus(simp(disch:=omega)only[go_sem];done));try simp(disch:=omega)only[go_sem]))
 all_goals(refine B8 _ ?_)
 all_goals(try simp(disch:=omega)only[go_sem])
 all_goals(first|refine wb ?_|refine wi ?_|refine .eq ?_)
 all_goals(first|(simp_all[Res.covers]<;>omega)|(refine Bool.eq_iff_iff.2 ?_;simp_all[Res.covers]<;>omega))
def GH(q:Queue)(i:Nat)(w:AS):Bool:=decide (E3 q.An w.proc=(i:Int))&&!(AB q.holds w.proc).zero&&q.res.fits w.amt&&q.res.covers w.amt (AB q.holds w.proc)&&!decide (w.amt=AB q.holds w.proc)&&w.prio==0&&w.Df==0
def D2(q:Queue):Bool:=decide (q.An.length≤8)&&B2 (GH q) q.An
def GL(q:Queue)(w:AS):Bool:=q.res.fits w.amt&&(AB q.holds w.proc).zero
def D4(q:Queue):Bool:=Dm q.waits&&decide (q.holds.length+q.waits.length≤8)&&q.waits.all (GL q)
def LS(r:Res):Bool:=Dd r.name&&r.shaped&&AL r.home 0 3
def sound(q:Queue):Bool:=LS q.res&&Ba q.res q.holds&&D2 q&&D4 q&&decide (0≤q.gen)&&decide (q.gen≤1073741824)
theorem f278_ok(q:Queue)(h1:q.holds.length≤1000000):Ad C0 278 [.agg q.c] [] (B (D2 q)) []:=by
 refine Ad.go f278 ?_;unfold f278
 by_cases h8:8<q.An.length
 ·have e1:(8<(q.An.length:Int))=True:=by simp;omega
  simp(disch:=omega)only[go_sem,e1];refine Ap _ ?_;exact .eq (by simp[D2];omega)
 have e1:(8<(q.An.length:Int))=False:=by simp;omega
 simp(disch:=omega)only[go_sem,e1,decide_false];refine Ab (α:=Nat) (fun i=>⟨[(13,I i),(12,I q.An.length),(11,A7 q.An),(1,.ptr 64 0)],[(64,q.c)]⟩) (fun i=>i≤(q.An).length∧B2 (GH q) (q.An.take i)=true) (fun i=>(q.An).length-i) 0 ⟨by omega,rfl⟩ ?_ ?_
 ·exact BB
 rintro i ⟨hi,hP⟩ J hJ;refine gO ?_;refine ⟨fun hlt=>?_,fun hge=>?_⟩;rotate_left;have hil:i=(q.An).length:=by simp at hge;omega
 rotate_left;obtain⟨b,hb⟩:∃ b,(q.An)[i]?=some b:=⟨_,gE (by simp at hlt;omega)⟩;have hbm:=mG hb;simp(disch:=omega)only[go_sem,gm,hb]
 ·have bad:GH q i b=false→D2 q=false:=fun h=>by simp[D2,Bx hb h]
  repeat'(first
   |(with_reducible refine And.intro (fun h=>?_) (fun h=>?_))
   |((with_reducible show AY _ _ 309 _ _ _);refine Ai (f309_ok q b.proc h1) ?_ rfl ?_;(focus(simp(disch:=omega)only[go_sem];done));try simp(disch:=omega)only[go_sem])
   |((with_reducible show AW _ _ 309 _ _ _ _ _ _ _);refine Aw ⟨⟨[],[],[]⟩,[],[]⟩ (f309_ok q b.proc h1) ?_ rfl rfl trivial (.inl rfl) ?_;(focus(simp(disch:=omega)only[go_sem];done));try simp(disch:=omega)only[go_sem])
   |((with_reducible show AY _ _ 310 _ _ _);refine Ai (f310_ok q.An b.proc (by omega)) ?_ rfl ?_;(focus(simp(disch:=omega)only[go_sem];done));try simp(disch:=omega)only[go_sem])
   |((with_reducible show AW _ _ 310 _ _ _ _ _ _ _);refine Aw ⟨⟨[],[],[]⟩,[],[]⟩ (f310_ok q.An b.proc (by omega)) ?_ rfl rfl trivial (.inl rfl) ?_;(focus(simp(disch:=omega)only[go_sem];done));try simp(disch:=omega)only[go_sem])
   |((with_reducible show AY _ _ 264 _ _ _);refine Ai (f264_ok (AB q.holds b.proc)) ?_ rfl ?_;(focus(simp(disch:=omega)only[go_sem];done));try simp(disch:=omega)only[go_sem])
   |((with_reducible show AW _ _ 264 _ _ _ _ _ _ _);refine Aw ⟨⟨[],[],[]⟩,[],[]⟩ (f264_ok (AB q.holds b.proc)) ?_ rfl rfl trivial (.inl rfl) ?_;(focus(simp(disch:=omega)only[go_sem];done));try simp(disch:=omega)only[go_sem])
   |((with_reducible show AY _ _ 281 _ _ _);refine Ai (f281_ok q.res b.amt) ?_ rfl ?_;(focus(simp(disch:=omega)only[go_sem];done));try simp(disch:=omega)only[go_sem])
   |((with_reducible show AW _ _ 281 _ _ _ _ _ _ _);refine Aw ⟨⟨[],[],[]⟩,[],[]⟩ (f281_ok q.res b.amt) ?_ rfl rfl trivial (.inl rfl) ?_;(focus(simp(disch:=omega)only[go_sem];done));try simp(disch:=omega)only[go_sem])
   |((with_reducible show AY _ _ 311 _ _ _);refine Ai (f311_ok q.res b.amt (AB q.holds b.proc)) ?_ rfl ?_;(focus(simp(disch:=omega)only[go_sem];done));try simp(disch:=omega)only[go_sem])
   |((with_reducible show AW _ _ 311 _ _ _ _ _ _ _);refine Aw ⟨⟨[],[],[]⟩,[],[]⟩ (f311_ok q.res b.amt (AB q.holds b.proc)) ?_ rfl rfl trivial (.inl rfl) ?_;(focus(simp(disch:=omega)only[go_sem];done));try simp(disch:=omega)only[go_sem]))
  all_goals(first|(refine hJ _ (i+1) ⟨by simp at hlt;omega,by rw[B7 hb,hP];simp_all[GH]⟩ (by simp at hlt;omega) AR;done)|(refine B8 _ ?_;simp(disch:=omega)only[go_sem];refine wb ?_;(rw[bad (by simp_all[GH])])))
 ·subst hil;rw[take_length]at hP;have e:D2 q=true:=by simp[D2,hP];omega
  simp(disch:=omega)only[go_sem,e];exact AE _
theorem f279_ok(q:Queue)(h1:q.holds.length≤1000000)(h2:q.waits.length≤1000000):Ad C0 279 [.agg q.c] [] (B (D4 q)) []:=by
 refine Ad.go f279 ?_;unfold f279;refine gO ?_;refine Ac (f312_ok q.waits) ?_;cases hl:Dm q.waits
 ·simp(disch:=omega)only[go_sem,Bool.not_false];refine Ap _ ?_;exact wb (by simp[D4,hl])
 by_cases h8:8<q.holds.length+q.waits.length
 ·have e1:(8<(q.holds.length:Int)+q.waits.length)=True:=by simp;omega
  simp(disch:=omega)only[go_sem,e1,Bool.not_true];refine Ap _ ?_;exact wb (by simp[D4];omega)
 have e1:(8<(q.holds.length:Int)+q.waits.length)=False:=by simp;omega
 simp(disch:=omega)only[go_sem,e1,decide_false,Bool.not_true];refine Ab (α:=Nat) (fun i=>⟨[(22,I i),(21,I q.waits.length),(20,A7 q.waits),(1,.ptr 64 0)],[(64,q.c)]⟩) (fun i=>i≤(q.waits).length∧(q.waits.take i).all (GL q)=true) (fun i=>(q.waits).length-i) 0 ⟨by omega,rfl⟩ ?_ ?_
 ·exact BB
 rintro i ⟨hi,hP⟩ J hJ;refine gO ?_;refine ⟨fun hlt=>?_,fun hge=>?_⟩;rotate_left;have hil:i=(q.waits).length:=by simp at hge;omega
 rotate_left;obtain⟨b,hb⟩:∃ b,(q.waits)[i]?=some b:=⟨_,gE (by simp at hlt;omega)⟩;have hbm:=mG hb;simp(disch:=omega)only[go_sem,gm,hb]
 ·have bad:GL q b=false→D4 q=false:=fun h=>by simp only[D4,all_false hbm h,Bool.and_false]
  repeat'(first
   |(with_reducible refine And.intro (fun h=>?_) (fun h=>?_))
   |((with_reducible show AY _ _ 281 _ _ _);refine Ai (f281_ok q.res b.amt) ?_ rfl ?_;(focus(simp(disch:=omega)only[go_sem];done));try simp(disch:=omega)only[go_sem])
   |((with_reducible show AW _ _ 281 _ _ _ _ _ _ _);refine Aw ⟨⟨[],[],[]⟩,[],[]⟩ (f281_ok q.res b.amt) ?_ rfl rfl trivial (.inl rfl) ?_;(focus(simp(disch:=omega)only[go_sem];done));try simp(disch:=omega)only[go_sem])
   |((with_reducible show AY _ _ 309 _ _ _);refine Ai (f309_ok q b.proc h1) ?_ rfl ?_;(focus(simp(disch:=omega)only[go_sem];done));try simp(disch:=omega)only[go_sem])
   |((with_reducible show AW _ _ 309 _ _ _ _ _ _ _);refine Aw ⟨⟨[],[],[]⟩,[],[]⟩ (f309_ok q b.proc h1) ?_ rfl rfl trivial (.inl rfl) ?_;(focus(simp(disch:=omega)only[go_sem];done));try simp(disch:=omega)only[go_sem])
   |((with_reducible show AY _ _ 264 _ _ _);refine Ai (f264_ok (AB q.holds b.proc)) ?_ rfl ?_;(focus(simp(disch:=omega)only[go_sem];done));try simp(disch:=omega)only[go_sem])
   |((with_reducible show AW _ _ 264 _ _ _ _ _ _ _);refine Aw ⟨⟨[],[],[]⟩,[],[]⟩ (f264_ok (AB q.holds b.proc)) ?_ rfl rfl trivial (.inl rfl) ?_;(focus(simp(disch:=omega)only[go_sem];done));try simp(disch:=omega)only[go_sem]))
  all_goals(first|(refine hJ _ (i+1) ⟨by simp at hlt;omega,by rw[PK hb,hP];simp_all[GL]⟩ (by simp at hlt;omega) AR;done)|(refine B8 _ ?_;simp(disch:=omega)only[go_sem];refine wb ?_;(rw[bad (by simp_all[GL])])))
 ·subst hil;rw[take_length]at hP;have e:D4 q=true:=by simp only[D4,hl,hP];simp;omega
  simp(disch:=omega)only[go_sem,e];exact AE _
theorem f236_ok(q:Queue)(h1:q.holds.length≤1000000)(h2:q.waits.length≤1000000):Ad C0 236 [.agg q.c] [] (B (sound q)) []:=by
 refine Ad.go f236 ?_;unfold f236;simp(disch:=omega)only[go_sem]
 repeat'(first
  |(with_reducible refine And.intro (fun h=>?_) (fun h=>?_))
  |((with_reducible show AY _ _ 276 _ _ _);refine Ai (f276_ok q.res) ?_ rfl ?_;(focus(simp(disch:=omega)only[go_sem];done));try simp(disch:=omega)only[go_sem])
  |((with_reducible show AW _ _ 276 _ _ _ _ _ _ _);refine Aw ⟨⟨[],[],[]⟩,[],[]⟩ (f276_ok q.res) ?_ rfl rfl trivial (.inl rfl) ?_;(focus(simp(disch:=omega)only[go_sem];done));try simp(disch:=omega)only[go_sem])
  |((with_reducible show AY _ _ 277 _ _ _);refine Ai (f277_ok q.res q.holds) ?_ rfl ?_;(focus(simp(disch:=omega)only[go_sem];done));try simp(disch:=omega)only[go_sem])
  |((with_reducible show AW _ _ 277 _ _ _ _ _ _ _);refine Aw ⟨⟨[],[],[]⟩,[],[]⟩ (f277_ok q.res q.holds) ?_ rfl rfl trivial (.inl rfl) ?_;(focus(simp(disch:=omega)only[go_sem];done));try simp(disch:=omega)only[go_sem])
  |((with_reducible show AY _ _ 278 _ _ _);refine Ai (f278_ok q h1) ?_ rfl ?_;(focus(simp(disch:=omega)only[go_sem];done));try simp(disch:=omega)only[go_sem])
  |((with_reducible show AW _ _ 278 _ _ _ _ _ _ _);refine Aw ⟨⟨[],[],[]⟩,[],[]⟩ (f278_ok q h1) ?_ rfl rfl trivial (.inl rfl) ?_;(focus(simp(disch:=omega)only[go_sem];done));try simp(disch:=omega)only[go_sem])
  |((with_reducible show AY _ _ 279 _ _ _);refine Ai (f279_ok q h1 h2) ?_ rfl ?_;(focus(simp(disch:=omega)only[go_sem];done));try simp(disch:=omega)only[go_sem])
  |((with_reducible show AW _ _ 279 _ _ _ _ _ _ _);refine Aw ⟨⟨[],[],[]⟩,[],[]⟩ (f279_ok q h1 h2) ?_ rfl rfl trivial (.inl rfl) ?_;(focus(simp(disch:=omega)only[go_sem];done));try simp(disch:=omega)only[go_sem]))
 all_goals(refine B8 _ ?_)
 all_goals(try simp(disch:=omega)only[go_sem])
 all_goals(refine wb ?_)
 all_goals(simp_all[sound,LS]<;>omega)
theorem f265_ok(r:Res)(l:List AO)(hl:l.length≤1000000):Ad C0 265 [.agg r.c,AH l] [] (B (Ba r l)) []:=by
 refine Ad.go f265 ?_;unfold f265;refine gO ?_;refine Ac (f250_ok r) ?_;cases hs:r.shaped
 ·have e:Ba r l=false:=by simp[Ba,hs]
  simp(disch:=omega)only[go_sem,Bool.not_false,e];exact AE _
 by_cases h8:8<l.length
 ·have e1:(8<(l.length:Int))=True:=by simp;omega
  have e:Ba r l=false:=by simp[Ba];omega
  simp(disch:=omega)only[go_sem,Bool.not_true,e1,e];exact AE _
 have e1:(8<(l.length:Int))=False:=by simp;omega
 simp(disch:=omega)only[go_sem,Bool.not_true,e1,decide_false];refine Ab (α:=Nat) (fun i=>⟨[(5,I i),(1,AH l),(2,.ptr 128 0)],[(128,r.c)]⟩) (fun i=>i≤(l).length∧B2 (D3 r l) (l.take i)=true) (fun i=>(l).length-i) 0 ⟨by omega,rfl⟩ ?_ ?_
 ·exact BB
 rintro i ⟨hi,hP⟩ J hJ;refine gO ?_;refine ⟨fun hlt=>?_,fun hge=>?_⟩;rotate_left;have hil:i=(l).length:=by simp at hge;omega
 rotate_left;obtain⟨b,hb⟩:∃ b,(l)[i]?=some b:=⟨_,gE (by simp at hlt;omega)⟩;have hbm:=mG hb;have hlt2:i<(l).length:=by simp at hlt;omega
 refine Aq 32 [([],[1]),([],[5]),([],[20,21]),([],[22]),([],[23]),([],[24]),([5],[25]),([5],[26]),([5],[2,27]),([5],[1,27]),([5],[5,27]),([5],[29,30,27]),([5],[31,27]),([5],[32,27]),([5],[28,33,27]),([5,14],[34,27]),([5,14],[27,35]),([5,14],[36]),([5,14],[5,37]),([5,14],[38,37]),([5,14],[39,37]),([5,14],[1,40]),([5,14],[5,40]),([5,14],[42,40]),([5,14],[41,43,40]),([5,14],[44,40]),([5,14],[45,40]),([5,14],[1,40]),([5,14],[5,40]),([5,14],[47,48,40]),([5,14],[49,40]),([5,14],[50,40])] fol ?_;simp(disch:=omega)only[go_sem,gm,hb]
 ·have bad:D3 r l i b=false→Ba r l=false:=fun h=>by simp[Ba,Bx hb h]
  refine Ar (f105_ok b.proc) ?_;cases hp:b.proc.ok
  ·simp(disch:=omega)only[go_sem,Bool.not_false,bad (by simp[D3,hp])];exact AE _
  simp(disch:=omega)only[go_sem,Bool.not_true,gm,hb];refine Ar (f171_ok r b.amt) ?_;cases hf:r.fits b.amt
  ·simp(disch:=omega)only[go_sem,Bool.not_false,bad (by simp[D3,hf])];exact AE _
  by_cases hi0:i=0
  ·have e0:(0<(i:Int))=False:=by simp;omega
   simp(disch:=omega)only[go_sem,Bool.not_true,e0,decide_false];refine hJ _ (i+1) ⟨by simp at hlt;omega,(by rw[B7 hb,hP];simp only[D3,hp,hf,hi0];rfl)⟩ (by simp at hlt;omega) AR
  ·have hi1:(0<(i:Int))=True:=by simp;omega
   have hi2:((i:Int)-1)=((i-1:Nat):Int):=by omega
   obtain⟨a,ha⟩:∃ a,l[i-1]?=some a:=⟨_,gE (by simp at hlt;omega)⟩;have had:l.getD (i-1) h0=a:=by simp[List.getD,ha]
   simp(disch:=omega)only[go_sem,Bool.not_true,hi1,hi2,gm,ha,hb];refine Ac (f107_ok a.proc b.proc) ?_;refine gO ?_
   by_cases hc:0≤Bo a.proc b.proc
   ·have e:Ba r l=false:=bad (by simp only[D3,had];simp[hi0];omega);simp(disch:=omega)only[go_sem,hc,e];exact AE _
   ·simp(disch:=omega)only[go_sem,hc,decide_false];refine hJ _ (i+1) ⟨by simp at hlt;omega,(by rw[B7 hb,hP];simp only[D3,hp,hf,had];simp;omega)⟩ (by simp at hlt;omega) AR
 ·subst hil;rw[take_length]at hP;have ee:Ba r l=r.compat (l.map (·.amt)):=by simp[Ba,hs,hP];omega
  refine Aq 3 [([],[2]),([],[1]),([],[57])] fol ?_;refine gO ?_;refine Ar (f303_ok l hl) ?_;refine gO ?_;refine Ai (f267_ok r (l.map (·.amt)) (by simp;omega)) (by simp(disch:=omega)only[go_sem];exact .eq (by simp)) rfl ?_;refine gO ?_;refine Ap _ ?_;exact wb ee.symm
theorem f242_ok(q:Queue)(h1:q.holds.length≤1000000)(h2:q.waits.length≤1000000):Ad C0 242 [.agg q.c] [] (B (sound q)) []:=by
 refine Ad.go f242 ?_;unfold f242
 by_cases hgo:LS q.res=true∧Ba q.res q.holds=true∧q.An.length≤8∧Dm q.waits=true∧q.holds.length+q.waits.length≤8∧0≤q.gen∧q.gen≤1073741824
 rotate_left
 ·simp(disch:=omega)only[go_sem]
  repeat'(first
   |(with_reducible refine And.intro (fun h=>?_) (fun h=>?_))
   |((with_reducible show AY _ _ 246 _ _ _);refine Ai (f246_ok q.res) ?_ rfl ?_;(focus(simp(disch:=omega)only[go_sem];done));try simp(disch:=omega)only[go_sem])
   |((with_reducible show AW _ _ 246 _ _ _ _ _ _ _);refine Aw ⟨⟨[],[],[]⟩,[],[]⟩ (f246_ok q.res) ?_ rfl rfl trivial (.inl rfl) ?_;(focus(simp(disch:=omega)only[go_sem];done));try simp(disch:=omega)only[go_sem])
   |((with_reducible show AY _ _ 265 _ _ _);refine Ai (f265_ok q.res q.holds h1) ?_ rfl ?_;(focus(simp(disch:=omega)only[go_sem];done));try simp(disch:=omega)only[go_sem])
   |((with_reducible show AW _ _ 265 _ _ _ _ _ _ _);refine Aw ⟨⟨[],[],[]⟩,[],[]⟩ (f265_ok q.res q.holds h1) ?_ rfl rfl trivial (.inl rfl) ?_;(focus(simp(disch:=omega)only[go_sem];done));try simp(disch:=omega)only[go_sem])
   |((with_reducible show AY _ _ 282 _ _ _);refine Ai (f282_ok q.waits h2) ?_ rfl ?_;(focus(simp(disch:=omega)only[go_sem];done));try simp(disch:=omega)only[go_sem])
   |((with_reducible show AW _ _ 282 _ _ _ _ _ _ _);refine Aw ⟨⟨[],[],[]⟩,[],[]⟩ (f282_ok q.waits h2) ?_ rfl rfl trivial (.inl rfl) ?_;(focus(simp(disch:=omega)only[go_sem];done));try simp(disch:=omega)only[go_sem]))
  all_goals first
   |(refine B8 _ ?_
     refine gO ?_;refine wb ?_
     first|(simp_all[sound,LS,D2,D4];done)|(simp_all[sound,LS,D2,D4];omega))
   |(exfalso;refine hgo ?_;simp_all[LS];omega)
 obtain⟨g1,g2,g3,g4,g5,g6,g7⟩:=hgo;have d1:(8<(q.An.length:Int))=False:=by simp;omega
 have d2:(8<(q.holds.length:Int)+q.waits.length)=False:=by simp;omega
 have d3:(q.gen<0)=False:=by simp;omega
 have d4:(1073741824<q.gen)=False:=by simp;omega
 refine gO ?_;refine Ac (f246_ok q.res) ?_;have g1':(Dd q.res.name&&q.res.shaped&&AL q.res.home 0 3)=true:=g1;rw[g1'];simp(disch:=omega)only[go_sem,Bool.not_true];refine Ac (f265_ok q.res q.holds h1) ?_;rw[g2];simp(disch:=omega)only[go_sem,Bool.not_true,d1,decide_false];refine Ac (f282_ok q.waits h2) ?_;rw[g4];simp(disch:=omega)only[go_sem,Bool.not_true,d2,d3,d4,decide_false];refine Ab (α:=Nat) (fun i=>⟨[(4,I i),(1,.ptr 64 0),(3,.ptr 192 0)],[(64,q.c),(192,q.res.c)]⟩) (fun i=>i≤(q.An).length∧B2 (GH q) (q.An.take i)=true) (fun i=>(q.An).length-i) 0 ⟨by omega,rfl⟩ ?_ ?_
 ·exact BB
 rintro i ⟨hi,hP⟩ J hJ;refine gO ?_;refine ⟨fun hlt=>?_,fun hge=>?_⟩;rotate_left;have hil:i=(q.An).length:=by simp at hge;omega
 rotate_left;obtain⟨b,hb⟩:∃ b,(q.An)[i]?=some b:=⟨_,gE (by simp at hlt;omega)⟩;have hbm:=mG hb;have hlt2:i<(q.An).length:=by simp at hlt;omega
 simp(disch:=omega)only[go_sem,gm,hb]
 ·have bad:GH q i b=false→sound q=false:=fun h=>by simp[sound,D2,Bx hb h]
  repeat'(first
   |(with_reducible refine And.intro (fun h=>?_) (fun h=>?_))
   |((with_reducible show AY _ _ 244 _ _ _);refine Ai (f244_ok q.holds b.proc h1) ?_ rfl ?_;(focus(simp(disch:=omega)only[go_sem];done));try simp(disch:=omega)only[go_sem])
   |((with_reducible show AW _ _ 244 _ _ _ _ _ _ _);refine Aw ⟨⟨[],[],[]⟩,[],[]⟩ (f244_ok q.holds b.proc h1) ?_ rfl rfl trivial (.inl rfl) ?_;(focus(simp(disch:=omega)only[go_sem];done));try simp(disch:=omega)only[go_sem])
   |((with_reducible show AY _ _ 162 _ _ _);refine Ai (f162_ok (AB q.holds b.proc)) ?_ rfl ?_;(focus(simp(disch:=omega)only[go_sem];done));try simp(disch:=omega)only[go_sem])
   |((with_reducible show AW _ _ 162 _ _ _ _ _ _ _);refine Aw ⟨⟨[],[],[]⟩,[],[]⟩ (f162_ok (AB q.holds b.proc)) ?_ rfl rfl trivial (.inl rfl) ?_;(focus(simp(disch:=omega)only[go_sem];done));try simp(disch:=omega)only[go_sem])
   |((with_reducible show AY _ _ 171 _ _ _);refine Ai (f171_ok q.res b.amt) ?_ rfl ?_;(focus(simp(disch:=omega)only[go_sem];done));try simp(disch:=omega)only[go_sem])
   |((with_reducible show AW _ _ 171 _ _ _ _ _ _ _);refine Aw ⟨⟨[],[],[]⟩,[],[]⟩ (f171_ok q.res b.amt) ?_ rfl rfl trivial (.inl rfl) ?_;(focus(simp(disch:=omega)only[go_sem];done));try simp(disch:=omega)only[go_sem])
   |((with_reducible show AY _ _ 253 _ _ _);refine Ai (f253_ok q.res b.amt (AB q.holds b.proc)) ?_ rfl ?_;(focus(simp(disch:=omega)only[go_sem];done));try simp(disch:=omega)only[go_sem])
   |((with_reducible show AW _ _ 253 _ _ _ _ _ _ _);refine Aw ⟨⟨[],[],[]⟩,[],[]⟩ (f253_ok q.res b.amt (AB q.holds b.proc)) ?_ rfl rfl trivial (.inl rfl) ?_;(focus(simp(disch:=omega)only[go_sem];done));try simp(disch:=omega)only[go_sem])
   |((with_reducible show AY _ _ 153 _ _ _);refine Ai (f153_ok q.An b.proc (by omega)) ?_ rfl ?_;(focus(simp(disch:=omega)only[go_sem];done));try simp(disch:=omega)only[go_sem])
   |((with_reducible show AW _ _ 153 _ _ _ _ _ _ _);refine Aw ⟨⟨[],[],[]⟩,[],[]⟩ (f153_ok q.An b.proc (by omega)) ?_ rfl rfl trivial (.inl rfl) ?_;(focus(simp(disch:=omega)only[go_sem];done));try simp(disch:=omega)only[go_sem]))
  all_goals(first|(refine hJ _ (i+1) ⟨by simp at hlt;omega,by rw[B7 hb,hP];simp_all[GH]⟩ (by simp at hlt;omega) AR;done)|(refine B8 _ ?_;simp(disch:=omega)only[go_sem];refine wb ?_;(rw[bad (by simp_all[GH])])))
 subst hil;rw[take_length]at hP;have hconvs:D2 q=true:=by simp[D2,hP];omega
 clear hJ;refine Ab (α:=Nat) (fun i=>⟨[(7,I i),(1,.ptr 64 0),(3,.ptr 192 0)],[(64,q.c),(192,q.res.c)]⟩) (fun i=>i≤(q.waits).length∧(q.waits.take i).all (GL q)=true) (fun i=>(q.waits).length-i) 0 ⟨by omega,rfl⟩ ?_ ?_
 ·exact BB
 rintro i ⟨hi,hP⟩ J hJ;refine gO ?_;refine ⟨fun hlt=>?_,fun hge=>?_⟩;rotate_left;have hil:i=(q.waits).length:=by simp at hge;omega
 rotate_left;obtain⟨b,hb⟩:∃ b,(q.waits)[i]?=some b:=⟨_,gE (by simp at hlt;omega)⟩;have hbm:=mG hb;have hlt2:i<(q.waits).length:=by simp at hlt;omega
 refine Aq 18 [([],[3]),([],[1]),([],[119]),([],[7]),([],[120,121]),([],[122]),([],[123]),([],[118,124]),([7],[125]),([7],[126]),([7],[1,127]),([7],[128,127]),([7],[1,127]),([7],[130,127]),([7],[7,127]),([7],[131,132,127]),([7],[133,127]),([7],[134,127])] fol ?_;simp(disch:=omega)only[go_sem,gm,hb]
 ·have bad:GL q b=false→sound q=false:=fun h=>by simp only[sound,D4,all_false hbm h,Bool.and_false,Bool.false_and]
  repeat'(first
   |(with_reducible refine And.intro (fun h=>?_) (fun h=>?_))
   |((with_reducible show AY _ _ 171 _ _ _);refine Ai (f171_ok q.res b.amt) ?_ rfl ?_;(focus(simp(disch:=omega)only[go_sem];done));try simp(disch:=omega)only[go_sem,gm,hb])
   |((with_reducible show AW _ _ 171 _ _ _ _ _ _ _);refine Aw ⟨⟨[],[],[]⟩,[],[]⟩ (f171_ok q.res b.amt) ?_ rfl rfl trivial (.inl rfl) ?_;(focus(simp(disch:=omega)only[go_sem];done));try simp(disch:=omega)only[go_sem,gm,hb])
   |((with_reducible show AY _ _ 244 _ _ _);refine Ai (f244_ok q.holds b.proc h1) ?_ rfl ?_;(focus(simp(disch:=omega)only[go_sem];done));try simp(disch:=omega)only[go_sem,gm,hb])
   |((with_reducible show AW _ _ 244 _ _ _ _ _ _ _);refine Aw ⟨⟨[],[],[]⟩,[],[]⟩ (f244_ok q.holds b.proc h1) ?_ rfl rfl trivial (.inl rfl) ?_;(focus(simp(disch:=omega)only[go_sem];done));try simp(disch:=omega)only[go_sem,gm,hb])
   |((with_reducible show AY _ _ 162 _ _ _);refine Ai (f162_ok (AB q.holds b.proc)) ?_ rfl ?_;(focus(simp(disch:=omega)only[go_sem];done));try simp(disch:=omega)only[go_sem,gm,hb])
   |((with_reducible show AW _ _ 162 _ _ _ _ _ _ _);refine Aw ⟨⟨[],[],[]⟩,[],[]⟩ (f162_ok (AB q.holds b.proc)) ?_ rfl rfl trivial (.inl rfl) ?_;(focus(simp(disch:=omega)only[go_sem];done));try simp(disch:=omega)only[go_sem,gm,hb]))
  all_goals(first|(refine hJ _ (i+1) ⟨by simp at hlt;omega,by rw[PK hb,hP];simp_all[GL]⟩ (by simp at hlt;omega) AR;done)|(refine B8 _ ?_;simp(disch:=omega)only[go_sem];refine wb ?_;(rw[bad (by simp_all[GL])])))
 ·subst hil;rw[take_length]at hP;refine Ap _ ?_;exact wb (by simp only[sound,D4,hconvs,hP,g1,g2,g4];simp;omega)
end Go.Rd
