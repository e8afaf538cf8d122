/- part 11 of the proof -/
import Derived.Test.YthachdiockkofaaGreatDoorS10
set_option linter.all false
open Go Go.Abs Go.Proofs
set_option maxRecDepth 100000
namespace Go.Rd
set_option maxHeartbeats 8000000
open List (all_cons any_cons any_nil mem_append take_add_one take_length)
open Tryz
theorem wb{a b:Bool}(h:a=b):BC (.v (.bool a)) (B b):=.eq (by rw[h])
theorem wi{a b:Int}(h:a=b):BC (.v (.int .i64 a)) (I b):=.eq (by rw[h])
def Br(l:List Proc)(p:Proc):Bool:=decide (p∈l)
theorem Q2{α:Type}[DecidableEq α]{l:List α}{p:α}(h:l.find? (fun x=>decide (x=p))=none):p∉l:=by
 rw[List.find?_eq_none]at h;intro hp;simpa using h p hp
theorem f29_ok(l:List Proc)(p:Proc)(hl:l.length≤1000000):Ac C0 29 [AD l,.agg p.c] [] (B (Br l p)) []:=by
 refine Ac.go f29 ?_;unfold f29;refine gO ?_;refine Aa (α:=Nat) (fun i=>⟨[(5,I i),(0,AD l),(3,.ptr 192 0)],[(192,p.c)]⟩) (fun i=>i≤(l).length∧(l.take i).find? (fun x=>decide (x=p))=none) (fun i=>(l).length-i) 0 ⟨by omega,rfl⟩ ?_ ?_
 ·exact Ca
 rintro i ⟨hi,hP⟩ J hJ;refine gO ?_;refine ⟨fun hlt=>?_,fun hge=>?_⟩;rotate_left;have hil:i=(l).length:=by simp at hge;omega
 rotate_left;obtain⟨b,hb⟩:∃ b,(l)[i]?=some b:=⟨_,gE (by simp at hlt;omega)⟩;have hbm:=mG hb;have hlt2:i<(l).length:=by simp at hlt;omega
 refine Aq 5 [([],[0]),([],[5]),([],[12,13]),([],[14]),([],[3])] fol ?_;simp(disch:=omega)only[go_sem,gm,hb]
 ·refine⟨fun h=>?_,fun h=>?_⟩
  ·have e:Br l p=true:=by simp at h;subst h;simp[Br,hbm]
   simp(disch:=omega)only[go_sem,e];exact AH _
  ·refine hJ _ (i+1) ⟨by simp at hlt;omega,(by rw[BU hP hb];simp at h;simp[h])⟩ (by simp at hlt;omega) AK
 ·subst hil;rw[take_length]at hP;have e:Br l p=false:=by simp[Br,Q2 hP]
  simp(disch:=omega)only[go_sem,e];exact AH _
def ord(a b:Int):Int:=if a<b then -1 else if b<a then 1 else 0
theorem f159_ok(a b:Int):Ac C0 159 [I a,I b] [] (I (ord a b)) []:=by
 refine Ac.go f159 ?_;unfold f159;simp(disch:=omega)only[go_sem]
 repeat'(with_reducible refine And.intro (fun h=>?_) (fun h=>?_))
 all_goals(refine B0 _ ?_)
 all_goals(try simp(disch:=omega)only[go_sem])
 all_goals(first|refine wb ?_|refine wi ?_|refine .eq ?_)
 all_goals(first|(simp_all[ord]<;>omega)|(refine Bool.eq_iff_iff.2 ?_;simp_all[ord]<;>omega))
theorem YM(p q:Proc):AT p q=if ord p.site q.site≠0 then ord p.site q.site else if ord p.inc q.inc≠0 then ord p.inc q.inc else ord p.num q.num:=by
 unfold AT ord
 repeat' split
 all_goals first|rfl|omega
theorem f107_ok(p q:Proc):Ac C0 107 [.agg p.c,.agg q.c] [] (I (AT p q)) []:=by
 refine Ac.go f107 ?_;unfold f107;refine gO ?_;refine Ab (f159_ok p.site q.site) ?_;refine gO ?_;have hc:=YM p q;refine⟨fun h=>?_,fun h=>?_⟩
 ·simp at h;rw[if_pos h]at hc;refine Ap _ ?_;exact .eq (by rw[hc])
 simp at h;rw[if_neg (by simp[h])]at hc;refine Ab (f159_ok p.inc q.inc) ?_;refine gO ?_;refine⟨fun h=>?_,fun h=>?_⟩
 ·simp at h;rw[if_pos h]at hc;refine Ap _ ?_;exact .eq (by rw[hc])
 simp at h;rw[if_neg (by simp[h])]at hc;refine Ab (f159_ok p.num q.num) ?_;refine gO ?_;refine Ap _ ?_;exact .eq (by rw[hc])
theorem f162_ok(a:Amt):Ac C0 162 [.agg a.c] [] (B a.zero) []:=by
 refine Ac.go f162 ?_;unfold f162;simp(disch:=omega)only[go_sem]
 repeat'(with_reducible refine And.intro (fun h=>?_) (fun h=>?_))
 all_goals(refine B0 _ ?_)
 all_goals(try simp(disch:=omega)only[go_sem])
 all_goals(first|refine wb ?_|refine wi ?_|refine .eq ?_)
 all_goals(first|(simp_all[Amt.zero]<;>omega)|(refine Bool.eq_iff_iff.2 ?_;simp_all[Amt.zero]<;>omega))
theorem f250_ok(r:Res):Ac C0 250 [.agg r.c] [] (B r.shaped) []:=by
 refine Ac.go f250 ?_;unfold f250;simp(disch:=omega)only[go_sem]
 repeat'(with_reducible refine And.intro (fun h=>?_) (fun h=>?_))
 all_goals(refine B0 _ ?_)
 all_goals(try simp(disch:=omega)only[go_sem])
 all_goals(first|refine wb ?_|refine wi ?_|refine .eq ?_)
 all_goals(first|(simp_all[Res.shaped,between]<;>omega)|(refine Bool.eq_iff_iff.2 ?_;simp_all[Res.shaped,between]<;>omega))
theorem f251_ok(m:Int):Ac C0 251 [I m] [] (B (AX m)) []:=by
 refine Ac.go f251 ?_;unfold f251;simp(disch:=omega)only[go_sem]
 repeat'(with_reducible refine And.intro (fun h=>?_) (fun h=>?_))
 all_goals(refine B0 _ ?_)
 all_goals(try simp(disch:=omega)only[go_sem])
 all_goals(first|refine wb ?_|refine wi ?_|refine .eq ?_)
 all_goals(first|(simp_all[AX,between]<;>omega)|(refine Bool.eq_iff_iff.2 ?_;simp_all[AX,between]<;>omega))
theorem f171_ok(r:Res)(a:Amt):Ac C0 171 [.agg r.c,.agg a.c] [] (B (r.fits a)) []:=by
 refine Ac.go f171 ?_;unfold f171;simp(disch:=omega)only[go_sem]
 repeat'(first
  |(with_reducible refine And.intro (fun h=>?_) (fun h=>?_))
  |((with_reducible show AG _ _ 250 _ _ _);refine Af (f250_ok r) ?_ rfl ?_;(focus(simp(disch:=omega)only[go_sem];done));try simp(disch:=omega)only[go_sem])
  |((with_reducible show AG _ _ 251 _ _ _);refine Af (f251_ok a.mode) ?_ rfl ?_;(focus(simp(disch:=omega)only[go_sem];done));try simp(disch:=omega)only[go_sem]))
 all_goals(refine B0 _ ?_)
 all_goals(try simp(disch:=omega)only[go_sem])
 all_goals(first|refine wb ?_|refine wi ?_|refine .eq ?_)
 all_goals(first|(simp_all[Res.fits,between]<;>omega)|(refine Bool.eq_iff_iff.2 ?_;simp_all[Res.fits,between]<;>omega))
theorem f153_ok(l:List Wait)(p:Proc)(hl:l.length≤1000000):Ac C0 153 [Bt l,.agg p.c] [] (I (E2 l p)) []:=by
 refine Ac.go f153 ?_;unfold f153;refine gO ?_;refine Aa (α:=Nat) (fun i=>⟨[(5,I i),(0,Bt l),(3,.ptr 192 0)],[(192,p.c)]⟩) (fun i=>i≤(l).length∧(l.take i).find? (fun h=>decide (h.proc=p))=none) (fun i=>(l).length-i) 0 ⟨by omega,rfl⟩ ?_ ?_
 ·exact Ca
 rintro i ⟨hi,hP⟩ J hJ;refine gO ?_;refine ⟨fun hlt=>?_,fun hge=>?_⟩;rotate_left;have hil:i=(l).length:=by simp at hge;omega
 rotate_left;obtain⟨b,hb⟩:∃ b,(l)[i]?=some b:=⟨_,gE (by simp at hlt;omega)⟩;have hbm:=mG hb;have hlt2:i<(l).length:=by simp at hlt;omega
 refine Aq 6 [([],[0]),([],[5]),([],[12,13]),([],[14]),([],[15]),([],[3])] fol ?_;simp(disch:=omega)only[go_sem,gm,hb]
 ·refine⟨fun h=>?_,fun h=>?_⟩
  ·have e:E2 l p=i:=by unfold E2;rw[F9 hP b hb (by simpa using h)]
   simp(disch:=omega)only[go_sem,e];exact AH _
  ·refine hJ _ (i+1) ⟨by simp at hlt;omega,(by rw[BU hP hb];simp at h;simp[h])⟩ (by simp at hlt;omega) AK
 ·subst hil;rw[take_length]at hP;have e:E2 l p = -1:=by
   unfold E2;have:l.findIdx? (fun h=>decide (h.proc=p))=none:=by
    rw[List.findIdx?_eq_none_iff];rw[List.find?_eq_none]at hP;intro x hx;simpa using hP x hx
   rw[this]
  simp(disch:=omega)only[go_sem,e];exact AH _
theorem f244_ok(l:List Hold)(p:Proc)(hl:l.length≤1000000):Ac C0 244 [AB l,.agg p.c] [] (.agg (Ak l p).c) []:=by
 refine Ac.go f244 ?_;unfold f244;refine gO ?_;refine Aa (α:=Nat) (fun i=>⟨[(5,I i),(0,AB l),(3,.ptr 192 0),(4,.ptr 256 0)],[(192,p.c),(256,(⟨0,0⟩:Amt).c)]⟩) (fun i=>i≤(l).length∧(l.take i).find? (fun h=>decide (h.proc=p))=none) (fun i=>(l).length-i) 0 ⟨by omega,rfl⟩ ?_ ?_
 ·exact Ca
 rintro i ⟨hi,hP⟩ J hJ;refine gO ?_;refine ⟨fun hlt=>?_,fun hge=>?_⟩;rotate_left;have hil:i=(l).length:=by simp at hge;omega
 rotate_left;obtain⟨b,hb⟩:∃ b,(l)[i]?=some b:=⟨_,gE (by simp at hlt;omega)⟩;have hbm:=mG hb;have hlt2:i<(l).length:=by simp at hlt;omega
 refine Aq 6 [([],[0]),([],[5]),([],[12,13]),([],[14]),([],[15]),([],[3])] fol ?_;simp(disch:=omega)only[go_sem,gm,hb]
 ·refine⟨fun h=>?_,fun h=>?_⟩
  ·have e:Ak l p=b.amt:=by unfold Ak;rw[Ix hP hb (by simpa using h)]
   simp(disch:=omega)only[go_sem,e];exact AH _
  ·refine hJ _ (i+1) ⟨by simp at hlt;omega,(by rw[BU hP hb];simp at h;simp[h])⟩ (by simp at hlt;omega) AK
 ·subst hil;rw[take_length]at hP;have e:Ak l p=⟨0,0⟩:=by unfold Ak;rw[hP]
  simp(disch:=omega)only[go_sem,e];exact AH _
theorem f284_ok(c:UInt8):Ac C0 284 [.v (.int .u8 c.toNat)] [] (B (letter c)) []:=by
 refine Ac.go f284 ?_;unfold f284;simp(disch:=omega)only[go_sem]
 repeat'(with_reducible refine And.intro (fun h=>?_) (fun h=>?_))
 all_goals(refine B0 _ ?_)
 all_goals(try simp(disch:=omega)only[go_sem])
 all_goals(first|refine wb ?_|refine wi ?_|refine .eq ?_)
 all_goals(first|(simp_all[letter]<;>omega)|(refine Bool.eq_iff_iff.2 ?_;simp_all[letter]<;>omega))
theorem f285_ok(s:Bs):Ac C0 285 [.v (.string (str s))] [] (B (reserved s)) []:=by
 refine Ac.go f285 ?_;unfold f285;simp(disch:=omega)only[go_sem]
 repeat'(first
  |(with_reducible refine And.intro (fun h=>?_) (fun h=>?_))
)
 all_goals(refine B0 _ ?_)
 all_goals(try simp(disch:=omega)only[go_sem])
 all_goals(first|refine wb ?_|refine wi ?_|refine .eq ?_)
 all_goals(first|(simp_all[reserved]<;>omega)|(refine Bool.eq_iff_iff.2 ?_;simp_all[reserved]<;>omega))
def part(c:UInt8):Bool:=letter c||other c
theorem f286_ok(c:UInt8):Ac C0 286 [.v (.int .u8 c.toNat)] [] (B (part c)) []:=by
 refine Ac.go f286 ?_;unfold f286;simp(disch:=omega)only[go_sem]
 repeat'(first
  |(with_reducible refine And.intro (fun h=>?_) (fun h=>?_))
  |((with_reducible show AG _ _ 284 _ _ _);refine Af (f284_ok c) ?_ rfl ?_;(focus(simp(disch:=omega)only[go_sem];done));try simp(disch:=omega)only[go_sem]))
 all_goals(refine B0 _ ?_)
 all_goals(try simp(disch:=omega)only[go_sem])
 all_goals(first|refine wb ?_|refine wi ?_|refine .eq ?_)
 all_goals(first|(simp_all[part,letter,other]<;>omega)|(refine Bool.eq_iff_iff.2 ?_;simp_all[part,letter,other]<;>omega))
theorem Wg(s:Bs):Bp s=(decide (1≤s.length)&&decide (s.length≤12)&&(match s with | []=>false|c::_=>letter c)&&!reserved s&&s.all part):=by
 cases s with
 | nil=>rfl
 | cons c l =>
  have h:∀ (l:List UInt8) (k:Nat),((l.zipIdx (k+1)).all fun x=>okc x.2 x.1)=l.all part:=by
   intro l
   induction l with
   | nil=>intro k;rfl
   | cons x l ih =>
    intro k;simp only[List.zipIdx_cons,all_cons,ih];simp[okc,part]
  simp only[Bp,BO,List.zipIdx_cons,all_cons,h];simp only[okc,part];cases letter c<;>simp
theorem Pz{α:Type}{f:α→Bool}{l:List α}{i:Nat}{b:α}(hb:l[i]?=some b):(l.take (i+1)).all f=((l.take i).all f&&f b):=by
 simp[take_add_one,hb,List.all_append]
theorem all_false{α:Type}{f:α→Bool}{l:List α}{b:α}(hb:b∈l)(h:f b=false):l.all f=false:=by
 rw[List.all_eq_false];exact⟨b,hb,by simp[h]⟩
theorem UJ(c:UInt8)(l s:Bs)(hs:s=c::l):Bp s=(decide (s.length≤12)&&letter c&&!reserved s&&s.all part):=by
 rw[Wg];subst hs;simp
theorem f247_ok(s:Bs):Ac C0 247 [.v (.string (str s))] [] (B (Bp s)) []:=by
 refine Ac.go f247 ?_;unfold f247;cases hs:s with
 | nil =>
  simp(disch:=omega)only[go_sem,List.length_nil];refine Ap _ ?_;exact wb (by decide)
 | cons c l =>
  have e3:s[0]?=some c:=by rw[hs];rfl
  have hk:=UJ c l s hs;have e1:((s.length:Int)<1)=False:=by rw[hs];simp;omega
  rw[← hs];clear hs
  by_cases h2:12<s.length
  ·have e2:(12<(s.length:Int))=True:=by simp;omega
   simp(disch:=omega)only[go_sem,e1,e2,decide_false];refine Ap _ ?_;exact .eq (by rw[hk];simp;omega)
  ·have e2:(12<(s.length:Int))=False:=by simp;omega
   have e5:decide (s.length≤12)=true:=by simp;omega
   rw[e5]at hk;simp(disch:=omega)only[go_sem,e1,e2,e3,decide_false];refine Ab (f284_ok c) ?_;cases hc:letter c
   ·rw[hc]at hk;simp(disch:=omega)only[go_sem,Bool.not_false,hk];exact AH _
   simp(disch:=omega)only[go_sem,Bool.not_true];refine Ab (f285_ok s) ?_;cases hr:reserved s;rotate_left
   ·rw[hr]at hk;simp(disch:=omega)only[go_sem,hk];exact AH _
   refine gO ?_;refine Aa (α:=Nat) (fun i=>⟨[(3,I i),(0,.v (.string (str s)))],[]⟩) (fun i=>i≤(s).length∧(s.take i).all part=true) (fun i=>(s).length-i) 0 ⟨by omega,rfl⟩ ?_ ?_
   ·exact Ca
   rintro i ⟨hi,hP⟩ J hJ;refine gO ?_;refine ⟨fun hlt=>?_,fun hge=>?_⟩;rotate_left;have hil:i=(s).length:=by simp at hge;omega
   rotate_left;obtain⟨b,hb⟩:∃ b,(s)[i]?=some b:=⟨_,gE (by simp at hlt;omega)⟩;have hbm:=mG hb;have hlt2:i<(s).length:=by simp at hlt;omega
   simp(disch:=omega)only[go_sem,gm,hb]
   ·refine Ab (f286_ok b) ?_;cases hp:part b
    ·simp(disch:=omega)only[go_sem,Bool.not_false];refine Ap _ ?_;exact .eq (by rw[hk,all_false hbm hp];simp)
    ·simp(disch:=omega)only[go_sem,Bool.not_true];refine hJ _ (i+1) ⟨by simp at hlt;omega,(by rw[Pz hb,hP,hp];rfl)⟩ (by simp at hlt;omega) AK
   ·subst hil;rw[take_length]at hP;refine Ap _ ?_;exact .eq (by rw[hk,hc,hr,hP];rfl)
theorem f246_ok(r:Res):Ac C0 246 [.agg r.c] [] (B (Bp r.name&&r.shaped&&between r.home 0 3)) []:=by
 refine Ac.go f246 ?_;unfold f246;simp(disch:=omega)only[go_sem]
 repeat'(first
  |(with_reducible refine And.intro (fun h=>?_) (fun h=>?_))
  |((with_reducible show AG _ _ 247 _ _ _);refine Af (f247_ok r.name) ?_ rfl ?_;(focus(simp(disch:=omega)only[go_sem];done));try simp(disch:=omega)only[go_sem])
  |((with_reducible show AG _ _ 250 _ _ _);refine Af (f250_ok r) ?_ rfl ?_;(focus(simp(disch:=omega)only[go_sem];done));try simp(disch:=omega)only[go_sem]))
 all_goals(refine B0 _ ?_)
 all_goals(try simp(disch:=omega)only[go_sem])
 all_goals(first|refine wb ?_|refine wi ?_|refine .eq ?_)
 all_goals(first|(simp_all[between]<;>omega)|(refine Bool.eq_iff_iff.2 ?_;simp_all[between]<;>omega))
theorem f287_ok(a b:Int):Ac C0 287 [I a,I b] [] (B (AL a b)) []:=by
 refine Ac.go f287 ?_;unfold f287;refine gO ?_;refine Ab (f251_ok a) ?_;cases ha:AX a
 ·simp(disch:=omega)only[go_sem,Bool.not_false];refine Ap _ ?_;exact .eq (by simp[AL,ha])
 simp(disch:=omega)only[go_sem,Bool.not_true];refine Ab (f251_ok b) ?_;cases hb:AX b
 ·simp(disch:=omega)only[go_sem,Bool.not_false];refine Ap _ ?_;exact .eq (by simp[AL,hb])
 simp(disch:=omega)only[go_sem,Bool.not_true];obtain rfl|rfl|rfl|rfl|rfl:=Ax ha<;>obtain rfl|rfl|rfl|rfl|rfl:=Ax hb
 all_goals(try simp(disch:=omega)only[go_sem])
 all_goals(refine B0 _ ?_)
 all_goals simp(disch:=omega)only[go_sem]
 all_goals exact wb (by decide)
theorem f289_ok(r:Res)(a:Amt):Ac C0 289 [.agg r.c,.agg a.c] [] (B (r.permits a)) []:=by
 refine Ac.go f289 ?_;unfold f289;simp(disch:=omega)only[go_sem]
 repeat'(first
  |(with_reducible refine And.intro (fun h=>?_) (fun h=>?_))
  |((with_reducible show AG _ _ 250 _ _ _);refine Af (f250_ok r) ?_ rfl ?_;(focus(simp(disch:=omega)only[go_sem];done));try simp(disch:=omega)only[go_sem])
  |((with_reducible show AG _ _ 162 _ _ _);refine Af (f162_ok a) ?_ rfl ?_;(focus(simp(disch:=omega)only[go_sem];done));try simp(disch:=omega)only[go_sem])
  |((with_reducible show AG _ _ 171 _ _ _);refine Af (f171_ok r a) ?_ rfl ?_;(focus(simp(disch:=omega)only[go_sem];done));try simp(disch:=omega)only[go_sem]))
 all_goals(refine B0 _ ?_)
 all_goals(try simp(disch:=omega)only[go_sem])
 all_goals(first|refine wb ?_|refine wi ?_|refine .eq ?_)
 all_goals(first|(simp_all[Res.permits]<;>omega)|(refine Bool.eq_iff_iff.2 ?_;simp_all[Res.permits]<;>omega))
theorem f105_ok(p:Proc):Ac C0 105 [.agg p.c] [] (B p.ok) []:=by
 refine Ac.go f105 ?_;unfold f105;simp(disch:=omega)only[go_sem]
 repeat'(with_reducible refine And.intro (fun h=>?_) (fun h=>?_))
 all_goals(refine B0 _ ?_)
 all_goals(try simp(disch:=omega)only[go_sem])
 all_goals(first|refine wb ?_|refine wi ?_|refine .eq ?_)
 all_goals(first|(simp_all[Proc.ok,between]<;>omega)|(refine Bool.eq_iff_iff.2 ?_;simp_all[Proc.ok,between]<;>omega))
theorem f304_ok(a b:Int):Ac C0 304 [I a,I b] [] (B (Bx a b)) []:=by
 refine Ac.go f304 ?_;unfold f304;refine gO ?_;refine Ab (f251_ok a) ?_;cases ha:AX a
 ·simp(disch:=omega)only[go_sem,Bool.not_false];refine Ap _ ?_;exact .eq (by simp[Bx,ha])
 simp(disch:=omega)only[go_sem,Bool.not_true];refine Ab (f251_ok b) ?_;cases hb:AX b
 ·simp(disch:=omega)only[go_sem,Bool.not_false];refine Ap _ ?_;exact .eq (by simp[Bx,hb])
 simp(disch:=omega)only[go_sem,Bool.not_true];obtain rfl|rfl|rfl|rfl|rfl:=Ax ha<;>obtain rfl|rfl|rfl|rfl|rfl:=Ax hb
 all_goals(try simp(disch:=omega)only[go_sem])
 all_goals(refine B0 _ ?_)
 all_goals simp(disch:=omega)only[go_sem]
 all_goals exact wb (by decide)
theorem MF(a b:Int):Bx a b=Bx b a:=by
 cases ha:AX a
 ·simp[Bx,ha]
 cases hb:AX b
 ·simp[Bx,hb]
 obtain rfl|rfl|rfl|rfl|rfl:=Ax ha<;>obtain rfl|rfl|rfl|rfl|rfl:=Ax hb<;>decide
theorem f303_ok(l:List Hold)(hl:l.length≤1000000):Ac C0 303 [AB l] [] (Oo (l.map (·.amt))) []:=by
 refine Ac.go f303 ?_;unfold f303;refine gO ?_;refine Aa (α:=Nat) (fun i=>⟨[(4,I i),(0,AB l),(3,.sl (.own 1152 0) 2 ((l.take i).map fun h=>h.amt.c))],[]⟩) (fun i=>i≤(l).length∧True) (fun i=>(l).length-i) 0 ⟨by omega,trivial⟩ ?_ ?_
 ·exact Ca
 rintro i ⟨hi,hP⟩ J hJ;refine gO ?_;refine ⟨fun hlt=>?_,fun hge=>?_⟩;rotate_left;have hil:i=(l).length:=by simp at hge;omega
 rotate_left;obtain⟨b,hb⟩:∃ b,(l)[i]?=some b:=⟨_,gE (by simp at hlt;omega)⟩;have hbm:=mG hb;have hlt2:i<(l).length:=by simp at hlt;omega
 simp(disch:=omega)only[go_sem,gm,hb]
 ·refine hJ _ (i+1) ⟨by simp at hlt;omega,trivial⟩ (by simp at hlt;omega) (Imp.weak ?_ gI);refine gO ?_;exact .sl (by simp[take_add_one,hb,Amt.c])
 ·subst hil;refine CT ⟨[],[],[1152]⟩ _ ?_;simp(disch:=omega)only[go_sem,take_length];exact .sl (by simp[Amt.c])
theorem f274_ok(a:Amt):Ac C0 274 [.agg a.c] [] (B (G4.fits a||Ha.fits a)) []:=by
 have e:(G4.fits a||Ha.fits a)=(AX a.mode&&a.units==0||(a.mode==0&&decide (1≤a.units)&&decide (a.units≤8))):=by
  refine Bool.eq_iff_iff.2 ?_;simp[G4,Ha,Res.fits,Res.shaped,between,and_assoc];exact⟨fun h=>h.imp id fun h=>⟨h.1,h.2.1,of_decide_eq_true h.2.2⟩,fun h=>h.imp id fun h=>⟨h.1,h.2.1,decide_eq_true h.2.2⟩⟩
 rw[e];refine Ac.go f274 ?_;unfold f274;simp(disch:=omega)only[go_sem]
 repeat'(first
  |(with_reducible refine And.intro (fun h=>?_) (fun h=>?_))
  |((with_reducible show AG _ _ 251 _ _ _);refine Af (f251_ok a.mode) ?_ rfl ?_;(focus(simp(disch:=omega)only[go_sem];done));try simp(disch:=omega)only[go_sem]))
 all_goals(refine B0 _ ?_)
 all_goals(try simp(disch:=omega)only[go_sem])
 all_goals(first|refine wb ?_|refine wi ?_|refine .eq ?_)
 all_goals(first|(simp_all[]<;>omega)|(refine Bool.eq_iff_iff.2 ?_;simp_all[]<;>omega))
theorem f315_ok(w:Wait):Ac C0 315 [.agg w.c] [] (B w.ok) []:=by
 refine Ac.go f315 ?_;unfold f315;simp(disch:=omega)only[go_sem]
 repeat'(first
  |(with_reducible refine And.intro (fun h=>?_) (fun h=>?_))
  |((with_reducible show AG _ _ 105 _ _ _);refine Af (f105_ok w.proc) ?_ rfl ?_;(focus(simp(disch:=omega)only[go_sem];done));try simp(disch:=omega)only[go_sem])
  |((with_reducible show AG _ _ 274 _ _ _);refine Af (f274_ok w.amt) ?_ rfl ?_;(focus(simp(disch:=omega)only[go_sem];done));try simp(disch:=omega)only[go_sem]))
 all_goals(refine B0 _ ?_)
 all_goals(try simp(disch:=omega)only[go_sem])
 all_goals(first|refine wb ?_|refine wi ?_|refine .eq ?_)
 all_goals(first|(simp_all[Wait.ok,between]<;>omega)|(refine Bool.eq_iff_iff.2 ?_;simp_all[Wait.ok,between]<;>omega))
theorem f282_ok(l:List Wait)(hl:l.length≤1000000):Ac C0 282 [Bt l] [] (B (CY l)) []:=by
 refine Ac.go f282 ?_;unfold f282
 by_cases h1:8<l.length
 ·have e1:(8<(l.length:Int))=True:=by simp;omega
  simp(disch:=omega)only[go_sem,e1];refine Ap _ ?_;exact .eq (by simp[CY];omega)
 have e1:(8<(l.length:Int))=False:=by simp;omega
 simp(disch:=omega)only[go_sem,e1,decide_false];refine Aa (α:=Nat) (fun i=>⟨[(3,I i),(0,Bt l)],[]⟩) (fun i=>i≤(l).length∧BO (ER l) (l.take i)=true) (fun i=>(l).length-i) 0 ⟨by omega,rfl⟩ ?_ ?_
 ·exact Ca
 rintro i ⟨hi,hP⟩ J hJ;refine gO ?_;refine ⟨fun hlt=>?_,fun hge=>?_⟩;rotate_left;have hil:i=(l).length:=by simp at hge;omega
 rotate_left;obtain⟨b,hb⟩:∃ b,(l)[i]?=some b:=⟨_,gE (by simp at hlt;omega)⟩;have hbm:=mG hb;have hlt2:i<(l).length:=by simp at hlt;omega
 simp(disch:=omega)only[go_sem,gm,hb]
 ·refine Ab (f315_ok b) ?_;cases hw:b.ok
  ·have e:CY l=false:=by simp[CY,Bj hb (show ER l i b=false by simp[ER,hw])]
   simp(disch:=omega)only[go_sem,Bool.not_false,e];exact AH _
  simp(disch:=omega)only[go_sem,Bool.not_true,gm,hb];refine Ab (f153_ok l b.proc (by omega)) ?_;refine gO ?_;refine⟨fun h=>?_,fun h=>?_⟩
  ·have e:CY l=false:=by simp[CY,Bj hb (show ER l i b=false by simp at h;simp[ER,h])]
   simp(disch:=omega)only[go_sem,e];exact AH _
  ·refine hJ _ (i+1) ⟨by simp at hlt;omega,(by rw[B4 hb,hP];simp at h;simp[ER,hw,h])⟩ (by simp at hlt;omega) AK
 ·subst hil;rw[take_length]at hP;have e:CY l=true:=by simp[CY,hP];omega
  simp(disch:=omega)only[go_sem,e];exact AH _
def Ef(l:List Amt):List Bool:=(List.range 6).map fun k:Nat=>decide (k≠0)&&l.any fun a=>a.mode==((k:Nat):Int)
theorem Wu:Ef []=no6:=rfl
theorem QI(l:List Amt)(k:Nat)(hk:k<6):(Ef l).getD k false=(decide (k≠0)&&l.any fun a=>a.mode==(k:Int)):=by
 simp[Ef,List.getD,hk]
theorem Ni(l:List Amt)(a:Amt)(h:a.mode=0):Ef (l++[a])=Ef l:=by
 unfold Ef;refine List.map_congr_left fun k hk=>?_
 simp only[List.any_append,any_cons,any_nil,h]
 by_cases hk0:k=0
 ·simp[hk0]
 ·have:((0:Int)==(k:Int))=false:=by simp;omega
  simp[this]
theorem U9(l:List Amt)(a:Amt)(h:AX a.mode=true):Ef (l++[a])=(Ef l).set a.mode.toNat true:=by
 have hm:=Ax h;refine List.ext_getElem (by simp[Ef]) fun k h1 h2=>?_
 have hk:k<6:=by simpa [Ef]using h1
 simp only[Ef,List.getElem_map,List.getElem_range,List.any_append,any_cons,any_nil,List.getElem_set]
 by_cases hx:a.mode.toNat=k
 ·have e:(a.mode==(k:Int))=true:=by simp;omega
  rw[if_pos hx,e];have:decide (k≠0)=true:=by simp;omega
  simp[this]
 ·have e:(a.mode==(k:Int))=false:=by simp;omega
  rw[if_neg hx,e];simp
theorem Yo{l:List Amt}{m:Int}(h:∀ a∈l,a.mode≠0→Bx m a.mode=true):D4 (Ef l) m=true:=by
 unfold D4;rw[List.all_eq_true];intro k hk;have hk6:k<6:=by simpa using hk
 rw[QI l k hk6]
 by_cases hk0:k=0
 ·simp[hk0]
 cases ha:l.any fun a=>a.mode==(k:Int)
 ·simp
 ·obtain⟨a,hm,he⟩:=List.any_eq_true.1 ha;have he':a.mode=k:=by simpa using he
  have:=h a hm (by omega);rw[he',MF]at this;simp[this]
theorem Wt{l:List Amt}{m:Int}{a:Amt}(hm:a∈l)(h0:AX a.mode=true)(h:Bx m a.mode=false):D4 (Ef l) m=false:=by
 have hc:=Ax h0;unfold D4;rw[List.all_eq_false];refine⟨a.mode.toNat,by simp;omega,?_⟩;rw[QI l _ (by omega)];have e1:decide (a.mode.toNat≠0)=true:=by simp;omega
 have e2:((a.mode.toNat:Nat):Int)=a.mode:=by omega
 have e3:(l.any fun b=>b.mode==((a.mode.toNat:Nat):Int))=true:=by
  rw[List.any_eq_true];exact⟨a,hm,by simp[e2]⟩
 rw[e1,e3,e2,MF,h];decide
theorem Na{r:Res}{a:Amt}(hk:r.kind=1)(h:r.permits a=true):a.units=0∧(a.mode=0∨AX a.mode=true)∧a.zero=decide (a.mode=0):=by
 simp only[Res.permits,Bool.and_eq_true,Bool.or_eq_true,Res.fits,hk,if_true]at h;obtain⟨h1,h2|h2⟩:=h
 ·have hz:=h2;simp[Amt.zero]at h2;exact⟨h2.2,.inl h2.1,by rw[hz];simp[h2.1]⟩
 ·obtain⟨_,h3,h4⟩:=h2;have:=Ax h3;simp at h4;exact⟨h4,.inr h3,by simp[Amt.zero,h4];rfl⟩
theorem Tg{r:Res}{a:Amt}(hk:r.kind=2)(h:r.permits a=true):0≤a.units∧a.units≤8∧a.mode=0:=by
 have h':=ID h;simp only[Res.permits,Bool.and_eq_true,Bool.or_eq_true,Res.fits,hk]at h;obtain⟨h1,h2|h2⟩:=h
 ·simp[Amt.zero]at h2;omega
 ·simp at h2;omega
theorem Ve{r:Res}(h:r.shaped=true):(r.kind=1∧r.units=1)∨r.kind=2:=by
 simp only[Res.shaped]at h;split at h
 ·simp at h;exact .inl ⟨by assumption,h⟩
 ·split at h
  ·exact .inr (by assumption)
  ·cases h
theorem f267_ok(r:Res)(l:List Amt)(hl:l.length≤1000000):Ac C0 267 [.agg r.c,Oo l] [] (B (r.compat l)) []:=by
 refine Ac.go f267 ?_;unfold f267;refine gO ?_;refine Ab (f250_ok r) ?_;cases hs:r.shaped
 ·have e:r.compat l=false:=by simp[Res.compat,hs]
  simp(disch:=omega)only[go_sem,Bool.not_false,e];exact AH _
 obtain⟨hu1,hu2⟩:=J3 hs;have hkind:=Ve hs;have hcomp:r.compat l=Bh r l 0 no6:=by simp[Res.compat,hs]
 simp(disch:=omega)only[go_sem,Bool.not_true];refine Aa (α:=Nat × Int) (fun q=>⟨[(6,I q.1),(1,Oo l),(5,I q.2),(2,.ptr 128 0)],[(128,r.c)]⟩)
  (fun q=>q.1≤l.length∧(r.kind=1→q.2=0)∧0≤q.2∧q.2≤8∧(∀ a∈l.take q.1,r.permits a=true)∧Bh r (l.drop q.1) q.2 (Ef (l.take q.1))=Bh r l 0 no6) (fun q=>l.length-q.1) (0,0) ⟨by simp,by simp,by simp,by simp,by simp,by simp[Wu]⟩ ?_ ?_
 ·refine Imp.weak ?_ ?_
  ·exact gI
  ·exact gI
 rintro⟨i,sum⟩ ⟨hi,hk1,hs0,hs8,hperm,hc⟩ J hJ
 replace hi:i≤l.length:=hi
 replace hk1:r.kind=1→sum=0:=hk1
 replace hs0:0≤sum:=hs0
 replace hs8:sum≤8:=hs8
 replace hperm:∀ a∈l.take i,r.permits a=true:=hperm
 replace hc:Bh r (l.drop i) sum (Ef (l.take i))=Bh r l 0 no6:=hc
 refine gO ?_;refine ⟨fun hlt=>?_,fun hge=>?_⟩
 ·have hlt':i<l.length:=by simp at hlt;omega
  obtain⟨b,hb⟩:∃ b,l[i]?=some b:=⟨_,gE hlt'⟩;have hd:l.drop i=b::l.drop (i+1):=by
   rw[List.drop_eq_getElem_cons hlt'];rw[gE hlt']at hb;injection hb with hb
   rw[hb]
  have ht:l.take (i+1)=l.take i++[b]:=by rw[take_add_one,hb];rfl
  rw[hd]at hc;simp only[Bh]at hc;refine Aq 5 [([],[2]),([],[1]),([],[6]),([],[18,19]),([],[20])] fol ?_;simp(disch:=omega)only[go_sem,gm,hb];refine Ab (f289_ok r b) ?_;cases hp:r.permits b
  ·have e:r.compat l=false:=by rw[hcomp,← hc,hp];rfl
   simp(disch:=omega)only[go_sem,Bool.not_false,e];exact AH _
  obtain⟨hb0,hb8,hbm⟩:=ID hp;have hperm':∀ a∈l.take (i+1),r.permits a=true:=fun a ha=>by
   rw[ht]at ha;rcases mem_append.1 ha with h|h
   ·exact hperm a h
   ·simp at h;rw[h];exact hp
  rw[hp]at hc
  by_cases hk2:r.kind=2
  ·have e2:(r.kind==2)=true:=by simp[hk2]
   obtain⟨_,_,hm⟩:=Tg hk2 hp
   by_cases hgt:r.units<sum+b.units
   ·have e:r.compat l=false:=by rw[hcomp,← hc];simp[hgt]
    simp(disch:=omega)only[go_sem,Bool.not_true,e2,gm,hb,hgt,e];exact AH _
   simp(disch:=omega)only[go_sem,Bool.not_true,e2,gm,hb,hgt,decide_false];refine hJ _ (i+1,sum+b.units) ⟨by simp;omega,by simp;omega,by simp;omega,by simp;omega,hperm',?_⟩ (by simp;omega) AK;simp only[ht];rw[Ni _ _ hm];simpa [hgt,hm]using hc
  have hk1':r.kind=1:=by rcases hkind with h|h;exact h.1;exact absurd h hk2
  have hru:r.units=1:=by rcases hkind with h|h;exact h.2;exact absurd h hk2
  have e2:(r.kind==2)=false:=by simp[hk2]
  have hsum:=hk1 hk1';subst hsum;obtain⟨hbu,hbmm,hbz⟩:=Na hk1' hp;have hgt:¬ r.units<0+b.units:=by omega
  have hcs:(if b.mode=0 then Bh r (l.drop (i+1)) 0 (Ef (l.take i)) else D4 (Ef (l.take i)) b.mode&&Bh r (l.drop (i+1)) 0 ((Ef (l.take i)).set b.mode.toNat true))=Bh r l 0 no6:=by
   rw[hbu]at hc hgt;simp only[Int.add_zero]at hc hgt;rw[decide_eq_false hgt]at hc;exact hc
  simp(disch:=omega)only[go_sem,Bool.not_true,e2];refine Aa (α:=Nat) (fun k=>⟨[(7,I k),(6,I i),(1,Oo l),(5,I 0),(2,.ptr 128 0)],[(128,r.c)]⟩)
   (fun k=>k≤i∧(b.mode=0∨∀ a∈l.take k,a.mode≠0→Bx b.mode a.mode=true)) (fun k=>i-k) 0 ⟨by omega,.inr (by simp)⟩ ?_ ?_
  ·refine Imp.weak ?_ ?_
   ·exact gI
   ·exact gI
  rintro k ⟨hk,hka⟩ J2 hJ2;refine gO ?_;refine And.intro (fun hlt3=>?_) (fun hge3=>?_)
  ·have hki:k<i:=by simp at hlt3;omega
   obtain⟨a,ha⟩:∃ a,l[k]?=some a:=⟨_,gE (by omega)⟩;have hak:l.take (k+1)=l.take k++[a]:=by rw[take_add_one,ha];rfl
   have ham:a∈l.take i:=by
    rw[List.mem_take_iff_getElem];exact⟨k,by omega,by rw[gE (by omega)]at ha;injection ha⟩
   obtain⟨hau,hamm,haz⟩:=Na hk1' (hperm a ham);refine Aq 25 [([],[1]),([],[6]),([],[43,44]),([],[45]),([],[46]),([4],[47]),([4],[48]),([4],[1,49]),([4],[7,49]),([4],[50,51,49]),([4],[52,49]),([4],[53,49]),([4,11],[54,49]),([4,11],[49,55]),([4,11],[56]),([4,11],[1,57]),([4,11],[6,57]),([4,11],[58,59,57]),([4,11],[60,57]),([4,11],[61,57]),([4,11],[1,57]),([4,11],[7,57]),([4,11],[63,64,57]),([4,11],[65,57]),([4,11],[66,57])] fol ?_;simp(disch:=omega)only[go_sem,gm,hb,ha];refine Al (f162_ok b) ?_;rw[hbz]
   by_cases hbm0:b.mode=0
   ·simp(disch:=omega)only[go_sem,hbm0,decide_true,Bool.not_true];refine hJ2 _ (k+1) ⟨by omega,.inl hbm0⟩ (by omega) AK
   simp(disch:=omega)only[go_sem,hbm0,decide_false,Bool.not_false,gm,ha,hb];refine Al (f162_ok a) ?_;rw[haz]
   by_cases ham0:a.mode=0
   ·simp(disch:=omega)only[go_sem,ham0,decide_true,Bool.not_true];refine hJ2 _ (k+1) ⟨by omega,?_⟩ (by omega) AK;rcases hka with h|h
    ·exact .inl h
    ·refine .inr fun x hx hx0=>?_
     rw[hak]at hx;rcases mem_append.1 hx with h'|h'
     ·exact h x h' hx0
     ·simp at h';rw[h']at hx0;exact absurd ham0 hx0
   simp(disch:=omega)only[go_sem,ham0,decide_false,Bool.not_false,gm,hb,ha];refine Ab (f304_ok b.mode a.mode) ?_;have hamo:AX a.mode=true:=by rcases hamm with h|h;exact absurd h ham0;exact h
   cases hcm:Bx b.mode a.mode
   ·have e:r.compat l=false:=by
     rw[hcomp,← hcs,if_neg hbm0,Wt ham hamo hcm];rfl
    simp(disch:=omega)only[go_sem,Bool.not_false,e];exact AH _
   ·simp(disch:=omega)only[go_sem,Bool.not_true];refine hJ2 _ (k+1) ⟨by omega,?_⟩ (by omega) AK;rcases hka with h|h
    ·exact .inl h
    ·refine .inr fun x hx hx0=>?_
     rw[hak]at hx;rcases mem_append.1 hx with h'|h'
     ·exact h x h' hx0
     ·simp at h';rw[h'];exact hcm
  ·have hki:k=i:=by simp at hge3;omega
   subst hki;refine hJ _ (k+1,0) ⟨by simp;omega,by simp,by simp,by simp,hperm',?_⟩ (by simp;omega) AK;simp only[ht]
   by_cases hbm0:b.mode=0
   ·rw[Ni _ _ hbm0]
    rwa [if_pos hbm0]at hcs
   ·have hbo:AX b.mode=true:=by rcases hbmm with h|h;exact absurd h hbm0;exact h
    rw[U9 _ _ hbo];rw[if_neg hbm0]at hcs;have hso:D4 (Ef (l.take k)) b.mode=true:=Yo (by rcases hka with h|h;exact absurd h hbm0;exact h)
    rwa [hso,Bool.true_and]at hcs
 ·have hil:i=l.length:=by simp at hge;omega
  subst hil;rw[List.drop_length]at hc;have e:r.compat l=true:=by rw[hcomp,← hc];rfl
  simp(disch:=omega)only[go_sem,e];exact AH _
theorem f253_ok(r:Res)(a b:Amt):Ac C0 253 [.agg r.c,.agg a.c,.agg b.c] [] (B (r.covers a b)) []:=by
 refine Ac.go f253 ?_;unfold f253;simp(disch:=omega)only[go_sem]
 repeat'(first
  |(with_reducible refine And.intro (fun h=>?_) (fun h=>?_))
  |((with_reducible show AG _ _ 289 _ _ _);refine Af (f289_ok r a) ?_ rfl ?_;(focus(simp(disch:=omega)only[go_sem];done));try simp(disch:=omega)only[go_sem])
  |((with_reducible show AG _ _ 289 _ _ _);refine Af (f289_ok r b) ?_ rfl ?_;(focus(simp(disch:=omega)only[go_sem];done));try simp(disch:=omega)only[go_sem])
  |((with_reducible show AG _ _ 162 _ _ _);refine Af (f162_ok a) ?_ rfl ?_;(focus(simp(disch:=omega)only[go_sem];done));try simp(disch:=omega)only[go_sem])
  |((with_reducible show AG _ _ 162 _ _ _);refine Af (f162_ok b) ?_ rfl ?_;(focus(simp(disch:=omega)only[go_sem];done));try simp(disch:=omega)only[go_sem])
  |((with_reducible show AG _ _ 287 _ _ _);refine Af (f287_ok a.mode b.mode) ?_ rfl ?_;(focus(simp(disch:=omega)only[go_sem];done));try simp(disch:=omega)only[go_sem]))
 all_goals(refine B0 _ ?_)
 all_goals(try simp(disch:=omega)only[go_sem])
 all_goals(first|refine wb ?_|refine wi ?_|refine .eq ?_)
 all_goals(first|(simp_all[Res.covers]<;>omega)|(refine Bool.eq_iff_iff.2 ?_;simp_all[Res.covers]<;>omega))
def GO(q:Queue)(i:Nat)(w:Wait):Bool:=decide (E2 q.convs w.proc=(i:Int))&&!(Ak q.holds w.proc).zero&&q.res.fits w.amt&&q.res.covers w.amt (Ak q.holds w.proc)&&!decide (w.amt=Ak q.holds w.proc)&&w.prio==0&&w.passed==0
def DQ(q:Queue):Bool:=decide (q.convs.length≤8)&&BO (GO q) q.convs
def GR(q:Queue)(w:Wait):Bool:=q.res.fits w.amt&&(Ak q.holds w.proc).zero
def DS(q:Queue):Bool:=CY q.waits&&decide (q.holds.length+q.waits.length≤8)&&q.waits.all (GR q)
def Gq(r:Res):Bool:=Bp r.name&&r.shaped&&between r.home 0 3
def sound(q:Queue):Bool:=Gq q.res&&A4 q.res q.holds&&DQ q&&DS q&&decide (0≤q.gen)&&decide (q.gen≤1073741824)
theorem f278_ok(q:Queue)(h1:q.holds.length≤1000000):Ac C0 278 [.agg q.c] [] (B (DQ q)) []:=by
 refine Ac.go f278 ?_;unfold f278
 by_cases h8:8<q.convs.length
 ·have e1:(8<(q.convs.length:Int))=True:=by simp;omega
  simp(disch:=omega)only[go_sem,e1];refine Ap _ ?_;exact .eq (by simp[DQ];omega)
 have e1:(8<(q.convs.length:Int))=False:=by simp;omega
 simp(disch:=omega)only[go_sem,e1,decide_false];refine Aa (α:=Nat) (fun i=>⟨[(13,I i),(12,I q.convs.length),(11,Bt q.convs),(1,.ptr 64 0)],[(64,q.c)]⟩) (fun i=>i≤(q.convs).length∧BO (GO q) (q.convs.take i)=true) (fun i=>(q.convs).length-i) 0 ⟨by omega,rfl⟩ ?_ ?_
 ·exact Ca
 rintro i ⟨hi,hP⟩ J hJ;refine gO ?_;refine ⟨fun hlt=>?_,fun hge=>?_⟩;rotate_left;have hil:i=(q.convs).length:=by simp at hge;omega
 rotate_left;obtain⟨b,hb⟩:∃ b,(q.convs)[i]?=some b:=⟨_,gE (by simp at hlt;omega)⟩;have hbm:=mG hb;simp(disch:=omega)only[go_sem,gm,hb]
 ·have bad:GO q i b=false→DQ q=false:=fun h=>by simp[DQ,Bj hb h]
  repeat'(first
   |(with_reducible refine And.intro (fun h=>?_) (fun h=>?_))
   |((with_reducible show AG _ _ 309 _ _ _);refine Af (f309_ok q b.proc h1) ?_ rfl ?_;(focus(simp(disch:=omega)only[go_sem];done));try simp(disch:=omega)only[go_sem])
   |((with_reducible show AF _ _ 309 _ _ _ _ _ _ _);refine Ao ⟨⟨[],[],[]⟩,[],[]⟩ (f309_ok q b.proc h1) ?_ rfl rfl trivial (.inl rfl) ?_;(focus(simp(disch:=omega)only[go_sem];done));try simp(disch:=omega)only[go_sem])
   |((with_reducible show AG _ _ 310 _ _ _);refine Af (f310_ok q.convs b.proc (by omega)) ?_ rfl ?_;(focus(simp(disch:=omega)only[go_sem];done));try simp(disch:=omega)only[go_sem])
   |((with_reducible show AF _ _ 310 _ _ _ _ _ _ _);refine Ao ⟨⟨[],[],[]⟩,[],[]⟩ (f310_ok q.convs b.proc (by omega)) ?_ rfl rfl trivial (.inl rfl) ?_;(focus(simp(disch:=omega)only[go_sem];done));try simp(disch:=omega)only[go_sem])
   |((with_reducible show AG _ _ 264 _ _ _);refine Af (f264_ok (Ak q.holds b.proc)) ?_ rfl ?_;(focus(simp(disch:=omega)only[go_sem];done));try simp(disch:=omega)only[go_sem])
   |((with_reducible show AF _ _ 264 _ _ _ _ _ _ _);refine Ao ⟨⟨[],[],[]⟩,[],[]⟩ (f264_ok (Ak q.holds b.proc)) ?_ rfl rfl trivial (.inl rfl) ?_;(focus(simp(disch:=omega)only[go_sem];done));try simp(disch:=omega)only[go_sem])
   |((with_reducible show AG _ _ 281 _ _ _);refine Af (f281_ok q.res b.amt) ?_ rfl ?_;(focus(simp(disch:=omega)only[go_sem];done));try simp(disch:=omega)only[go_sem])
   |((with_reducible show AF _ _ 281 _ _ _ _ _ _ _);refine Ao ⟨⟨[],[],[]⟩,[],[]⟩ (f281_ok q.res b.amt) ?_ rfl rfl trivial (.inl rfl) ?_;(focus(simp(disch:=omega)only[go_sem];done));try simp(disch:=omega)only[go_sem])
   |((with_reducible show AG _ _ 311 _ _ _);refine Af (f311_ok q.res b.amt (Ak q.holds b.proc)) ?_ rfl ?_;(focus(simp(disch:=omega)only[go_sem];done));try simp(disch:=omega)only[go_sem])
   |((with_reducible show AF _ _ 311 _ _ _ _ _ _ _);refine Ao ⟨⟨[],[],[]⟩,[],[]⟩ (f311_ok q.res b.amt (Ak q.holds b.proc)) ?_ rfl rfl trivial (.inl rfl) ?_;(focus(simp(disch:=omega)only[go_sem];done));try simp(disch:=omega)only[go_sem]))
  all_goals(first|(refine hJ _ (i+1) ⟨by simp at hlt;omega,by rw[B4 hb,hP];simp_all[GO]⟩ (by simp at hlt;omega) AK;done)|(refine B0 _ ?_;simp(disch:=omega)only[go_sem];refine wb ?_;(rw[bad (by simp_all[GO])])))
 ·subst hil;rw[take_length]at hP;have e:DQ q=true:=by simp[DQ,hP];omega
  simp(disch:=omega)only[go_sem,e];exact AH _
theorem f279_ok(q:Queue)(h1:q.holds.length≤1000000)(h2:q.waits.length≤1000000):Ac C0 279 [.agg q.c] [] (B (DS q)) []:=by
 refine Ac.go f279 ?_;unfold f279;refine gO ?_;refine Ab (f312_ok q.waits) ?_;cases hl:CY q.waits
 ·simp(disch:=omega)only[go_sem,Bool.not_false];refine Ap _ ?_;exact wb (by simp[DS,hl])
 by_cases h8:8<q.holds.length+q.waits.length
 ·have e1:(8<(q.holds.length:Int)+q.waits.length)=True:=by simp;omega
  simp(disch:=omega)only[go_sem,e1,Bool.not_true];refine Ap _ ?_;exact wb (by simp[DS];omega)
 have e1:(8<(q.holds.length:Int)+q.waits.length)=False:=by simp;omega
 simp(disch:=omega)only[go_sem,e1,decide_false,Bool.not_true];refine Aa (α:=Nat) (fun i=>⟨[(22,I i),(21,I q.waits.length),(20,Bt q.waits),(1,.ptr 64 0)],[(64,q.c)]⟩) (fun i=>i≤(q.waits).length∧(q.waits.take i).all (GR q)=true) (fun i=>(q.waits).length-i) 0 ⟨by omega,rfl⟩ ?_ ?_
 ·exact Ca
 rintro i ⟨hi,hP⟩ J hJ;refine gO ?_;refine ⟨fun hlt=>?_,fun hge=>?_⟩;rotate_left;have hil:i=(q.waits).length:=by simp at hge;omega
 rotate_left;obtain⟨b,hb⟩:∃ b,(q.waits)[i]?=some b:=⟨_,gE (by simp at hlt;omega)⟩;have hbm:=mG hb;simp(disch:=omega)only[go_sem,gm,hb]
 ·have bad:GR q b=false→DS q=false:=fun h=>by simp only[DS,all_false hbm h,Bool.and_false]
  repeat'(first
   |(with_reducible refine And.intro (fun h=>?_) (fun h=>?_))
   |((with_reducible show AG _ _ 281 _ _ _);refine Af (f281_ok q.res b.amt) ?_ rfl ?_;(focus(simp(disch:=omega)only[go_sem];done));try simp(disch:=omega)only[go_sem])
   |((with_reducible show AF _ _ 281 _ _ _ _ _ _ _);refine Ao ⟨⟨[],[],[]⟩,[],[]⟩ (f281_ok q.res b.amt) ?_ rfl rfl trivial (.inl rfl) ?_;(focus(simp(disch:=omega)only[go_sem];done));try simp(disch:=omega)only[go_sem])
   |((with_reducible show AG _ _ 309 _ _ _);refine Af (f309_ok q b.proc h1) ?_ rfl ?_;(focus(simp(disch:=omega)only[go_sem];done));try simp(disch:=omega)only[go_sem])
   |((with_reducible show AF _ _ 309 _ _ _ _ _ _ _);refine Ao ⟨⟨[],[],[]⟩,[],[]⟩ (f309_ok q b.proc h1) ?_ rfl rfl trivial (.inl rfl) ?_;(focus(simp(disch:=omega)only[go_sem];done));try simp(disch:=omega)only[go_sem])
   |((with_reducible show AG _ _ 264 _ _ _);refine Af (f264_ok (Ak q.holds b.proc)) ?_ rfl ?_;(focus(simp(disch:=omega)only[go_sem];done));try simp(disch:=omega)only[go_sem])
   |((with_reducible show AF _ _ 264 _ _ _ _ _ _ _);refine Ao ⟨⟨[],[],[]⟩,[],[]⟩ (f264_ok (Ak q.holds b.proc)) ?_ rfl rfl trivial (.inl rfl) ?_;(focus(simp(disch:=omega)only[go_sem];done));try simp(disch:=omega)only[go_sem]))
  all_goals(first|(refine hJ _ (i+1) ⟨by simp at hlt;omega,by rw[Pz hb,hP];simp_all[GR]⟩ (by simp at hlt;omega) AK;done)|(refine B0 _ ?_;simp(disch:=omega)only[go_sem];refine wb ?_;(rw[bad (by simp_all[GR])])))
 ·subst hil;rw[take_length]at hP;have e:DS q=true:=by simp only[DS,hl,hP];simp;omega
  simp(disch:=omega)only[go_sem,e];exact AH _
theorem f236_ok(q:Queue)(h1:q.holds.length≤1000000)(h2:q.waits.length≤1000000):Ac C0 236 [.agg q.c] [] (B (sound q)) []:=by
 refine Ac.go f236 ?_;unfold f236;simp(disch:=omega)only[go_sem]
 repeat'(first
  |(with_reducible refine And.intro (fun h=>?_) (fun h=>?_))
  |((with_reducible show AG _ _ 276 _ _ _);refine Af (f276_ok q.res) ?_ rfl ?_;(focus(simp(disch:=omega)only[go_sem];done));try simp(disch:=omega)only[go_sem])
  |((with_reducible show AF _ _ 276 _ _ _ _ _ _ _);refine Ao ⟨⟨[],[],[]⟩,[],[]⟩ (f276_ok q.res) ?_ rfl rfl trivial (.inl rfl) ?_;(focus(simp(disch:=omega)only[go_sem];done));try simp(disch:=omega)only[go_sem])
  |((with_reducible show AG _ _ 277 _ _ _);refine Af (f277_ok q.res q.holds) ?_ rfl ?_;(focus(simp(disch:=omega)only[go_sem];done));try simp(disch:=omega)only[go_sem])
  |((with_reducible show AF _ _ 277 _ _ _ _ _ _ _);refine Ao ⟨⟨[],[],[]⟩,[],[]⟩ (f277_ok q.res q.holds) ?_ rfl rfl trivial (.inl rfl) ?_;(focus(simp(disch:=omega)only[go_sem];done));try simp(disch:=omega)only[go_sem])
  |((with_reducible show AG _ _ 278 _ _ _);refine Af (f278_ok q h1) ?_ rfl ?_;(focus(simp(disch:=omega)only[go_sem];done));try simp(disch:=omega)only[go_sem])
  |((with_reducible show AF _ _ 278 _ _ _ _ _ _ _);refine Ao ⟨⟨[],[],[]⟩,[],[]⟩ (f278_ok q h1) ?_ rfl rfl trivial (.inl rfl) ?_;(focus(simp(disch:=omega)only[go_sem];done));try simp(disch:=omega)only[go_sem])
  |((with_reducible show AG _ _ 279 _ _ _);refine Af (f279_ok q h1 h2) ?_ rfl ?_;(focus(simp(disch:=omega)only[go_sem];done));try simp(disch:=omega)only[go_sem])
  |((with_reducible show AF _ _ 279 _ _ _ _ _ _ _);refine Ao ⟨⟨[],[],[]⟩,[],[]⟩ (f279_ok q h1 h2) ?_ rfl rfl trivial (.inl rfl) ?_;(focus(simp(disch:=omega)only[go_sem];done));try simp(disch:=omega)only[go_sem]))
 all_goals(refine B0 _ ?_)
 all_goals(try simp(disch:=omega)only[go_sem])
 all_goals(refine wb ?_)
 all_goals(simp_all[sound,Gq]<;>omega)
theorem f265_ok(r:Res)(l:List Hold)(hl:l.length≤1000000):Ac C0 265 [.agg r.c,AB l] [] (B (A4 r l)) []:=by
 refine Ac.go f265 ?_;unfold f265;refine gO ?_;refine Ab (f250_ok r) ?_;cases hs:r.shaped
 ·have e:A4 r l=false:=by simp[A4,hs]
  simp(disch:=omega)only[go_sem,Bool.not_false,e];exact AH _
 by_cases h8:8<l.length
 ·have e1:(8<(l.length:Int))=True:=by simp;omega
  have e:A4 r l=false:=by simp[A4];omega
  simp(disch:=omega)only[go_sem,Bool.not_true,e1,e];exact AH _
 have e1:(8<(l.length:Int))=False:=by simp;omega
 simp(disch:=omega)only[go_sem,Bool.not_true,e1,decide_false];refine Aa (α:=Nat) (fun i=>⟨[(5,I i),(1,AB l),(2,.ptr 128 0)],[(128,r.c)]⟩) (fun i=>i≤(l).length∧BO (DR r l) (l.take i)=true) (fun i=>(l).length-i) 0 ⟨by omega,rfl⟩ ?_ ?_
 ·exact Ca
 rintro i ⟨hi,hP⟩ J hJ;refine gO ?_;refine ⟨fun hlt=>?_,fun hge=>?_⟩;rotate_left;have hil:i=(l).length:=by simp at hge;omega
 rotate_left;obtain⟨b,hb⟩:∃ b,(l)[i]?=some b:=⟨_,gE (by simp at hlt;omega)⟩;have hbm:=mG hb;have hlt2:i<(l).length:=by simp at hlt;omega
 refine Aq 32 [([],[1]),([],[5]),([],[20,21]),([],[22]),([],[23]),([],[24]),([5],[25]),([5],[26]),([5],[2,27]),([5],[1,27]),([5],[5,27]),([5],[29,30,27]),([5],[31,27]),([5],[32,27]),([5],[28,33,27]),([5,14],[34,27]),([5,14],[27,35]),([5,14],[36]),([5,14],[5,37]),([5,14],[38,37]),([5,14],[39,37]),([5,14],[1,40]),([5,14],[5,40]),([5,14],[42,40]),([5,14],[41,43,40]),([5,14],[44,40]),([5,14],[45,40]),([5,14],[1,40]),([5,14],[5,40]),([5,14],[47,48,40]),([5,14],[49,40]),([5,14],[50,40])] fol ?_;simp(disch:=omega)only[go_sem,gm,hb]
 ·have bad:DR r l i b=false→A4 r l=false:=fun h=>by simp[A4,Bj hb h]
  refine Al (f105_ok b.proc) ?_;cases hp:b.proc.ok
  ·simp(disch:=omega)only[go_sem,Bool.not_false,bad (by simp[DR,hp])];exact AH _
  simp(disch:=omega)only[go_sem,Bool.not_true,gm,hb];refine Al (f171_ok r b.amt) ?_;cases hf:r.fits b.amt
  ·simp(disch:=omega)only[go_sem,Bool.not_false,bad (by simp[DR,hf])];exact AH _
  by_cases hi0:i=0
  ·have e0:(0<(i:Int))=False:=by simp;omega
   simp(disch:=omega)only[go_sem,Bool.not_true,e0,decide_false];refine hJ _ (i+1) ⟨by simp at hlt;omega,(by rw[B4 hb,hP];simp only[DR,hp,hf,hi0];rfl)⟩ (by simp at hlt;omega) AK
  ·have hi1:(0<(i:Int))=True:=by simp;omega
   have hi2:((i:Int)-1)=((i-1:Nat):Int):=by omega
   obtain⟨a,ha⟩:∃ a,l[i-1]?=some a:=⟨_,gE (by simp at hlt;omega)⟩;have had:l.getD (i-1) h0=a:=by simp[List.getD,ha]
   simp(disch:=omega)only[go_sem,Bool.not_true,hi1,hi2,gm,ha,hb];refine Ab (f107_ok a.proc b.proc) ?_;refine gO ?_
   by_cases hc:0≤AT a.proc b.proc
   ·have e:A4 r l=false:=bad (by simp only[DR,had];simp[hi0];omega);simp(disch:=omega)only[go_sem,hc,e];exact AH _
   ·simp(disch:=omega)only[go_sem,hc,decide_false];refine hJ _ (i+1) ⟨by simp at hlt;omega,(by rw[B4 hb,hP];simp only[DR,hp,hf,had];simp;omega)⟩ (by simp at hlt;omega) AK
 ·subst hil;rw[take_length]at hP;have ee:A4 r l=r.compat (l.map (·.amt)):=by simp[A4,hs,hP];omega
  refine Aq 3 [([],[2]),([],[1]),([],[57])] fol ?_;refine gO ?_;refine Al (f303_ok l hl) ?_;refine gO ?_;refine Af (f267_ok r (l.map (·.amt)) (by simp;omega)) (by simp(disch:=omega)only[go_sem];exact .eq (by simp)) rfl ?_;refine gO ?_;refine Ap _ ?_;exact wb ee.symm
theorem f242_ok(q:Queue)(h1:q.holds.length≤1000000)(h2:q.waits.length≤1000000):Ac C0 242 [.agg q.c] [] (B (sound q)) []:=by
 refine Ac.go f242 ?_;unfold f242
 by_cases hgo:Gq q.res=true∧A4 q.res q.holds=true∧q.convs.length≤8∧CY q.waits=true∧q.holds.length+q.waits.length≤8∧0≤q.gen∧q.gen≤1073741824
 rotate_left
 ·simp(disch:=omega)only[go_sem]
  repeat'(first
   |(with_reducible refine And.intro (fun h=>?_) (fun h=>?_))
   |((with_reducible show AG _ _ 246 _ _ _);refine Af (f246_ok q.res) ?_ rfl ?_;(focus(simp(disch:=omega)only[go_sem];done));try simp(disch:=omega)only[go_sem])
   |((with_reducible show AF _ _ 246 _ _ _ _ _ _ _);refine Ao ⟨⟨[],[],[]⟩,[],[]⟩ (f246_ok q.res) ?_ rfl rfl trivial (.inl rfl) ?_;(focus(simp(disch:=omega)only[go_sem];done));try simp(disch:=omega)only[go_sem])
   |((with_reducible show AG _ _ 265 _ _ _);refine Af (f265_ok q.res q.holds h1) ?_ rfl ?_;(focus(simp(disch:=omega)only[go_sem];done));try simp(disch:=omega)only[go_sem])
   |((with_reducible show AF _ _ 265 _ _ _ _ _ _ _);refine Ao ⟨⟨[],[],[]⟩,[],[]⟩ (f265_ok q.res q.holds h1) ?_ rfl rfl trivial (.inl rfl) ?_;(focus(simp(disch:=omega)only[go_sem];done));try simp(disch:=omega)only[go_sem])
   |((with_reducible show AG _ _ 282 _ _ _);refine Af (f282_ok q.waits h2) ?_ rfl ?_;(focus(simp(disch:=omega)only[go_sem];done));try simp(disch:=omega)only[go_sem])
   |((with_reducible show AF _ _ 282 _ _ _ _ _ _ _);refine Ao ⟨⟨[],[],[]⟩,[],[]⟩ (f282_ok q.waits h2) ?_ rfl rfl trivial (.inl rfl) ?_;(focus(simp(disch:=omega)only[go_sem];done));try simp(disch:=omega)only[go_sem]))
  all_goals first
   |(refine B0 _ ?_
     refine gO ?_;refine wb ?_
     first|(simp_all[sound,Gq,DQ,DS];done)|(simp_all[sound,Gq,DQ,DS];omega))
   |(exfalso;refine hgo ?_;simp_all[Gq];omega)
 obtain⟨g1,g2,g3,g4,g5,g6,g7⟩:=hgo;have d1:(8<(q.convs.length:Int))=False:=by simp;omega
 have d2:(8<(q.holds.length:Int)+q.waits.length)=False:=by simp;omega
 have d3:(q.gen<0)=False:=by simp;omega
 have d4:(1073741824<q.gen)=False:=by simp;omega
 refine gO ?_;refine Ab (f246_ok q.res) ?_;have g1':(Bp q.res.name&&q.res.shaped&&between q.res.home 0 3)=true:=g1;rw[g1'];simp(disch:=omega)only[go_sem,Bool.not_true];refine Ab (f265_ok q.res q.holds h1) ?_;rw[g2];simp(disch:=omega)only[go_sem,Bool.not_true,d1,decide_false];refine Ab (f282_ok q.waits h2) ?_;rw[g4];simp(disch:=omega)only[go_sem,Bool.not_true,d2,d3,d4,decide_false];refine Aa (α:=Nat) (fun i=>⟨[(4,I i),(1,.ptr 64 0),(3,.ptr 192 0)],[(64,q.c),(192,q.res.c)]⟩) (fun i=>i≤(q.convs).length∧BO (GO q) (q.convs.take i)=true) (fun i=>(q.convs).length-i) 0 ⟨by omega,rfl⟩ ?_ ?_
 ·exact Ca
 rintro i ⟨hi,hP⟩ J hJ;refine gO ?_;refine ⟨fun hlt=>?_,fun hge=>?_⟩;rotate_left;have hil:i=(q.convs).length:=by simp at hge;omega
 rotate_left;obtain⟨b,hb⟩:∃ b,(q.convs)[i]?=some b:=⟨_,gE (by simp at hlt;omega)⟩;have hbm:=mG hb;have hlt2:i<(q.convs).length:=by simp at hlt;omega
 simp(disch:=omega)only[go_sem,gm,hb]
 ·have bad:GO q i b=false→sound q=false:=fun h=>by simp[sound,DQ,Bj hb h]
  repeat'(first
   |(with_reducible refine And.intro (fun h=>?_) (fun h=>?_))
   |((with_reducible show AG _ _ 244 _ _ _);refine Af (f244_ok q.holds b.proc h1) ?_ rfl ?_;(focus(simp(disch:=omega)only[go_sem];done));try simp(disch:=omega)only[go_sem])
   |((with_reducible show AF _ _ 244 _ _ _ _ _ _ _);refine Ao ⟨⟨[],[],[]⟩,[],[]⟩ (f244_ok q.holds b.proc h1) ?_ rfl rfl trivial (.inl rfl) ?_;(focus(simp(disch:=omega)only[go_sem];done));try simp(disch:=omega)only[go_sem])
   |((with_reducible show AG _ _ 162 _ _ _);refine Af (f162_ok (Ak q.holds b.proc)) ?_ rfl ?_;(focus(simp(disch:=omega)only[go_sem];done));try simp(disch:=omega)only[go_sem])
   |((with_reducible show AF _ _ 162 _ _ _ _ _ _ _);refine Ao ⟨⟨[],[],[]⟩,[],[]⟩ (f162_ok (Ak q.holds b.proc)) ?_ rfl rfl trivial (.inl rfl) ?_;(focus(simp(disch:=omega)only[go_sem];done));try simp(disch:=omega)only[go_sem])
   |((with_reducible show AG _ _ 171 _ _ _);refine Af (f171_ok q.res b.amt) ?_ rfl ?_;(focus(simp(disch:=omega)only[go_sem];done));try simp(disch:=omega)only[go_sem])
   |((with_reducible show AF _ _ 171 _ _ _ _ _ _ _);refine Ao ⟨⟨[],[],[]⟩,[],[]⟩ (f171_ok q.res b.amt) ?_ rfl rfl trivial (.inl rfl) ?_;(focus(simp(disch:=omega)only[go_sem];done));try simp(disch:=omega)only[go_sem])
   |((with_reducible show AG _ _ 253 _ _ _);refine Af (f253_ok q.res b.amt (Ak q.holds b.proc)) ?_ rfl ?_;(focus(simp(disch:=omega)only[go_sem];done));try simp(disch:=omega)only[go_sem])
   |((with_reducible show AF _ _ 253 _ _ _ _ _ _ _);refine Ao ⟨⟨[],[],[]⟩,[],[]⟩ (f253_ok q.res b.amt (Ak q.holds b.proc)) ?_ rfl rfl trivial (.inl rfl) ?_;(focus(simp(disch:=omega)only[go_sem];done));try simp(disch:=omega)only[go_sem])
   |((with_reducible show AG _ _ 153 _ _ _);refine Af (f153_ok q.convs b.proc (by omega)) ?_ rfl ?_;(focus(simp(disch:=omega)only[go_sem];done));try simp(disch:=omega)only[go_sem])
   |((with_reducible show AF _ _ 153 _ _ _ _ _ _ _);refine Ao ⟨⟨[],[],[]⟩,[],[]⟩ (f153_ok q.convs b.proc (by omega)) ?_ rfl rfl trivial (.inl rfl) ?_;(focus(simp(disch:=omega)only[go_sem];done));try simp(disch:=omega)only[go_sem]))
  all_goals(first|(refine hJ _ (i+1) ⟨by simp at hlt;omega,by rw[B4 hb,hP];simp_all[GO]⟩ (by simp at hlt;omega) AK;done)|(refine B0 _ ?_;simp(disch:=omega)only[go_sem];refine wb ?_;(rw[bad (by simp_all[GO])])))
 subst hil;rw[take_length]at hP;have hconvs:DQ q=true:=by simp[DQ,hP];omega
 clear hJ;refine Aa (α:=Nat) (fun i=>⟨[(7,I i),(1,.ptr 64 0),(3,.ptr 192 0)],[(64,q.c),(192,q.res.c)]⟩) (fun i=>i≤(q.waits).length∧(q.waits.take i).all (GR q)=true) (fun i=>(q.waits).length-i) 0 ⟨by omega,rfl⟩ ?_ ?_
 ·exact Ca
 rintro i ⟨hi,hP⟩ J hJ;refine gO ?_;refine ⟨fun hlt=>?_,fun hge=>?_⟩;rotate_left;have hil:i=(q.waits).length:=by simp at hge;omega
 rotate_left;obtain⟨b,hb⟩:∃ b,(q.waits)[i]?=some b:=⟨_,gE (by simp at hlt;omega)⟩;have hbm:=mG hb;have hlt2:i<(q.waits).length:=by simp at hlt;omega
 refine Aq 18 [([],[3]),([],[1]),([],[119]),([],[7]),([],[120,121]),([],[122]),([],[123]),([],[118,124]),([7],[125]),([7],[126]),([7],[1,127]),([7],[128,127]),([7],[1,127]),([7],[130,127]),([7],[7,127]),([7],[131,132,127]),([7],[133,127]),([7],[134,127])] fol ?_;simp(disch:=omega)only[go_sem,gm,hb]
 ·have bad:GR q b=false→sound q=false:=fun h=>by simp only[sound,DS,all_false hbm h,Bool.and_false,Bool.false_and]
  repeat'(first
   |(with_reducible refine And.intro (fun h=>?_) (fun h=>?_))
   |((with_reducible show AG _ _ 171 _ _ _);refine Af (f171_ok q.res b.amt) ?_ rfl ?_;(focus(simp(disch:=omega)only[go_sem];done));try simp(disch:=omega)only[go_sem,gm,hb])
   |((with_reducible show AF _ _ 171 _ _ _ _ _ _ _);refine Ao ⟨⟨[],[],[]⟩,[],[]⟩ (f171_ok q.res b.amt) ?_ rfl rfl trivial (.inl rfl) ?_;(focus(simp(disch:=omega)only[go_sem];done));try simp(disch:=omega)only[go_sem,gm,hb])
   |((with_reducible show AG _ _ 244 _ _ _);refine Af (f244_ok q.holds b.proc h1) ?_ rfl ?_;(focus(simp(disch:=omega)only[go_sem];done));try simp(disch:=omega)only[go_sem,gm,hb])
   |((with_reducible show AF _ _ 244 _ _ _ _ _ _ _);refine Ao ⟨⟨[],[],[]⟩,[],[]⟩ (f244_ok q.holds b.proc h1) ?_ rfl rfl trivial (.inl rfl) ?_;(focus(simp(disch:=omega)only[go_sem];done));try simp(disch:=omega)only[go_sem,gm,hb])
   |((with_reducible show AG _ _ 162 _ _ _);refine Af (f162_ok (Ak q.holds b.proc)) ?_ rfl ?_;(focus(simp(disch:=omega)only[go_sem];done));try simp(disch:=omega)only[go_sem,gm,hb])
   |((with_reducible show AF _ _ 162 _ _ _ _ _ _ _);refine Ao ⟨⟨[],[],[]⟩,[],[]⟩ (f162_ok (Ak q.holds b.proc)) ?_ rfl rfl trivial (.inl rfl) ?_;(focus(simp(disch:=omega)only[go_sem];done));try simp(disch:=omega)only[go_sem,gm,hb]))
  all_goals(first|(refine hJ _ (i+1) ⟨by simp at hlt;omega,by rw[Pz hb,hP];simp_all[GR]⟩ (by simp at hlt;omega) AK;done)|(refine B0 _ ?_;simp(disch:=omega)only[go_sem];refine wb ?_;(rw[bad (by simp_all[GR])])))
 ·subst hil;rw[take_length]at hP;refine Ap _ ?_;exact wb (by simp only[sound,DS,hconvs,hP,g1,g2,g4];simp;omega)
end Go.Rd
