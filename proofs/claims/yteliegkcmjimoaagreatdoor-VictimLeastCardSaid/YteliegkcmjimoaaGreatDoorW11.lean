/- part 11 of the proof -/
import Derived.Test.YteliegkcmjimoaaGreatDoorProg
import Derived.Shelf.SlSortCmp.WholeK
import Derived.Test.YteliegkcmjimoaaGreatDoorW10
set_option linter.all false
open Go Go.Abs Go.Proofs
set_option maxRecDepth 100000
namespace Go.Rd
set_option maxHeartbeats 8000000
open List (take_add_one take_length)
open Option (isSome_none isSome_some)
open Tryz
def KH(r:BE)(a b:BR):Ad C0 59 [.agg r.c,.agg a.c,.agg b.c] [] (B (r.covers a b)) []:=by
 refine Ad.go f59 ?_;unfold f59;refine gO ?_
 repeat'(first
  |(with_reducible refine And.intro (λh=>?_) (λh=>?_))
  |((with_reducible show Bi _ _ 105 _ _ _);refine Ai (Rv r a) ?_ rfl ?_;(focus(simp(disch:=omega)only[go_sem];done));try refine gO ?_)
  |((with_reducible show Bi _ _ 105 _ _ _);refine Ai (Rv r b) ?_ rfl ?_;(focus(exact gI;done));try refine gO ?_)
  |((with_reducible show Bi _ _ 58 _ _ _);refine Ai (Fp a) ?_ rfl ?_;(focus(simp(disch:=omega)only[go_sem];done));try refine gO ?_)
  |((with_reducible show Bi _ _ 58 _ _ _);refine Ai (Fp b) ?_ rfl ?_;(focus(exact gI;done));try refine gO ?_)
  |((with_reducible show Bi _ _ 106 _ _ _);refine Ai (Vb a.mode b.mode) ?_ rfl ?_;(focus(exact gI;done));try refine gO ?_))
 all_goals(refine CT _ ?_)
 all_goals(try simp(disch:=omega)only[go_sem])
 all_goals(first|refine wb ?_|refine wi ?_|refine .eq ?_)
 all_goals(first|(simp_all[BE.covers]<;>omega)|(refine Bool.eq_iff_iff.2 ?_;simp_all[BE.covers]<;>omega))
def Ja(q:Queue)(i:Nat)(w:Bh):Bool:=decide (FG q.As w.proc=(i:Int))&&!(Am q.holds w.proc).zero&&q.res.fits w.AH&&q.res.covers w.AH (Am q.holds w.proc)&&!decide (w.AH=Am q.holds w.proc)&&w.prio==0&&w.Ec==0
def Fe(q:Queue):Bool:=decide (q.As.length<=8)&&Cu (Ja q) q.As
def Ji(q:Queue)(w:Bh):Bool:=q.res.fits w.AH&&(Am q.holds w.proc).zero
def Fi(q:Queue):Bool:=Ef q.waits&&decide (q.holds.length+q.waits.length<=8)&&q.waits.all (Ji q)
def Is(r:BE):Bool:=B9 r.name&&r.shaped&&A7 r.home 0 3
def sound(q:Queue):Bool:=Is q.res&&BV q.res q.holds&&Fe q&&Fi q&&decide (0<=q.gen)&&decide (q.gen<=1073741824)
def kQ(q:Queue)(h1:q.holds.length<=1000000):Ad C0 231 [.agg q.c] [] (B (Fe q)) []:=by
 refine Ad.go f231 ?_;unfold f231
 by_cases h8:8<q.As.length
 ·have e1:(8<(q.As.length:Int))=True:=by grind
  refine gS ?_;refine Al _ ?_;exact .eq (by grind[Fe])
 have e1:(8<(q.As.length:Int))=False:=by grind
 refine gS ?_;refine AF (q.As) (λi=>⟨[(13,I i),(12,I q.As.length),(11,Ct q.As),(1,.ptr 64 0)],[(64,q.c)]⟩) (λi=>Cu (Ja q) (q.As.take i)=true) rfl ?_ ?_
 ·exact Ce
 rintro i ⟨hi,hP⟩ J hJ;refine gO ?_;refine Bo hi (λAP b hb Cg AX=>?_) λBa=>?_
 simp(disch:=omega)only[go_sem,hb]
 ·have bad:Ja q i b=false->Fe q=false:=λh=>by grind[Fe,B5]
  repeat'(first
   |(with_reducible refine And.intro (λh=>?_) (λh=>?_))
   |((with_reducible show Bi _ _ 203 _ _ _);refine Ai (J8 q b.proc h1) ?_ rfl ?_;(focus(exact gI;done));try refine gO ?_)
   |((with_reducible show Bn _ _ 203 _ _ _ _ _ _ _);refine AO ⟨⟨[],[],[]⟩,[],[]⟩ (J8 q b.proc h1) ?_ rfl rfl trivial (.inl rfl) ?_;(focus(simp(disch:=omega)only[go_sem];done));try simp(disch:=omega)only[go_sem])
   |((with_reducible show Bi _ _ 257 _ _ _);refine Ai (Vm q.As b.proc (by omega)) ?_ rfl ?_;(focus(exact gI;done));try refine gO ?_)
   |((with_reducible show Bn _ _ 257 _ _ _ _ _ _ _);refine AO ⟨⟨[],[],[]⟩,[],[]⟩ (Vm q.As b.proc (by omega)) ?_ rfl rfl trivial (.inl rfl) ?_;(focus(simp(disch:=omega)only[go_sem];done));try simp(disch:=omega)only[go_sem])
   |((with_reducible show Bi _ _ 241 _ _ _);refine Ai (J9 (Am q.holds b.proc)) ?_ rfl ?_;(focus(exact gI;done));try refine gO ?_)
   |((with_reducible show Bn _ _ 241 _ _ _ _ _ _ _);refine AO ⟨⟨[],[],[]⟩,[],[]⟩ (J9 (Am q.holds b.proc)) ?_ rfl rfl trivial (.inl rfl) ?_;(focus(simp(disch:=omega)only[go_sem];done));try simp(disch:=omega)only[go_sem])
   |((with_reducible show Bi _ _ 234 _ _ _);refine Ai (Ic q.res b.AH) ?_ rfl ?_;(focus(exact gI;done));try refine gO ?_)
   |((with_reducible show Bn _ _ 234 _ _ _ _ _ _ _);refine AO ⟨⟨[],[],[]⟩,[],[]⟩ (Ic q.res b.AH) ?_ rfl rfl trivial (.inl rfl) ?_;(focus(simp(disch:=omega)only[go_sem];done));try simp(disch:=omega)only[go_sem])
   |((with_reducible show Bi _ _ 204 _ _ _);refine Ai (RA q.res b.AH (Am q.holds b.proc)) ?_ rfl ?_;(focus(exact gI;done));try refine gO ?_)
   |((with_reducible show Bn _ _ 204 _ _ _ _ _ _ _);refine AO ⟨⟨[],[],[]⟩,[],[]⟩ (RA q.res b.AH (Am q.holds b.proc)) ?_ rfl rfl trivial (.inl rfl) ?_;(focus(simp(disch:=omega)only[go_sem];done));try simp(disch:=omega)only[go_sem]))
  all_goals(first|(refine hJ _ (i+1) ⟨by omega,by rw[CB hb,hP];simp_all[Ja]⟩ (by omega) AK;done)|(refine CT _ ?_;simp(disch:=omega)only[go_sem];refine wb ?_;(rw[bad (by simp_all[Ja])])))
 ·subst Ba;rw[take_length]at hP;have e:Fe q=true:=by grind[Fe]
  refine gS ?_;exact AQ _
def kR(q:Queue)(h1:q.holds.length<=1000000)(h2:q.waits.length<=1000000):Ad C0 232 [.agg q.c] [] (B (Fi q)) []:=by
 refine Ad.go f232 ?_;unfold f232;refine gO ?_;refine Ab (wC q.waits) ?_;cases hl:Ef q.waits
 ·refine gO ?_;refine Al _ ?_;exact wb (by simp[Fi,hl])
 by_cases h8:8<q.holds.length+q.waits.length
 ·have e1:(8<(q.holds.length:Int)+q.waits.length)=True:=by grind
  refine gS ?_;refine Al _ ?_;exact wb (by grind[Fi])
 have e1:(8<(q.holds.length:Int)+q.waits.length)=False:=by grind
 refine gS ?_;refine AF (q.waits) (λi=>⟨[(22,I i),(21,I q.waits.length),(20,Ct q.waits),(1,.ptr 64 0)],[(64,q.c)]⟩) (λi=>(q.waits.take i).all (Ji q)=true) rfl ?_ ?_
 ·exact Ce
 rintro i ⟨hi,hP⟩ J hJ;refine gO ?_;refine Bo hi (λAP b hb Cg AX=>?_) λBa=>?_
 simp(disch:=omega)only[go_sem,hb]
 ·have bad:Ji q b=false->Fi q=false:=λh=>by simp[Fi,all_false Cg h,Bool.and_false]
  repeat'(first
   |(with_reducible refine And.intro (λh=>?_) (λh=>?_))
   |((with_reducible show Bi _ _ 234 _ _ _);refine Ai (Ic q.res b.AH) ?_ rfl ?_;(focus(exact gI;done));try refine gO ?_)
   |((with_reducible show Bn _ _ 234 _ _ _ _ _ _ _);refine AO ⟨⟨[],[],[]⟩,[],[]⟩ (Ic q.res b.AH) ?_ rfl rfl trivial (.inl rfl) ?_;(focus(simp(disch:=omega)only[go_sem];done));try simp(disch:=omega)only[go_sem])
   |((with_reducible show Bi _ _ 203 _ _ _);refine Ai (J8 q b.proc h1) ?_ rfl ?_;(focus(exact gI;done));try refine gO ?_)
   |((with_reducible show Bn _ _ 203 _ _ _ _ _ _ _);refine AO ⟨⟨[],[],[]⟩,[],[]⟩ (J8 q b.proc h1) ?_ rfl rfl trivial (.inl rfl) ?_;(focus(simp(disch:=omega)only[go_sem];done));try simp(disch:=omega)only[go_sem])
   |((with_reducible show Bi _ _ 241 _ _ _);refine Ai (J9 (Am q.holds b.proc)) ?_ rfl ?_;(focus(exact gI;done));try refine gO ?_)
   |((with_reducible show Bn _ _ 241 _ _ _ _ _ _ _);refine AO ⟨⟨[],[],[]⟩,[],[]⟩ (J9 (Am q.holds b.proc)) ?_ rfl rfl trivial (.inl rfl) ?_;(focus(simp(disch:=omega)only[go_sem];done));try simp(disch:=omega)only[go_sem]))
  all_goals(first|(refine hJ _ (i+1) ⟨by omega,by rw[H4 hb,hP];simp_all[Ji]⟩ (by omega) AK;done)|(refine CT _ ?_;simp(disch:=omega)only[go_sem];refine wb ?_;grind[Ji]))
 ·subst Ba;rw[take_length]at hP;have e:Fi q=true:=by grind[Fi]
  refine gS ?_;exact AQ _
def vJ(q:Queue)(h1:q.holds.length<=1000000)(h2:q.waits.length<=1000000):Ad C0 174 [.agg q.c] [] (B (sound q)) []:=by
 refine Ad.go f174 ?_;unfold f174;refine gO ?_
 repeat'(first
  |(with_reducible refine And.intro (λh=>?_) (λh=>?_))
  |((with_reducible show Bi _ _ 229 _ _ _);refine Ai (kP q.res) ?_ rfl ?_;(focus(exact gI;done));try refine gO ?_)
  |((with_reducible show Bn _ _ 229 _ _ _ _ _ _ _);refine AO ⟨⟨[],[],[]⟩,[],[]⟩ (kP q.res) ?_ rfl rfl trivial (.inl rfl) ?_;(focus(simp(disch:=omega)only[go_sem];done));try simp(disch:=omega)only[go_sem])
  |((with_reducible show Bi _ _ 230 _ _ _);refine Ai (Vl q.res q.holds) ?_ rfl ?_;(focus(exact gI;done));try refine gO ?_)
  |((with_reducible show Bn _ _ 230 _ _ _ _ _ _ _);refine AO ⟨⟨[],[],[]⟩,[],[]⟩ (Vl q.res q.holds) ?_ rfl rfl trivial (.inl rfl) ?_;(focus(simp(disch:=omega)only[go_sem];done));try simp(disch:=omega)only[go_sem])
  |((with_reducible show Bi _ _ 231 _ _ _);refine Ai (kQ q h1) ?_ rfl ?_;(focus(exact gI;done));try refine gO ?_)
  |((with_reducible show Bn _ _ 231 _ _ _ _ _ _ _);refine AO ⟨⟨[],[],[]⟩,[],[]⟩ (kQ q h1) ?_ rfl rfl trivial (.inl rfl) ?_;(focus(simp(disch:=omega)only[go_sem];done));try simp(disch:=omega)only[go_sem])
  |((with_reducible show Bi _ _ 232 _ _ _);refine Ai (kR q h1 h2) ?_ rfl ?_;(focus(exact gI;done));try refine gO ?_)
  |((with_reducible show Bn _ _ 232 _ _ _ _ _ _ _);refine AO ⟨⟨[],[],[]⟩,[],[]⟩ (kR q h1 h2) ?_ rfl rfl trivial (.inl rfl) ?_;(focus(simp(disch:=omega)only[go_sem];done));try simp(disch:=omega)only[go_sem]))
 all_goals(refine CT _ ?_)
 all_goals(try simp(disch:=omega)only[go_sem])
 all_goals(refine wb ?_)
 all_goals(simp_all[sound,Is]<;>omega)
def M9(r:BE)(l:List A9)(hl:l.length<=1000000):Ad C0 209 [.agg r.c,Bg l] [] (B (BV r l)) []:=by
 refine Ad.go f209 ?_;unfold f209;refine gO ?_;refine Ab (Ry r) ?_;cases hs:r.shaped
 ·have e:BV r l=false:=by simp[BV,hs]
  refine gS ?_;exact AQ _
 by_cases h8:8<l.length
 ·have e1:(8<(l.length:Int))=True:=by grind
  have e:BV r l=false:=by grind[BV]
  refine gS ?_;exact AQ _
 have e1:(8<(l.length:Int))=False:=by grind
 refine gS ?_;refine AF (l) (λi=>⟨[(5,I i),(1,Bg l),(2,.ptr 128 0)],[(128,r.c)]⟩) (λi=>Cu (Fg r l) (l.take i)=true) rfl ?_ ?_
 ·exact Ce
 rintro i ⟨hi,hP⟩ J hJ;refine gO ?_;refine Bo hi (λAP b hb Cg AX=>?_) λBa=>?_
 refine Ay 32 [([],[1]),([],[5]),([],[20,21]),([],[22]),([],[23]),([],[24]),([5],[25]),([5],[26]),([5],[2,27]),([5],[1,27]),([5],[5,27]),([5],[29,30,27]),([5],[31,27]),([5],[32,27]),([5],[28,33,27]),([5,14],[34,27]),([5,14],[27,35]),([5,14],[36]),([5,14],[5,37]),([5,14],[38,37]),([5,14],[39,37]),([5,14],[1,40]),([5,14],[5,40]),([5,14],[42,40]),([5,14],[41,43,40]),([5,14],[44,40]),([5,14],[45,40]),([5,14],[1,40]),([5,14],[5,40]),([5,14],[47,48,40]),([5,14],[49,40]),([5,14],[50,40])] B6 ?_;simp(disch:=omega)only[go_sem,gm,hb]
 ·have bad:Fg r l i b=false->BV r l=false:=λh=>by grind[BV,B5]
  refine Ax (KI b.proc) ?_;cases hp:b.proc.ok
  ·simp(disch:=omega)only[go_sem,Bool.not_false,bad (by simp[Fg,hp])];exact AQ _
  simp only[go_sem,hb];refine Ax (Hp r b.AH) ?_;cases hf:r.fits b.AH
  ·simp(disch:=omega)only[go_sem,Bool.not_false,bad (by simp[Fg,hf])];exact AQ _
  by_cases QI:i=0
  ·have e0:(0<(i:Int))=False:=by grind
   simp(disch:=omega)only[go_sem,e0];refine hJ _ (i+1) ⟨by omega,(by grind[CB,Fg])⟩ (by omega) AK
  ·have QJ:(0<(i:Int))=True:=by grind
   have NP:((i:Int)-1)=((i-1:Nat):Int):=by omega
   obtain⟨a,ha⟩:∃ a,l[i-1]?=some a:=⟨_,gE (by omega)⟩;have UK:l.getD (i-1) h0=a:=by grind
   simp(disch:=omega)only[go_sem,QJ,NP,ha,hb];refine Ab (LD a.proc b.proc) (gO ?_)
   by_cases hc:0<=BF a.proc b.proc
   ·have e:BV r l=false:=bad (by grind[Fg]);simp only[go_sem,hc,e];exact AQ _
   ·simp only[go_sem,hc];refine hJ _ (i+1) ⟨by omega,(by grind[CB,Fg])⟩ (by omega) AK
 ·subst Ba;rw[take_length]at hP;have ee:BV r l=r.compat (l.map (·.AH)):=by grind[BV]
  refine Ay 3 [([],[2]),([],[1]),([],[57])] B6 (gO ?_);refine Ax (wt l hl) (gO ?_);refine Ai (wq r (l.map (·.AH)) (by grind)) (by refine gO ?_;exact .eq (by simp)) rfl ?_;refine gO ?_;refine Al _ ?_;exact wb ee.symm
def aI(q:Queue)(h1:q.holds.length<=1000000)(h2:q.waits.length<=1000000):Ad C0 150 [.agg q.c] [] (B (sound q)) []:=by
 refine Ad.go f150 ?_;unfold f150
 by_cases yU:Is q.res=true/\BV q.res q.holds=true/\q.As.length<=8/\Ef q.waits=true/\q.holds.length+q.waits.length<=8/\0<=q.gen/\q.gen<=1073741824
 rotate_left
 ·refine gO ?_
  repeat'(first
   |(with_reducible refine And.intro (λh=>?_) (λh=>?_))
   |((with_reducible show Bi _ _ 208 _ _ _);refine Ai (RB q.res) ?_ rfl ?_;(focus(exact gI;done));try refine gO ?_)
   |((with_reducible show Bn _ _ 208 _ _ _ _ _ _ _);refine AO ⟨⟨[],[],[]⟩,[],[]⟩ (RB q.res) ?_ rfl rfl trivial (.inl rfl) ?_;(focus(simp(disch:=omega)only[go_sem];done));try simp(disch:=omega)only[go_sem])
   |((with_reducible show Bi _ _ 209 _ _ _);refine Ai (M9 q.res q.holds h1) ?_ rfl ?_;(focus(exact gI;done));try refine gO ?_)
   |((with_reducible show Bn _ _ 209 _ _ _ _ _ _ _);refine AO ⟨⟨[],[],[]⟩,[],[]⟩ (M9 q.res q.holds h1) ?_ rfl rfl trivial (.inl rfl) ?_;(focus(simp(disch:=omega)only[go_sem];done));try simp(disch:=omega)only[go_sem])
   |((with_reducible show Bi _ _ 210 _ _ _);refine Ai (Vj q.waits h2) ?_ rfl ?_;(focus(exact gI;done));try refine gO ?_)
   |((with_reducible show Bn _ _ 210 _ _ _ _ _ _ _);refine AO ⟨⟨[],[],[]⟩,[],[]⟩ (Vj q.waits h2) ?_ rfl rfl trivial (.inl rfl) ?_;(focus(simp(disch:=omega)only[go_sem];done));try simp(disch:=omega)only[go_sem]))
  all_goals first
   |(refine CT _ (gO ?_)
     refine wb ?_
     first|(simp_all[sound,Is,Fe,Fi];done)|(simp_all[sound,Is,Fe,Fi];omega))
   |(exfalso;grind[Is])
 obtain⟨g1,g2,g3,g4,g5,g6,g7⟩:=yU;have d1:(8<(q.As.length:Int))=False:=by grind
 have d2:(8<(q.holds.length:Int)+q.waits.length)=False:=by grind
 have d3:(q.gen<0)=False:=by grind
 have d4:(1073741824<q.gen)=False:=by grind
 refine gO ?_;refine Ab (RB q.res) ?_;have g1':(B9 q.res.name&&q.res.shaped&&A7 q.res.home 0 3)=true:=g1;rw[g1'];refine gO ?_;refine Ab (M9 q.res q.holds h1) ?_;rw[g2];refine gS ?_;refine Ab (Vj q.waits h2) ?_;rw[g4];refine gS ?_;refine AF (q.As) (λi=>⟨[(4,I i),(1,.ptr 64 0),(3,.ptr 192 0)],[(64,q.c),(192,q.res.c)]⟩) (λi=>Cu (Ja q) (q.As.take i)=true) rfl ?_ ?_
 ·exact Ce
 rintro i ⟨hi,hP⟩ J hJ;refine gO ?_;refine Bo hi (λAP b hb Cg AX=>?_) λBa=>?_
 simp(disch:=omega)only[go_sem,hb]
 ·have bad:Ja q i b=false->sound q=false:=λh=>by grind[sound,Fe,B5]
  repeat'(first
   |(with_reducible refine And.intro (λh=>?_) (λh=>?_))
   |((with_reducible show Bi _ _ 104 _ _ _);refine Ai (Ru q.holds b.proc h1) ?_ rfl ?_;(focus(exact gI;done));try refine gO ?_)
   |((with_reducible show Bn _ _ 104 _ _ _ _ _ _ _);refine AO ⟨⟨[],[],[]⟩,[],[]⟩ (Ru q.holds b.proc h1) ?_ rfl rfl trivial (.inl rfl) ?_;(focus(simp(disch:=omega)only[go_sem];done));try simp(disch:=omega)only[go_sem])
   |((with_reducible show Bi _ _ 58 _ _ _);refine Ai (Fp (Am q.holds b.proc)) ?_ rfl ?_;(focus(exact gI;done));try refine gO ?_)
   |((with_reducible show Bn _ _ 58 _ _ _ _ _ _ _);refine AO ⟨⟨[],[],[]⟩,[],[]⟩ (Fp (Am q.holds b.proc)) ?_ rfl rfl trivial (.inl rfl) ?_;(focus(simp(disch:=omega)only[go_sem];done));try simp(disch:=omega)only[go_sem])
   |((with_reducible show Bi _ _ 155 _ _ _);refine Ai (Hp q.res b.AH) ?_ rfl ?_;(focus(exact gI;done));try refine gO ?_)
   |((with_reducible show Bn _ _ 155 _ _ _ _ _ _ _);refine AO ⟨⟨[],[],[]⟩,[],[]⟩ (Hp q.res b.AH) ?_ rfl rfl trivial (.inl rfl) ?_;(focus(simp(disch:=omega)only[go_sem];done));try simp(disch:=omega)only[go_sem])
   |((with_reducible show Bi _ _ 59 _ _ _);refine Ai (KH q.res b.AH (Am q.holds b.proc)) ?_ rfl ?_;(focus(exact gI;done));try refine gO ?_)
   |((with_reducible show Bn _ _ 59 _ _ _ _ _ _ _);refine AO ⟨⟨[],[],[]⟩,[],[]⟩ (KH q.res b.AH (Am q.holds b.proc)) ?_ rfl rfl trivial (.inl rfl) ?_;(focus(simp(disch:=omega)only[go_sem];done));try simp(disch:=omega)only[go_sem])
   |((with_reducible show Bi _ _ 100 _ _ _);refine Ai (Pt q.As b.proc (by omega)) ?_ rfl ?_;(focus(exact gI;done));try refine gO ?_)
   |((with_reducible show Bn _ _ 100 _ _ _ _ _ _ _);refine AO ⟨⟨[],[],[]⟩,[],[]⟩ (Pt q.As b.proc (by omega)) ?_ rfl rfl trivial (.inl rfl) ?_;(focus(simp(disch:=omega)only[go_sem];done));try simp(disch:=omega)only[go_sem]))
  all_goals(first|(refine hJ _ (i+1) ⟨by omega,by rw[CB hb,hP];simp_all[Ja]⟩ (by omega) AK;done)|(refine CT _ ?_;simp(disch:=omega)only[go_sem];refine wb ?_;(rw[bad (by simp_all[Ja])])))
 subst Ba;rw[take_length]at hP;have Ahr:Fe q=true:=by grind[Fe]
 clear hJ;refine AF (q.waits) (λi=>⟨[(7,I i),(1,.ptr 64 0),(3,.ptr 192 0)],[(64,q.c),(192,q.res.c)]⟩) (λi=>(q.waits.take i).all (Ji q)=true) rfl ?_ ?_
 ·exact Ce
 rintro i ⟨hi,hP⟩ J hJ;refine gO ?_;refine Bo hi (λAP b hb Cg AX=>?_) λBa=>?_
 refine Ay 18 [([],[3]),([],[1]),([],[119]),([],[7]),([],[120,121]),([],[122]),([],[123]),([],[118,124]),([7],[125]),([7],[126]),([7],[1,127]),([7],[128,127]),([7],[1,127]),([7],[130,127]),([7],[7,127]),([7],[131,132,127]),([7],[133,127]),([7],[134,127])] B6 ?_;simp(disch:=omega)only[go_sem,gm,hb]
 ·have bad:Ji q b=false->sound q=false:=λh=>by simp[sound,Fi,all_false Cg h,Bool.and_false,Bool.false_and]
  repeat'(first
   |(with_reducible refine And.intro (λh=>?_) (λh=>?_))
   |((with_reducible show Bi _ _ 155 _ _ _);refine Ai (Hp q.res b.AH) ?_ rfl ?_;(focus(simp(disch:=omega)only[go_sem];done));try simp(disch:=omega)only[go_sem,gm,hb])
   |((with_reducible show Bn _ _ 155 _ _ _ _ _ _ _);refine AO ⟨⟨[],[],[]⟩,[],[]⟩ (Hp q.res b.AH) ?_ rfl rfl trivial (.inl rfl) ?_;(focus(exact gI;done));try simp only[go_sem,hb])
   |((with_reducible show Bi _ _ 104 _ _ _);refine Ai (Ru q.holds b.proc h1) ?_ rfl ?_;(focus(exact gI;done));try refine gO ?_)
   |((with_reducible show Bn _ _ 104 _ _ _ _ _ _ _);refine AO ⟨⟨[],[],[]⟩,[],[]⟩ (Ru q.holds b.proc h1) ?_ rfl rfl trivial (.inl rfl) ?_;(focus(simp(disch:=omega)only[go_sem];done));try simp(disch:=omega)only[go_sem,gm,hb])
   |((with_reducible show Bi _ _ 58 _ _ _);refine Ai (Fp (Am q.holds b.proc)) ?_ rfl ?_;(focus(exact gI;done));try refine gO ?_)
   |((with_reducible show Bn _ _ 58 _ _ _ _ _ _ _);refine AO ⟨⟨[],[],[]⟩,[],[]⟩ (Fp (Am q.holds b.proc)) ?_ rfl rfl trivial (.inl rfl) ?_;(focus(simp(disch:=omega)only[go_sem];done));try simp(disch:=omega)only[go_sem,gm,hb]))
  all_goals(first|(refine hJ _ (i+1) ⟨by omega,by rw[H4 hb,hP];simp_all[Ji]⟩ (by omega) AK;done)|(refine CT _ ?_;simp(disch:=omega)only[go_sem];refine wb ?_;grind[Ji]))
 ·subst Ba;rw[take_length]at hP;refine Al _ ?_;exact wb (by grind[sound,Fi])
attribute [go_sem] isSome_none isSome_some
@[go_sem] theorem Acw(k:Nat):((k:Int)+1).toNat=k+1:=rfl
@[go_sem] theorem zn(k:Nat):(0<=(k:Int)+1)=True:=by grind
def AR(l:List A9)(p:Ac):List A9:=l.filter λh=>decide (h.proc≠p)
def after'(p:Ac)(h:A9):Bool:=decide (0<BF h.proc p)
def KU(l:List A9)(p:Ac):Int:=match l.findIdx? (after' p) with
 |some i=>i
 |none=>-1
def Dd(l:List A9)(p:Ac):Nat:=(l.findIdx? (after' p)).getD l.length
def CO(l:List A9)(p:Ac)(a:BR):List A9:=if a.zero then AR l p else (AR l p).take (Dd (AR l p) p)++⟨p,a⟩::(AR l p).drop (Dd (AR l p) p)
def Zz(l:List A9)(p:Ac):Dd l p<=l.length:=by
 unfold Dd;cases h:l.findIdx? (after' p)<;>grind[List.findIdx?_eq_some_iff_getElem]
def eT(l:List A9)(p:Ac)(h:A9):KU (l++[h]) p=if KU l p<0/\after' p h=true then (l.length:Int) else KU l p:=by grind[KU]
def jn(r:List (List AV))(z c:List AV)(k:Nat)(hk:k<=r.length):(over 0 (k+1) (((r++[z]).drop k).take ((r++[z]).length-(k+1))) (r++[z])).set k c=r.take k++c::r.drop k:=by
 refine List.ext_getElem? λi=>?_
 rw[List.getElem?_set];simp only[Jy,List.length_append,List.length_cons,List.length_nil]
 by_cases hi:k=i
 ·grind
 rw[if_neg hi];simp only[over,List.getElem?_mapIdx,Nat.zero_add]
 by_cases AP:i<k<;>grind
def z5:List AV:=[.v (.int .i64 0),.v (.int .i64 0),.v (.int .i64 0),.v (.int .i64 0),.v (.int .i64 0)]
def Rz(l:List A9)(p:Ac)(a:BR)(hl:l.length<=1000000):Ad C0 187 [Bg l,.agg p.c,.agg a.c] [] (Bg (CO l p a)) []:=by
 refine Ad.go f187 ?_;unfold f187;have dy:((l.length:Int)+1<=4294967296)=True:=by grind
 refine gO ?_;refine AF (l) (λi=>⟨[(17,I i),(16,I l.length),(15,Bg l),(7,.sl (.own 2496 0) 5 ((AR (l.take i) p).map A9.c)),(8,I (KU (AR (l.take i) p) p)),(4,.ptr 256 0),(5,.ptr 320 0)],[(256,p.c),(320,a.c)]⟩) (λi=>(AR (l.take i) p).length<=i) ((by simp[AR])) ?_ ?_
 ·refine AT.CX ⟨[(896,2496)],[(256,256),(320,320)],[]⟩ ⟨rfl,rfl⟩ (by grind) ?_ ?_
  all_goals(try simp(disch:=omega)only[go_sem])
  all_goals(try(repeat'(with_reducible apply And.intro)))
  all_goals(first|exact .Cr (by omega)|exact .A8 (by omega)|exact .sl (by simp[AR])|exact .int (by simp[AR,KU])|exact .eq (by simp[AR,KU]))
 rintro i ⟨hi,hP⟩ J hJ;refine gO ?_;refine Bo hi (λAP b hb Cg AX=>?_) λBa=>?_
 simp(disch:=omega)only[go_sem,hb]
 ·refine⟨λh=>?_,λh=>?_⟩
  ·have e:AR (l.take (i+1)) p=AR (l.take i) p:=by grind[AR,take_add_one]
   refine hJ _ (i+1) ⟨by omega,(by grind)⟩ (by omega) Gd
  ·have e:AR (l.take (i+1)) p=AR (l.take i) p++[b]:=by grind[AR,take_add_one]
   have ep:=eT (AR (l.take i) p) p b;rw[<- e]at ep;generalize AR (l.take i) p=r at hP e ep;have hbound:(r.length:Int)+1<=4294967296:=by omega
   repeat'(first
    |(with_reducible refine And.intro (λh=>?_) (λh=>?_))
    |((with_reducible show Bi _ _ 74 _ _ _);refine Ai (LC b.proc p) ?_ rfl ?_;(focus(exact gI;done));try refine gO ?_)
    |((with_reducible show Bn _ _ 74 _ _ _ _ _ _ _);refine AO ⟨⟨[],[],[]⟩,[],[]⟩ (LC b.proc p) ?_ rfl rfl trivial (.inl rfl) ?_;(focus(simp(disch:=omega)only[go_sem];done));try simp(disch:=omega)only[go_sem]))
   all_goals(refine hJ _ (i+1) ⟨by omega,by grind⟩ (by omega) (AT.Aq ?_ ?_))
   all_goals(try simp(disch:=omega)only[go_sem])
   all_goals(refine⟨.sl (by grind[A9.c]),.int ?_⟩)
   all_goals(simp_all[after']<;>omega)
 ·subst Ba;simp only[take_length]at hP ⊢;have UL:KU (AR l p) p=if (AR l p).findIdx? (after' p)=none then -1 else (Dd (AR l p) p:Int):=by grind[KU,Dd]
  have hpn:=Zz (AR l p) p;have WG:CO l p a=if a.zero then AR l p else (AR l p).take (Dd (AR l p) p)++⟨p,a⟩::(AR l p).drop (Dd (AR l p) p):=rfl
  have xl:(AR l p).findIdx? (after' p)=none->Dd (AR l p) p=(AR l p).length:=λh=>by simp[Dd,h]
  generalize AR l p=r at hP UL hpn WG xl ⊢;generalize Dd r p=k at UL hpn WG xl;refine Ab (J9 a) ?_;cases hz:a.zero
  ·rw[hz]at WG;have hbound:(r.length:Int)+1<=4294967296:=by omega
   generalize hpi:KU r p=q at UL;have hk:q<0->k=r.length:=λhq=>xl (by grind)
   have pG:¬ q<0->q=(k:Int):=λhq=>by omega
   clear xl UL hJ;obtain⟨e,he⟩:∃ e:A9,((r++[h0]).map A9.c)[k]?=some e.c:=⟨(r++[h0])[k]'(by grind),by grind⟩;have rS:∀ X,(over 0 (k+1) X (r.map A9.c++[z5]))[k]?=some e.c:=λX=>by
    have:r.map A9.c++[z5]=(r++[h0]).map A9.c:=by simp[h0,A9.c,z5]
    rw[this];simp only[over,List.getElem?_mapIdx,he,Option.map_some];rw[if_neg (by omega)]
   have tail:∀ X:List (List AV),X=((r.map A9.c++[z5]).drop k).take (r.length+1-(k+1))->(over 0 (k+1) X (r.map A9.c++[z5])).set k (A9.c ⟨p,a⟩)=(CO l p a).map A9.c:=λX hX=>by
    have:=jn (r.map A9.c) z5 (A9.c ⟨p,a⟩) k (by grind);rw[WG,hX];simp only[List.length_append,List.length_map,List.length_cons,List.length_nil,Nat.zero_add]at this;rw[this];simp
   simp only[z5]at rS tail
   by_cases hq:q<0
   ·have e1:(q<0)=True:=by grind
    have:=hk hq;subst this;simp(disch:=omega)only[go_sem,e1];refine Ay 7 [([],[7]),([],[8]),([],[53]),([],[52,54]),([],[7]),([],[8]),([],[56,57])] B6 ?_;simp(disch:=omega)only[go_sem,rS];refine CU ⟨[],[],[3264]⟩ _ (gO ?_);exact .sl (tail _ (by grind))
   ·have e1:(q<0)=False:=by grind
    have:=pG hq;subst this;simp(disch:=omega)only[go_sem,e1];refine Ay 7 [([],[7]),([],[8]),([],[53]),([],[52,54]),([],[7]),([],[8]),([],[56,57])] B6 ?_;simp(disch:=omega)only[go_sem,rS];refine CU ⟨[],[],[3264]⟩ _ (gO ?_);exact .sl (tail _ (by grind))
  ·rw[hz]at WG;refine gO ?_;refine CU ⟨[],[],[2496]⟩ _ ?_;exact gC
def F3(r:BE)(l:List A9)(p:Ac)(a:BR):Bool:=BV r l&&p.ok&&r.fits a&&BV r (CO l p a)
theorem kC(r:BE)(l:List A9)(p:Ac)(a:BR)(hl:l.length<=1000000):Ad C0 176 [.agg r.c,Bg l,.agg p.c,.agg a.c] [] (B (F3 r l p a)) []:=by
 refine Ad.go f176 ?_;unfold f176;refine gO ?_;refine Ay 11 [([],[4]),([],[1]),([],[6]),([],[7]),([],[9,10,11,12]),([4],[13]),([4],[4,14]),([4],[1,14]),([4],[6,14]),([4],[7,14]),([4],[16,17,18,14])] B6 ?_;refine gO ?_;refine Ax (we r l p a) ?_;cases hc:(BV r l&&p.ok&&r.fits a)
 ·simp(disch:=omega)only[go_sem];refine Al _ ?_;exact wb (by simp[F3,hc])
 ·simp(disch:=omega)only[go_sem];refine Ax (Rz l p a hl) ?_;refine gO ?_;refine Ab (Vl r (CO l p a)) ?_;refine gO ?_;refine Al _ ?_;exact wb (by simp only[F3,hc];rfl)
@[reducible] def jL(r:Nat)(l:List Bh):AV:=.sl (.own r 0) 7 (l.map Bh.c)
theorem wN(n:Nat)(hn:n<=1000000):Ad C0 301 [.v (.slice none 0 0),I n] [] (jL 0 []) []:=by
 refine Ad.go f301 ?_;unfold f301;have e1:((n:Int)<0)=False:=by simp
 simp(disch:=omega)only[go_sem,e1,Int.sub_zero,decide_false];refine⟨λh=>?_,λh=>?_⟩
 ·refine AY ⟨[(1408,0)],[],[]⟩ _ rfl ⟨rfl,rfl⟩ (by simp[lk]) ?_ trivial;simp(disch:=omega)only[go_sem,jL]
 ·refine AY ⟨[],[],[]⟩ _ rfl ⟨rfl,rfl⟩ (by simp[lk]) ?_ trivial;simp(disch:=omega)only[go_sem,jL]
@[reducible] def Sq(a b:List Bh):AV:=.sl .no 1 [[Ct a],[Ct b]]
theorem wE(a b:List Bh)(h:a.length+b.length<=1000000):Ad C0 284 [Sq a b] [] (Ct (a++b)) []:=by
 refine Ad.go f284 ?_;unfold f284;have z0:(decide ((0:Int)<2))=true:=by decide
 have z1:(decide ((1:Int)<2))=true:=by decide
 have z2:(decide ((2:Int)<2))=false:=by decide
 have l1:((a.length:Int)<0)=False:=by simp
 have l2:((a.length:Int)+b.length<0)=False:=eq_false (by omega);refine gO ?_;refine Ao (α:=Nat) (λi=>⟨[(11,I i),(10,I 2),(9,Sq a b),(3,I (if i=0 then 0 else if i=1 then a.length else a.length+b.length)),(0,Sq a b)],[]⟩) (λi=>i<=2) (λi=>2-i) 0 (by simp) ?_ ?_
 ·exact AT.Aq gI gI
 rintro i hi J hJ;obtain rfl|rfl|rfl:i=0\/i=1\/i=2:=by omega
 ·simp(disch:=omega)only[go_sem,z0,Int.zero_add,l1,decide_false];exact hJ _ 1 (by omega) (by omega) AK
 ·simp(disch:=omega)only[go_sem,z1,l2,decide_false,Nat.one_ne_zero];exact hJ _ 2 (by omega) (by omega) AK
 clear hJ;simp(disch:=omega)only[go_sem,z2];refine By ⟨⟨[],[],[]⟩,[(0,1536)],[]⟩ (wN (a.length+b.length) h) gI rfl trivial (.inl rfl) ?_;refine gO ?_;refine Ao (α:=Nat) (λi=>⟨[(27,I i),(26,I 2),(25,Sq a b),(6,.sl (.own 2112 0) 7 ((if i=0 then [] else if i=1 then a else a++b).map Bh.c)),(0,Sq a b)],[]⟩) (λi=>i<=2) (λi=>2-i) 0 (by simp) ?_ ?_
 ·refine AT.CX ⟨[(1536,2112)],[],[]⟩ ⟨rfl,rfl⟩ (by simp[lk]) ?_ ?_
  ·exact gI
  ·exact gI
 rintro i hi J hJ;obtain rfl|rfl|rfl:i=0\/i=1\/i=2:=by omega
 ·simp(disch:=omega)only[go_sem,z0];exact hJ _ 1 (by omega) (by omega) (AT.Aq (by simp(disch:=omega)only[go_sem,Nat.one_ne_zero]) gI)
 ·simp(disch:=omega)only[go_sem,z1,Nat.one_ne_zero];exact hJ _ 2 (by omega) (by omega) (AT.Aq (by simp(disch:=omega)only[go_sem];exact .sl (by simp)) gI)
 ·simp(disch:=omega)only[go_sem,z2];refine CU ⟨[],[],[2112]⟩ _ ?_;simp(disch:=omega)only[go_sem]
def kU(q:Queue)(h:q.As.length+q.waits.length<=1000000):Ad C0 238 [.agg q.c] [] (Ct (q.As++q.waits)) []:=by
 refine Ad.go f238 ?_;unfold f238;refine gO ?_;refine FU [448] (wE q.As q.waits h) gI rfl ?_;refine gO ?_;exact AQ _
def Ar(q:Queue)(p:Ac):Option BR:=((q.As++q.waits).find? λw=>decide (w.proc=p)).map (·.AH)
def kT(q:Queue)(p:Ac)(h:q.As.length+q.waits.length<=1000000):Ad C0 237 [.agg q.c,.agg p.c] [] (.BC [.agg ((Ar q p).getD ⟨0,0⟩).c,B (Ar q p).isSome]) []:=by
 refine Ad.go f237 ?_;unfold f237;refine gO ?_;refine Ab (kU q h) ?_;have hw:Ar q p=((q.As++q.waits).find? λw=>decide (w.proc=p)).map (·.AH):=rfl;have hl:(q.As++q.waits).length<=1000000:=by simpa using h
 generalize q.As++q.waits=l at hw hl;refine gO ?_;refine AF (l) (λi=>⟨[(11,I i),(10,I l.length),(9,Ct l),(3,.ptr 192 0),(4,.ptr 256 0)],[(192,p.c),(256,(⟨0,0⟩:BR).c)]⟩) (λi=>(l.take i).find? (λh=>decide (h.proc=p))=none) rfl ?_ ?_
 ·exact Ce
 rintro i ⟨hi,hP⟩ J hJ;refine gO ?_;refine Bo hi (λAP b hb Cg AX=>?_) λBa=>?_
 simp(disch:=omega)only[go_sem,gm,hb]
 ·refine⟨λh=>?_,λh=>?_⟩
  ·have e:Ar q p=some b.AH:=by rw[hw,Hq hP hb (by simpa using h)];rfl
   simp(disch:=omega)only[go_sem,e];exact AQ _
  ·refine hJ _ (i+1) ⟨by omega,(by rw[Cp hP hb];simp at h;simp[h])⟩ (by omega) AK
 ·subst Ba;rw[take_length]at hP;have e:Ar q p=none:=by rw[hw,hP];rfl
  simp(disch:=omega)only[go_sem,e];exact AQ _
def C3(l:List Bh):List Ac:=l.map (·.proc)
def vO(q:Queue)(h:q.As.length+q.waits.length<=1000000):Ad C0 183 [.agg q.c] [] (AL (C3 (q.As++q.waits))) []:=by
 refine Ad.go f183 ?_;unfold f183;refine gO ?_;refine Ab (kU q h) ?_;have hl:(q.As++q.waits).length<=1000000:=by simpa using h
 generalize q.As++q.waits=l at hl;refine gO ?_;refine AF (l) (λi=>⟨[(9,I i),(8,I l.length),(7,Ct l),(3,.sl (.own 1088 0) 3 ((C3 (l.take i)).map Ac.c))],[]⟩) (λi=>True) trivial ?_ ?_
 ·exact Ce
 rintro i ⟨hi,hP⟩ J hJ;refine gO ?_;refine Bo hi (λAP b hb Cg AX=>?_) λBa=>?_
 simp(disch:=omega)only[go_sem,gm,hb]
 ·simp(disch:=omega)only[go_sem,C3];refine hJ _ (i+1) ⟨by omega,trivial⟩ (by omega) (AT.Aq ?_ ?_)
  all_goals(try simp(disch:=omega)only[go_sem])
  all_goals(try(repeat'(with_reducible apply And.intro)))
  all_goals(first|exact .Cr (by omega)|exact .A8 (by omega)|exact .sl (by simp[C3,take_add_one,hb,Ac.c])|exact .int (by simp[C3,take_add_one,hb,Ac.c])|exact .eq (by simp[C3,take_add_one,hb,Ac.c]))
 ·subst Ba;refine CU ⟨[],[],[1088]⟩ _ ?_;simp(disch:=omega)only[go_sem,take_length]
def valid(q:Queue):Bool:=sound q&&!(match BZ q with
 |some w=>F3 q.res q.holds w.proc w.AH
 |none=>false)
def vo(q:Queue)(h1:q.holds.length<=1000000)(h2:q.waits.length<=1000000):Ad C0 120 [.agg q.c] [] (B (valid q)) []:=by
 refine Ad.go f120 ?_;unfold f120;refine gO ?_;refine Ab (vJ q h1 h2) ?_;cases hs:sound q
 ·simp(disch:=omega)only[go_sem];refine Al _ ?_;exact wb (by simp[valid,hs])
 refine gO ?_;refine Ab (kB q) ?_;cases hh:BZ q with
 |none =>
  simp(disch:=omega)only[go_sem,isSome_none];refine Al _ ?_;exact wb (by simp[valid,hs,hh])
 |some w =>
  simp(disch:=omega)only[go_sem,isSome_some];refine Ab (kC q.res q.holds w.proc w.AH h1) ?_;refine gO ?_;refine Al _ ?_;exact wb (by simp[valid,hs,hh])
def Wn(q:Queue)(h1:q.holds.length<=1000000)(h2:q.waits.length<=1000000):Ad C0 71 [.agg q.c] [] (B (valid q)) []:=by
 refine Ad.go f71 ?_;unfold f71;refine gO ?_;refine Ab (vo q h1 h2) ?_;refine gO ?_;exact AQ _
@[go_sem] theorem Abx:Bg []=.sl .no 5 []:=rfl
@[go_sem] theorem Acy:Ct []=.sl .no 7 []:=rfl
@[go_sem] theorem Acd:AL []=.sl .no 3 []:=rfl
@[go_sem] theorem zC:AN []=.sl .no 8 []:=rfl
@[go_sem] theorem AbU:Io []=.sl .no 9 []:=rfl
@[go_sem] theorem Aaj:JP []=.sl .no 5 []:=rfl
@[go_sem] theorem zM:BG []=.sl .no 3 []:=rfl
@[go_sem] theorem AcC:TK []=.sl .no 2 []:=rfl
def DH(q:Queue)(w:Bh):Queue:=match q.As with
 |_::l=>{ q with holds:=CO q.holds w.proc w.AH,As:=l }
 |[]=>{ q with holds:=CO q.holds w.proc w.AH,waits:=q.waits.drop 1 }
def aa:Nat->Queue->Queue × List A9
 | 0,q=>(q,[])
 | n+1,q=>match BZ q with
  |some w=>if F3 q.res q.holds w.proc w.AH then ((aa n (DH q w)).1,⟨w.proc,w.AH⟩::(aa n (DH q w)).2) else (q,[])
  |none=>(q,[])
def B7(q:Queue):Nat:=q.As.length+q.waits.length
def Co(q:Queue):Queue × List A9:=aa (B7 q) q
theorem mI{n:Nat}{q:Queue}(h:BZ q=none):aa n q=(q,[]):=by cases n<;>simp[aa,h]
theorem Km{q:Queue}{w:Bh}(h:BZ q=some w):B7 (DH q w)+1=B7 q:=by grind[BZ,DH,B7]
def Kx(q:Queue):Co q=match BZ q with
 |some w=>if F3 q.res q.holds w.proc w.AH then ((Co (DH q w)).1,⟨w.proc,w.AH⟩::(Co (DH q w)).2) else (q,[])
 |none=>(q,[]):=by
 grind[Co,mI,Km,aa]
theorem JB(l:List A9)(p:Ac)(a:BR):(CO l p a).length<=l.length+1:=by grind[AR,CO]
def BS(q:Queue):Nat:=q.holds.length+B7 q
def cG{q:Queue}{w:Bh}(h:BZ q=some w):BS (DH q w)<=BS q:=by grind[Km,DH,JB,BS]
def aP(q:Queue)(Ka:BS q<=1000000):Ad C0 239 [.ptr 63 0] [(63,q.c)] (Bg (Co q).2) [(63,(Co q).1.c)]:=by
 refine Ad.go f239 ?_;unfold f239;refine gO ?_;refine Ao (α:=Queue × List A9) (λx=>⟨[(3,.sl (.own 4736 0) 5 (x.2.map A9.c)),(0,.ptr 63 0)],[(63,x.1.c)]⟩) (λx=>x.2.length+B7 x.1=B7 q/\BS x.1<=1000000/\(Co x.1).1=(Co q).1/\x.2++(Co x.1).2=(Co q).2) (λx=>B7 x.1) (q,[]) ⟨by simp,Ka,rfl,rfl⟩ ?_ ?_
 ·refine AT.Aq ?_ ?_
  ·exact gI
  ·exact gI
 rintro⟨s,hs⟩ ⟨i1,i2,i3,i4⟩ J hJ
 replace i1:hs.length+B7 s=B7 q:=i1
 replace i2:BS s<=1000000:=i2
 replace i3:(Co s).1=(Co q).1:=i3
 replace i4:hs++(Co s).2=(Co q).2:=i4
 rw[Kx s]at i3 i4;refine gO ?_;refine Ab (kB s) ?_;cases hh:BZ s with
 |none =>
  simp only[hh]at i3 i4;refine gO ?_;refine Ay 15 [([],[5]),([],[22]),([],[23]),([],[0,24]),([],[25,24]),([],[26,24]),([],[27,24]),([],[0,24]),([],[29,24]),([],[30,24]),([],[31,24]),([],[4,24]),([],[33,24]),([],[4,24]),([],[35,24])] B6 (gO ?_);refine AY ⟨[],[(63,63)],[4736]⟩ _ rfl ⟨rfl,rfl⟩ (by simp[lk]) ?_ ?_
  ·simp only[go_sem,<- i4]
  ·exact gC
 |some w =>
  simp[hh]at i3 i4;have Hb:=Km hh;have hpa:=cG hh;have Sx:s.holds.length<=1000000:=by grind[BS]
  refine gO ?_;refine Ay 15 [([],[5]),([],[22]),([],[23]),([],[0,24]),([],[25,24]),([],[26,24]),([],[27,24]),([],[0,24]),([],[29,24]),([],[30,24]),([],[31,24]),([],[4,24]),([],[33,24]),([],[4,24]),([],[35,24])] B6 (gO ?_);refine Ab (kC s.res s.holds w.proc w.AH Sx) ?_;cases hr:F3 s.res s.holds w.proc w.AH
  ·simp only[hr,Bool.false_eq_true,if_false]at i3 i4;refine gO ?_;refine AY ⟨[],[(63,63)],[4736]⟩ _ rfl ⟨rfl,rfl⟩ (by simp[lk]) ?_ ?_
   ·simp only[go_sem,<- i4]
   ·exact gC
  simp[hr]at i3 i4;have step:∀ st',AT ⟨C0,[63]⟩ st' ⟨[(3,.sl (.own 4736 0) 5 ((hs++[A9.mk w.proc w.AH]).map A9.c)),(0,.ptr 63 0)],[(63,(DH s w).c)]⟩->J st':=λst' h =>
   hJ st' (DH s w,hs++[A9.mk w.proc w.AH]) ⟨by grind,by grind,i3,by grind⟩ (by grind) h
  have hbound:hs.length+1<=4294967296:=by unfold BS at Ka;omega
  cases hc:s.As with
  | cons a l =>
   have hp:DH s w = { s with holds:=CO s.holds w.proc w.AH,As:=l }:=by grind[DH]
   rw[hp]at step;have z1:(0<(l.length:Int)+1)=True:=eq_true (by omega);have z2:(l.map Bh.c).take (l.length+1-1)=l.map Bh.c:=List.take_of_length_le (by simp);simp only[go_sem,z1];refine Ay 10 [([],[0]),([],[0]),([],[56]),([],[57]),([],[58]),([],[4]),([],[60]),([],[4]),([],[62]),([],[59,61,63])] B6 (gO ?_);refine Ax (Rz s.holds w.proc w.AH Sx) (gS ?_);refine step _ (AT.Aq ?_ ?_)
   ·refine gO ?_;exact .sl (by simp[A9.c])
   ·exact gI
  | nil =>
   have hp:DH s w = { s with holds:=CO s.holds w.proc w.AH,waits:=s.waits.drop 1 }:=by grind[DH]
   rw[hp]at step;have hw:1<=s.waits.length:=by unfold B7 at Hb;rw[hc]at Hb;simp at Hb;omega
   have z2:((s.waits.map Bh.c).drop 1).take (s.waits.length-1)=(s.waits.drop 1).map Bh.c:=by grind[List.map_drop,List.take_of_length_le]
   refine gO ?_;refine Ay 10 [([],[0]),([],[0]),([],[56]),([],[57]),([],[58]),([],[4]),([],[60]),([],[4]),([],[62]),([],[59,61,63])] B6 (gO ?_);refine Ax (Rz s.holds w.proc w.AH Sx) (gS ?_);refine step _ (AT.Aq ?_ ?_)
   ·refine gO ?_;exact .sl (by simp[A9.c])
   ·exact gC
def vQ(q:Queue)(p:Ac)(h:q.holds.length<=1000000):Ad C0 186 [.ptr 63 0,.ptr 127 0] [(63,q.c),(127,p.c)] (.BC []) [(63,{ q with holds:=CO q.holds p ⟨0,0⟩:Queue }.c),(127,p.c)]:=by
 refine Ad.go f186 ?_;unfold f186;refine gO ?_;refine Ab (Rz q.holds p ⟨0,0⟩ h) (gO ?_);refine AY ⟨[],[(63,63),(127,127)],[]⟩ _ rfl ⟨rfl,rfl⟩ (by simp[lk]) ?_ ?_
 ·exact gI
 ·exact gI
def vR(q:Queue)(p:Ac)(h:q.As.length<=1000000):Ad C0 188 [.ptr 63 0,.ptr 127 0] [(63,q.c),(127,p.c)] (.BC []) [(63,{ q with As:=Bv q.As p:Queue }.c),(127,p.c)]:=by
 refine Ad.go f188 ?_;unfold f188;refine gO ?_;refine Ab (Vi q.As p h) ?_;refine gO ?_;refine AY ⟨[],[(63,63),(127,127)],[]⟩ _ rfl ⟨rfl,rfl⟩ (by simp[lk]) ?_ ?_
 ·exact gI
 ·exact gI
def vS(q:Queue)(p:Ac)(h:q.waits.length<=1000000):Ad C0 190 [.ptr 63 0,.ptr 127 0] [(63,q.c),(127,p.c)] (.BC []) [(63,{ q with waits:=Bv q.waits p:Queue }.c),(127,p.c)]:=by
 refine Ad.go f190 ?_;unfold f190;refine gO ?_;refine Ab (Vi q.waits p h) ?_;refine gO ?_;refine AY ⟨[],[(63,63),(127,127)],[]⟩ _ rfl ⟨rfl,rfl⟩ (by simp[lk]) ?_ ?_
 ·exact gI
 ·exact gI
def B8(q:Queue)(p:Ac):Queue:={ q with holds:=CO q.holds p ⟨0,0⟩,As:=Bv q.As p,waits:=Bv q.waits p }
def Ee(q:Queue):Queue:={ (Co q).1 with gen:=OW (Co q).1.gen }
@[reducible] def tJ(a b:Nat):AV:=.mem true [.fn 186 [.ptr a 0,.ptr b 0],.fn 188 [.ptr a 0,.ptr b 0],.fn 190 [.ptr a 0,.ptr b 0]]
theorem Cq(l:List Bh)(p:Ac):(Bv l p).length<=l.length:=List.length_filter_le _ _
def vP(q:Queue)(p:Ac)(h:BS q+1<=1000000):Ad C0 185 [.ptr 63 0,tJ 63 127] [(63,q.c),(127,p.c)] (.BC [.agg (Ee (B8 q p)).c,Bg (Co (B8 q p)).2,I 0]) [(63,(Ee (B8 q p)).c),(127,p.c)]:=by
 have h1:q.holds.length<=1000000:=by grind[BS]
 have h2:q.As.length<=1000000:=by grind[BS,B7]
 have h3:q.waits.length<=1000000:=by unfold BS B7 at h;omega
 have h4:BS (B8 q p)<=1000000:=by
  have:=JB q.holds p ⟨0,0⟩;have:=Cq q.As p;have:=Cq q.waits p;unfold BS B7 at h ⊢;simp only[B8];omega
 refine Ad.go f185 ?_;unfold f185;have z0:(decide ((0:Int)<3))=true:=by decide
 have z1:(decide ((1:Int)<3))=true:=by decide
 have z2:(decide ((2:Int)<3))=true:=by decide
 have z3:(decide ((3:Int)<3))=false:=by decide
 refine gO ?_;refine Ao (α:=Nat) (λi=>⟨[(12,I i),(11,I 3),(10,tJ 63 127),(0,.ptr 63 0),(4,.ptr 256 0)],[(63,(if i=0 then q else if i=1 then { q with holds:=CO q.holds p ⟨0,0⟩:Queue } else if i=2 then { q with holds:=CO q.holds p ⟨0,0⟩,As:=Bv q.As p:Queue } else B8 q p).c),(127,p.c),(256,(⟨⟨[],0,0,0⟩,[],[],[],0⟩:Queue).c)]⟩) (λi=>i<=3) (λi=>3-i) 0 (by simp) ?_ ?_
 ·refine AT.Aq ?_ ?_
  ·exact gI
  ·exact gI
 rintro i hi J hJ;obtain rfl|rfl|rfl|rfl:i=0\/i=1\/i=2\/i=3:=by omega
 ·refine gO ?_;refine By ⟨⟨[],[(63,63),(127,127)],[]⟩,[],[]⟩ (vQ q p h1) gI rfl gI (.inl rfl) (gO ?_);refine hJ _ 1 (by omega) (by omega) (AT.Aq gI (by exact gI))
 ·refine gO ?_;refine By ⟨⟨[],[(63,63),(127,127)],[]⟩,[],[]⟩ (vR { q with holds:=CO q.holds p ⟨0,0⟩ } p h2) gI rfl gI (.inl rfl) (gO ?_);refine hJ _ 2 (by omega) (by omega) (AT.Aq gI (by exact gI))
 ·refine gO ?_;refine By ⟨⟨[],[(63,63),(127,127)],[]⟩,[],[]⟩ (vS { q with holds:=CO q.holds p ⟨0,0⟩,As:=Bv q.As p } p h3) gI rfl gI (.inl rfl) (gO ?_);refine hJ _ 3 (by omega) (by omega) (AT.Aq gI (by simp only[go_sem,B8]))
 ·clear hJ;refine gO ?_;refine By ⟨⟨[],[(63,63)],[]⟩,[],[]⟩ (aP (B8 q p) h4) gI rfl gI (.inl rfl) (gO ?_);refine Ab (aQ (Co (B8 q p)).1.gen) ?_;refine gO ?_;refine AY ⟨[],[(63,63),(127,127)],[]⟩ _ (by(try simp only[go_sem,Cx,Gv])<;>rfl) ⟨rfl,rfl⟩ (by simp[lk]) ?_ ?_
  ·simp only[go_sem,Ee]
  ·simp only[go_sem,Ee]
end Go.Rd
namespace Go.Proofs
open Go.Shelf
def Tryz.pf : Go.Shelf.Ren := ⟨λ| 6 => 132 | 15 => 192 | 14 => 191 | 28 => 250 | 29 => 51 | 20 => 242 | 21 => 243 | 22 => 244 | 23 => 245 | 24 => 246 | 25 => 247 | 26 => 248 | 27 => 249 | 46 => 285 | 47 => 286 | 48 => 287 | 49 => 288 | 50 => 289 | 57 => 302 | n => n, λ| 22 => 26 | 24 => 51 | 25 => 144 | 3 => 3 | 39 => 159 | 0 => 0 | 53 => 287 | 55 => 93 | 4 => 4 | 46 => 280 | 45 => 279 | 50 => 284 | 5 => 5 | 9 => 9 | 66 => 315 | 70 => 241 | 76 => 332 | 77 => 288 | n => n, λ| n => n⟩
def Tryz.AfJ : Go.Proofs.SlLaysF0.n6 Tryz.prog Tryz.pf := {
  mixed := by kernel_rfl
  f6 := ⟨Tryz.f132.name, by decide, Tryz.func132.trans (congrArg some (by kernel_rfl))⟩
  f14 := ⟨Tryz.f191.name, by decide, Tryz.func191.trans (congrArg some (by kernel_rfl))⟩
  f15 := Tryz.func192.trans (congrArg some (by kernel_rfl))
  f20 := ⟨Tryz.f242.name, by decide, Tryz.func242.trans (congrArg some (by kernel_rfl))⟩
  f21 := ⟨Tryz.f243.name, by decide, Tryz.func243.trans (congrArg some (by kernel_rfl))⟩
  f22 := ⟨Tryz.f244.name, by decide, Tryz.func244.trans (congrArg some (by kernel_rfl))⟩
  f23 := ⟨Tryz.f245.name, by decide, Tryz.func245.trans (congrArg some (by kernel_rfl))⟩
  f24 := ⟨Tryz.f246.name, by decide, Tryz.func246.trans (congrArg some (by kernel_rfl))⟩
  f25 := ⟨Tryz.f247.name, by decide, Tryz.func247.trans (congrArg some (by kernel_rfl))⟩
  f26 := ⟨Tryz.f248.name, by decide, Tryz.func248.trans (congrArg some (by kernel_rfl))⟩
  f27 := ⟨Tryz.f249.name, by decide, Tryz.func249.trans (congrArg some (by kernel_rfl))⟩
  f28 := Tryz.func250.trans (congrArg some (by kernel_rfl))
  f29 := Tryz.func51.trans (congrArg some (by kernel_rfl))
  f46 := ⟨Tryz.f285.name, by decide, Tryz.func285.trans (congrArg some (by kernel_rfl))⟩
  f47 := Tryz.func286.trans (congrArg some (by kernel_rfl))
  f48 := Tryz.func287.trans (congrArg some (by kernel_rfl))
  f49 := ⟨Tryz.f288.name, by decide, Tryz.func288.trans (congrArg some (by kernel_rfl))⟩
  f50 := ⟨Tryz.f289.name, by decide, Tryz.func289.trans (congrArg some (by kernel_rfl))⟩
  f57 := ⟨Tryz.f302.name, by decide, Tryz.func302.trans (congrArg some (by kernel_rfl))⟩
  t0 := Tryz.underlying0
  a0 := Tryz.isAgg0
  z0 := Tryz.sizeOf0
  v0 := Tryz.zeroValue0
  t3 := Tryz.underlying3
  a3 := Tryz.isAgg3
  z3 := Tryz.sizeOf3
  v3 := Tryz.zeroValue3
  t4 := Tryz.underlying4
  a4 := Tryz.isAgg4
  z4 := Tryz.sizeOf4
  v4 := Tryz.zeroValue4
  t5 := Tryz.underlying5
  a5 := Tryz.isAgg5
  z5 := Tryz.sizeOf5
  v5 := Tryz.zeroValue5
  t9 := Tryz.underlying9
  a9 := Tryz.isAgg9
  z9 := Tryz.sizeOf9
  v9 := Tryz.zeroValue9
  t22 := Tryz.underlying26
  a22 := Tryz.isAgg26
  z22 := Tryz.sizeOf26
  v22 := Tryz.zeroValue26
  t25 := Tryz.underlying144
  a25 := Tryz.isAgg144
  z25 := Tryz.sizeOf144
  v25 := Tryz.zeroValue144
  t39 := Tryz.underlying159
  a39 := Tryz.isAgg159
  z39 := Tryz.sizeOf159
  v39 := Tryz.zeroValue159
  t45 := Tryz.underlying279
  a45 := Tryz.isAgg279
  z45 := Tryz.sizeOf279
  v45 := Tryz.zeroValue279
  t46 := Tryz.underlying280
  a46 := Tryz.isAgg280
  z46 := Tryz.sizeOf280
  v46 := Tryz.zeroValue280
  t50 := Tryz.underlying284
  a50 := Tryz.isAgg284
  z50 := Tryz.sizeOf284
  v50 := Tryz.zeroValue284
  t53 := Tryz.underlying287
  a53 := Tryz.isAgg287
  z53 := Tryz.sizeOf287
  v53 := Tryz.zeroValue287
  t55 := Tryz.underlying93
  a55 := Tryz.isAgg93
  z55 := Tryz.sizeOf93
  v55 := Tryz.zeroValue93
  t66 := Tryz.underlying315
  a66 := Tryz.isAgg315
  z66 := Tryz.sizeOf315
  v66 := Tryz.zeroValue315
  t70 := Tryz.underlying241
  a70 := Tryz.isAgg241
  z70 := Tryz.sizeOf241
  v70 := Tryz.zeroValue241
  t76 := Tryz.underlying332
  a76 := Tryz.isAgg332
  z76 := Tryz.sizeOf332
  v76 := Tryz.zeroValue332
  t77 := Tryz.underlying288
  a77 := Tryz.isAgg288
  z77 := Tryz.sizeOf288
  v77 := Tryz.zeroValue288 }
end Go.Proofs
