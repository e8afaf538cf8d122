/- part 12 of the proof -/
import Derived.Test.YteliegkcmjimoaaGreatDoorProg
import Derived.Shelf.SlSortCmp.WholeK
import Derived.Test.YteliegkcmjimoaaGreatDoorV11
set_option linter.all false
open Go Go.Abs Go.Proofs
set_option maxRecDepth 100000
namespace Go.Rd
set_option maxHeartbeats 8000000
open List (take_add_one take_length)
open Option (isSome_none isSome_some map_some)
open Nat (one_ne_zero)
open Tryz
def Ln(r:Bo)(a b:BO):Ac C0 59 [.agg r.c,.agg a.c,.agg b.c] [] (B (r.covers a b)) []:=by
 refine Ac.go f59 ?_;unfold f59;simp(disch:=omega)only[go_sem]
 repeat'(first
  |(with_reducible refine And.intro (λh=>?_) (λh=>?_))
  |((with_reducible show A8 _ _ 105 _ _ _);refine Ag (Pr r a) ?_ rfl ?_;(focus(simp(disch:=omega)only[go_sem];done));try simp(disch:=omega)only[go_sem])
  |((with_reducible show A8 _ _ 105 _ _ _);refine Ag (Pr r b) ?_ rfl ?_;(focus(simp(disch:=omega)only[go_sem];done));try simp(disch:=omega)only[go_sem])
  |((with_reducible show A8 _ _ 58 _ _ _);refine Ag (Ga a) ?_ rfl ?_;(focus(simp(disch:=omega)only[go_sem];done));try simp(disch:=omega)only[go_sem])
  |((with_reducible show A8 _ _ 58 _ _ _);refine Ag (Ga b) ?_ rfl ?_;(focus(simp(disch:=omega)only[go_sem];done));try simp(disch:=omega)only[go_sem])
  |((with_reducible show A8 _ _ 106 _ _ _);refine Ag (SC a.mode b.mode) ?_ rfl ?_;(focus(simp(disch:=omega)only[go_sem];done));try simp(disch:=omega)only[go_sem]))
 all_goals(refine CD _ ?_)
 all_goals(try simp(disch:=omega)only[go_sem])
 all_goals(first|refine wb ?_|refine wi ?_|refine .eq ?_)
 all_goals(first|(simp_all[Bo.covers]<;>omega)|(refine Bool.eq_iff_iff.2 ?_;simp_all[Bo.covers]<;>omega))
def HR(q:Queue)(i:Nat)(w:Ba):Bool:=decide (EH q.Ak w.proc=(i:Int))&&!(Ap q.holds w.proc).zero&&q.res.fits w.AN&&q.res.covers w.AN (Ap q.holds w.proc)&&!decide (w.AN=Ap q.holds w.proc)&&w.prio==0&&w.DW==0
def Em(q:Queue):Bool:=decide (q.Ak.length<=8)&&Ci (HR q) q.Ak
def HZ(q:Queue)(w:Ba):Bool:=q.res.fits w.AN&&(Ap q.holds w.proc).zero
def Er(q:Queue):Bool:=DG q.waits&&decide (q.holds.length+q.waits.length<=8)&&q.waits.all (HZ q)
def N6(r:Bo):Bool:=C9 r.name&&r.shaped&&AL r.home 0 3
def sound(q:Queue):Bool:=N6 q.res&&BG q.res q.holds&&Em q&&Er q&&decide (0<=q.gen)&&decide (q.gen<=1073741824)
def dO(q:Queue)(h1:q.holds.length<=1000000):Ac C0 231 [.agg q.c] [] (B (Em q)) []:=by
 refine Ac.go f231 ?_;unfold f231
 by_cases h8:8<q.Ak.length
 ·have e1:(8<(q.Ak.length:Int))=True:=by simp;omega
  simp(disch:=omega)only[go_sem,e1];refine Aj _ ?_;exact .eq (by simp[Em];omega)
 have e1:(8<(q.Ak.length:Int))=False:=by simp;omega
 simp(disch:=omega)only[go_sem,e1,decide_false];refine AH (q.Ak) (λi=>⟨[(13,I i),(12,I q.Ak.length),(11,BZ q.Ak),(1,.ptr 64 0)],[(64,q.c)]⟩) (λi=>Ci (HR q) (q.Ak.take i)=true) rfl ?_ ?_
 ·exact B9
 rintro i ⟨hi,hP⟩ J hJ;refine gO ?_;refine Bp hi (λAu b hb Cc AR=>?_) λBf=>?_
 simp(disch:=omega)only[go_sem,gm,hb]
 ·have bad:HR q i b=false->Em q=false:=λh=>by simp[Em,BM hb h]
  repeat'(first
   |(with_reducible refine And.intro (λh=>?_) (λh=>?_))
   |((with_reducible show A8 _ _ 203 _ _ _);refine Ag (IL q b.proc h1) ?_ rfl ?_;(focus(simp(disch:=omega)only[go_sem];done));try simp(disch:=omega)only[go_sem])
   |((with_reducible show Bc _ _ 203 _ _ _ _ _ _ _);refine AF ⟨⟨[],[],[]⟩,[],[]⟩ (IL q b.proc h1) ?_ rfl rfl trivial (.inl rfl) ?_;(focus(simp(disch:=omega)only[go_sem];done));try simp(disch:=omega)only[go_sem])
   |((with_reducible show A8 _ _ 257 _ _ _);refine Ag (SM q.Ak b.proc (by omega)) ?_ rfl ?_;(focus(simp(disch:=omega)only[go_sem];done));try simp(disch:=omega)only[go_sem])
   |((with_reducible show Bc _ _ 257 _ _ _ _ _ _ _);refine AF ⟨⟨[],[],[]⟩,[],[]⟩ (SM q.Ak b.proc (by omega)) ?_ rfl rfl trivial (.inl rfl) ?_;(focus(simp(disch:=omega)only[go_sem];done));try simp(disch:=omega)only[go_sem])
   |((with_reducible show A8 _ _ 241 _ _ _);refine Ag (IM (Ap q.holds b.proc)) ?_ rfl ?_;(focus(simp(disch:=omega)only[go_sem];done));try simp(disch:=omega)only[go_sem])
   |((with_reducible show Bc _ _ 241 _ _ _ _ _ _ _);refine AF ⟨⟨[],[],[]⟩,[],[]⟩ (IM (Ap q.holds b.proc)) ?_ rfl rfl trivial (.inl rfl) ?_;(focus(simp(disch:=omega)only[go_sem];done));try simp(disch:=omega)only[go_sem])
   |((with_reducible show A8 _ _ 234 _ _ _);refine Ag (G3 q.res b.AN) ?_ rfl ?_;(focus(simp(disch:=omega)only[go_sem];done));try simp(disch:=omega)only[go_sem])
   |((with_reducible show Bc _ _ 234 _ _ _ _ _ _ _);refine AF ⟨⟨[],[],[]⟩,[],[]⟩ (G3 q.res b.AN) ?_ rfl rfl trivial (.inl rfl) ?_;(focus(simp(disch:=omega)only[go_sem];done));try simp(disch:=omega)only[go_sem])
   |((with_reducible show A8 _ _ 204 _ _ _);refine Ag (Pw q.res b.AN (Ap q.holds b.proc)) ?_ rfl ?_;(focus(simp(disch:=omega)only[go_sem];done));try simp(disch:=omega)only[go_sem])
   |((with_reducible show Bc _ _ 204 _ _ _ _ _ _ _);refine AF ⟨⟨[],[],[]⟩,[],[]⟩ (Pw q.res b.AN (Ap q.holds b.proc)) ?_ rfl rfl trivial (.inl rfl) ?_;(focus(simp(disch:=omega)only[go_sem];done));try simp(disch:=omega)only[go_sem]))
  all_goals(first|(refine hJ _ (i+1) ⟨by omega,by rw[Cl hb,hP];simp_all[HR]⟩ (by omega) AS;done)|(refine CD _ ?_;simp(disch:=omega)only[go_sem];refine wb ?_;(rw[bad (by simp_all[HR])])))
 ·subst Bf;rw[take_length]at hP;have e:Em q=true:=by simp[Em,hP];omega
  simp(disch:=omega)only[go_sem,e];exact AM _
def dP(q:Queue)(h1:q.holds.length<=1000000)(h2:q.waits.length<=1000000):Ac C0 232 [.agg q.c] [] (B (Er q)) []:=by
 refine Ac.go f232 ?_;unfold f232;refine gO ?_;refine Ab (oP q.waits) ?_;cases hl:DG q.waits
 ·simp(disch:=omega)only[go_sem,Bool.not_false];refine Aj _ ?_;exact wb (by simp[Er,hl])
 by_cases h8:8<q.holds.length+q.waits.length
 ·have e1:(8<(q.holds.length:Int)+q.waits.length)=True:=by simp;omega
  simp(disch:=omega)only[go_sem,e1,Bool.not_true];refine Aj _ ?_;exact wb (by simp[Er];omega)
 have e1:(8<(q.holds.length:Int)+q.waits.length)=False:=by simp;omega
 simp(disch:=omega)only[go_sem,e1,decide_false,Bool.not_true];refine AH (q.waits) (λi=>⟨[(22,I i),(21,I q.waits.length),(20,BZ q.waits),(1,.ptr 64 0)],[(64,q.c)]⟩) (λi=>(q.waits.take i).all (HZ q)=true) rfl ?_ ?_
 ·exact B9
 rintro i ⟨hi,hP⟩ J hJ;refine gO ?_;refine Bp hi (λAu b hb Cc AR=>?_) λBf=>?_
 simp(disch:=omega)only[go_sem,gm,hb]
 ·have bad:HZ q b=false->Er q=false:=λh=>by simp only[Er,all_false Cc h,Bool.and_false]
  repeat'(first
   |(with_reducible refine And.intro (λh=>?_) (λh=>?_))
   |((with_reducible show A8 _ _ 234 _ _ _);refine Ag (G3 q.res b.AN) ?_ rfl ?_;(focus(simp(disch:=omega)only[go_sem];done));try simp(disch:=omega)only[go_sem])
   |((with_reducible show Bc _ _ 234 _ _ _ _ _ _ _);refine AF ⟨⟨[],[],[]⟩,[],[]⟩ (G3 q.res b.AN) ?_ rfl rfl trivial (.inl rfl) ?_;(focus(simp(disch:=omega)only[go_sem];done));try simp(disch:=omega)only[go_sem])
   |((with_reducible show A8 _ _ 203 _ _ _);refine Ag (IL q b.proc h1) ?_ rfl ?_;(focus(simp(disch:=omega)only[go_sem];done));try simp(disch:=omega)only[go_sem])
   |((with_reducible show Bc _ _ 203 _ _ _ _ _ _ _);refine AF ⟨⟨[],[],[]⟩,[],[]⟩ (IL q b.proc h1) ?_ rfl rfl trivial (.inl rfl) ?_;(focus(simp(disch:=omega)only[go_sem];done));try simp(disch:=omega)only[go_sem])
   |((with_reducible show A8 _ _ 241 _ _ _);refine Ag (IM (Ap q.holds b.proc)) ?_ rfl ?_;(focus(simp(disch:=omega)only[go_sem];done));try simp(disch:=omega)only[go_sem])
   |((with_reducible show Bc _ _ 241 _ _ _ _ _ _ _);refine AF ⟨⟨[],[],[]⟩,[],[]⟩ (IM (Ap q.holds b.proc)) ?_ rfl rfl trivial (.inl rfl) ?_;(focus(simp(disch:=omega)only[go_sem];done));try simp(disch:=omega)only[go_sem]))
  all_goals(first|(refine hJ _ (i+1) ⟨by omega,by rw[Ko hb,hP];simp_all[HZ]⟩ (by omega) AS;done)|(refine CD _ ?_;simp(disch:=omega)only[go_sem];refine wb ?_;(rw[bad (by simp_all[HZ])])))
 ·subst Bf;rw[take_length]at hP;have e:Er q=true:=by simp only[Er,hl,hP];simp;omega
  simp(disch:=omega)only[go_sem,e];exact AM _
def nZ(q:Queue)(h1:q.holds.length<=1000000)(h2:q.waits.length<=1000000):Ac C0 174 [.agg q.c] [] (B (sound q)) []:=by
 refine Ac.go f174 ?_;unfold f174;simp(disch:=omega)only[go_sem]
 repeat'(first
  |(with_reducible refine And.intro (λh=>?_) (λh=>?_))
  |((with_reducible show A8 _ _ 229 _ _ _);refine Ag (dN q.res) ?_ rfl ?_;(focus(simp(disch:=omega)only[go_sem];done));try simp(disch:=omega)only[go_sem])
  |((with_reducible show Bc _ _ 229 _ _ _ _ _ _ _);refine AF ⟨⟨[],[],[]⟩,[],[]⟩ (dN q.res) ?_ rfl rfl trivial (.inl rfl) ?_;(focus(simp(disch:=omega)only[go_sem];done));try simp(disch:=omega)only[go_sem])
  |((with_reducible show A8 _ _ 230 _ _ _);refine Ag (SL q.res q.holds) ?_ rfl ?_;(focus(simp(disch:=omega)only[go_sem];done));try simp(disch:=omega)only[go_sem])
  |((with_reducible show Bc _ _ 230 _ _ _ _ _ _ _);refine AF ⟨⟨[],[],[]⟩,[],[]⟩ (SL q.res q.holds) ?_ rfl rfl trivial (.inl rfl) ?_;(focus(simp(disch:=omega)only[go_sem];done));try simp(disch:=omega)only[go_sem])
  |((with_reducible show A8 _ _ 231 _ _ _);refine Ag (dO q h1) ?_ rfl ?_;(focus(simp(disch:=omega)only[go_sem];done));try simp(disch:=omega)only[go_sem])
  |((with_reducible show Bc _ _ 231 _ _ _ _ _ _ _);refine AF ⟨⟨[],[],[]⟩,[],[]⟩ (dO q h1) ?_ rfl rfl trivial (.inl rfl) ?_;(focus(simp(disch:=omega)only[go_sem];done));try simp(disch:=omega)only[go_sem])
  |((with_reducible show A8 _ _ 232 _ _ _);refine Ag (dP q h1 h2) ?_ rfl ?_;(focus(simp(disch:=omega)only[go_sem];done));try simp(disch:=omega)only[go_sem])
  |((with_reducible show Bc _ _ 232 _ _ _ _ _ _ _);refine AF ⟨⟨[],[],[]⟩,[],[]⟩ (dP q h1 h2) ?_ rfl rfl trivial (.inl rfl) ?_;(focus(simp(disch:=omega)only[go_sem];done));try simp(disch:=omega)only[go_sem]))
 all_goals(refine CD _ ?_)
 all_goals(try simp(disch:=omega)only[go_sem])
 all_goals(refine wb ?_)
 all_goals(simp_all[sound,N6]<;>omega)
def Lk(r:Bo)(l:List AX)(hl:l.length<=1000000):Ac C0 209 [.agg r.c,AY l] [] (B (BG r l)) []:=by
 refine Ac.go f209 ?_;unfold f209;refine gO ?_;refine Ab (Pu r) ?_;cases hs:r.shaped
 ·have e:BG r l=false:=by simp[BG,hs]
  simp(disch:=omega)only[go_sem,Bool.not_false,e];exact AM _
 by_cases h8:8<l.length
 ·have e1:(8<(l.length:Int))=True:=by simp;omega
  have e:BG r l=false:=by simp[BG];omega
  simp(disch:=omega)only[go_sem,Bool.not_true,e1,e];exact AM _
 have e1:(8<(l.length:Int))=False:=by simp;omega
 simp(disch:=omega)only[go_sem,Bool.not_true,e1,decide_false];refine AH (l) (λi=>⟨[(5,I i),(1,AY l),(2,.ptr 128 0)],[(128,r.c)]⟩) (λi=>Ci (Eo r l) (l.take i)=true) rfl ?_ ?_
 ·exact B9
 rintro i ⟨hi,hP⟩ J hJ;refine gO ?_;refine Bp hi (λAu b hb Cc AR=>?_) λBf=>?_
 refine Av 32 [([],[1]),([],[5]),([],[20,21]),([],[22]),([],[23]),([],[24]),([5],[25]),([5],[26]),([5],[2,27]),([5],[1,27]),([5],[5,27]),([5],[29,30,27]),([5],[31,27]),([5],[32,27]),([5],[28,33,27]),([5,14],[34,27]),([5,14],[27,35]),([5,14],[36]),([5,14],[5,37]),([5,14],[38,37]),([5,14],[39,37]),([5,14],[1,40]),([5,14],[5,40]),([5,14],[42,40]),([5,14],[41,43,40]),([5,14],[44,40]),([5,14],[45,40]),([5,14],[1,40]),([5,14],[5,40]),([5,14],[47,48,40]),([5,14],[49,40]),([5,14],[50,40])] B7 ?_;simp(disch:=omega)only[go_sem,gm,hb]
 ·have bad:Eo r l i b=false->BG r l=false:=λh=>by simp[BG,BM hb h]
  refine Aq (Lo b.proc) ?_;cases hp:b.proc.ok
  ·simp(disch:=omega)only[go_sem,Bool.not_false,bad (by simp[Eo,hp])];exact AM _
  simp(disch:=omega)only[go_sem,Bool.not_true,gm,hb];refine Aq (Gp r b.AN) ?_;cases hf:r.fits b.AN
  ·simp(disch:=omega)only[go_sem,Bool.not_false,bad (by simp[Eo,hf])];exact AM _
  by_cases NO:i=0
  ·have e0:(0<(i:Int))=False:=by simp;omega
   simp(disch:=omega)only[go_sem,Bool.not_true,e0,decide_false];refine hJ _ (i+1) ⟨by omega,(by rw[Cl hb,hP];simp only[Eo,hp,hf,NO];rfl)⟩ (by omega) AS
  ·have PJ:(0<(i:Int))=True:=by simp;omega
   have Lu:((i:Int)-1)=((i-1:Nat):Int):=by omega
   obtain⟨a,ha⟩:∃ a,l[i-1]?=some a:=⟨_,gE (by omega)⟩;have PH:l.getD (i-1) h0=a:=by simp[List.getD,ha]
   simp(disch:=omega)only[go_sem,Bool.not_true,PJ,Lu,gm,ha,hb];refine Ab (J8 a.proc b.proc) ?_;refine gO ?_
   by_cases hc:0<=Bw a.proc b.proc
   ·have e:BG r l=false:=bad (by simp only[Eo,PH];simp[NO];omega);simp(disch:=omega)only[go_sem,hc,e];exact AM _
   ·simp(disch:=omega)only[go_sem,hc,decide_false];refine hJ _ (i+1) ⟨by omega,(by rw[Cl hb,hP];simp only[Eo,hp,hf,PH];simp;omega)⟩ (by omega) AS
 ·subst Bf;rw[take_length]at hP;have ee:BG r l=r.compat (l.map (·.AN)):=by simp[BG,hs,hP];omega
  refine Av 3 [([],[2]),([],[1]),([],[57])] B7 ?_;refine gO ?_;refine Aq (oI l hl) ?_;refine gO ?_;refine Ag (oH r (l.map (·.AN)) (by simp;omega)) (by simp(disch:=omega)only[go_sem];exact .eq (by simp)) rfl ?_;refine gO ?_;refine Aj _ ?_;exact wb ee.symm
def Xs(q:Queue)(h1:q.holds.length<=1000000)(h2:q.waits.length<=1000000):Ac C0 150 [.agg q.c] [] (B (sound q)) []:=by
 refine Ac.go f150 ?_;unfold f150
 by_cases pB:N6 q.res=true/\BG q.res q.holds=true/\q.Ak.length<=8/\DG q.waits=true/\q.holds.length+q.waits.length<=8/\0<=q.gen/\q.gen<=1073741824
 rotate_left
 ·simp(disch:=omega)only[go_sem]
  repeat'(first
   |(with_reducible refine And.intro (λh=>?_) (λh=>?_))
   |((with_reducible show A8 _ _ 208 _ _ _);refine Ag (Px q.res) ?_ rfl ?_;(focus(simp(disch:=omega)only[go_sem];done));try simp(disch:=omega)only[go_sem])
   |((with_reducible show Bc _ _ 208 _ _ _ _ _ _ _);refine AF ⟨⟨[],[],[]⟩,[],[]⟩ (Px q.res) ?_ rfl rfl trivial (.inl rfl) ?_;(focus(simp(disch:=omega)only[go_sem];done));try simp(disch:=omega)only[go_sem])
   |((with_reducible show A8 _ _ 209 _ _ _);refine Ag (Lk q.res q.holds h1) ?_ rfl ?_;(focus(simp(disch:=omega)only[go_sem];done));try simp(disch:=omega)only[go_sem])
   |((with_reducible show Bc _ _ 209 _ _ _ _ _ _ _);refine AF ⟨⟨[],[],[]⟩,[],[]⟩ (Lk q.res q.holds h1) ?_ rfl rfl trivial (.inl rfl) ?_;(focus(simp(disch:=omega)only[go_sem];done));try simp(disch:=omega)only[go_sem])
   |((with_reducible show A8 _ _ 210 _ _ _);refine Ag (SJ q.waits h2) ?_ rfl ?_;(focus(simp(disch:=omega)only[go_sem];done));try simp(disch:=omega)only[go_sem])
   |((with_reducible show Bc _ _ 210 _ _ _ _ _ _ _);refine AF ⟨⟨[],[],[]⟩,[],[]⟩ (SJ q.waits h2) ?_ rfl rfl trivial (.inl rfl) ?_;(focus(simp(disch:=omega)only[go_sem];done));try simp(disch:=omega)only[go_sem]))
  all_goals first
   |(refine CD _ ?_
     refine gO ?_;refine wb ?_
     first|(simp_all[sound,N6,Em,Er];done)|(simp_all[sound,N6,Em,Er];omega))
   |(exfalso;refine pB ?_;simp_all[N6];omega)
 obtain⟨g1,g2,g3,g4,g5,g6,g7⟩:=pB;have d1:(8<(q.Ak.length:Int))=False:=by simp;omega
 have d2:(8<(q.holds.length:Int)+q.waits.length)=False:=by simp;omega
 have d3:(q.gen<0)=False:=by simp;omega
 have d4:(1073741824<q.gen)=False:=by simp;omega
 refine gO ?_;refine Ab (Px q.res) ?_;have g1':(C9 q.res.name&&q.res.shaped&&AL q.res.home 0 3)=true:=g1;rw[g1'];simp(disch:=omega)only[go_sem,Bool.not_true];refine Ab (Lk q.res q.holds h1) ?_;rw[g2];simp(disch:=omega)only[go_sem,Bool.not_true,d1,decide_false];refine Ab (SJ q.waits h2) ?_;rw[g4];simp(disch:=omega)only[go_sem,Bool.not_true,d2,d3,d4,decide_false];refine AH (q.Ak) (λi=>⟨[(4,I i),(1,.ptr 64 0),(3,.ptr 192 0)],[(64,q.c),(192,q.res.c)]⟩) (λi=>Ci (HR q) (q.Ak.take i)=true) rfl ?_ ?_
 ·exact B9
 rintro i ⟨hi,hP⟩ J hJ;refine gO ?_;refine Bp hi (λAu b hb Cc AR=>?_) λBf=>?_
 simp(disch:=omega)only[go_sem,gm,hb]
 ·have bad:HR q i b=false->sound q=false:=λh=>by simp[sound,Em,BM hb h]
  repeat'(first
   |(with_reducible refine And.intro (λh=>?_) (λh=>?_))
   |((with_reducible show A8 _ _ 104 _ _ _);refine Ag (Pq q.holds b.proc h1) ?_ rfl ?_;(focus(simp(disch:=omega)only[go_sem];done));try simp(disch:=omega)only[go_sem])
   |((with_reducible show Bc _ _ 104 _ _ _ _ _ _ _);refine AF ⟨⟨[],[],[]⟩,[],[]⟩ (Pq q.holds b.proc h1) ?_ rfl rfl trivial (.inl rfl) ?_;(focus(simp(disch:=omega)only[go_sem];done));try simp(disch:=omega)only[go_sem])
   |((with_reducible show A8 _ _ 58 _ _ _);refine Ag (Ga (Ap q.holds b.proc)) ?_ rfl ?_;(focus(simp(disch:=omega)only[go_sem];done));try simp(disch:=omega)only[go_sem])
   |((with_reducible show Bc _ _ 58 _ _ _ _ _ _ _);refine AF ⟨⟨[],[],[]⟩,[],[]⟩ (Ga (Ap q.holds b.proc)) ?_ rfl rfl trivial (.inl rfl) ?_;(focus(simp(disch:=omega)only[go_sem];done));try simp(disch:=omega)only[go_sem])
   |((with_reducible show A8 _ _ 155 _ _ _);refine Ag (Gp q.res b.AN) ?_ rfl ?_;(focus(simp(disch:=omega)only[go_sem];done));try simp(disch:=omega)only[go_sem])
   |((with_reducible show Bc _ _ 155 _ _ _ _ _ _ _);refine AF ⟨⟨[],[],[]⟩,[],[]⟩ (Gp q.res b.AN) ?_ rfl rfl trivial (.inl rfl) ?_;(focus(simp(disch:=omega)only[go_sem];done));try simp(disch:=omega)only[go_sem])
   |((with_reducible show A8 _ _ 59 _ _ _);refine Ag (Ln q.res b.AN (Ap q.holds b.proc)) ?_ rfl ?_;(focus(simp(disch:=omega)only[go_sem];done));try simp(disch:=omega)only[go_sem])
   |((with_reducible show Bc _ _ 59 _ _ _ _ _ _ _);refine AF ⟨⟨[],[],[]⟩,[],[]⟩ (Ln q.res b.AN (Ap q.holds b.proc)) ?_ rfl rfl trivial (.inl rfl) ?_;(focus(simp(disch:=omega)only[go_sem];done));try simp(disch:=omega)only[go_sem])
   |((with_reducible show A8 _ _ 100 _ _ _);refine Ag (Nk q.Ak b.proc (by omega)) ?_ rfl ?_;(focus(simp(disch:=omega)only[go_sem];done));try simp(disch:=omega)only[go_sem])
   |((with_reducible show Bc _ _ 100 _ _ _ _ _ _ _);refine AF ⟨⟨[],[],[]⟩,[],[]⟩ (Nk q.Ak b.proc (by omega)) ?_ rfl rfl trivial (.inl rfl) ?_;(focus(simp(disch:=omega)only[go_sem];done));try simp(disch:=omega)only[go_sem]))
  all_goals(first|(refine hJ _ (i+1) ⟨by omega,by rw[Cl hb,hP];simp_all[HR]⟩ (by omega) AS;done)|(refine CD _ ?_;simp(disch:=omega)only[go_sem];refine wb ?_;(rw[bad (by simp_all[HR])])))
 subst Bf;rw[take_length]at hP;have tO:Em q=true:=by simp[Em,hP];omega
 clear hJ;refine AH (q.waits) (λi=>⟨[(7,I i),(1,.ptr 64 0),(3,.ptr 192 0)],[(64,q.c),(192,q.res.c)]⟩) (λi=>(q.waits.take i).all (HZ q)=true) rfl ?_ ?_
 ·exact B9
 rintro i ⟨hi,hP⟩ J hJ;refine gO ?_;refine Bp hi (λAu b hb Cc AR=>?_) λBf=>?_
 refine Av 18 [([],[3]),([],[1]),([],[119]),([],[7]),([],[120,121]),([],[122]),([],[123]),([],[118,124]),([7],[125]),([7],[126]),([7],[1,127]),([7],[128,127]),([7],[1,127]),([7],[130,127]),([7],[7,127]),([7],[131,132,127]),([7],[133,127]),([7],[134,127])] B7 ?_;simp(disch:=omega)only[go_sem,gm,hb]
 ·have bad:HZ q b=false->sound q=false:=λh=>by simp only[sound,Er,all_false Cc h,Bool.and_false,Bool.false_and]
  repeat'(first
   |(with_reducible refine And.intro (λh=>?_) (λh=>?_))
   |((with_reducible show A8 _ _ 155 _ _ _);refine Ag (Gp q.res b.AN) ?_ rfl ?_;(focus(simp(disch:=omega)only[go_sem];done));try simp(disch:=omega)only[go_sem,gm,hb])
   |((with_reducible show Bc _ _ 155 _ _ _ _ _ _ _);refine AF ⟨⟨[],[],[]⟩,[],[]⟩ (Gp q.res b.AN) ?_ rfl rfl trivial (.inl rfl) ?_;(focus(simp(disch:=omega)only[go_sem];done));try simp(disch:=omega)only[go_sem,gm,hb])
   |((with_reducible show A8 _ _ 104 _ _ _);refine Ag (Pq q.holds b.proc h1) ?_ rfl ?_;(focus(simp(disch:=omega)only[go_sem];done));try simp(disch:=omega)only[go_sem,gm,hb])
   |((with_reducible show Bc _ _ 104 _ _ _ _ _ _ _);refine AF ⟨⟨[],[],[]⟩,[],[]⟩ (Pq q.holds b.proc h1) ?_ rfl rfl trivial (.inl rfl) ?_;(focus(simp(disch:=omega)only[go_sem];done));try simp(disch:=omega)only[go_sem,gm,hb])
   |((with_reducible show A8 _ _ 58 _ _ _);refine Ag (Ga (Ap q.holds b.proc)) ?_ rfl ?_;(focus(simp(disch:=omega)only[go_sem];done));try simp(disch:=omega)only[go_sem,gm,hb])
   |((with_reducible show Bc _ _ 58 _ _ _ _ _ _ _);refine AF ⟨⟨[],[],[]⟩,[],[]⟩ (Ga (Ap q.holds b.proc)) ?_ rfl rfl trivial (.inl rfl) ?_;(focus(simp(disch:=omega)only[go_sem];done));try simp(disch:=omega)only[go_sem,gm,hb]))
  all_goals(first|(refine hJ _ (i+1) ⟨by omega,by rw[Ko hb,hP];simp_all[HZ]⟩ (by omega) AS;done)|(refine CD _ ?_;simp(disch:=omega)only[go_sem];refine wb ?_;(rw[bad (by simp_all[HZ])])))
 ·subst Bf;rw[take_length]at hP;refine Aj _ ?_;exact wb (by simp only[sound,Er,tO,hP,g1,g2,g4];simp;omega)
attribute [go_sem] isSome_none isSome_some
@[go_sem] theorem vo(k:Nat):((k:Int)+1).toNat=k+1:=rfl
@[go_sem] theorem rV(k:Nat):(0<=(k:Int)+1)=True:=by simp;omega
def AG(l:List AX)(p:Ad):List AX:=l.filter λh=>decide (h.proc≠p)
def after'(p:Ad)(h:AX):Bool:=decide (0<Bw h.proc p)
def Jo(l:List AX)(p:Ad):Int:=match l.findIdx? (after' p) with
 |some i=>i
 |none=>-1
def CG(l:List AX)(p:Ad):Nat:=(l.findIdx? (after' p)).getD l.length
def Cs(l:List AX)(p:Ad)(a:BO):List AX:=if a.zero then AG l p else (AG l p).take (CG (AG l p) p)++⟨p,a⟩::(AG l p).drop (CG (AG l p) p)
def NG(l:List AX)(p:Ad):CG l p<=l.length:=by
 unfold CG;cases h:l.findIdx? (after' p) with
 |none=>simp
 |some i =>
  have:=(List.findIdx?_eq_some_iff_getElem.1 h).1;simp;omega
def Z9(l:List AX)(p:Ad)(h:AX):Jo (l++[h]) p=if Jo l p<0/\after' p h=true then (l.length:Int) else Jo l p:=by
 unfold Jo;rw[List.findIdx?_append];cases hl:l.findIdx? (after' p) with
 |some i=>simp;omega
 |none =>
  simp only[Option.none_or,List.findIdx?_cons];cases after' p h<;>simp
theorem cE(r:List (List AV))(z c:List AV)(k:Nat)(hk:k<=r.length):(over 0 (k+1) (((r++[z]).drop k).take ((r++[z]).length-(k+1))) (r++[z])).set k c=r.take k++c::r.drop k:=by
 refine List.ext_getElem? λi=>?_
 rw[List.getElem?_set];simp only[Ig,List.length_append,List.length_cons,List.length_nil]
 by_cases hi:k=i
 ·subst hi;rw[if_pos rfl,if_pos (by omega),List.getElem?_append_right (by simp;omega)];simp[Nat.min_eq_left hk]
 rw[if_neg hi];simp only[over,List.getElem?_mapIdx,Nat.zero_add]
 by_cases Au:i<k
 ·rw[List.getElem?_append_left (by omega),List.getElem?_append_left (by simp;omega),List.getElem?_take (l:=r),if_pos Au];have hn:¬ (k+1<=i):=by omega
  cases r[i]?<;>simp[hn]
 ·by_cases hle:i<=r.length
  ·rw[List.getElem?_append_right (l₁:=r.take k) (by simp;omega)];simp only[List.length_take,Nat.min_eq_left hk];obtain⟨j,rfl⟩:∃ j,i=k+1+j:=⟨i-(k+1),by omega⟩;rw[show k+1+j-k=j+1 by omega,List.getElem?_cons_succ,List.getElem?_drop];have e1:(r++[z])[k+1+j]?=some ((r++[z])[k+1+j]'(by simp;omega)):=gE _;rw[e1];simp only[map_some,show k+1<=k+1+j by omega,if_true,show k+1+j-(k+1)=j by omega];rw[List.getElem?_take,if_pos (by omega),List.getElem?_drop,List.getElem?_append_left (by omega)];rw[gE (by omega)];simp
  ·have e2:(r.take k++c::r.drop k)[i]?=none:=List.getElem?_eq_none (by simp;omega);rw[List.getElem?_eq_none (l:=r++[z]) (by simp;omega),e2];rfl
def z5:List AV:=[.v (.int .i64 0),.v (.int .i64 0),.v (.int .i64 0),.v (.int .i64 0),.v (.int .i64 0)]
def Pv(l:List AX)(p:Ad)(a:BO)(hl:l.length<=1000000):Ac C0 187 [AY l,.agg p.c,.agg a.c] [] (AY (Cs l p a)) []:=by
 refine Ac.go f187 ?_;unfold f187;have TT:((l.length:Int)+1<=4294967296)=True:=by simp;omega
 simp(disch:=omega)only[go_sem,TT];refine AH (l) (λi=>⟨[(17,I i),(16,I l.length),(15,AY l),(7,.sl (.own 2496 0) 5 ((AG (l.take i) p).map AX.c)),(8,I (Jo (AG (l.take i) p) p)),(4,.ptr 256 0),(5,.ptr 320 0)],[(256,p.c),(320,a.c)]⟩) (λi=>(AG (l.take i) p).length<=i) ((by simp[AG])) ?_ ?_
 ·refine AQ.BS ⟨[(896,2496)],[(256,256),(320,320)],[]⟩ ⟨rfl,rfl⟩ (by simp[lk]) ?_ ?_
  all_goals(try simp(disch:=omega)only[go_sem])
  all_goals(try(repeat'(with_reducible apply And.intro)))
  all_goals(first|exact .AU (by omega)|exact .AD (by omega)|exact .sl (by simp[AG,Jo])|exact .int (by simp[AG,Jo])|exact .eq (by simp[AG,Jo]))
 rintro i ⟨hi,hP⟩ J hJ;refine gO ?_;refine Bp hi (λAu b hb Cc AR=>?_) λBf=>?_
 simp(disch:=omega)only[go_sem,gm,hb]
 ·refine⟨λh=>?_,λh=>?_⟩
  ·have e:AG (l.take (i+1)) p=AG (l.take i) p:=by simp at h;simp[AG,take_add_one,hb,h]
   refine hJ _ (i+1) ⟨by omega,(by rw[e];omega)⟩ (by omega) (AQ.An ?_ ?_)
   all_goals(try simp(disch:=omega)only[go_sem])
   all_goals(try(repeat'(with_reducible apply And.intro)))
   all_goals(first|exact .AU (by omega)|exact .AD (by omega)|exact .sl (by simp[e])|exact .int (by simp[e])|exact .eq (by simp[e]))
  ·have e:AG (l.take (i+1)) p=AG (l.take i) p++[b]:=by simp at h;simp[AG,take_add_one,hb,h]
   have ep:=Z9 (AG (l.take i) p) p b;rw[<- e]at ep;generalize AG (l.take i) p=r at hP e ep;have hbound:(r.length:Int)+1<=4294967296:=by omega
   repeat'(first
    |(with_reducible refine And.intro (λh=>?_) (λh=>?_))
    |((with_reducible show A8 _ _ 74 _ _ _);refine Ag (J7 b.proc p) ?_ rfl ?_;(focus(simp(disch:=omega)only[go_sem];done));try simp(disch:=omega)only[go_sem])
    |((with_reducible show Bc _ _ 74 _ _ _ _ _ _ _);refine AF ⟨⟨[],[],[]⟩,[],[]⟩ (J7 b.proc p) ?_ rfl rfl trivial (.inl rfl) ?_;(focus(simp(disch:=omega)only[go_sem];done));try simp(disch:=omega)only[go_sem]))
   all_goals(refine hJ _ (i+1) ⟨by omega,by rw[e];simp;omega⟩ (by omega) (AQ.An ?_ ?_))
   all_goals(try simp(disch:=omega)only[go_sem])
   all_goals(refine⟨.sl (by rw[e];simp[AX.c]),.int ?_⟩)
   all_goals(simp_all[after']<;>omega)
 ·subst Bf;simp only[take_length]at hP ⊢;have U7:Jo (AG l p) p=if (AG l p).findIdx? (after' p)=none then -1 else (CG (AG l p) p:Int):=by
   unfold Jo CG;cases (AG l p).findIdx? (after' p)<;>simp
  have uu:=NG (AG l p) p;have T0:Cs l p a=if a.zero then AG l p else (AG l p).take (CG (AG l p) p)++⟨p,a⟩::(AG l p).drop (CG (AG l p) p):=rfl
  have vX:(AG l p).findIdx? (after' p)=none->CG (AG l p) p=(AG l p).length:=λh=>by simp[CG,h]
  generalize AG l p=r at hP U7 uu T0 vX ⊢;generalize CG r p=k at U7 uu T0 vX;refine Ab (IM a) ?_;cases hz:a.zero
  ·rw[hz]at T0;have hbound:(r.length:Int)+1<=4294967296:=by omega
   have Ael:r.length+1<=4294967296:=by omega
   generalize hpi:Jo r p=q at U7;have hk:q<0->k=r.length:=λhq=>vX (by
    cases h:r.findIdx? (after' p) with
    |none=>rfl
    |some i=>rw[h]at U7;simp at U7;omega)
   have a7:¬ q<0->q=(k:Int):=λhq=>by
    split at U7
    ·omega
    ·exact U7
   clear vX U7 hJ;obtain⟨e,he⟩:∃ e:AX,((r++[h0]).map AX.c)[k]?=some e.c:=⟨(r++[h0])[k]'(by simp;omega),by rw[gm,gE (by simp;omega)];rfl⟩;have kJ:∀ X,(over 0 (k+1) X (r.map AX.c++[z5]))[k]?=some e.c:=λX=>by
    have:r.map AX.c++[z5]=(r++[h0]).map AX.c:=by simp[h0,AX.c,z5]
    rw[this];simp only[over,List.getElem?_mapIdx,he,map_some];rw[if_neg (by omega)]
   have tail:∀ X:List (List AV),X=((r.map AX.c++[z5]).drop k).take (r.length+1-(k+1))->(over 0 (k+1) X (r.map AX.c++[z5])).set k (AX.c ⟨p,a⟩)=(Cs l p a).map AX.c:=λX hX=>by
    have:=cE (r.map AX.c) z5 (AX.c ⟨p,a⟩) k (by simpa using uu);rw[T0,hX];simp only[List.length_append,List.length_map,List.length_cons,List.length_nil,Nat.zero_add]at this;rw[this];simp
   simp only[z5]at kJ tail
   by_cases hq:q<0
   ·have e1:(q<0)=True:=by simp[hq]
    have:=hk hq;subst this;simp(disch:=omega)only[go_sem,e1];refine Av 7 [([],[7]),([],[8]),([],[53]),([],[52,54]),([],[7]),([],[8]),([],[56,57])] B7 ?_;simp(disch:=omega)only[go_sem,kJ,Ig];refine CK ⟨[],[],[3264]⟩ _ ?_;refine gO ?_;exact .sl (tail _ (by rw[List.take_take];congr 1;omega))
   ·have e1:(q<0)=False:=by simp[hq]
    have:=a7 hq;subst this;simp(disch:=omega)only[go_sem,e1];refine Av 7 [([],[7]),([],[8]),([],[53]),([],[52,54]),([],[7]),([],[8]),([],[56,57])] B7 ?_;simp(disch:=omega)only[go_sem,kJ,Ig];refine CK ⟨[],[],[3264]⟩ _ ?_;refine gO ?_;exact .sl (tail _ (by rw[List.take_take];congr 1;omega))
  ·rw[hz]at T0;refine gO ?_;refine CK ⟨[],[],[2496]⟩ _ ?_;simp(disch:=omega)only[go_sem,T0]
def E3(r:Bo)(l:List AX)(p:Ad)(a:BO):Bool:=BG r l&&p.ok&&r.fits a&&BG r (Cs l p a)
theorem dB(r:Bo)(l:List AX)(p:Ad)(a:BO)(hl:l.length<=1000000):Ac C0 176 [.agg r.c,AY l,.agg p.c,.agg a.c] [] (B (E3 r l p a)) []:=by
 refine Ac.go f176 ?_;unfold f176;refine gO ?_;refine Av 11 [([],[4]),([],[1]),([],[6]),([],[7]),([],[9,10,11,12]),([4],[13]),([4],[4,14]),([4],[1,14]),([4],[6,14]),([4],[7,14]),([4],[16,17,18,14])] B7 ?_;refine gO ?_;refine Aq (oA r l p a) ?_;cases hc:(BG r l&&p.ok&&r.fits a)
 ·simp(disch:=omega)only[go_sem];refine Aj _ ?_;exact wb (by simp[E3,hc])
 ·simp(disch:=omega)only[go_sem];refine Aq (Pv l p a hl) ?_;refine gO ?_;refine Ab (SL r (Cs l p a)) ?_;refine gO ?_;refine Aj _ ?_;exact wb (by simp only[E3,hc];rfl)
@[reducible] def cX(r:Nat)(l:List Ba):AV:=.sl (.own r 0) 7 (l.map Ba.c)
theorem oZ(n:Nat)(hn:n<=1000000):Ac C0 301 [.v (.slice none 0 0),I n] [] (cX 0 []) []:=by
 refine Ac.go f301 ?_;unfold f301;have e1:((n:Int)<0)=False:=by simp
 simp(disch:=omega)only[go_sem,e1,Int.sub_zero,decide_false];refine⟨λh=>?_,λh=>?_⟩
 ·refine AZ ⟨[(1408,0)],[],[]⟩ _ rfl ⟨rfl,rfl⟩ (by simp[lk]) ?_ trivial;simp(disch:=omega)only[go_sem,cX]
 ·refine AZ ⟨[],[],[]⟩ _ rfl ⟨rfl,rfl⟩ (by simp[lk]) ?_ trivial;simp(disch:=omega)only[go_sem,cX]
@[reducible] def Qp(a b:List Ba):AV:=.sl .no 1 [[BZ a],[BZ b]]
theorem oR(a b:List Ba)(h:a.length+b.length<=1000000):Ac C0 284 [Qp a b] [] (BZ (a++b)) []:=by
 refine Ac.go f284 ?_;unfold f284;have z0:(decide ((0:Int)<2))=true:=by decide
 have z1:(decide ((1:Int)<2))=true:=by decide
 have z2:(decide ((2:Int)<2))=false:=by decide
 have l1:((a.length:Int)<0)=False:=by simp
 have l2:((a.length:Int)+b.length<0)=False:=eq_false (by omega);refine gO ?_;refine Ao (α:=Nat) (λi=>⟨[(11,I i),(10,I 2),(9,Qp a b),(3,I (if i=0 then 0 else if i=1 then a.length else a.length+b.length)),(0,Qp a b)],[]⟩) (λi=>i<=2) (λi=>2-i) 0 (by simp) ?_ ?_
 ·exact AQ.An gI gI
 rintro i hi J hJ;obtain rfl|rfl|rfl:i=0\/i=1\/i=2:=by omega
 ·simp(disch:=omega)only[go_sem,z0,Int.zero_add,l1,decide_false];exact hJ _ 1 (by omega) (by omega) AS
 ·simp(disch:=omega)only[go_sem,z1,l2,decide_false,one_ne_zero];exact hJ _ 2 (by omega) (by omega) AS
 clear hJ;simp(disch:=omega)only[go_sem,z2];refine Bh ⟨⟨[],[],[]⟩,[(0,1536)],[]⟩ (oZ (a.length+b.length) h) gI rfl trivial (.inl rfl) ?_;refine gO ?_;refine Ao (α:=Nat) (λi=>⟨[(27,I i),(26,I 2),(25,Qp a b),(6,.sl (.own 2112 0) 7 ((if i=0 then [] else if i=1 then a else a++b).map Ba.c)),(0,Qp a b)],[]⟩) (λi=>i<=2) (λi=>2-i) 0 (by simp) ?_ ?_
 ·refine AQ.BS ⟨[(1536,2112)],[],[]⟩ ⟨rfl,rfl⟩ (by simp[lk]) ?_ ?_
  ·exact gI
  ·exact gI
 rintro i hi J hJ;obtain rfl|rfl|rfl:i=0\/i=1\/i=2:=by omega
 ·simp(disch:=omega)only[go_sem,z0];exact hJ _ 1 (by omega) (by omega) (AQ.An (by simp(disch:=omega)only[go_sem,one_ne_zero]) gI)
 ·simp(disch:=omega)only[go_sem,z1,one_ne_zero];exact hJ _ 2 (by omega) (by omega) (AQ.An (by simp(disch:=omega)only[go_sem];exact .sl (by simp)) gI)
 ·simp(disch:=omega)only[go_sem,z2];refine CK ⟨[],[],[2112]⟩ _ ?_;simp(disch:=omega)only[go_sem]
def dS(q:Queue)(h:q.Ak.length+q.waits.length<=1000000):Ac C0 238 [.agg q.c] [] (BZ (q.Ak++q.waits)) []:=by
 refine Ac.go f238 ?_;unfold f238;refine gO ?_;refine FC [448] (oR q.Ak q.waits h) gI rfl ?_;refine gO ?_;exact AM _
def Ar(q:Queue)(p:Ad):Option BO:=((q.Ak++q.waits).find? λw=>decide (w.proc=p)).map (·.AN)
def dR(q:Queue)(p:Ad)(h:q.Ak.length+q.waits.length<=1000000):Ac C0 237 [.agg q.c,.agg p.c] [] (.Bl [.agg ((Ar q p).getD ⟨0,0⟩).c,B (Ar q p).isSome]) []:=by
 refine Ac.go f237 ?_;unfold f237;refine gO ?_;refine Ab (dS q h) ?_;have hw:Ar q p=((q.Ak++q.waits).find? λw=>decide (w.proc=p)).map (·.AN):=rfl;have hl:(q.Ak++q.waits).length<=1000000:=by simpa using h
 generalize q.Ak++q.waits=l at hw hl;refine gO ?_;refine AH (l) (λi=>⟨[(11,I i),(10,I l.length),(9,BZ l),(3,.ptr 192 0),(4,.ptr 256 0)],[(192,p.c),(256,(⟨0,0⟩:BO).c)]⟩) (λi=>(l.take i).find? (λh=>decide (h.proc=p))=none) rfl ?_ ?_
 ·exact B9
 rintro i ⟨hi,hP⟩ J hJ;refine gO ?_;refine Bp hi (λAu b hb Cc AR=>?_) λBf=>?_
 simp(disch:=omega)only[go_sem,gm,hb]
 ·refine⟨λh=>?_,λh=>?_⟩
  ·have e:Ar q p=some b.AN:=by rw[hw,G5 hP hb (by simpa using h)];rfl
   simp(disch:=omega)only[go_sem,e];exact AM _
  ·refine hJ _ (i+1) ⟨by omega,(by rw[B4 hP hb];simp at h;simp[h])⟩ (by omega) AS
 ·subst Bf;rw[take_length]at hP;have e:Ar q p=none:=by rw[hw,hP];rfl
  simp(disch:=omega)only[go_sem,e];exact AM _
def Ct(l:List Ba):List Ad:=l.map (·.proc)
def oa(q:Queue)(h:q.Ak.length+q.waits.length<=1000000):Ac C0 183 [.agg q.c] [] (AA (Ct (q.Ak++q.waits))) []:=by
 refine Ac.go f183 ?_;unfold f183;refine gO ?_;refine Ab (dS q h) ?_;have hl:(q.Ak++q.waits).length<=1000000:=by simpa using h
 generalize q.Ak++q.waits=l at hl;refine gO ?_;refine AH (l) (λi=>⟨[(9,I i),(8,I l.length),(7,BZ l),(3,.sl (.own 1088 0) 3 ((Ct (l.take i)).map Ad.c))],[]⟩) (λi=>True) trivial ?_ ?_
 ·exact B9
 rintro i ⟨hi,hP⟩ J hJ;refine gO ?_;refine Bp hi (λAu b hb Cc AR=>?_) λBf=>?_
 simp(disch:=omega)only[go_sem,gm,hb]
 ·simp(disch:=omega)only[go_sem,Ct];refine hJ _ (i+1) ⟨by omega,trivial⟩ (by omega) (AQ.An ?_ ?_)
  all_goals(try simp(disch:=omega)only[go_sem])
  all_goals(try(repeat'(with_reducible apply And.intro)))
  all_goals(first|exact .AU (by omega)|exact .AD (by omega)|exact .sl (by simp[Ct,take_add_one,hb,Ad.c])|exact .int (by simp[Ct,take_add_one,hb,Ad.c])|exact .eq (by simp[Ct,take_add_one,hb,Ad.c]))
 ·subst Bf;refine CK ⟨[],[],[1088]⟩ _ ?_;simp(disch:=omega)only[go_sem,take_length]
def valid(q:Queue):Bool:=sound q&&!(match BE q with
 |some w=>E3 q.res q.holds w.proc w.AN
 |none=>false)
def nE(q:Queue)(h1:q.holds.length<=1000000)(h2:q.waits.length<=1000000):Ac C0 120 [.agg q.c] [] (B (valid q)) []:=by
 refine Ac.go f120 ?_;unfold f120;refine gO ?_;refine Ab (nZ q h1 h2) ?_;cases hs:sound q
 ·simp(disch:=omega)only[go_sem];refine Aj _ ?_;exact wb (by simp[valid,hs])
 refine gO ?_;refine Ab (dA q) ?_;cases hh:BE q with
 |none =>
  simp(disch:=omega)only[go_sem,isSome_none];refine Aj _ ?_;exact wb (by simp[valid,hs,hh])
 |some w =>
  simp(disch:=omega)only[go_sem,isSome_some];refine Ab (dB q.res q.holds w.proc w.AN h1) ?_;refine gO ?_;refine Aj _ ?_;exact wb (by simp[valid,hs,hh])
def TG(q:Queue)(h1:q.holds.length<=1000000)(h2:q.waits.length<=1000000):Ac C0 71 [.agg q.c] [] (B (valid q)) []:=by
 refine Ac.go f71 ?_;unfold f71;refine gO ?_;refine Ab (nE q h1 h2) ?_;refine gO ?_;exact AM _
@[go_sem] theorem ur:AY []=.sl .no 5 []:=rfl
@[go_sem] theorem vr:BZ []=.sl .no 7 []:=rfl
@[go_sem] theorem vf:AA []=.sl .no 3 []:=rfl
@[go_sem] theorem sc:AW []=.sl .no 8 []:=rfl
@[go_sem] theorem uU:MP []=.sl .no 9 []:=rfl
@[go_sem] theorem sP:It []=.sl .no 5 []:=rfl
@[go_sem] theorem sk:BN []=.sl .no 3 []:=rfl
@[go_sem] theorem vv:Rt []=.sl .no 2 []:=rfl
def CS(q:Queue)(w:Ba):Queue:=match q.Ak with
 |_::l=>{ q with holds:=Cs q.holds w.proc w.AN,Ak:=l }
 |[]=>{ q with holds:=Cs q.holds w.proc w.AN,waits:=q.waits.drop 1 }
def W4:Nat->Queue->Queue × List AX
 | 0,q=>(q,[])
 | n+1,q=>match BE q with
  |some w=>if E3 q.res q.holds w.proc w.AN then ((W4 n (CS q w)).1,⟨w.proc,w.AN⟩::(W4 n (CS q w)).2) else (q,[])
  |none=>(q,[])
def BJ(q:Queue):Nat:=q.Ak.length+q.waits.length
def B0(q:Queue):Queue × List AX:=W4 (BJ q) q
def fA{n:Nat}{q:Queue}(h:BE q=none):W4 n q=(q,[]):=by cases n<;>simp[W4,h]
def HF{q:Queue}{w:Ba}(h:BE q=some w):BJ (CS q w)+1=BJ q:=by
 unfold BE at h;unfold CS BJ;cases hq:q.Ak with
 | cons a l=>simp;omega
 | nil =>
  cases hw:q.waits with
  | cons a l=>simp
  | nil=>simp[hq,hw]at h
def I8(q:Queue):B0 q=match BE q with
 |some w=>if E3 q.res q.holds w.proc w.AN then ((B0 (CS q w)).1,⟨w.proc,w.AN⟩::(B0 (CS q w)).2) else (q,[])
 |none=>(q,[]):=by
 unfold B0;cases h:BE q with
 |none=>simp[fA h]
 |some w =>
  have:=HF h;rw[<- this];simp only[W4,h]
def Ij(l:List AX)(p:Ad)(a:BO):(Cs l p a).length<=l.length+1:=by
 have h1:(AG l p).length<=l.length:=List.length_filter_le _ _;have h2:=NG (AG l p) p;unfold Cs;split
 ·omega
 ·simp;omega
def BC(q:Queue):Nat:=q.holds.length+BJ q
def YH{q:Queue}{w:Ba}(h:BE q=some w):BC (CS q w)<=BC q:=by
 have h1:=HF h;have h2:(CS q w).holds.length<=q.holds.length+1:=by
  unfold CS;split<;>exact Ij _ _ _
 unfold BC;omega
def Xy(q:Queue)(Fw:BC q<=1000000):Ac C0 239 [.ptr 63 0] [(63,q.c)] (AY (B0 q).2) [(63,(B0 q).1.c)]:=by
 refine Ac.go f239 ?_;unfold f239;refine gO ?_;refine Ao (α:=Queue × List AX) (λx=>⟨[(3,.sl (.own 4736 0) 5 (x.2.map AX.c)),(0,.ptr 63 0)],[(63,x.1.c)]⟩) (λx=>x.2.length+BJ x.1=BJ q/\BC x.1<=1000000/\(B0 x.1).1=(B0 q).1/\x.2++(B0 x.1).2=(B0 q).2) (λx=>BJ x.1) (q,[]) ⟨by simp,Fw,rfl,rfl⟩ ?_ ?_
 ·refine AQ.An ?_ ?_
  ·exact gI
  ·exact gI
 rintro⟨s,hs⟩ ⟨i1,i2,i3,i4⟩ J hJ
 replace i1:hs.length+BJ s=BJ q:=i1
 replace i2:BC s<=1000000:=i2
 replace i3:(B0 s).1=(B0 q).1:=i3
 replace i4:hs++(B0 s).2=(B0 q).2:=i4
 rw[I8 s]at i3 i4;refine gO ?_;refine Ab (dA s) ?_;cases hh:BE s with
 |none =>
  simp only[hh]at i3 i4;simp(disch:=omega)only[go_sem,isSome_none];refine Av 15 [([],[5]),([],[22]),([],[23]),([],[0,24]),([],[25,24]),([],[26,24]),([],[27,24]),([],[0,24]),([],[29,24]),([],[30,24]),([],[31,24]),([],[4,24]),([],[33,24]),([],[4,24]),([],[35,24])] B7 ?_;refine gO ?_;refine AZ ⟨[],[(63,63)],[4736]⟩ _ rfl ⟨rfl,rfl⟩ (by simp[lk]) ?_ ?_
  ·simp(disch:=omega)only[go_sem,<- i4,List.append_nil]
  ·simp(disch:=omega)only[go_sem,<- i3]
 |some w =>
  simp only[hh]at i3 i4;have Ec:=HF hh;have hpa:=YH hh;have gF:s.holds.length<=1000000:=by unfold BC at i2;omega
  simp(disch:=omega)only[go_sem,isSome_some];refine Av 15 [([],[5]),([],[22]),([],[23]),([],[0,24]),([],[25,24]),([],[26,24]),([],[27,24]),([],[0,24]),([],[29,24]),([],[30,24]),([],[31,24]),([],[4,24]),([],[33,24]),([],[4,24]),([],[35,24])] B7 ?_;refine gO ?_;refine Ab (dB s.res s.holds w.proc w.AN gF) ?_;cases hr:E3 s.res s.holds w.proc w.AN
  ·simp only[hr,Bool.false_eq_true,if_false]at i3 i4;refine gO ?_;refine AZ ⟨[],[(63,63)],[4736]⟩ _ rfl ⟨rfl,rfl⟩ (by simp[lk]) ?_ ?_
   ·simp(disch:=omega)only[go_sem,<- i4,List.append_nil]
   ·simp(disch:=omega)only[go_sem,<- i3]
  simp only[hr,if_true]at i3 i4;have step:∀ st',AQ ⟨C0,[63],[]⟩ st' ⟨[(3,.sl (.own 4736 0) 5 ((hs++[AX.mk w.proc w.AN]).map AX.c)),(0,.ptr 63 0)],[(63,(CS s w).c)]⟩->J st':=λst' h =>
   hJ st' (CS s w,hs++[AX.mk w.proc w.AN]) ⟨by simp;omega,by simp;omega,i3,by rw[<- i4];simp⟩ (by simp;omega) h
  have hbound:hs.length+1<=4294967296:=by unfold BC at Fw;omega
  cases hc:s.Ak with
  | cons a l =>
   have hp:CS s w = { s with holds:=Cs s.holds w.proc w.AN,Ak:=l }:=by unfold CS;simp only[hc]
   rw[hp]at step;have z1:(0<(l.length:Int)+1)=True:=eq_true (by omega);have z2:(l.map Ba.c).take (l.length+1-1)=l.map Ba.c:=List.take_of_length_le (by simp);simp(disch:=omega)only[go_sem,hc,z1];refine Av 10 [([],[0]),([],[0]),([],[56]),([],[57]),([],[58]),([],[4]),([],[60]),([],[4]),([],[62]),([],[59,61,63])] B7 ?_;refine gO ?_;refine Aq (Pv s.holds w.proc w.AN gF) ?_;simp(disch:=omega)only[go_sem,z2];refine step _ (AQ.An ?_ ?_)
   ·simp(disch:=omega)only[go_sem];exact .sl (by simp[AX.c])
   ·exact gI
  | nil =>
   have hp:CS s w = { s with holds:=Cs s.holds w.proc w.AN,waits:=s.waits.drop 1 }:=by unfold CS;simp only[hc]
   rw[hp]at step;have hw:1<=s.waits.length:=by unfold BJ at Ec;rw[hc]at Ec;simp at Ec;omega
   have z2:((s.waits.map Ba.c).drop 1).take (s.waits.length-1)=(s.waits.drop 1).map Ba.c:=by rw[<- List.map_drop];exact List.take_of_length_le (by simp)
   simp(disch:=omega)only[go_sem,hc];refine Av 10 [([],[0]),([],[0]),([],[56]),([],[57]),([],[58]),([],[4]),([],[60]),([],[4]),([],[62]),([],[59,61,63])] B7 ?_;refine gO ?_;refine Aq (Pv s.holds w.proc w.AN gF) ?_;simp(disch:=omega)only[go_sem,z2];refine step _ (AQ.An ?_ ?_)
   ·simp(disch:=omega)only[go_sem];exact .sl (by simp[AX.c])
   ·simp(disch:=omega)only[go_sem,hc,List.map_nil]
def od(q:Queue)(p:Ad)(h:q.holds.length<=1000000):Ac C0 186 [.ptr 63 0,.ptr 127 0] [(63,q.c),(127,p.c)] (.Bl []) [(63,{ q with holds:=Cs q.holds p ⟨0,0⟩:Queue }.c),(127,p.c)]:=by
 refine Ac.go f186 ?_;unfold f186;refine gO ?_;refine Ab (Pv q.holds p ⟨0,0⟩ h) ?_;refine gO ?_;refine AZ ⟨[],[(63,63),(127,127)],[]⟩ _ rfl ⟨rfl,rfl⟩ (by simp[lk]) ?_ ?_
 ·exact gI
 ·exact gI
def oe(q:Queue)(p:Ad)(h:q.Ak.length<=1000000):Ac C0 188 [.ptr 63 0,.ptr 127 0] [(63,q.c),(127,p.c)] (.Bl []) [(63,{ q with Ak:=Bt q.Ak p:Queue }.c),(127,p.c)]:=by
 refine Ac.go f188 ?_;unfold f188;refine gO ?_;refine Ab (SI q.Ak p h) ?_;refine gO ?_;refine AZ ⟨[],[(63,63),(127,127)],[]⟩ _ rfl ⟨rfl,rfl⟩ (by simp[lk]) ?_ ?_
 ·exact gI
 ·exact gI
def og(q:Queue)(p:Ad)(h:q.waits.length<=1000000):Ac C0 190 [.ptr 63 0,.ptr 127 0] [(63,q.c),(127,p.c)] (.Bl []) [(63,{ q with waits:=Bt q.waits p:Queue }.c),(127,p.c)]:=by
 refine Ac.go f190 ?_;unfold f190;refine gO ?_;refine Ab (SI q.waits p h) ?_;refine gO ?_;refine AZ ⟨[],[(63,63),(127,127)],[]⟩ _ rfl ⟨rfl,rfl⟩ (by simp[lk]) ?_ ?_
 ·exact gI
 ·exact gI
def B2(q:Queue)(p:Ad):Queue:={ q with holds:=Cs q.holds p ⟨0,0⟩,Ak:=Bt q.Ak p,waits:=Bt q.waits p }
def DA(q:Queue):Queue:={ (B0 q).1 with gen:=MQ (B0 q).1.gen }
@[reducible] def mm(a b:Nat):AV:=.mem true [.fn 186 [.ptr a 0,.ptr b 0],.fn 188 [.ptr a 0,.ptr b 0],.fn 190 [.ptr a 0,.ptr b 0]]
theorem Bx(l:List Ba)(p:Ad):(Bt l p).length<=l.length:=List.length_filter_le _ _
def oc(q:Queue)(p:Ad)(h:BC q+1<=1000000):Ac C0 185 [.ptr 63 0,mm 63 127] [(63,q.c),(127,p.c)] (.Bl [.agg (DA (B2 q p)).c,AY (B0 (B2 q p)).2,I 0]) [(63,(DA (B2 q p)).c),(127,p.c)]:=by
 have h1:q.holds.length<=1000000:=by unfold BC at h;omega
 have h2:q.Ak.length<=1000000:=by unfold BC BJ at h;omega
 have h3:q.waits.length<=1000000:=by unfold BC BJ at h;omega
 have h4:BC (B2 q p)<=1000000:=by
  have:=Ij q.holds p ⟨0,0⟩;have:=Bx q.Ak p;have:=Bx q.waits p;unfold BC BJ at h ⊢;simp only[B2];omega
 refine Ac.go f185 ?_;unfold f185;have z0:(decide ((0:Int)<3))=true:=by decide
 have z1:(decide ((1:Int)<3))=true:=by decide
 have z2:(decide ((2:Int)<3))=true:=by decide
 have z3:(decide ((3:Int)<3))=false:=by decide
 refine gO ?_;refine Ao (α:=Nat) (λi=>⟨[(12,I i),(11,I 3),(10,mm 63 127),(0,.ptr 63 0),(4,.ptr 256 0)],[(63,(if i=0 then q else if i=1 then { q with holds:=Cs q.holds p ⟨0,0⟩:Queue } else if i=2 then { q with holds:=Cs q.holds p ⟨0,0⟩,Ak:=Bt q.Ak p:Queue } else B2 q p).c),(127,p.c),(256,(⟨⟨[],0,0,0⟩,[],[],[],0⟩:Queue).c)]⟩) (λi=>i<=3) (λi=>3-i) 0 (by simp) ?_ ?_
 ·refine AQ.An ?_ ?_
  ·exact gI
  ·exact gI
 rintro i hi J hJ;obtain rfl|rfl|rfl|rfl:i=0\/i=1\/i=2\/i=3:=by omega
 ·simp(disch:=omega)only[go_sem,z0];refine Bh ⟨⟨[],[(63,63),(127,127)],[]⟩,[],[]⟩ (od q p h1) gI rfl gI (.inl rfl) ?_;refine gO ?_;refine hJ _ 1 (by omega) (by omega) (AQ.An gI (by simp(disch:=omega)only[go_sem,one_ne_zero]))
 ·simp(disch:=omega)only[go_sem,z1,one_ne_zero];refine Bh ⟨⟨[],[(63,63),(127,127)],[]⟩,[],[]⟩ (oe { q with holds:=Cs q.holds p ⟨0,0⟩ } p h2) gI rfl gI (.inl rfl) ?_;refine gO ?_;refine hJ _ 2 (by omega) (by omega) (AQ.An gI (by simp(disch:=omega)only[go_sem,one_ne_zero]))
 ·simp(disch:=omega)only[go_sem,z2];refine Bh ⟨⟨[],[(63,63),(127,127)],[]⟩,[],[]⟩ (og { q with holds:=Cs q.holds p ⟨0,0⟩,Ak:=Bt q.Ak p } p h3) gI rfl gI (.inl rfl) ?_;refine gO ?_;refine hJ _ 3 (by omega) (by omega) (AQ.An gI (by simp(disch:=omega)only[go_sem,B2]))
 ·clear hJ;simp(disch:=omega)only[go_sem,z3];refine Bh ⟨⟨[],[(63,63)],[]⟩,[],[]⟩ (Xy (B2 q p) h4) gI rfl gI (.inl rfl) ?_;refine gO ?_;refine Ab (Xz (B0 (B2 q p)).1.gen) ?_;refine gO ?_;refine AZ ⟨[],[(63,63),(127,127)],[]⟩ _ (by(try simp(disch:=omega)only[go_sem,Cr,GH])<;>rfl) ⟨rfl,rfl⟩ (by simp[lk]) ?_ ?_
  ·simp(disch:=omega)only[go_sem,DA]
  ·simp(disch:=omega)only[go_sem,DA]
end Go.Rd
namespace Go.Proofs
open Go.Shelf
def Tryz.iz : Go.Shelf.Ren := ⟨λ| 6 => 132 | 15 => 192 | 14 => 191 | 28 => 250 | 29 => 51 | 20 => 242 | 21 => 243 | 22 => 244 | 23 => 245 | 24 => 246 | 25 => 247 | 26 => 248 | 27 => 249 | 46 => 285 | 47 => 286 | 48 => 287 | 49 => 288 | 50 => 289 | 57 => 302 | n => n, λ| 22 => 26 | 24 => 51 | 25 => 144 | 3 => 3 | 39 => 159 | 0 => 0 | 53 => 287 | 55 => 93 | 4 => 4 | 46 => 280 | 45 => 279 | 50 => 284 | 5 => 5 | 9 => 9 | 66 => 315 | 70 => 241 | 76 => 332 | 77 => 288 | n => n, λ| n => n⟩
def Tryz.y9 : Go.Proofs.SlLaysF0.n6 Tryz.prog Tryz.iz := {
  mixed := by kernel_rfl
  f6 := ⟨Tryz.f132.name, by decide, Tryz.func132.trans (congrArg some (by kernel_rfl))⟩
  f14 := ⟨Tryz.f191.name, by decide, Tryz.func191.trans (congrArg some (by kernel_rfl))⟩
  f15 := Tryz.func192.trans (congrArg some (by kernel_rfl))
  f20 := ⟨Tryz.f242.name, by decide, Tryz.func242.trans (congrArg some (by kernel_rfl))⟩
  f21 := ⟨Tryz.f243.name, by decide, Tryz.func243.trans (congrArg some (by kernel_rfl))⟩
  f22 := ⟨Tryz.f244.name, by decide, Tryz.func244.trans (congrArg some (by kernel_rfl))⟩
  f23 := ⟨Tryz.f245.name, by decide, Tryz.func245.trans (congrArg some (by kernel_rfl))⟩
  f24 := ⟨Tryz.f246.name, by decide, Tryz.func246.trans (congrArg some (by kernel_rfl))⟩
  f25 := ⟨Tryz.f247.name, by decide, Tryz.func247.trans (congrArg some (by kernel_rfl))⟩
  f26 := ⟨Tryz.f248.name, by decide, Tryz.func248.trans (congrArg some (by kernel_rfl))⟩
  f27 := ⟨Tryz.f249.name, by decide, Tryz.func249.trans (congrArg some (by kernel_rfl))⟩
  f28 := Tryz.func250.trans (congrArg some (by kernel_rfl))
  f29 := Tryz.func51.trans (congrArg some (by kernel_rfl))
  f46 := ⟨Tryz.f285.name, by decide, Tryz.func285.trans (congrArg some (by kernel_rfl))⟩
  f47 := Tryz.func286.trans (congrArg some (by kernel_rfl))
  f48 := Tryz.func287.trans (congrArg some (by kernel_rfl))
  f49 := ⟨Tryz.f288.name, by decide, Tryz.func288.trans (congrArg some (by kernel_rfl))⟩
  f50 := ⟨Tryz.f289.name, by decide, Tryz.func289.trans (congrArg some (by kernel_rfl))⟩
  f57 := ⟨Tryz.f302.name, by decide, Tryz.func302.trans (congrArg some (by kernel_rfl))⟩
  t0 := Tryz.underlying0
  a0 := Tryz.isAgg0
  z0 := Tryz.sizeOf0
  v0 := Tryz.zeroValue0
  t3 := Tryz.underlying3
  a3 := Tryz.isAgg3
  z3 := Tryz.sizeOf3
  v3 := Tryz.zeroValue3
  t4 := Tryz.underlying4
  a4 := Tryz.isAgg4
  z4 := Tryz.sizeOf4
  v4 := Tryz.zeroValue4
  t5 := Tryz.underlying5
  a5 := Tryz.isAgg5
  z5 := Tryz.sizeOf5
  v5 := Tryz.zeroValue5
  t9 := Tryz.underlying9
  a9 := Tryz.isAgg9
  z9 := Tryz.sizeOf9
  v9 := Tryz.zeroValue9
  t22 := Tryz.underlying26
  a22 := Tryz.isAgg26
  z22 := Tryz.sizeOf26
  v22 := Tryz.zeroValue26
  t25 := Tryz.underlying144
  a25 := Tryz.isAgg144
  z25 := Tryz.sizeOf144
  v25 := Tryz.zeroValue144
  t39 := Tryz.underlying159
  a39 := Tryz.isAgg159
  z39 := Tryz.sizeOf159
  v39 := Tryz.zeroValue159
  t45 := Tryz.underlying279
  a45 := Tryz.isAgg279
  z45 := Tryz.sizeOf279
  v45 := Tryz.zeroValue279
  t46 := Tryz.underlying280
  a46 := Tryz.isAgg280
  z46 := Tryz.sizeOf280
  v46 := Tryz.zeroValue280
  t50 := Tryz.underlying284
  a50 := Tryz.isAgg284
  z50 := Tryz.sizeOf284
  v50 := Tryz.zeroValue284
  t53 := Tryz.underlying287
  a53 := Tryz.isAgg287
  z53 := Tryz.sizeOf287
  v53 := Tryz.zeroValue287
  t55 := Tryz.underlying93
  a55 := Tryz.isAgg93
  z55 := Tryz.sizeOf93
  v55 := Tryz.zeroValue93
  t66 := Tryz.underlying315
  a66 := Tryz.isAgg315
  z66 := Tryz.sizeOf315
  v66 := Tryz.zeroValue315
  t70 := Tryz.underlying241
  a70 := Tryz.isAgg241
  z70 := Tryz.sizeOf241
  v70 := Tryz.zeroValue241
  t76 := Tryz.underlying332
  a76 := Tryz.isAgg332
  z76 := Tryz.sizeOf332
  v76 := Tryz.zeroValue332
  t77 := Tryz.underlying288
  a77 := Tryz.isAgg288
  z77 := Tryz.sizeOf288
  v77 := Tryz.zeroValue288 }
end Go.Proofs
