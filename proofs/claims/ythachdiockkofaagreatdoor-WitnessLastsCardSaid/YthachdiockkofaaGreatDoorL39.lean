/- part 39 of the proof -/
import Derived.Test.YthachdiockkofaaGreatDoorL36
import Derived.Test.YthachdiockkofaaGreatDoorL38
set_option linter.all false
open Go Go.Abs Go.Proofs
set_option maxRecDepth 100000
namespace Go.Rd
set_option maxHeartbeats 8000000
open Tryz
def aC{q:Queue}(hv:valid q=true):er q=Ly q:=by
 have hs:=((BE q).1 hv).1;have hc:q.Ao.map erW=q.Ao:=by
  conv=>rhs;rw[← List.map_id q.Ao]
  refine List.map_congr_left fun w hw=>?_
  have:=(((Bz q).1 hs.Ao).2.2 w hw).2.2.2.2.2;obtain⟨a,b,c,d⟩:=w;simp only at this;simp[erW,this]
 have hw:q.waits.map erW=q.waits.map DQ:=rfl;unfold er Ly;rw[hc,hw]
def Sv{l:List Queue}(h:∀ q∈l,valid q=true):l.map er=l.map Ly:=List.map_congr_left fun q hq=>aC (h q hq)
def M9{c0 c:Cen}(hc:Cw c0=true)(h:Later c0 c){w:Wit}(hm:w.members=BP (ofM c0))(hs:w.state=Dn (ofM c0) (BP (ofM c0))):IW w (ofM c)=true:=by
 obtain⟨e1,e2⟩:=h.eqs hc;have hg0:=Da (J5 c0);have hg:=Da (J5 c);have hR:A4 (ofM c) w.members=(Dn (ofM c) (BP (ofM c0)),0):=by simp[A4,J5 c,hm]
 unfold IW;rw[hR,hs,← UO];rw[Sv (OB hg _),Sv (OB hg0 _)]at e1;simp only[TI,e1,e2,Oq,decide_true,Bool.and_self]
def SU(ms:List Ab)(c:Cen)(k:Cmd):Cen:=if k.kind==9||B2 ms k.proc then c else GP c k
def VD{c0 c:Cen}{k:Cmd}(hc:Cw c0=true)(h:Later c0 c):Later c0 (SU (BP (ofM c0)) c k):=by
 unfold SU;split
 ·exact h
 rename_i hs;unfold GP;split
 ·rename_i h0;simp only[Bool.or_eq_true,beq_iff_eq,not_or,B2,zD]at hs;exact h.step hc hs.1 (fun hm=>absurd hm hs.2) h0
 ·exact h
def f12_ok(l more:List Int):Ad C0 12 [Q3 l,Q3 more] [] (B true) []:=by
 refine Ad.go f12 ?_;unfold f12;refine gO ?_;refine Ae (f15_ok l) ?_;cases h1:decide ((l.length:Int)≤300)
 ·simp(disch:=omega)only[go_sem,zF];refine Ae f39_ok ?_;refine gO ?_;exact AQ _
 have hl3:l.length≤300:=by simp at h1;omega
 simp(disch:=omega)only[go_sem,zT,List.length_map]
 by_cases h2:(more.length:Int) > 120
 ·simp(disch:=omega)only[go_sem,eq_true h2,decide_true];refine Ae f39_ok ?_;refine gO ?_;exact AQ _
 have hm4:more.length≤120:=by omega
 simp(disch:=omega)only[go_sem,eq_false h2,decide_false];refine Ae (f25_ok l (by omega)) ?_;obtain⟨hok,hcat⟩:=W4 l;have hcf:=U2 l;have hq:1≤(Hk l).Aa.length:=by
  have:=congrArg List.length hcat;rw[Ke]at this;simp[CB]at this;omega
 have hu:∀ r∈CB (Hk l).Aa,r.Ax≤1000000:=by rw[hcat];exact K7 l 0
 generalize Hk l=c at hok hcf hq hu ⊢;have hn:=hcf.n;have hf:=OX c hcf;have hv:=J5 c;have hrl:(Db (ofM c)).2.length≤20000:=WR hf;have hrd:(Db (ofM c)).2=BP (ofM c):=by rw[Kz hv];rfl
 obtain⟨k1,k2,k3,k4⟩:=Tb (Db (ofM c)).2 hf;have hbo:ofS (ofM c) (Db (ofM c)).2=EF (ofM c):=rfl;rw[hbo]at k1 k2 k3 k4;refine gO ?_;refine Ae (f26_ok c hcf) ?_;refine gO ?_;refine Ae (f41_ok (ofM c) hf (by omega)) ?_
 by_cases hd:BP (ofM c)=[]
 ·have hb:=WZ hv hf hd;rw[hb];simp(disch:=omega)only[go_sem,wE,wsE];refine Ae f39_ok ?_;refine gO ?_;exact AQ _
 obtain⟨w,hb,hm,hck,hag,_,hcl,hst⟩:=W0 hv hf hd;rw[hb]at k1 k2 k3 k4 ⊢;simp only at k1 k2 k3 k4 ⊢;have hmp:0<w.members.length:=by
  rw[hm];cases hx:BP (ofM c) with
  | nil=>exact absurd hx hd
  | cons a t=>simp
 refine gO ?_;refine Ac (α:=Nat) (fun i=>⟨[(9,I i),(8,.sl (.own 3456 0) 4 ((CB (c.Aa.take i)).map Res.c)),(6,.ptr 384 0),(5,.ptr 320 0),(4,B false),(1,Q3 more)],[(384,w.c),(320,c.c)]⟩) (fun i=>i≤(c.Aa).length∧True) (fun i=>(c.Aa).length-i) 0 ⟨by omega,trivial⟩ ?_ ?_
 ·refine Imp.Ar ?_ ?_
  all_goals(try simp(disch:=omega)only[go_sem])
  all_goals(try(repeat'(with_reducible apply And.intro)))
  all_goals(first|exact .AO (by omega)|exact .AJ (by omega)|exact .sl (by simp[CB])|exact .int (by simp[CB])|exact .eq (by simp[CB]))
 rintro i ⟨hi,hP⟩ J hJ;refine gO ?_;refine ⟨fun hlt=>?_,fun hge=>?_⟩;rotate_left;have hil:i=(c.Aa).length:=by simp at hge;omega
 rotate_left;obtain⟨b,hb⟩:∃ b,(c.Aa)[i]?=some b:=⟨_,gE (by simp at hlt;omega)⟩;have hbm:=mG hb;have hlt2:i<(c.Aa).length:=by simp at hlt;omega
 ·have hbd:(CB (c.Aa.take i)).length+1≤4294967296:=by simp[CB];omega
  simp(disch:=omega)only[go_sem,gm,hb];refine hJ _ (i+1) ⟨by simp at hlt;omega,trivial⟩ (by simp at hlt;omega) (Imp.Ar ?_ ?_)
  all_goals(try simp(disch:=omega)only[go_sem])
  all_goals(try(repeat'(with_reducible apply And.intro)))
  all_goals(first|exact .AO (by omega)|exact .AJ (by omega)|exact .sl (by simp[CB,tA,hb,Res.c])|exact .int (by simp[CB,tA,hb,Res.c])|exact .eq (by simp[CB,tA,hb,Res.c]))
 ·subst hil;rw[tL];refine Ac (α:=Cen × Nat) (fun x=>⟨[(10,.ptr 3648 0),(8,Fo (CB c.Aa)),(6,.ptr 384 0),(5,.ptr 320 0),(4,B false)],[(3648,DF more x.2),(384,w.c),(320,x.1.c)]⟩) (fun x=>D5 x.1.Aa∧Later c x.1) (fun x=>more.length-x.2) (c,0) ⟨hcf,Later.start hok⟩ (Imp.ren ⟨[],[(3648,3648),(384,384),(320,320)],[3456]⟩ ⟨rfl,rfl⟩ (by simp[lk]) ?_ ?_) ?_
  ·exact gI
  ·simp(disch:=omega)only[go_sem,DF]
  rintro⟨c1,a⟩ ⟨hf1,hx⟩ J hJ;simp only at hf1 hx ⊢;refine gO ?_;refine call2 ⟨⟨[],[(3648,63)],[]⟩,[],[]⟩ (f49_ok more a (by omega)) ?_;refine gO ?_;refine ⟨fun hlt=>?_,fun hge=>?_⟩
  ·have hlt2:a<more.length:=by simp at hlt;omega
   have hpr:=IZ more (CB c.Aa) a hlt2;have h50:=f50_ok more a (CB c.Aa) (by omega) (by simp[CB];omega) hu;generalize ES more (CB c.Aa) a=ka at hpr h50;obtain⟨k,a2⟩:=ka;simp only at hpr h50;have hlk:=VD (k:=k) hok hx;have hdec:more.length-a2<more.length-a:=by omega
   have h29:=f29_ok w.members k.proc k2;refine call2 ⟨⟨[],[(3648,63)],[]⟩,[],[]⟩ h50 ?_;refine gO ?_;cases h9:(k.kind==9);rotate_left
   ·have hs:SU (BP (ofM c)) c1 k=c1:=by simp[SU,h9]
    simp(disch:=omega)only[go_sem,h9];refine hJ _ (c1,a2) ⟨hf1,hx⟩ hdec (Imp.Ar ?_ ?_)
    ·exact gI
    ·exact gI
   simp(disch:=omega)only[go_sem,h9]
   first|(refine Ae h29 ?_)|(refine Av h29 ?_)
   refine gO ?_;cases hh:B2 w.members k.proc;rotate_left
   ·simp(disch:=omega)only[go_sem,hh];refine hJ _ (c1,a2) ⟨hf1,hx⟩ hdec (Imp.Ar ?_ ?_)
    ·exact gI
    ·exact gI
   have hs:SU (BP (ofM c)) c1 k=GP c1 k:=by simp[SU,h9,← hm,hh]
   rw[hs]at hlk;simp(disch:=omega)only[go_sem,hh]
   first|(refine Ae (f30_ok c1 k hf1) ?_)|(refine Av (f30_ok c1 k hf1) ?_)
   have hsf:=Ww k hf1
   by_cases h0:(doC c1 k).2.2=0
   ·have hst2:GP c1 k=(doC c1 k).1:=by simp[GP,h0]
    rw[hst2]at hlk hsf;have hagr:=M9 hok hlk hm hst;simp(disch:=omega)only[go_sem,h0];refine Aw 3 [([],[6]),([],[5]),([],[84])] fol ?_;refine gO ?_
    first|(refine Ae (f26_ok (doC c1 k).1 hsf) ?_)|(refine Av (f26_ok (doC c1 k).1 hsf) ?_)
    refine gO ?_
    first|(refine Ae (f45_ok w (ofM (doC c1 k).1) k1 (OX _ hsf) k2) ?_)|(refine Av (f45_ok w (ofM (doC c1 k).1) k1 (OX _ hsf) k2) ?_)
    simp(disch:=omega)only[go_sem,hagr,zT];refine hJ _ ((doC c1 k).1,a2) ⟨hsf,hlk⟩ hdec (Imp.Ar ?_ ?_)
    ·exact gI
    ·exact gI
   ·have hagr:=M9 hok hx hm hst;have h0':((doC c1 k).2.2==0)=false:=by simpa using h0
    simp(disch:=omega)only[go_sem,h0'];refine Aw 3 [([],[6]),([],[5]),([],[84])] fol ?_;refine gO ?_
    first|(refine Ae (f26_ok c1 hf1) ?_)|(refine Av (f26_ok c1 hf1) ?_)
    refine gO ?_
    first|(refine Ae (f45_ok w (ofM c1) k1 (OX _ hf1) k2) ?_)|(refine Av (f45_ok w (ofM c1) k1 (OX _ hf1) k2) ?_)
    simp(disch:=omega)only[go_sem,hagr,zT];refine hJ _ (c1,a2) ⟨hf1,hx⟩ hdec (Imp.Ar ?_ ?_)
    ·exact gI
    ·exact gI
  first|(refine Ae f39_ok ?_)|(refine Av f39_ok ?_)
  simp(disch:=omega)only[go_sem,List.length_map];refine Cn _ ?_;have hmi:decide ((0:Int)<(w.members.length:Int))=true:=by simp;omega
  simp(disch:=omega)only[go_sem,hmi]
end Go.Rd
