/- part 39 of the proof -/
import Derived.Test.YthachdiockkofaaGreatDoorS38
set_option linter.all false
open Go Go.Abs Go.Proofs
set_option maxRecDepth 100000
namespace Go.Rd
set_option maxHeartbeats 8000000
open List (map_nil take_add_one)
open Tryz
def O4(keep:List Proc)(k:Cmd):Bool:=k.kind==9||(Br keep k.proc&&(k.kind==3||(k.kind==6||k.kind==7)))
def FY(keep:List Proc)(c:Cen)(k:Cmd):Cen:=if O4 keep k then c else Eu c k
def Qe(l:List Int)(keep:List Proc)(c:Cen):Cen:=(FU l (B6 c.queues) 0).foldl (FY keep) c
theorem X1{keep:List Proc}{c:Cen}(k:Cmd)(h:CU c.queues):CU (FY keep c k).queues:=by
 unfold FY;split
 ·exact h
 ·exact Nn k h
theorem f27_ok(c:Cen)(l:List Int)(keep:List Proc)(h:CU c.queues)(hl:l.length≤1000000)(hq:1≤c.queues.length)(hu:∀ r∈B6 c.queues,r.units≤1000000)(hk:keep.length≤1000000):Ac C0 27 [.agg c.c,MX l,AD keep] [] (.agg (Qe l keep c).c) []:=by
 have hn:=h.n;refine Ac.go f27 ?_;unfold f27;refine gO ?_;refine Aa (α:=Nat) (fun i=>⟨[(8,I i),(7,.sl (.own 1856 0) 4 ((B6 (c.queues.take i)).map Res.c)),(6,.ptr 384 0),(3,.ptr 192 0),(2,AD keep),(1,MX l)],[(384,Ip.c),(192,c.c)]⟩) (fun i=>i≤(c.queues).length∧True) (fun i=>(c.queues).length-i) 0 ⟨by omega,trivial⟩ ?_ ?_
 ·refine Imp.weak ?_ ?_
  all_goals(try simp(disch:=omega)only[go_sem,Ip,map_nil])
  all_goals(try(repeat'(with_reducible apply And.intro)))
  all_goals(first|exact .AA (by omega)|exact .Az (by omega)|exact .sl (by simp[B6])|exact .int (by simp[B6])|exact .eq (by simp[B6]))
 rintro i ⟨hi,hP⟩ J hJ;refine gO ?_;refine ⟨fun hlt=>?_,fun hge=>?_⟩;rotate_left;have hil:i=(c.queues).length:=by simp at hge;omega
 rotate_left;obtain⟨b,hb⟩:∃ b,(c.queues)[i]?=some b:=⟨_,gE (by simp at hlt;omega)⟩;have hbm:=mG hb;have hlt2:i<(c.queues).length:=by simp at hlt;omega
 ·have hbd:(B6 (c.queues.take i)).length+1≤4294967296:=by simp[B6];omega
  simp(disch:=omega)only[go_sem,gm,hb];refine hJ _ (i+1) ⟨by simp at hlt;omega,trivial⟩ (by simp at hlt;omega) (Imp.weak ?_ ?_)
  all_goals(try simp(disch:=omega)only[go_sem])
  all_goals(try(repeat'(with_reducible apply And.intro)))
  all_goals(first|exact .AA (by omega)|exact .Az (by omega)|exact .sl (by simp[B6,take_add_one,hb,Res.c])|exact .int (by simp[B6,take_add_one,hb,Res.c])|exact .eq (by simp[B6,take_add_one,hb,Res.c]))
 ·subst hil;rw[List.take_length];refine Aa (α:=Cen × Nat) (fun x=>⟨[(9,.ptr 2048 0),(7,EU (B6 c.queues)),(6,.ptr 384 0),(3,.ptr 192 0),(2,AD keep)],[(384,Ip.c),(2048,Df l x.2),(192,x.1.c)]⟩) (fun x=>CU x.1.queues∧(FU l (B6 c.queues) x.2).foldl (FY keep) x.1=Qe l keep c) (fun x=>l.length-x.2) (c,0) ⟨h,rfl⟩ (Imp.ren ⟨[],[(384,384),(2048,2048),(192,192)],[1856]⟩ ⟨rfl,rfl⟩ (by simp[lk]) ?_ ?_) ?_
  ·exact gI
  ·simp(disch:=omega)only[go_sem,Df]
  rintro⟨c1,a⟩ ⟨hf1,hx⟩ J hJ;simp only at hf1 hx ⊢;refine gO ?_;refine call2 ⟨⟨[],[(2048,63)],[]⟩,[],[]⟩ (f49_ok l a hl) ?_;refine gO ?_;refine ⟨fun hlt=>?_,fun hge=>?_⟩
  ·have hlt2:a<l.length:=by simp at hlt;omega
   have hpr:=Iv l (B6 c.queues) a hlt2;have h50:=f50_ok l a (B6 c.queues) hl (by simp[B6];omega) hu;rw[VI hlt2,List.foldl_cons]at hx;generalize Dz l (B6 c.queues) a=ka at hpr h50 hx;obtain⟨k,a2⟩:=ka;simp only at hpr h50 hx;have hdec:l.length-a2<l.length-a:=by omega
   refine call2 ⟨⟨[],[(2048,63)],[]⟩,[],[]⟩ h50 ?_;refine gO ?_;cases h9:(k.kind==9);rotate_left
   ·have hs:FY keep c1 k=c1:=by simp[FY,O4,h9]
    rw[hs]at hx;simp(disch:=omega)only[go_sem,h9];refine hJ _ (c1,a2) ⟨hf1,hx⟩ hdec (Imp.weak ?_ ?_)
    ·exact gI
    ·simp(disch:=omega)only[go_sem,Ip,map_nil]
   simp(disch:=omega)only[go_sem,h9]
   first|(refine Ab (f29_ok keep k.proc hk) ?_)|(refine Al (f29_ok keep k.proc hk) ?_)
   refine gO ?_;cases hh:Br keep k.proc
   ·have hs:FY keep c1 k=Eu c1 k:=by simp[FY,O4,h9,hh]
    rw[hs]at hx;simp(disch:=omega)only[go_sem,hh]
    first|(refine Ab (f30_ok c1 k hf1) ?_)|(refine Al (f30_ok c1 k hf1) ?_)
    have hsf:=Nn k hf1
    by_cases h0:(doC c1 k).2.2=0
    ·have hst:Eu c1 k=(doC c1 k).1:=by simp[Eu,h0]
     rw[hst]at hx hsf;simp(disch:=omega)only[go_sem,h0];refine hJ _ ((doC c1 k).1,a2) ⟨hsf,hx⟩ hdec (Imp.weak ?_ ?_)
     ·exact gI
     ·simp(disch:=omega)only[go_sem,Ip,map_nil]
    ·have hst:Eu c1 k=c1:=by simp[Eu,h0]
     have h0':((doC c1 k).2.2==0)=false:=by simpa using h0
     rw[hst]at hx hsf;simp(disch:=omega)only[go_sem,h0'];refine hJ _ (c1,a2) ⟨hsf,hx⟩ hdec (Imp.weak ?_ ?_)
     ·exact gI
     ·simp(disch:=omega)only[go_sem,Ip,map_nil]
   simp(disch:=omega)only[go_sem,hh];cases h3:(k.kind==3);rotate_left
   ·have hs:FY keep c1 k=c1:=by simp[FY,O4,h9,hh,h3]
    rw[hs]at hx;simp(disch:=omega)only[go_sem,h3];refine hJ _ (c1,a2) ⟨hf1,hx⟩ hdec (Imp.weak ?_ ?_)
    ·exact gI
    ·simp(disch:=omega)only[go_sem,Ip,map_nil]
   simp(disch:=omega)only[go_sem,h3];cases h6:(k.kind==6);rotate_left
   ·have hs:FY keep c1 k=c1:=by simp[FY,O4,h9,hh,h3,h6]
    rw[hs]at hx;simp(disch:=omega)only[go_sem,h6];refine hJ _ (c1,a2) ⟨hf1,hx⟩ hdec (Imp.weak ?_ ?_)
    ·exact gI
    ·simp(disch:=omega)only[go_sem,Ip,map_nil]
   simp(disch:=omega)only[go_sem,h6];cases h7:(k.kind==7);rotate_left
   ·have hs:FY keep c1 k=c1:=by simp[FY,O4,h9,hh,h3,h6,h7]
    rw[hs]at hx;simp(disch:=omega)only[go_sem,h7];refine hJ _ (c1,a2) ⟨hf1,hx⟩ hdec (Imp.weak ?_ ?_)
    ·exact gI
    ·simp(disch:=omega)only[go_sem,Ip,map_nil]
   have hs:FY keep c1 k=Eu c1 k:=by simp[FY,O4,h9,hh,h3,h6,h7]
   rw[hs]at hx;simp(disch:=omega)only[go_sem,h7]
   first|(refine Ab (f30_ok c1 k hf1) ?_)|(refine Al (f30_ok c1 k hf1) ?_)
   have hsf:=Nn k hf1
   by_cases h0:(doC c1 k).2.2=0
   ·have hst:Eu c1 k=(doC c1 k).1:=by simp[Eu,h0]
    rw[hst]at hx hsf;simp(disch:=omega)only[go_sem,h0];refine hJ _ ((doC c1 k).1,a2) ⟨hsf,hx⟩ hdec (Imp.weak ?_ ?_)
    ·exact gI
    ·simp(disch:=omega)only[go_sem,Ip,map_nil]
   ·have hst:Eu c1 k=c1:=by simp[Eu,h0]
    have h0':((doC c1 k).2.2==0)=false:=by simpa using h0
    rw[hst]at hx hsf;simp(disch:=omega)only[go_sem,h0'];refine hJ _ (c1,a2) ⟨hsf,hx⟩ hdec (Imp.weak ?_ ?_)
    ·exact gI
    ·simp(disch:=omega)only[go_sem,Ip,map_nil]
  have hge2:l.length≤a:=by simp at hge;omega
  rw[Xx hge2,List.foldl_nil]at hx;rw[← hx];exact AH _
theorem Us{c0 c:Cen}{k:Cmd}(hc:BD c0=true)(h:Later c0 c):Later c0 (FY (Bi (ofM c0)) c k):=by
 unfold FY;split
 ·exact h
 rename_i hs;unfold Eu;split
 ·rename_i h0;simp only[O4,Bool.or_eq_true,Bool.and_eq_true,beq_iff_eq,not_or,not_and]at hs;refine h.step hc hs.1 (fun hm=>?_) h0;have:=hs.2 (by simpa [Br]using hm);exact this
 ·exact h
theorem P4{c0:Cen}(hc:BD c0=true):∀ (ks:List Cmd) (c:Cen),Later c0 c→Later c0 (ks.foldl (FY (Bi (ofM c0))) c)
 |[],_,h=>h
 |_::ks,_,h=>P4 hc ks _ (Us hc h)
theorem Ud{keep:List Proc}:∀ (ks:List Cmd) (c:Cen),CU c.queues→CU (ks.foldl (FY keep) c).queues
 |[],_,h=>h
 | k::ks,_,h=>Ud ks _ (X1 k h)
theorem f4_ok(l more:List Int):Ac C0 4 [MX l,MX more] [] (B true) []:=by
 refine Ac.go f4 ?_;unfold f4;refine gO ?_;refine Ab (f15_ok l) ?_;cases h1:decide ((l.length:Int)≤300)
 ·simp(disch:=omega)only[go_sem,Bool.not_false];refine Ab f16_ok ?_;refine gO ?_;exact AH _
 have hl3:l.length≤300:=by simp at h1;omega
 simp(disch:=omega)only[go_sem,Bool.not_true,List.length_map]
 by_cases h2:(more.length:Int) > 120
 ·simp(disch:=omega)only[go_sem,eq_true h2,decide_true];refine Ab f16_ok ?_;refine gO ?_;exact AH _
 have hm4:more.length≤120:=by omega
 simp(disch:=omega)only[go_sem,eq_false h2,decide_false];refine Ab (f25_ok l (by omega)) ?_;obtain⟨hok,hcat⟩:=PG l;have hcf:=Ow l;have hq:1≤(F4 l).queues.length:=by
  have:=congrArg List.length hcat;rw[JG]at this;simp[B6]at this;omega
 have hu:∀ r∈B6 (F4 l).queues,r.units≤1000000:=by rw[hcat];exact Ks l 0
 generalize F4 l=c at hok hcf hq hu ⊢;have hf:=Te c hcf;have hv:=Ju c;have hrl:(CN (ofM c)).2.length≤20000:=Jy hf;have hrd:(CN (ofM c)).2=Bi (ofM c):=by rw[JZ hv];rfl
 rw[hrd]at hrl;have h27:=f27_ok c more (Bi (ofM c)) hcf (by omega) hq hu (by omega);have hlat:Later c (Qe more (Bi (ofM c)) c):=P4 hok _ c (Later.start hok);have hdf:CU (Qe more (Bi (ofM c)) c).queues:=Ud _ c hcf;generalize Qe more (Bi (ofM c)) c=d at h27 hlat hdf;have hfd:=Te d hdf;have hvd:=Ju d;have hrl2:(CN (ofM d)).2.length≤20000:=Jy hfd;have hrd2:(CN (ofM d)).2=Bi (ofM d):=by rw[JZ hvd];rfl
 rw[hrd2]at hrl2;have hcp8:c.procs.length≤8:=(F3 hok).je.n;have hdp8:d.procs.length≤8:=(F3 hlat.ok).je.n;have hcp:c.procs.length≤1000000:=by omega
 have hdp:d.procs.length≤1000000:=by omega
 have hdead:∀ b∈Bi (ofM c),Br (Bi (ofM d)) b=true:=fun b hb=>by
  simp only[Br,decide_eq_true_eq];exact hlat.dead hok hb
 have hfind:=fun b hb=>hlat.find hok (p:=b) hb
 refine gO ?_;refine Ab (f26_ok c hcf) ?_;refine gO ?_;refine Ab (f19_ok (ofM c) hf) ?_;simp(disch:=omega)only[go_sem,hrd];refine Ab h27 ?_;refine gO ?_;refine Ab (f26_ok d hdf) ?_;refine gO ?_;refine Ab (f19_ok (ofM d) hfd) ?_;simp(disch:=omega)only[go_sem,hrd2];generalize Bi (ofM d)=D2 at hrl2 hdead;generalize Bi (ofM c)=D at hrl hdead hfind;refine Aa (α:=Nat) (fun i=>⟨[(11,I i),(10,AD D2),(8,.ptr 512 0),(7,AD D),(5,.ptr 320 0),(4,B false)],[(512,d.c),(320,c.c)]⟩) (fun i=>i≤(D).length∧True) (fun i=>(D).length-i) 0 ⟨by omega,trivial⟩ ?_ ?_
 ·exact Ca
 rintro i ⟨hi,hP⟩ J hJ;refine gO ?_;refine ⟨fun hlt=>?_,fun hge=>?_⟩;rotate_left;have hil:i=(D).length:=by simp at hge;omega
 rotate_left;obtain⟨b,hb⟩:∃ b,(D)[i]?=some b:=⟨_,gE (by simp at hlt;omega)⟩;have hbm:=mG hb;have hlt2:i<(D).length:=by simp at hlt;omega
 ·obtain⟨x,e1,e2,e3⟩:=hfind b hbm;have h3:=hdead b hbm;refine FV 10 [([],[5]),([],[7]),([],[11]),([1,2],[51,52]),([1,2,3],[53]),([0,1,2,3,4],[50,54]),([0,1,2,3,4,5],[55]),([0,1,2,3,4,5,6],[49]),([0,1,2,3,4,5,6],[49]),([],[]),([0,1,2,3,4,5,6,7,9],[]),([0,1,2,3,4,5,6,7,8,9,10],[])] [8] [([],[49,12,56,11,10,8,7,5,4],let o0:OT:=.done;let o1:OT:=.pick [(11,o0)];let o2:OT:=.pick [(10,o1)];let o3:OT:=.pick [(8,o1)];let o4:OT:=.pick [(8,o2),(10,o3)];o4),([8],[12,56,57,11,10,8,7,5,4],let o0:OT:=.done;let o1:OT:=.pick [(11,o0)];let o2:OT:=.pick [(10,o1)];o2)] fol (by kernel_rfl) ?_;simp(disch:=omega)only[go_sem,gm,hb]
  first|(refine Ab (f28_ok c b hcp) ?_)|(refine Al (f28_ok c b hcp) ?_)
  simp(disch:=omega)only[go_sem,e1]
  repeat'(with_reducible refine And.intro ?_ ?_)
  all_goals
   refine FV 10 [([],[8]),([],[7]),([],[11]),([1,2],[60,61]),([1,2,3],[62]),([0,1,2,3,4],[59,63]),([0,1,2,3,4,5],[64]),([0,1,2,3,4,5,6],[58]),([0,1,2,3,4,5,6],[58]),([],[]),([0,1,2,3,4,5,6,7,9],[]),([0,1,2,3,4,5,6,7,8,9,10],[])] [8] [([],[58,14,65,11,10,8,7,5,4,12,13],let o0:OT:=.done;let o1:OT:=.pick [(11,o0)];let o2:OT:=.pick [(10,o1)];let o3:OT:=.pick [(8,o1)];let o4:OT:=.pick [(8,o2),(10,o3)];o4),([8],[14,65,66,11,10,8,7,5,4,12,13],let o0:OT:=.done;let o1:OT:=.pick [(11,o0)];let o2:OT:=.pick [(10,o1)];o2)] fol (by kernel_rfl) ?_;simp(disch:=omega)only[go_sem,gm,hb]
   first|(refine Ab (f28_ok d b hdp) ?_)|(refine Al (f28_ok d b hdp) ?_)
   simp(disch:=omega)only[go_sem,e2,e3,Bool.not_true,bne_self_eq_false,gm,hb]
   repeat'(with_reducible refine And.intro ?_ ?_)
   all_goals
    first|(refine Ab (f29_ok D2 b (by omega)) ?_)|(refine Al (f29_ok D2 b (by omega)) ?_)
    simp(disch:=omega)only[go_sem,h3,Bool.not_true];refine hJ _ (i+1) ⟨by simp at hlt;omega,trivial⟩ (by simp at hlt;omega) Ca
 ·subst hil
  first|(refine Ab f16_ok ?_)|(refine Al f16_ok ?_)
  refine gO ?_;exact AH _
end Go.Rd
