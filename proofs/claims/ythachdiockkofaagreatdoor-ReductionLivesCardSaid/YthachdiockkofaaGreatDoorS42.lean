/- part 42 of the proof -/
import Derived.Test.YthachdiockkofaaGreatDoorS38
set_option linter.all false
open Go Go.Abs Go.Proofs
set_option maxRecDepth 100000
namespace Go.Rd
set_option maxHeartbeats 8000000
open List (length_map map_nil take_add_one)
open Tryz
theorem f5_ok(l:List Int):Ac C0 5 [MX l] [] (B true) []:=by
 refine Ac.go f5 ?_;unfold f5;refine gO ?_;refine Ab (f15_ok l) ?_;cases h1:decide ((l.length:Int)≤300)
 ·simp(disch:=omega)only[go_sem,Bool.not_false];refine Ab f16_ok ?_;refine gO ?_;exact AH _
 have hl3:l.length≤300:=by simp at h1;omega
 simp(disch:=omega)only[go_sem,Bool.not_true];refine Ab (f25_ok l (by omega)) ?_;obtain⟨hok,_⟩:=PG l;have hcf:=Ow l;generalize F4 l=c at hok hcf ⊢;have hf:=Te c hcf;have hv:=Ju c;have hrl:(CN (ofM c)).2.length≤20000:=Jy hf;have hrd:(CN (ofM c)).2=Bi (ofM c):=by rw[JZ hv];rfl
 rw[hrd]at hrl;have hcp:c.procs.length≤8:=(F3 hok).je.n;refine gO ?_;refine Ab (f26_ok c hcf) ?_;refine gO ?_;refine Ab (f19_ok (ofM c) hf) ?_;simp(disch:=omega)only[go_sem,hrd];generalize hD:Bi (ofM c)=D at hrl;refine Aa (α:=Nat × Cen) (fun x=>⟨[(6,I x.1),(5,AD D),(3,.ptr 192 0),(2,B false)],[(192,x.2.c)]⟩) (fun x=>BD x.2=true∧Bi (ofM x.2)=D∧x.2.procs.length+x.1≤8) (fun x=>8-x.1) (0,c) ⟨hok,hD,by simp only;omega⟩ (Imp.weak ?_ ?_) ?_
 ·exact gI
 ·exact gI
 rintro⟨n,d⟩ ⟨hdok,hdd,hdn⟩ J hJ;simp only at hdok hdd hdn ⊢;have hdf:CU d.queues:=Cm (Dy hdok).ve.je.tab;refine gO ?_;refine ⟨fun hlt=>?_,fun hge=>?_⟩;rotate_left
 ·exfalso;simp at hge;omega
 refine Aa (α:=Nat × Int) (fun x=>⟨[(8,I x.1),(7,I x.2),(6,I n),(5,AD D),(3,.ptr 192 0),(2,B false)],[(192,d.c)]⟩) (fun x=>x.1≤d.procs.length∧((x.2 = -1∧∀ j y,j<x.1→d.procs[j]?=some y→y.waiting=true)∨∃ (k:Nat) (y:Pcs),x.2=k∧d.procs[k]?=some y∧y.waiting=false)) (fun x=>d.procs.length-x.1) (0,-1) ⟨by simp,.inl ⟨rfl,fun j y hj _=>by simp at hj⟩⟩ (Imp.weak ?_ ?_) ?_
 ·exact gI
 ·exact gI
 rintro⟨i,t⟩ ⟨hi,hinv⟩ J2 hJ2;simp only at hi hinv ⊢;have hpl:d.procs.length≤8:=by omega
 rcases hinv with ⟨rfl,hall⟩|⟨k,y,rfl,hy,hyw⟩
 ·have hm1:decide ((-1:Int)<0)=true:=by decide
  by_cases hil:i<d.procs.length
  ·obtain⟨y,hy⟩:∃ y,d.procs[i]?=some y:=⟨_,gE hil⟩;have hd:decide ((i:Int)<(d.procs.length:Int))=true:=by simp;omega
   simp(disch:=omega)only[go_sem,length_map,hd,hm1,gm,hy];cases hw:y.waiting
   ·simp(disch:=omega)only[go_sem,Bool.not_false];refine hJ2 _ (i+1,(i:Int)) ⟨by simp only;omega,.inr ⟨i,y,rfl,hy,hw⟩⟩ (by simp only;omega) (Imp.weak ?_ ?_)
    ·exact gI
    ·exact gI
   ·simp(disch:=omega)only[go_sem,Bool.not_true];refine hJ2 _ (i+1,-1) ⟨by simp only;omega,.inl ⟨rfl,fun j z hj hz=>?_⟩⟩ (by simp only;omega) (Imp.weak ?_ ?_)
    ·by_cases e:j=i
     ·subst e;rw[hy]at hz;rw[← Option.some.inj hz];exact hw
     ·exact hall j z (by simp only at hj;omega) hz
    ·exact gI
    ·exact gI
  ·have hd:decide ((i:Int)<(d.procs.length:Int))=false:=by simp;omega
   have hleft:=YB hdok fun x hx=>by
    obtain⟨j,hj⟩:=List.getElem?_of_mem hx;have:=Ae hj;exact hall j x (by omega) hj
   rw[hdd]at hleft;simp(disch:=omega)only[go_sem,length_map,hd,hm1];refine Aa (α:=Nat) (fun i=>⟨[(13,I i),(12,.sl (.own 5248 0) 3 (((d.procs.take i).map (·.proc)).map Proc.c)),(5,AD D),(3,.ptr 192 0),(2,B false)],[(192,d.c)]⟩) (fun i=>i≤(d.procs).length∧True) (fun i=>(d.procs).length-i) 0 ⟨by omega,trivial⟩ ?_ ?_
   ·exact Ca
   rintro i ⟨hi,hP⟩ J hJ;refine gO ?_;refine ⟨fun hlt=>?_,fun hge=>?_⟩;rotate_left;have hil:i=(d.procs).length:=by simp at hge;omega
   rotate_left;obtain⟨b,hb⟩:∃ b,(d.procs)[i]?=some b:=⟨_,gE (by simp at hlt;omega)⟩;have hbm:=mG hb;have hlt2:i<(d.procs).length:=by simp at hlt;omega
   ·have hbd:((d.procs.take i).map (·.proc)).length+1≤4294967296:=by simp;omega
    simp(disch:=omega)only[go_sem,gm,hb];refine hJ _ (i+1) ⟨by simp at hlt;omega,trivial⟩ (by simp at hlt;omega) (Imp.weak ?_ ?_)
    all_goals(try simp(disch:=omega)only[go_sem])
    all_goals(try(repeat'(with_reducible apply And.intro)))
    all_goals(first|exact .AA (by omega)|exact .Az (by omega)|exact .sl (by simp[take_add_one,hb,Proc.c])|exact .int (by simp[take_add_one,hb,Proc.c])|exact .eq (by simp[take_add_one,hb,Proc.c]))
   ·subst hil;have hc:List.map (Proc.c ∘ fun x=>x.proc) d.procs=D.map Proc.c:=by rw[← List.map_map,hleft]
    rw[List.take_length,hc]
    first|(refine Ab f16_ok ?_)|(refine Al f16_ok ?_)
    refine gO ?_;refine Dq [5248] (f24_ok D D (by omega) (by omega)) gI rfl trivial ?_;refine gO ?_;exact AH _
 ·have hneg:decide ((k:Int)<0)=false:=by simp
  obtain⟨kc,hkc⟩:∃ kc:Cmd,kc=⟨8,y.proc,C6,[],0⟩:=⟨_,rfl⟩;obtain⟨z1,z2,z3,z4⟩:=YZ (k:=kc) hdok (mG hy) hyw (by rw[hkc]) (by rw[hkc]);have h30:=f30_ok d kc hdf;obtain⟨b,hd⟩:∃ b,decide ((i:Int)<(d.procs.length:Int))=b:=⟨_,rfl⟩;generalize doC d kc=r at z1 z2 z3 z4 h30;subst hkc;cases b
  all_goals
   simp(disch:=omega)only[go_sem,length_map,hd,hneg];refine FV 14 [([],[3]),([],[3]),([1],[53]),([],[7]),([1,2,3],[54,55]),([1,2,3,4],[56]),([1,2,3,4,5],[57]),([1,2,3,4,5,6],[58]),([0,1,2,3,4,5,6,7],[52,59]),([0,1,2,3,4,5,6,7,8],[60]),([0,1,2,3,4,5,6,7,8,9],[51]),([0,1,2,3,4,5,6,7,8,9],[51]),([0,1,2,3,4,5,6,7,8,9],[51]),([],[]),([0,1,2,3,4,5,6,7,8,9,10,13],[]),([0,1,2,3,4,5,6,7,8,9,10,11,13,14],[]),([0,1,2,3,4,5,6,7,8,9,10,11,12,13,14,15],[])] [11,12] [([],[51,9,61,6,5,3,2],let o0:OT:=.done;let o1:OT:=.pick [(16,o0)];let o2:OT:=.pick [(15,o1)];let o3:OT:=.pick [(14,o2)];let o4:OT:=.pick [(12,o1)];let o5:OT:=.pick [(12,o2),(15,o4)];let o6:OT:=.pick [(12,o3),(14,o5)];let o7:OT:=.pick [(11,o2)];let o8:OT:=.pick [(11,o3),(14,o7)];let o9:OT:=.pick [(11,o5),(12,o7)];let o10:OT:=.pick [(11,o6),(12,o8),(14,o9)];o10),([12],[51,9,61,63,6,5,3,2],let o0:OT:=.done;let o1:OT:=.pick [(16,o0)];let o2:OT:=.pick [(15,o1)];let o3:OT:=.pick [(14,o2)];let o4:OT:=.pick [(11,o2)];let o5:OT:=.pick [(11,o3),(14,o4)];o5),([11],[51,9,61,62,6,5,3,2],let o0:OT:=.done;let o1:OT:=.pick [(16,o0)];let o2:OT:=.pick [(15,o1)];let o3:OT:=.pick [(14,o2)];let o4:OT:=.pick [(12,o1)];let o5:OT:=.pick [(12,o2),(15,o4)];let o6:OT:=.pick [(12,o3),(14,o5)];o6),([11,12],[9,61,62,63,6,5,3,2],let o0:OT:=.done;let o1:OT:=.pick [(16,o0)];let o2:OT:=.pick [(15,o1)];let o3:OT:=.pick [(14,o2)];o3)] fol (by kernel_rfl) ?_;simp(disch:=omega)only[go_sem,gm,hy]
   first|(refine Af h30 (by simp(disch:=omega)only[go_sem,C6,e0,a0,Expr.k,Expr.atom,Expr.kids,map_nil];refine .agg (Ah.AE ?_);simp(disch:=omega)only[go_sem]) rfl ?_)|(refine Ao ⟨⟨[],[],[]⟩,[],[]⟩ h30 (by simp(disch:=omega)only[go_sem,C6,e0,a0,Expr.k,Expr.atom,Expr.kids,map_nil];refine .agg (Ah.AE ?_);simp(disch:=omega)only[go_sem]) rfl rfl trivial (.inl rfl) ?_)
   simp(disch:=omega)only[go_sem,z1]
   repeat'(with_reducible refine And.intro ?_ ?_)
   all_goals
    refine hJ _ (n+1,r.1) ⟨z2,z4.trans hdd,by simp only;omega⟩ (by simp only;omega) (Imp.weak ?_ ?_)
    ·exact gI
    ·exact gI
end Go.Rd
