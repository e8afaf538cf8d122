/- part 33 of the proof -/
import Derived.Test.YthachdiockkofaaGreatDoorW32
set_option linter.all false
open Go Go.Abs Go.Proofs
set_option maxRecDepth 100000
namespace Go.Rd
set_option maxHeartbeats 8000000
open List (foldl_cons map_set mem_map set_set take_add_one take_length)
open Bool (and_eq_true false_eq_true)
open Option (map_some toList_some)
open Tryz
def FI(x:Pcs):Int:=IntKind.i64.wrap (x.since+x.req.Dq)
def Ky(now:Int)(b:Int × Int)(x:Pcs):Bool:=x.waiting&&(!decide (x.req.Dq=0)&&(decide (FI x≤now)&&(decide (b.1<0)||decide (FI x<b.2))))
def Ln(now:Int)(s:Nat × Int × Int)(x:Pcs):Nat × Int × Int:=(s.1+1,if Ky now s.2 x then ((s.1:Int),FI x) else s.2)
def JB(now:Int)(l:List Pcs):Nat × Int × Int:=l.foldl (Ln now) (0,-1,0)
def Pf(w:Av):Int:=(JB w.now w.procs).2.1
theorem cI(now:Int)(l:List Pcs):(JB now l).1=l.length:=by
 have:∀ (l:List Pcs) (s:Nat × Int × Int),(l.foldl (Ln now) s).1=s.1+l.length:=by
  intro l
  induction l with
  | nil=>intro s;rfl
  | cons a l ih=>intro s;rw[foldl_cons,ih];simp[Ln];omega
 rw[JB,this];simp
theorem RN(now:Int){l:List Pcs}{i:Nat}{b:Pcs}(hb:l[i]?=some b):(JB now (l.take (i+1))).2=if Ky now (JB now (l.take i)).2 b then ((i:Int),FI b) else (JB now (l.take i)).2:=by
 have hi:=At hb;have h1:=cI now (l.take i);rw[take_add_one,hb];rw[List.length_take,Nat.min_eq_left (Nat.le_of_lt hi)]at h1;simp only[JB,List.foldl_append,toList_some,foldl_cons,List.foldl_nil]at h1 ⊢;show (if Ky now (List.foldl (Ln now) (0,-1,0) (List.take i l)).2 b then (((List.foldl (Ln now) (0,-1,0) (List.take i l)).1:Int),FI b) else (List.foldl (Ln now) (0,-1,0) (List.take i l)).2)=_;rw[h1];rfl
theorem Qd(now:Int):JB now []=(0,-1,0):=rfl
theorem f181_ok(w:Av)(hp:w.procs.length≤1000000):Ad C0 181 [.ptr 63 0] [(63,w.c)] (I (Pf w)) [(63,w.c)]:=by
 refine Ad.go f181 ?_;unfold f181;refine gO ?_;refine Ab (α:=Nat) (fun i=>⟨[(5,I i),(4,I (JB w.now (w.procs.take i)).2.2),(3,I (JB w.now (w.procs.take i)).2.1),(0,.ptr 63 0)],[(63,w.c)]⟩) (fun i=>i≤(w.procs).length∧True) (fun i=>(w.procs).length-i) 0 ⟨by omega,trivial⟩ ?_ ?_
 ·refine Imp.Am ?_ ?_
  all_goals(try simp(disch:=omega)only[go_sem])
  all_goals(try(repeat'(with_reducible apply And.intro)))
  all_goals(first|exact .AG (by omega)|exact .Az (by omega)|exact .sl (by simp[Qd])|exact .int (by simp[Qd])|exact .eq (by simp[Qd]))
 rintro i ⟨hi,hP⟩ J hJ;refine gO ?_;refine ⟨fun hlt=>?_,fun hge=>?_⟩;rotate_left;have hil:i=(w.procs).length:=by simp at hge;omega
 rotate_left;obtain⟨b,hb⟩:∃ b,(w.procs)[i]?=some b:=⟨_,gE (by simp at hlt;omega)⟩;have hbm:=mG hb;have hlt2:i<(w.procs).length:=by simp at hlt;omega
 ·simp(disch:=omega)only[go_sem,gm,hb];have hsn:=RN w.now hb;generalize JB w.now (w.procs.take i)=s at hsn;obtain⟨n,best,when⟩:=s;simp only at hsn;cases hw:b.waiting
  ·have hs2:(JB w.now (List.take (i+1) w.procs)).2=(best,when):=by rw[hsn,show Ky w.now (best,when) b=false from by simp only[Ky,hw]<;>rfl]<;>rfl
   refine Aq 33 [([],[6]),([],[25]),([],[26]),([],[6,27]),([],[28,27]),([],[29,27]),([],[30,27]),([],[27,31]),([],[32]),([],[6,33]),([],[34,33]),([],[6,33]),([],[36,33]),([],[37,33]),([],[35,38,33]),([],[0,33]),([],[40,33]),([],[41,33]),([],[42,33]),([],[43,33]),([],[39,44,33]),([],[33,45]),([],[46]),([],[3,47]),([],[48,47]),([],[49,47]),([],[6,50]),([],[51,50]),([],[6,50]),([],[53,50]),([],[54,50]),([],[52,55,50]),([],[4,50])] fol ?_;simp(disch:=omega)only[go_sem,hw];refine hJ _ (i+1) ⟨by simp at hlt;omega,trivial⟩ (by simp at hlt;omega) (Imp.Am ?_ ?_)
   all_goals(try simp(disch:=omega)only[go_sem])
   all_goals(try(repeat'(with_reducible apply And.intro)))
   all_goals(first|exact .AG (by omega)|exact .Az (by omega)|exact .sl (by simp[hs2,FI])|exact .int (by simp[hs2,FI])|exact .eq (by simp[hs2,FI]))
  ·by_cases hl:b.req.Dq=0
   ·have hl3:decide (b.req.Dq=0)=true:=by simpa using hl
    have hs2:(JB w.now (List.take (i+1) w.procs)).2=(best,when):=by rw[hsn,show Ky w.now (best,when) b=false from by simp only[Ky,hw,hl3]<;>rfl]<;>rfl
    refine Aq 33 [([],[6]),([],[25]),([],[26]),([],[6,27]),([],[28,27]),([],[29,27]),([],[30,27]),([],[27,31]),([],[32]),([],[6,33]),([],[34,33]),([],[6,33]),([],[36,33]),([],[37,33]),([],[35,38,33]),([],[0,33]),([],[40,33]),([],[41,33]),([],[42,33]),([],[43,33]),([],[39,44,33]),([],[33,45]),([],[46]),([],[3,47]),([],[48,47]),([],[49,47]),([],[6,50]),([],[51,50]),([],[6,50]),([],[53,50]),([],[54,50]),([],[52,55,50]),([],[4,50])] fol ?_;simp(disch:=omega)only[go_sem,hw,hl];refine hJ _ (i+1) ⟨by simp at hlt;omega,trivial⟩ (by simp at hlt;omega) (Imp.Am ?_ ?_)
    all_goals(try simp(disch:=omega)only[go_sem])
    all_goals(try(repeat'(with_reducible apply And.intro)))
    all_goals(first|exact .AG (by omega)|exact .Az (by omega)|exact .sl (by simp[hs2,FI])|exact .int (by simp[hs2,FI])|exact .eq (by simp[hs2,FI]))
   ·have hl':(b.req.Dq !=0)=true:=by simpa using hl
    have hl2:decide (b.req.Dq=0)=false:=by simpa using hl
    cases hd:decide (IntKind.i64.wrap (b.since+b.req.Dq)≤w.now)
    ·have hd2:decide (FI b≤w.now)=false:=hd;have hs2:(JB w.now (List.take (i+1) w.procs)).2=(best,when):=by rw[hsn,show Ky w.now (best,when) b=false from by simp only[Ky,hw,hd2,hl2]<;>rfl]<;>rfl
     refine Aq 33 [([],[6]),([],[25]),([],[26]),([],[6,27]),([],[28,27]),([],[29,27]),([],[30,27]),([],[27,31]),([],[32]),([],[6,33]),([],[34,33]),([],[6,33]),([],[36,33]),([],[37,33]),([],[35,38,33]),([],[0,33]),([],[40,33]),([],[41,33]),([],[42,33]),([],[43,33]),([],[39,44,33]),([],[33,45]),([],[46]),([],[3,47]),([],[48,47]),([],[49,47]),([],[6,50]),([],[51,50]),([],[6,50]),([],[53,50]),([],[54,50]),([],[52,55,50]),([],[4,50])] fol ?_;simp(disch:=omega)only[go_sem,hw,hl,hl',hd];refine hJ _ (i+1) ⟨by simp at hlt;omega,trivial⟩ (by simp at hlt;omega) (Imp.Am ?_ ?_)
     all_goals(try simp(disch:=omega)only[go_sem])
     all_goals(try(repeat'(with_reducible apply And.intro)))
     all_goals(first|exact .AG (by omega)|exact .Az (by omega)|exact .sl (by simp[hs2,FI])|exact .int (by simp[hs2,FI])|exact .eq (by simp[hs2,FI]))
    ·cases hn:decide (best<0)
     ·cases hq:decide (IntKind.i64.wrap (b.since+b.req.Dq)<when)
      ·have hd2:decide (FI b≤w.now)=true:=hd;have hq2:decide (FI b<when)=false:=hq;have hs2:(JB w.now (List.take (i+1) w.procs)).2=(best,when):=by rw[hsn,show Ky w.now (best,when) b=false from by simp only[Ky,hw,hd2,hn,hq2,hl2]<;>rfl]<;>rfl
       refine Aq 33 [([],[6]),([],[25]),([],[26]),([],[6,27]),([],[28,27]),([],[29,27]),([],[30,27]),([],[27,31]),([],[32]),([],[6,33]),([],[34,33]),([],[6,33]),([],[36,33]),([],[37,33]),([],[35,38,33]),([],[0,33]),([],[40,33]),([],[41,33]),([],[42,33]),([],[43,33]),([],[39,44,33]),([],[33,45]),([],[46]),([],[3,47]),([],[48,47]),([],[49,47]),([],[6,50]),([],[51,50]),([],[6,50]),([],[53,50]),([],[54,50]),([],[52,55,50]),([],[4,50])] fol ?_;simp(disch:=omega)only[go_sem,hw,hl,hl',hd,hn,hq];refine hJ _ (i+1) ⟨by simp at hlt;omega,trivial⟩ (by simp at hlt;omega) (Imp.Am ?_ ?_)
       all_goals(try simp(disch:=omega)only[go_sem])
       all_goals(try(repeat'(with_reducible apply And.intro)))
       all_goals(first|exact .AG (by omega)|exact .Az (by omega)|exact .sl (by simp[hs2,FI])|exact .int (by simp[hs2,FI])|exact .eq (by simp[hs2,FI]))
      ·have hd2:decide (FI b≤w.now)=true:=hd;have hq2:decide (FI b<when)=true:=hq;have hs2:(JB w.now (List.take (i+1) w.procs)).2=((i:Int),FI b):=by rw[hsn,show Ky w.now (best,when) b=true from by simp only[Ky,hw,hd2,hn,hq2,hl2]<;>rfl]<;>rfl
       refine Aq 33 [([],[6]),([],[25]),([],[26]),([],[6,27]),([],[28,27]),([],[29,27]),([],[30,27]),([],[27,31]),([],[32]),([],[6,33]),([],[34,33]),([],[6,33]),([],[36,33]),([],[37,33]),([],[35,38,33]),([],[0,33]),([],[40,33]),([],[41,33]),([],[42,33]),([],[43,33]),([],[39,44,33]),([],[33,45]),([],[46]),([],[3,47]),([],[48,47]),([],[49,47]),([],[6,50]),([],[51,50]),([],[6,50]),([],[53,50]),([],[54,50]),([],[52,55,50]),([],[4,50])] fol ?_;simp(disch:=omega)only[go_sem,hw,hl,hl',hd,hn,hq];refine Aq 8 [([],[5]),([],[6]),([],[62]),([],[6]),([],[64]),([],[65]),([],[63,66]),([],[61])] fol ?_;simp(disch:=omega)only[go_sem,hw,hl,hl',hd,hn,hq];refine hJ _ (i+1) ⟨by simp at hlt;omega,trivial⟩ (by simp at hlt;omega) (Imp.Am ?_ ?_)
       all_goals(try simp(disch:=omega)only[go_sem])
       all_goals(try(repeat'(with_reducible apply And.intro)))
       all_goals(first|exact .AG (by omega)|exact .Az (by omega)|exact .sl (by simp[hs2,FI])|exact .int (by simp[hs2,FI])|exact .eq (by simp[hs2,FI]))
     ·have hd2:decide (FI b≤w.now)=true:=hd;have hs2:(JB w.now (List.take (i+1) w.procs)).2=((i:Int),FI b):=by rw[hsn,show Ky w.now (best,when) b=true from by simp only[Ky,hw,hd2,hn,hl2]<;>rfl]<;>rfl
      refine Aq 33 [([],[6]),([],[25]),([],[26]),([],[6,27]),([],[28,27]),([],[29,27]),([],[30,27]),([],[27,31]),([],[32]),([],[6,33]),([],[34,33]),([],[6,33]),([],[36,33]),([],[37,33]),([],[35,38,33]),([],[0,33]),([],[40,33]),([],[41,33]),([],[42,33]),([],[43,33]),([],[39,44,33]),([],[33,45]),([],[46]),([],[3,47]),([],[48,47]),([],[49,47]),([],[6,50]),([],[51,50]),([],[6,50]),([],[53,50]),([],[54,50]),([],[52,55,50]),([],[4,50])] fol ?_;simp(disch:=omega)only[go_sem,hw,hl,hl',hd,hn];refine Aq 8 [([],[5]),([],[6]),([],[62]),([],[6]),([],[64]),([],[65]),([],[63,66]),([],[61])] fol ?_;simp(disch:=omega)only[go_sem,hw,hl,hl',hd,hn];refine hJ _ (i+1) ⟨by simp at hlt;omega,trivial⟩ (by simp at hlt;omega) (Imp.Am ?_ ?_)
      all_goals(try simp(disch:=omega)only[go_sem])
      all_goals(try(repeat'(with_reducible apply And.intro)))
      all_goals(first|exact .AG (by omega)|exact .Az (by omega)|exact .sl (by simp[hs2,FI])|exact .int (by simp[hs2,FI])|exact .eq (by simp[hs2,FI]))
 ·subst hil;rw[take_length];refine Ci ⟨[(0,0),(1,1)],[(63,63)],[]⟩ _ ?_ ?_
  ·simp(disch:=omega)only[go_sem,Pf]
  ·exact gI
structure YF(Inv:Av→Prop):Prop extends HO Inv where
 ev:∀ w k p,Inv w→Inv (Cb w k p)
 wd:∀ w i x,Inv w→w.procs[i]?=some x→x.waiting=true→L3 w x (Ag x.req.expr)∧Inv (A5 w i x)
 nx:∀ w i x,Inv w→w.procs[i]?=some x→Inv (AX w i (CF x))
theorem XL{now:Int}{b:Int × Int}{x:Pcs}(h:Ky now b x=true):x.waiting=true:=by
 unfold Ky at h;simp only[and_eq_true]at h;exact h.1
theorem RO(now:Int)(l:List Pcs):∀ i,i≤l.length→(JB now (l.take i)).2.1 = -1∨∃ k x,(JB now (l.take i)).2.1=(k:Nat)∧l[k]?=some x∧x.waiting=true
 | 0,_=>.inl rfl
 | i+1,hi=>by
  obtain⟨b,hb⟩:∃ b,l[i]?=some b:=⟨_,gE (by omega)⟩;rw[RN now hb];split
  ·rename_i hc;exact .inr ⟨i,b,rfl,hb,XL hc⟩
  ·exact RO now l i (by omega)
theorem Lm(w:Av):Pf w = -1∨∃ k x,Pf w=(k:Nat)∧w.procs[k]?=some x∧x.waiting=true:=by
 have:=RO w.now w.procs w.procs.length (Nat.le_refl _)
 rwa [take_length]at this
def Eu(w:Av)(i:Nat)(x:Pcs):Av :=
 let w1:=A5 (Cb w 4 x.proc) i x
 AX w1 i (CF (w1.procs.getD i x0))
def KL:Nat→Av→Av
 | 0,w=>w
 | n+1,w=>match w.procs[(Pf w).toNat]? with
  |none=>w
  |some x=>if Pf w<0 then w else KL n (B0 (Eu w (Pf w).toNat x))
theorem LW:∀ (n:Nat) (w:Av),(Fo n w).procs.length=w.procs.length∧wcount (Fo n w)≤wcount w
 | 0,w=>⟨rfl,Nat.le_refl _⟩
 | n+1,w=>by
  simp only[Fo];cases hs:Ka w with
  |none=>exact⟨rfl,Nat.le_refl _⟩
  |some i =>
   obtain⟨x,hx,hsat⟩:=HJ hs;have hg:w.procs.getD i x0=x:=by simp[List.getD,hx]
   simp only[hg];obtain⟨h1,h2⟩:=LW n (DC w i x);obtain⟨y,h3,_⟩:=IK hx;have h4:=(K6 hs hx hsat).2;exact⟨by rw[h1,h3];simp,by omega⟩
theorem Vh{Inv:Av→Prop}(hI:HO Inv){w:Av}{i:Nat}{x:Pcs}(hw:Inv w)(hs:Ka w=some i)(hx:w.procs[i]?=some x):(DC w i x).CL.length≤w.CL.length+1609:=by
 have hks:=hI.safe w i x hw hs hx;have hal:=Cj x.req.expr;have hz:=JI hks ((DV x.req.expr (BI w.Aa x.proc x.req.expr)).zip (Ag x.req.expr)).length (Nat.le_refl _);rw[take_length]at hz;have hzl:((DV x.req.expr (BI w.Aa x.proc x.req.expr)).zip (Ag x.req.expr)).length≤8:=by rw[List.length_zip];omega
 have he2:(Cb w 2 x.proc).CL.length=w.CL.length+1:=by simp[Cb]
 simp only[DC,AX];omega
theorem Iy{Inv:Av→Prop}(hI:HO Inv):∀ (n:Nat) (w:Av),Inv w→Inv (Fo n w)∧(Fo n w).CL.length+1700*wcount (Fo n w)≤w.CL.length+1700*wcount w
 | 0,w,h=>⟨h,Nat.le_refl _⟩
 | n+1,w,h=>by
  simp only[Fo];cases hs:Ka w with
  |none=>exact⟨h,Nat.le_refl _⟩
  |some i =>
   obtain⟨x,hx,hsat⟩:=HJ hs;have hg:w.procs.getD i x0=x:=by simp[List.getD,hx]
   simp only[hg];obtain⟨h1,h2⟩:=Iy hI n (DC w i x) (hI.next w i x h hs hx);have h4:=(K6 hs hx hsat).2;have h5:=Vh hI h hs hx;exact⟨h1,by omega⟩
theorem Dh(w:Av)(i:Nat)(x:Pcs):(A5 w i x).procs=w.procs.set i (BV x):=by simp[A5,AX,Ht]
theorem IN{w:Av}{i:Nat}{x:Pcs}(h:L3 w x (Ag x.req.expr)):(A5 w i x).CL.length≤w.CL.length+1608:=by
 have hal:=Cj x.req.expr;have:=Mc h _ (Nat.le_refl _);rw[take_length]at this;simp only[A5,AX];omega
theorem Qt{Inv:Av→Prop}(hI:YF Inv){w:Av}{i:Nat}{x:Pcs}(hw:Inv w)(hx:w.procs[i]?=some x)(hwt:x.waiting=true) :
 Inv (Eu w i x)∧Eu w i x=AX (A5 (Cb w 4 x.proc) i x) i (CF (BV x))∧wcount (Eu w i x)+1=wcount w∧(Eu w i x).CL.length≤w.CL.length+1609:=by
 have hi:=At hx;have hn:=hI.ev w 4 x.proc hw;obtain⟨h1,h2⟩:=hI.wd (Cb w 4 x.proc) i x hn hx hwt;have hp:(A5 (Cb w 4 x.proc) i x).procs=w.procs.set i (BV x):=Dh _ _ _;have hg:(A5 (Cb w 4 x.proc) i x).procs[i]?=some (BV x):=by rw[hp];simp[hi]
 have hl:Eu w i x=AX (A5 (Cb w 4 x.proc) i x) i (CF (BV x)):=by
  simp only[Eu];rw[show (A5 (Cb w 4 x.proc) i x).procs.getD i x0=BV x by simp[List.getD,hg]]
 have hev:=IN (i:=i) h1;have he2:(Cb w 4 x.proc).CL.length=w.CL.length+1:=by simp[Cb]
 refine⟨by rw[hl];exact hI.nx _ _ _ h2 hg,hl,?_,by rw[hl];simp only[AX];omega⟩;rw[hl];have:(AX (A5 (Cb w 4 x.proc) i x) i (CF (BV x))).procs=w.procs.set i (CF (BV x)):=by simp[AX,hp]
 unfold wcount;rw[this];exact countP_set (p:=(·.waiting)) (y:=CF (BV x)) rfl hx hwt
theorem IM(w:Av):wcount (B0 w)≤wcount w:=(LW _ w).2
theorem ID{w:Av}(h:wcount w=0):Pf w = -1:=by
 rcases Lm w with h1|⟨k,x,_,h2,h3⟩
 ·exact h1
 ·exfalso;unfold wcount at h;rw[List.countP_eq_zero]at h;exact h x (mG h2) h3
theorem FJ{w:Av}(h:Pf w = -1):∀ n,KL n w=w
 | 0=>rfl
 | n+1=>by
  simp only[KL,h];split<;>simp
theorem Mi{n:Nat}{w:Av}{k:Nat}{x:Pcs}(h:Pf w=(k:Nat))(hx:w.procs[k]?=some x):KL (n+1) w=KL n (B0 (Eu w k x)):=by
 simp only[KL,h,Int.toNat_natCast,hx];rw[if_neg (by omega)]
theorem Na(w:Av){i:Nat}{x:Pcs}(hx:w.procs[i]?=some x)(hwt:x.waiting=true):wcount (Eu w i x)+1=wcount w:=by
 have hi:=At hx;have hp:(A5 (Cb w 4 x.proc) i x).procs=w.procs.set i (BV x):=Dh _ _ _;have hg:(A5 (Cb w 4 x.proc) i x).procs[i]?=some (BV x):=by rw[hp];simp[hi]
 have:(Eu w i x).procs=w.procs.set i (CF (BV x)):=by
  simp only[Eu];rw[show (A5 (Cb w 4 x.proc) i x).procs.getD i x0=BV x by simp[List.getD,hg]];simp[AX,hp]
 unfold wcount;rw[this];exact countP_set (p:=(·.waiting)) (y:=CF (BV x)) rfl hx hwt
theorem Nb:∀ (n m:Nat) (w:Av),wcount w≤n→wcount w≤m→KL n w=KL m w
 | 0,m,w,h,_=>by rw[FJ (ID (by omega)),FJ (ID (by omega))]
 | n+1,0,w,_,h=>by rw[FJ (ID (by omega)),FJ (ID (by omega))]
 | n+1,m+1,w,h1,h2=>by
  rcases Lm w with h|⟨k,x,h,hx,hwt⟩
  ·rw[FJ h,FJ h]
  ·rw[Mi h hx,Mi h hx];have h3:=Na w hx hwt;have h4:=IM (Eu w k x);exact Nb n m _ (by omega) (by omega)
def O3(w:Av):Av:=KL (wcount w) w
theorem V6{w:Av}{k:Nat}{x:Pcs}(h:Pf w=(k:Nat))(hx:w.procs[k]?=some x)(hwt:x.waiting=true):O3 w=O3 (B0 (Eu w k x)):=by
 have h3:=Na w hx hwt;have h4:=IM (Eu w k x);unfold O3;rw[← h3,Mi h hx];exact Nb _ _ _ (by omega) (by omega)
def Jm(w:Av)(n:Int):Av × Int :=
 if decide (n<0)||decide (1000<n) then (w,1) else if decide (1073741824-n<w.now) then (w,16) else (O3 { w with now:=w.now+n },0)
theorem f118_ok(Inv:Av→Prop)(hI:YF Inv)(w:Av)(n:Int)(hw:∀ t,Inv { w with now:=t })(hnow:0≤w.now)(hev:w.CL.length+3500*wcount w≤900000):Ad C0 118 [.ptr 63 0,I n] [(63,w.c)] (I (Jm w n).2) [(63,(Jm w n).1.c)]:=by
 refine Ad.go f118 ?_;unfold f118;refine gO ?_;cases h1:decide (n<0);rotate_left
 ·have hn:n<0:=by simpa using h1
  have ht:Jm w n=(w,1):=by simp[Jm,hn]
  rw[ht];simp(disch:=omega)only[go_sem,h1];refine Ci ⟨[(0,0),(1,1)],[(63,63)],[]⟩ _ ?_ ?_
  ·exact gI
  ·exact gI
 cases h2:decide (1000<n);rotate_left
 ·have hn:1000<n:=by simpa using h2
  have ht:Jm w n=(w,1):=by simp[Jm,hn]
  rw[ht];simp(disch:=omega)only[go_sem,h1,h2];refine Ci ⟨[(0,0),(1,1)],[(63,63)],[]⟩ _ ?_ ?_
  ·exact gI
  ·exact gI
 have hn1:0≤n:=by simpa using h1
 have hn2:n≤1000:=by simpa using h2
 cases h3:decide (1073741824-n<w.now);rotate_left
 ·have hn:1073741824-n<w.now:=by simpa using h3
  have ht:Jm w n=(w,16):=by simp only[Jm,h1,h2,h3];rfl
  rw[ht];simp(disch:=omega)only[go_sem,h1,h2,h3];refine Ci ⟨[(0,0),(1,1)],[(63,63)],[]⟩ _ ?_ ?_
  ·exact gI
  ·exact gI
 have hn3:w.now≤1073741824-n:=by simpa using h3
 have ht:Jm w n=(O3 { w with now:=w.now+n },0):=by simp only[Jm,h1,h2,h3];rfl
 rw[ht];have hwn:=hw (w.now+n);simp(disch:=omega)only[go_sem,h1,h2,h3];have hev':({ w with now:=w.now+n }:Av).CL.length+3500*wcount { w with now:=w.now+n }≤900000:=hev;have hp0:=(hI.few _ hwn).2.1;refine call2 ⟨⟨[(0,0),(1,1)],[(63,63)],[]⟩,[],[]⟩ (f181_ok { w with now:=w.now+n } (Nat.le_trans hp0 (by decide))) ?_;generalize ({ w with now:=w.now+n }:Av)=w0 at hwn hev' ⊢;clear hp0;refine gO ?_;refine Ab (α:=Av) (fun w'=>⟨[(5,I (Pf w')),(0,.ptr 63 0)],[(63,w'.c)]⟩) (fun w'=>Inv w'∧O3 w'=O3 w0∧w'.CL.length+3500*wcount w'≤900000) (fun w'=>wcount w') w0 ⟨hwn,rfl,hev'⟩ AR ?_;clear hwn hev' hw hev hnow ht h1 h2 h3 hn1 hn2 hn3;rintro w1 ⟨hw,hsw,hev⟩ J hJ;obtain⟨hf,hp,hr⟩:=hI.few w1 hw;rcases Lm w1 with hs|⟨o,x,hs,hx,hwt⟩
 ·simp(disch:=omega)only[go_sem,hs];rw[← hsw,show O3 w1=w1 from FJ hs _];refine Ci ⟨[(0,0),(1,1)],[(63,63)],[]⟩ _ ?_ ?_
  ·exact gI
  ·exact gI
 ·obtain⟨i1,i2,i3,i4⟩:=Qt hI hw hx hwt;have hstep:=V6 hs hx hwt;obtain⟨j1,j2⟩:Inv (B0 (Eu w1 o x))∧(B0 (Eu w1 o x)).CL.length+1700*wcount (B0 (Eu w1 o x))≤(Eu w1 o x).CL.length+1700*wcount (Eu w1 o x):=Iy hI.toHO (wcount (Eu w1 o x)) (Eu w1 o x) i1;have j3:=IM (Eu w1 o x);have hn:=hI.ev w1 4 x.proc hw;obtain⟨k1,k2⟩:=hI.wd (Cb w1 4 x.proc) o x hn hx hwt;have hi:=At hx;have hg:(A5 (Cb w1 4 x.proc) o x).procs[o]?=some (BV x):=by rw[Dh];simp[Cb,hi]
  have he2:(Cb w1 4 x.proc).CL.length=w1.CL.length+1:=by simp[Cb]
  simp(disch:=omega)only[go_sem,hs,eq_true (show (0:Int)≤(o:Int) by omega),decide_true,gm,hx];refine call2 ⟨⟨[(0,0),(1,1)],[(63,63)],[]⟩,[],[]⟩ (f182_ok w1 4 x.proc (by omega)) ?_;refine gO ?_;refine call2 ⟨⟨[(0,0),(1,1)],[(63,63)],[]⟩,[],[]⟩ (f120_ok (Cb w1 4 x.proc) o x hx k1 (by omega)) ?_;refine gO ?_;refine call2 ⟨⟨[(0,0),(1,1)],[(63,63)],[]⟩,[],[]⟩ (f121_ok (A5 (Cb w1 4 x.proc) o x) o (BV x) hg) ?_;rw[← i2];refine gO ?_;refine call2 ⟨⟨[(0,0),(1,1)],[(63,63)],[]⟩,[],[]⟩ (f122_ok Inv hI.toHO (Eu w1 o x) i1 (by omega)) ?_;refine gO ?_;have hp4:=(hI.few _ j1).2.1;refine call2 ⟨⟨[(0,0),(1,1)],[(63,63)],[]⟩,[],[]⟩ (f181_ok (B0 (Eu w1 o x)) (Nat.le_trans hp4 (by decide))) ?_;refine gO ?_;exact hJ _ (B0 (Eu w1 o x)) ⟨j1,hstep.symm.trans hsw,by omega⟩ (by omega) AR
def FH(w:Av)(p:Ae)(a:Atom)(prio:Int):Av:=CB w (D6 w.Aa p a prio).1 (D6 w.Aa p a prio).2.1
def CN(w:Av)(p:Ae)(prio:Int)(az:List Atom):Av:=az.foldl (fun w a=>FH w p a prio) w
theorem MM{w:Av}{p:Ae}{prio:Int}{az:List Atom}{i:Nat}{b:Atom}(hb:az[i]?=some b):CN w p prio (az.take (i+1))=FH (CN w p prio (az.take i)) p b prio:=by
 simp[CN,take_add_one,hb,List.foldl_append]
def TC(w:Av)(p:Ae)(prio:Int)(az:List Atom):Prop:=∀ i,i<az.length→DZ (CN w p prio (az.take i)).Aa
theorem Ko{w:Av}{p:Ae}{prio:Int}{az:List Atom}(h:TC w p prio az):∀ i,i≤az.length→(CN w p prio (az.take i)).CL.length≤w.CL.length+101*i
 | 0,_=>by simp[CN]
 | i+1,hi=>by
  obtain⟨b,hb⟩:∃ b,az[i]?=some b:=⟨_,gE (by omega)⟩;have h1:=Ko h i (by omega);have h2:=PX (h i (by omega)) p b prio;rw[MM hb];simp only[FH,CB,List.length_append];omega
theorem IF(w:Av)(p:Ae)(prio:Int):∀ az:List Atom,(CN w p prio az).procs=w.procs
 |[]=>rfl
 | a::az=>IF (FH w p a prio) p prio az
theorem HM(w:Av):wcount w≤w.procs.length:=List.countP_le_length
def Kj(now:Int)(x:Pcs)(r:Req):Pcs:=CF { x with waiting:=true,req:=r,since:=now }
def Q8(w:Av)(i:Nat)(x:Pcs)(r:Req):Av:=CN (AX w i (Kj w.now x r)) x.proc r.prio (Ag r.expr)
def Ec(w:Av)(i:Nat)(x:Pcs)(r:Req):Av × Int :=
 if x.waiting then (w,14) else if Iw r then (if CZ (Gd w.Aa) r.expr=0 then (B0 (Q8 w i x r),0) else (w,CZ (Gd w.Aa) r.expr)) else (w,1)
theorem f119_ok(Inv:Av→Prop)(hI:HO Inv)(w:Av)(i:Nat)(x:Pcs)(r:Req)(hx:w.procs[i]?=some x)(hf:DZ w.Aa)
 (hc:x.waiting=false→Iw r=true→CZ (Gd w.Aa) r.expr=0→TC (AX w i (Kj w.now x r)) x.proc r.prio (Ag r.expr)∧Inv (Q8 w i x r))
 (hp:w.procs.length≤8) (hev:w.CL.length≤500000) :
 Ad C0 119 [.ptr 63 0,I i,.agg r.c] [(63,w.c)] (I (Ec w i x r).2) [(63,(Ec w i x r).1.c)]:=by
 have hi:=At hx;have hal:=Cj r.expr;have hn:=hf.n;refine Ad.go f119 ?_;unfold f119;simp(disch:=omega)only[go_sem,gm,hx];cases h1:x.waiting;rotate_left
 ·have ht:Ec w i x r=(w,14):=by simp[Ec,h1]
  rw[ht];simp(disch:=omega)only[go_sem,h1];refine Ci ⟨[(0,0),(1,1)],[(63,63)],[]⟩ _ ?_ ?_
  ·exact gI
  ·exact gI
 simp(disch:=omega)only[go_sem,h1];refine Ac (f176_ok r) ?_;cases h2:Iw r
 ·have ht:Ec w i x r=(w,1):=by simp[Ec,h1,h2]
  rw[ht];simp(disch:=omega)only[go_sem,h2,Bool.not_false];refine Ci ⟨[(0,0),(1,1)],[(63,63)],[]⟩ _ ?_ ?_
  ·exact gI
  ·exact gI
 simp(disch:=omega)only[go_sem,h2,Bool.not_true];refine Aq 8 [([],[0]),([],[25]),([],[26]),([],[27]),([],[28]),([],[29]),([],[5]),([],[31])] fol ?_;simp(disch:=omega)only[go_sem]
 first|(refine Ac (f178_ok w.Aa (by omega)) ?_)|(refine Ar (f178_ok w.Aa (by omega)) ?_)
 simp(disch:=omega)only[go_sem]
 first|(refine Ac (f177_ok (Gd w.Aa) r.expr) ?_)|(refine Ar (f177_ok (Gd w.Aa) r.expr) ?_)
 refine gO ?_
 by_cases h3:CZ (Gd w.Aa) r.expr=0
 rotate_left
 ·have ht:Ec w i x r=(w,CZ (Gd w.Aa) r.expr):=by simp[Ec,h1,h2,h3]
  rw[ht];have h3':(CZ (Gd w.Aa) r.expr !=0)=true:=by simpa using h3
  simp(disch:=omega)only[go_sem,h3'];refine Ci ⟨[(0,0),(1,1)],[(63,63)],[]⟩ _ ?_ ?_
  ·exact gI
  ·exact gI
 obtain⟨c1,c2⟩:=hc h1 h2 h3;have ht:Ec w i x r=(B0 (Q8 w i x r),0):=by simp[Ec,h1,h2,h3]
 rw[ht];simp(disch:=omega)only[go_sem,h3,gm,hx];refine D7 (st':=⟨[(5,.ptr 320 0),(0,.ptr 63 0),(1,I i)],[(320,r.c),(63,(AX w i { x with waiting:=true }).c)]⟩) (Imp.Am gI (by simp(disch:=omega)only[go_sem,AX];exact .sl (by rw[map_set];rfl))) ?_;refine Aq 7 [([],[0]),([],[45]),([],[46]),([],[47]),([],[48]),([],[1]),([],[5])] fol ?_;simp(disch:=omega)only[go_sem,AX,gm,List.getElem?_set,List.length_map,hi];refine D7 (st':=⟨[(5,.ptr 320 0),(0,.ptr 63 0),(1,I i)],[(320,r.c),(63,(AX w i { x with waiting:=true,req:=r }).c)]⟩) (Imp.Am gI (by simp(disch:=omega)only[go_sem,AX];exact .sl (by simp only[map_set,set_set];rfl))) ?_;refine Aq 11 [([],[0]),([],[54]),([],[55]),([],[56]),([],[57]),([],[1]),([],[0]),([],[60]),([],[61]),([],[62]),([],[63])] fol ?_;simp(disch:=omega)only[go_sem,AX,gm,List.getElem?_set,List.length_map,hi];have hx3:(AX w i { x with waiting:=true,req:=r,since:=w.now }).procs[i]?=some { x with waiting:=true,req:=r,since:=w.now }:=by simp[AX,hi]
 refine call2 ⟨⟨[(0,0),(1,1)],[(63,63)],[]⟩,[],[]⟩ (f121_ok (AX w i { x with waiting:=true,req:=r,since:=w.now }) i _ hx3) ?_ (hh:=?_);rotate_left
 ·simp only[AX];refine gO ?_;exact .sl (by simp only[map_set,set_set];rfl)
 have e3:AX (AX w i { x with waiting:=true,req:=r,since:=w.now }) i (CF { x with waiting:=true,req:=r,since:=w.now })=AX w i (Kj w.now x r):=by simp[AX,Kj]
 rw[e3];have hev1:(AX w i (Kj w.now x r)).CL.length=w.CL.length:=rfl;have hx4:(AX w i (Kj w.now x r)).procs[i]?=some (Kj w.now x r):=by simp[AX,hi]
 unfold Q8 at c2 ⊢;obtain⟨y,hy,hyp⟩:∃ y,y=Kj w.now x r∧y.proc=x.proc:=⟨_,rfl,rfl⟩;rw[← hy]at hx4 c1 c2 hev1 ⊢;rw[← hyp]at c1 c2 ⊢;generalize AX w i y=w4 at c1 c2 hev1 hx4 ⊢;clear hx3 e3 ht hc h3 h2 h1;refine gO ?_;refine Ac (f93_ok r.expr) ?_;obtain⟨o,rfl⟩:∃ o,o=i:=⟨i,rfl⟩;generalize Ag r.expr=az at c1 c2 hal ⊢;refine gO ?_;refine Ab (α:=Nat) (fun i=>⟨[(9,I i),(8,Bv az),(0,.ptr 63 0),(1,I o),(5,.ptr 320 0)],[(63,(CN w4 y.proc r.prio (az.take i)).c),(320,r.c)]⟩) (fun i=>i≤(az).length∧True) (fun i=>(az).length-i) 0 ⟨by omega,trivial⟩ ?_ ?_
 ·refine Imp.Am ?_ ?_
  all_goals(try simp(disch:=omega)only[go_sem])
  all_goals(try(repeat'(with_reducible apply And.intro)))
  all_goals(first|exact .AG (by omega)|exact .Az (by omega)|exact .sl (by simp[CN])|exact .int (by simp[CN])|exact .eq (by simp[CN]))
 rintro i ⟨hi,hP⟩ J hJ;refine gO ?_;refine ⟨fun hlt=>?_,fun hge=>?_⟩;rotate_left;have hil:i=(az).length:=by simp at hge;omega
 rotate_left;obtain⟨b,hb⟩:∃ b,(az)[i]?=some b:=⟨_,gE (by simp at hlt;omega)⟩;have hbm:=mG hb;have hlt2:i<(az).length:=by simp at hlt;omega
 ·have g1:=Ko c1 i hi;have g2:=PX (c1 i hlt2) y.proc b r.prio;have g3:(CN w4 y.proc r.prio (az.take i)).procs[o]?=some y:=by rw[IF];exact hx4
  have g4:=MM (w:=w4) (p:=y.proc) (prio:=r.prio) hb;have g5:=c1 i hlt2;generalize CN w4 y.proc r.prio (az.take i)=w5 at g1 g2 g3 g4 g5 ⊢;refine Aq 27 [([],[0]),([],[80]),([],[81]),([],[82]),([],[83]),([],[0]),([],[85]),([],[86]),([],[87]),([],[88]),([],[1]),([],[89,90]),([],[91]),([],[92]),([],[8]),([],[9]),([],[94,95]),([],[96]),([],[5]),([],[98]),([],[84,93,97,99]),([20],[100]),([20],[79]),([20],[79]),([20],[79]),([20],[101]),([20],[102])] fol ?_;simp(disch:=omega)only[go_sem,gm,hb,g3]
  first|(refine Ac (f183_ok w5.Aa y.proc b r.prio g5) ?_)|(refine Ar (f183_ok w5.Aa y.proc b r.prio g5) ?_)
  refine gO ?_;refine call2 ⟨⟨[(0,0),(1,1)],[(63,63)],[]⟩,[],[]⟩ (f184_ok w5 (D6 w5.Aa y.proc b r.prio).1 (D6 w5.Aa y.proc b r.prio).2.1 (by omega)) ?_;refine gO ?_;refine hJ _ (i+1) ⟨by omega,trivial⟩ (by omega) (Imp.Am ?_ ?_)
  ·exact gI
  ·rw[g4];unfold FH;simp(disch:=omega)only[go_sem]
 ·subst hil;rw[take_length];have g1:=Ko c1 _ (Nat.le_refl _);rw[take_length]at g1;obtain⟨k1,k2,k3⟩:=hI.few _ c2;have k4:=HM (CN w4 y.proc r.prio az);refine call2 ⟨⟨[(0,0),(1,1)],[(63,63)],[]⟩,[],[]⟩ (f122_ok Inv hI (CN w4 y.proc r.prio az) c2 (by omega)) ?_;refine gO ?_;refine Ci ⟨[(0,0),(1,1)],[(63,63)],[]⟩ _ ?_ ?_
  ·exact gI
  ·exact gI
def KX(t:List Queue)(x:Pcs):Prop:=∀ q∈t,Kq q x.proc (AF x.led.entries q.res.name)
def KF(q:Queue)(p:Ae)(l:Amt):Prop:=As q p=none∧AB q.holds p=l
theorem KF.k{q:Queue}{p:Ae}{l:Amt}(h:KF q p l):Kq q p l:=⟨fun hh=>by rw[h.1]at hh;simp at hh,.inl h.2⟩
structure Good(t:List Queue)(x:Pcs):Prop where
 ex:A4 x.req.expr=true
 fd:∀ a∈Ag x.req.expr,∃ k,Cg t a.name=some k
 k:KX t x
theorem Good.step{p:Ae}{t t':List Queue}{x:Pcs}(h:Good t x)(hs:FM p t t')(hp:x.proc≠p):Good t' x :=
 ⟨h.ex,fun a ha=>by rw[I3 hs.res];exact h.fd a ha,hs.other x.proc hp (fun n=>AF x.led.entries n) h.k⟩
structure JE(e:Option Nat)(w:Av):Prop where
 tab:EZ w.Aa
 n:w.procs.length≤8
 uq:∀ (i j:Nat) (x y:Pcs),w.procs[i]?=some x→w.procs[j]?=some y→x.proc=y.proc→i=j
 good:∀ (j:Nat) (x:Pcs),w.procs[j]?=some x→some j≠e→x.waiting=true→Good w.Aa x
theorem JE.but{w:Av}(h:JE none w)(i:Nat):JE (some i) w:=⟨h.tab,h.n,h.uq,fun j x hj _ hw=>h.good j x hj (by simp) hw⟩
theorem JE.step{i:Nat}{w w':Av}{z:Pcs}(h:JE (some i) w)(hz:w.procs[i]?=some z)(hp:w'.procs=w.procs)(hs:FM z.proc w.Aa w'.Aa):JE (some i) w' where
 tab:=hs.tab
 n:=by rw[hp];exact h.n
 uq:=by rw[hp];exact h.uq
 good:=fun j x hj hne hw=>by
  rw[hp]at hj;refine(h.good j x hj hne hw).step hs fun e=>hne ?_
  rw[h.uq j i x z hj hz e]
theorem JE.set{i:Nat}{w:Av}{z y:Pcs}(h:JE (some i) w)(hz:w.procs[i]?=some z)(hy:y.proc=z.proc)(hg:y.waiting=true→Good w.Aa y):JE none (AX w i y) where
 tab:=h.tab
 n:=by simp only[AX,List.length_set];exact h.n
 uq:=fun a b u v ha hb e=>by
  have key:∀ (c:Nat) (u:Pcs),(w.procs.set i y)[c]?=some u→∃ u',w.procs[c]?=some u'∧u'.proc=u.proc:=fun c u hc=>by
   rw[List.getElem?_set]at hc;split at hc
   ·rename_i e;subst e;split at hc
    ·exact⟨z,hz,by rw[← hy,Option.some.inj hc]⟩
    ·cases hc
   ·exact⟨u,hc,rfl⟩
  obtain⟨u',h1,h2⟩:=key a u ha;obtain⟨v',h3,h4⟩:=key b v hb;exact h.uq a b u' v' h1 h3 (by rw[h2,h4,e])
 good:=fun j x hj _ hw=>by
  simp only[AX]at hj;rw[List.getElem?_set]at hj;split at hj
  ·split at hj
   ·have:=Option.some.inj hj;subst this;exact hg hw
   ·cases hj
  ·rename_i hne;exact h.good j x hj (fun e=>hne (Option.some.inj e).symm) hw
theorem JE.set'{i:Nat}{w:Av}{z y:Pcs}(h:JE (some i) w)(hz:w.procs[i]?=some z)(hy:y.proc=z.proc):JE (some i) (AX w i y):=by
 have h1:=JE.set (y:={ y with waiting:=false }) h hz hy (fun e=>by simp at e);refine⟨h.tab,by simp only[AX,List.length_set];exact h.n,fun a b u v ha hb e=>?_,fun j x hj hne hw=>?_⟩
 ·have key:∀ (c:Nat) (u:Pcs),(w.procs.set i y)[c]?=some u→∃ u',w.procs[c]?=some u'∧u'.proc=u.proc:=fun c u hc=>by
   rw[List.getElem?_set]at hc;split at hc
   ·rename_i e;subst e;split at hc
    ·exact⟨z,hz,by rw[← hy,Option.some.inj hc]⟩
    ·cases hc
   ·exact⟨u,hc,rfl⟩
  obtain⟨u',h1,h2⟩:=key a u ha;obtain⟨v',h3,h4⟩:=key b v hb;exact h.uq a b u' v' h1 h3 (by rw[h2,h4,e])
 ·simp only[AX]at hj;rw[List.getElem?_set]at hj;split at hj
  ·rename_i e;subst e;exact absurd rfl hne
  ·exact h.good j x hj hne hw
theorem P9{w:Av}{x:Pcs}{name:Bs}(h:EZ w.Aa)(hk:KX w.Aa x)(hf:∃ k,Cg w.Aa name=some k) :
 PE w x name∧FM x.proc w.Aa (Fv w x name).Aa∧KX (Fv w x name).Aa x∧∀ q∈(Fv w x name).Aa,KF q x.proc (AF x.led.entries q.res.name)∨(q∈w.Aa∧q.res.name≠name):=by
 obtain⟨k,hf⟩:=hf;obtain⟨hlt,q,hq,hn⟩:=Dk hf;have hg:w.Aa.getD k q0=q:=by simp[List.getD,hq]
 have hqm:=mG hq;have hkq:=hk q hqm;have fin:∀ q1:Queue,q1.res=q.res→KF q1 x.proc (AF x.led.entries name)→FM x.proc w.Aa (w.Aa.set k q1) →
  KX (w.Aa.set k q1) x∧∀ q'∈w.Aa.set k q1,KF q' x.proc (AF x.led.entries q'.res.name)∨(q'∈w.Aa∧q'.res.name≠name):=by
  intro q1 hr hkf hs;have e1:q1.res.name=name:=by rw[hr,hn]
  refine⟨fun q' hq'=>?_,fun q' hq'=>?_⟩
  ·rcases El (q:=q) hq' with rfl|⟨j,_,hj⟩
   ·rw[e1];exact hkf.k
   ·exact hk q' (mG hj)
  ·rcases El (q:=q) hq' with rfl|⟨j,_,hj⟩
   ·exact .inl (by rw[e1];exact hkf)
   ·rename_i hji;exact .inr ⟨mG hj,fun e=>hji (KR h hj hq (e.trans hn.symm))⟩
 cases hw:(As q x.proc).isSome
 ·have eA:EP w x name k=w:=by simp only[EP,hg,hw];rfl
  have hsafe:PE w x name:=⟨k,hf,Da h,by rw[eA];exact hlt,by rw[eA];exact Da h⟩;have hwn:=FD hw;have eK:Fv w x name=MV w x name k:=by unfold Fv;rw[hf];simp only[eA]
  rw[eK];unfold MV;rw[hg]
  by_cases hl:AB q.holds x.proc=AF x.led.entries name
  ·simp only[hl,decide_true,if_true];refine⟨hsafe,.refl h,hk,fun q' hq'=>?_⟩
   by_cases e:q'.res.name=name
   ·obtain⟨j,hj⟩:=List.getElem?_of_mem hq';have:=KR h hj hq (e.trans hn.symm);subst this;rw[hq]at hj;have:=Option.some.inj hj;subst this;exact .inl ⟨hwn,by rw[hn];exact hl⟩
   ·exact .inr ⟨hq',e⟩
  ·simp only[hl,decide_false,false_eq_true,if_false];rw[hn]at hkq;obtain⟨hz,hc⟩:=hkq.2.resolve_left hl;obtain⟨q1,e1,hs,hr,h1,h2⟩:=KP (a:=⟨name,AF x.led.entries name⟩) h hf hq hwn hz hc;simp only[CB];rw[e1];exact⟨hsafe,hs,fin q1 hr ⟨h1,h2⟩ hs⟩
 ·obtain⟨q1,e1,hs,hr,h1,h2⟩:=SQ h hf hq hw;have hl:=hkq.1 hw;rw[hn]at hl;have eA:EP w x name k=CB w (w.Aa.set k q1) (CM w.Aa x.proc name).2.1:=by simp only[EP,hg,hw,if_true,e1]
  have hsafe:PE w x name:=⟨k,hf,Da h,by rw[eA];simpa [CB]using hlt,by rw[eA];exact Da hs.tab⟩;have eK:Fv w x name=EP w x name k:=by
   unfold Fv;rw[hf];simp only;unfold MV;rw[eA];have:(CB w (w.Aa.set k q1) (CM w.Aa x.proc name).2.1).Aa.getD k q0=q1:=by simp[CB,List.getD,hlt]
   rw[this,h2,hl];simp
  rw[eK,eA];exact⟨hsafe,hs,fin q1 hr ⟨h1,h2.trans hl⟩ hs⟩
theorem Kv{x:Pcs}:∀ (az:List Atom) (w:Av),EZ w.Aa→KX w.Aa x→(∀ a∈az,∃ k,Cg w.Aa a.name=some k) →
 L3 w x az∧FM x.proc w.Aa (En w x az).Aa∧KX (En w x az).Aa x∧∀ q∈(En w x az).Aa,KF q x.proc (AF x.led.entries q.res.name)∨(q∈w.Aa∧∀ a∈az,q.res.name≠a.name)
 |[],w,h,hk,_=>⟨fun i b hb=>by simp at hb,.refl h,hk,fun q hq=>.inr ⟨hq,fun a ha=>by cases ha⟩⟩
 | a::az,w,h,hk,hf=>by
  obtain⟨h1,h2,h3,h4⟩:=P9 h hk (hf a (by simp));obtain⟨g1,g2,g3,g4⟩:=Kv az (Fv w x a.name) h2.tab h3 (fun b hb=>by rw[I3 h2.res];exact hf b (by simp[hb]));refine⟨fun i b hb=>?_,h2.trans g2,g3,fun q hq=>?_⟩
  ·cases i with
   | zero =>
    simp at hb;subst hb;exact h1
   | succ i=>exact g1 i b (by simpa using hb)
  ·rcases g4 q hq with hkf|⟨hq,hn⟩
   ·exact .inl hkf
   ·rcases h4 q hq with hkf|⟨hq,hn1⟩
    ·exact .inl hkf
    ·exact .inr ⟨hq,fun b hb=>by
      rcases List.mem_cons.1 hb with rfl|hb
      ·exact hn1
      ·exact hn b hb⟩
theorem EI{w:Av}{i:Nat}{x:Pcs}(h:JE none w)(hx:w.procs[i]?=some x)(hw:x.waiting=true):L3 w x (Ag x.req.expr)∧JE none (A5 w i x)∧∀ q∈(A5 w i x).Aa,KF q x.proc (AF x.led.entries q.res.name)∨(q∈w.Aa∧∀ a∈Ag x.req.expr,q.res.name≠a.name):=by
 have hg:=h.good i x hx (by simp) hw;obtain⟨h1,h2,h3,h4⟩:=Kv (Ag x.req.expr) w h.tab hg.k hg.fd;refine⟨h1,?_,h4⟩;have hp:=Ht w x (Ag x.req.expr);exact JE.set (z:=x) ((h.but i).step hx hp h2) (by rw[hp];exact hx) rfl (fun e=>by simp[BV]at e)
theorem O0{i:Nat}{x:Pcs}:∀ (kl:List (Bool × Atom)) (w:Av) (z:Pcs),JE (some i) w→w.procs[i]?=some z→z.proc=x.proc→KX w.Aa x→(∀ p∈kl,∃ k,Cg w.Aa p.2.name=some k) →
 SI w i x kl∧JE (some i) (Dv w i x kl)
 |[],w,z,h,_,_,_,_=>⟨fun j p hp=>by simp at hp,h⟩
 |(kp,a)::kl,w,z,h,hz,hzp,hk,hf=>by
  have hfa:=hf (kp,a) (by simp);obtain⟨h1,h2,h3,_⟩:=P9 h.tab hk hfa;have key:JE (some i) (GW w i x kp a.name)∧(∃ z',(GW w i x kp a.name).procs[i]?=some z'∧z'.proc=x.proc)∧KX (GW w i x kp a.name).Aa x∧(GW w i x kp a.name).Aa.map (·.res)=w.Aa.map (·.res):=by
   unfold GW;cases kp
   ·simp only[Bool.not_false,if_true];have hp:=Ik w x a.name;exact⟨h.step hz hp (hzp▸h2),⟨z,by rw[hp];exact hz,hzp⟩,h3,h2.res⟩
   ·simp only[Bool.not_true,false_eq_true,if_false];have hg:w.procs.getD i x0=z:=by simp[List.getD,hz]
    obtain⟨k,hfk⟩:=hfa;rw[hfk,hg];simp only;split
    ·exact⟨h,⟨z,hz,hzp⟩,hk,rfl⟩
    ·refine⟨h.set' hz rfl,?_,hk,rfl⟩;simp only[AX];rw[List.getElem?_set_self (At hz)];exact⟨_,rfl,hzp⟩
  obtain⟨k1,⟨z',k2,k3⟩,k4,k5⟩:=key;obtain⟨g1,g2⟩:=O0 kl (GW w i x kp a.name) z' k1 k2 k3 k4 (fun p hp=>by rw[I3 k5];exact hf p (by simp[hp]));refine⟨fun j p hp=>?_,g2⟩;cases j with
  | zero =>
   simp at hp;subst hp;exact⟨fun _=>h1,fun _=>⟨Da h.tab,hfa⟩⟩
  | succ j=>exact g1 j p (by simpa using hp)
theorem JE.note{e:Option Nat}{w:Av}(h:JE e w)(k:Int)(p:Ae):JE e (Cb w k p):=⟨h.tab,h.n,h.uq,h.good⟩
theorem NA{w:Av}{i:Nat}{x:Pcs}(h:JE none w)(hx:w.procs[i]?=some x)(hw:x.waiting=true) :
 SI (Cb w 2 x.proc) i x ((DV x.req.expr (BI w.Aa x.proc x.req.expr)).zip (Ag x.req.expr))∧JE none (DC w i x):=by
 have hg:=h.good i x hx (by simp) hw;obtain⟨h1,h2⟩:=O0 ((DV x.req.expr (BI w.Aa x.proc x.req.expr)).zip (Ag x.req.expr)) (Cb w 2 x.proc) x ((h.but i).note 2 x.proc) hx rfl hg.k (fun p hp=>hg.fd p.2 (List.of_mem_zip hp).2);refine⟨h1,?_⟩;obtain⟨l',hl⟩:=Oc (w:=w) (i:=i) (x:=x) (z:=x) hx ((DV x.req.expr (BI w.Aa x.proc x.req.expr)).zip (Ag x.req.expr)) (Cb w 2 x.proc) ⟨x.led,(Nz hx).symm⟩;have hi:=At hx;have hz:(Dv (Cb w 2 x.proc) i x ((DV x.req.expr (BI w.Aa x.proc x.req.expr)).zip (Ag x.req.expr))).procs[i]?=some { x with led:=l' }:=by rw[hl];simp[hi]
 simp only[DC];generalize Dv (Cb w 2 x.proc) i x ((DV x.req.expr (BI w.Aa x.proc x.req.expr)).zip (Ag x.req.expr))=w1 at h2 hz ⊢;have e1:w1.procs.getD i x0 = { x with led:=l' }:=by simp[List.getD,hz]
 rw[e1];have h3:=JE.set (y:=BV { x with led:=l' }) h2 hz rfl (fun e=>by simp[BV]at e);have hi2:=At hz;have hz2:(AX w1 i (BV { x with led:=l' })).procs[i]?=some (BV { x with led:=l' }):=by simp[AX,hi2]
 have e2:(AX w1 i (BV { x with led:=l' })).procs.getD i x0=BV { x with led:=l' }:=by simp[List.getD,hz2]
 rw[e2];exact JE.set (h3.but i) hz2 rfl (fun e=>by simp[BV,CF]at e)
theorem JE.reqs{w:Av}(h:JE none w):SG w:=fun x hx hw=>by
 obtain⟨j,hj⟩:=List.getElem?_of_mem hx;exact(h.good j x hj (by simp) hw).ex
theorem JE.EM:HO (JE none) where
 few:=fun w h=>⟨Da h.tab,h.n,h.reqs⟩
 safe:=fun w i x h hs hx=>by
  obtain⟨y,hy,hsat⟩:=HJ hs;rw[hx]at hy;have:=Option.some.inj hy;subst this;exact(NA h hx (by simp only[Nt,and_eq_true]at hsat;exact hsat.1)).1
 next:=fun w i x h hs hx=>by
  obtain⟨y,hy,hsat⟩:=HJ hs;rw[hx]at hy;have:=Option.some.inj hy;subst this;exact(NA h hx (by simp only[Nt,and_eq_true]at hsat;exact hsat.1)).2
theorem JE.next{w:Av}{i:Nat}{x:Pcs}(h:JE none w)(hx:w.procs[i]?=some x):JE none (AX w i (CF x)) :=
 JE.set (h.but i) hx rfl fun hw=>by
  have:=h.good i x hx (by simp) hw;exact⟨this.ex,this.fd,this.k⟩
theorem JE.bX:YF (JE none) where
 toHO:=JE.EM
 ev:=fun w k p h=>h.note k p
 wd:=fun w i x h hx hw=>⟨(EI h hx hw).1,(EI h hx hw).2.1⟩
 nx:=fun w i x h hx=>h.next hx
structure Lost(w:Av):Prop where
 q:w.Aa=[]
 n:w.procs.length≤8
 rq:SG w
def Q4(w:Av):Prop:=JE none w∨Lost w
theorem XZ(l:List Atom)(set:List Bool)(h:∀ b∈set,b=false)(a:Atom):DD l set a=false:=by
 unfold DD;split
 ·rename_i i _;simp only[List.getD];cases hs:set[i]? with
  |none=>rfl
  |some b=>rw[h b (mG hs)];rfl
 ·rfl
theorem P4{has:Atom→Bool}:∀ (es:List Expr) (l:List Atom),(∀ e∈es,∀ l,(prop e l).1=true→DL has e=false)→(B5 es l).1=true→Ck has es=0
 |[],_,_,_=>by simp[Ck]
 | e::es,l,hk,h=>by
  simp only[B5]at h;split at h
  ·rename_i h1;have:=hk e (by simp) l h1;simp only[Ck,this,false_eq_true,if_false];rw[P4 es _ (fun e' he=>hk e' (by simp[he])) h];rfl
  ·cases h
theorem RM{has:Atom→Bool}(hh:∀ a,has a=false):∀ (N:Nat) (e:Expr),SizeOf.sizeOf e<N→∀ l:List Atom,(prop e l).1=true→DL has e=false
 | 0,_,h,_,_=>by omega
 | N+1,e,h,l,hp=>by
  rw[HC];rw[Dz]at hp
  by_cases h0:e.kids.length=0
  ·rw[if_pos h0];exact hh _
  ·rw[if_neg h0]at hp ⊢;split at hp
   ·cases hp
   ·rename_i hn;have hc:=P4 (has:=has) e.kids l (fun k hk l' hp'=>RM hh N k (by have:=CX hk;omega) l' hp') hp;rw[hc];simp only[not_or,Int.not_lt]at hn;have:=hn.1;simp only[decide_eq_false_iff_not];omega
theorem V0{p:Ae}{e:Expr}(h:A4 e=true):DR e (BI [] p e)=false:=by
 have hp:(prop e []).1=true:=by simp only[A4,and_eq_true]at h;exact h.2
 have hg:∀ b∈BI [] p e,b=false:=fun b hb=>by
  simp only[BI,mem_map]at hb;obtain⟨a,_,rfl⟩:=hb;rfl
 unfold DR;rw[RM (fun a=>XZ _ _ hg a) _ e (Nat.lt_succ_self _) [] hp];simp
theorem Lost.sat{w:Av}(h:Lost w):Ka w=none:=by
 unfold Ka;rw[List.findIdx?_eq_none_iff];intro x hx;unfold Nt;cases hw:x.waiting
 ·rfl
 ·rw[h.q,V0 (h.rq x hx hw)];rfl
theorem Lo:DZ []:=⟨by simp,by simp⟩
theorem Q4.EM:HO Q4 where
 few:=fun w h=>h.elim (fun h=>JE.EM.few w h) fun h=>⟨by rw[h.q];exact Lo,h.n,h.rq⟩
 safe:=fun w i x h hs hx=>h.elim (fun h=>JE.EM.safe w i x h hs hx) fun h=>by rw[h.sat]at hs;cases hs
 next:=fun w i x h hs hx=>h.elim (fun h=>.inl (JE.EM.next w i x h hs hx)) fun h=>by rw[h.sat]at hs;cases hs
theorem VL(p:Ae)(a:Atom)(prio:Int):(D6 [] p a prio).1=[]:=by
 unfold D6;split
 ·rfl
 ·rfl
theorem OM(p:Ae)(prio:Int):∀ (az:List Atom) (w:Av),w.Aa=[]→(CN w p prio az).Aa=[]∧TC w p prio az
 |[],w,h=>⟨h,fun i hi=>by simp at hi⟩
 | a::az,w,h=>by
  have h1:(FH w p a prio).Aa=[]:=by simp only[FH,CB];rw[h];exact VL p a prio
  obtain⟨g1,g2⟩:=OM p prio az (FH w p a prio) h1;refine⟨g1,fun i hi=>?_⟩;cases i with
  | zero=>show DZ w.Aa;rw[h];exact Lo
  | succ i=>exact g2 i (by simpa using hi)
theorem ML{i:Nat}{y:Pcs}{prio:Int}:∀ (az:List Atom) (w:Av),(az.map (·.name)).Nodup→JE (some i) w→w.procs[i]?=some y→KX w.Aa y→(∀ q∈w.Aa,(∃ a∈az,a.name=q.res.name)→AB q.holds y.proc=AF y.led.entries q.res.name) →
 TC w y.proc prio az∧((CN w y.proc prio az).Aa=[]∨(JE (some i) (CN w y.proc prio az)∧KX (CN w y.proc prio az).Aa y∧(CN w y.proc prio az).Aa.map (·.res)=w.Aa.map (·.res)))
 |[],w,_,h,_,hk,_=>⟨fun i hi=>by simp at hi,.inr ⟨h,hk,rfl⟩⟩
 | a::az,w,hu,h,hy,hk,hf=>by
  have hu':=List.nodup_cons.1 hu;have few0:=Da h.tab;rcases T3 (p:=y.proc) (a:=a) (prio:=prio) h.tab (fun n=>AF y.led.entries n) (fun q hq hn=>hf q hq ⟨a,by simp,hn.symm⟩) with hl|⟨k,q,q1,hfk,hq,hn,e1,hs,hr,hkq⟩
  ·have h1:(FH w y.proc a prio).Aa=[]:=hl;obtain⟨g1,g2⟩:=OM y.proc prio az (FH w y.proc a prio) h1;refine⟨fun j hj=>?_,.inl g1⟩;cases j with
   | zero=>exact few0
   | succ j=>exact g2 j (by simpa using hj)
  ·have eq1:(FH w y.proc a prio).Aa=w.Aa.set k q1:=e1;have hp1:(FH w y.proc a prio).procs=w.procs:=rfl;have hk1:KX (FH w y.proc a prio).Aa y:=fun q' hq'=>by
    rw[eq1]at hq';rcases El (q:=q) hq' with rfl|⟨j,_,hj⟩
    ·rw[hr];exact hkq
    ·exact hk q' (mG hj)
   have hs':FM y.proc w.Aa (FH w y.proc a prio).Aa:=by rw[eq1];exact hs
   obtain⟨g1,g2⟩:=ML az (FH w y.proc a prio) hu'.2 (h.step hy hp1 hs') (by rw[hp1];exact hy) hk1 (fun q' hq' hx=>by
    rw[eq1]at hq';rcases El (q:=q) hq' with rfl|⟨j,_,hj⟩
    ·exfalso;obtain⟨b,hb,e⟩:=hx;refine hu'.1 ?_;rw[mem_map];exact⟨b,hb,by rw[e,hr,hn]⟩
    ·obtain⟨b,hb,e⟩:=hx;exact hf q' (mG hj) ⟨b,by simp[hb],e⟩)
   refine⟨fun j hj=>?_,?_⟩
   ·cases j with
    | zero=>exact few0
    | succ j=>exact g1 j (by simpa using hj)
   ·rcases g2 with g2|⟨a1,a2,a3⟩
    ·exact .inl g2
    ·exact .inr ⟨a1,a2,a3.trans hs'.res⟩
def J9(l:List Atom):Prop:=(l.map (·.name)).Nodup
theorem Yg{l:List Atom}{a:Atom}(h:J9 l):J9 (EV l a).2:=by
 unfold EV;cases hf:l.find? (hit a) with
 |some b=>exact h
 |none =>
  simp only;split
  ·exact h
  ·unfold J9 at h ⊢;rw[List.map_append,List.nodup_append];refine⟨h,by simp,fun x hx y hy=>?_⟩;simp at hy;subst hy;rw[List.find?_eq_none]at hf;obtain⟨b,hb,rfl⟩:=mem_map.1 hx;have:=hf b hb;simp only[hit]at this;intro e;rw[e]at this;simp at this
theorem QN:∀ (es:List Expr) (l:List Atom),(∀ e∈es,∀ l,J9 l→J9 (prop e l).2)→J9 l→J9 (B5 es l).2
 |[],l,_,h=>by simpa [B5]using h
 | e::es,l,hk,h=>by
  simp only[B5];have h1:=hk e (by simp) l h;split
  ·exact QN es _ (fun e' he=>hk e' (by simp[he])) h1
  ·exact h1
theorem Sp:∀ (N:Nat) (e:Expr),SizeOf.sizeOf e<N→∀ l:List Atom,J9 l→J9 (prop e l).2
 | 0,_,h,_,_=>by omega
 | N+1,e,h,l,hu=>by
  rw[Dz];split
  ·split
   ·exact Yg hu
   ·exact hu
  ·split
   ·exact hu
   ·exact QN e.kids l (fun k hk l' hu'=>Sp N k (by have:=CX hk;omega) l' hu') hu
theorem TU(e:Expr):J9 (Ag e):=by
 unfold Ag;split
 ·rename_i h;have hp:(prop e []).1=true:=by simp only[A4,and_eq_true]at h;exact h.2
  rw[G1 _ e (Nat.lt_succ_self _) [] hp];exact Sp _ e (Nat.lt_succ_self _) [] (by simp[J9])
 ·simp[J9]
def Idle(t:List Queue)(x:Pcs):Prop:=∀ q∈t,KF q x.proc (AF x.led.entries q.res.name)
theorem TS{w:Av}{i:Nat}{x:Pcs}{r:Req}(h:JE none w)(hx:w.procs[i]?=some x)(hi:Idle w.Aa x)(he:A4 r.expr=true)(hf:∀ a∈Ag r.expr,∃ k,Cg w.Aa a.name=some k) :
 TC (AX w i (Kj w.now x r)) x.proc r.prio (Ag r.expr)∧Q4 (Q8 w i x r):=by
 have hli:=At hx;have h1:JE (some i) (AX w i (Kj w.now x r)):=(h.but i).set' hx rfl;have hy:(AX w i (Kj w.now x r)).procs[i]?=some (Kj w.now x r):=by simp[AX,hli]
 obtain⟨g1,g2⟩:=ML (prio:=r.prio) (Ag r.expr) (AX w i (Kj w.now x r)) (TU r.expr) h1 hy (fun q hq=>(hi q hq).k) (fun q hq _=>(hi q hq).2);refine⟨g1,?_⟩;have hp:(Q8 w i x r).procs=w.procs.set i (Kj w.now x r):=IF _ _ _ _;have hy2:(Q8 w i x r).procs[i]?=some (Kj w.now x r):=by rw[hp];simp[hli]
 rcases g2 with g2|⟨a1,a2,a3⟩
 ·refine .inr ⟨g2,by rw[hp];simpa using h.n,fun z hz hw=>?_⟩;rw[hp]at hz;rcases List.mem_or_eq_of_mem_set hz with hz|rfl
  ·exact h.reqs z hz hw
  ·exact he
 ·refine .inl ?_;have:=JE.set (y:=Kj w.now x r) a1 hy2 rfl (fun _=>⟨he,fun a ha=>by rw[I3 a3];exact hf a ha,a2⟩);have e:AX (Q8 w i x r) i (Kj w.now x r)=Q8 w i x r:=by
   unfold AX;rw[Nz hy2]
  unfold Q8 at e this ⊢;rw[← e];exact this
theorem Wa{t:List Queue}(p:Ae)(a:Atom)(h:EZ t):(Bi t p a).1=[]∨FM p t (Bi t p a).1:=by
 cases hf:Cg t a.name with
 |none=>left;simp[Bi,hf];split<;>rfl
 |some k =>
  obtain⟨hlt,q,hq,hn⟩:=Dk hf;have hg:t.getD k q0=q:=by simp[List.getD,hq]
  have hv:=h.val q (mG hq)
  by_cases h0:(BO q p a.amt).2.2=0
  ·right;have:(AB q.holds p).zero=false∧As q p=none∧q.res.covers (AB q.holds p) a.amt=true:=by
    revert h0;unfold BO;simp only[hv,Bool.not_true,false_eq_true,if_false];split
    ·intro h;simp at h
    split
    ·intro h;simp at h
    split
    ·intro h;simp at h
    rename_i h1 h2 h3;intro _;exact⟨by simpa using h1,FD (by simpa using h2),by simpa using h3⟩
   obtain⟨q1,e1,hs,_⟩:=KP h hf hq this.2.1 this.1 this.2.2;rw[e1];exact hs
  ·left;simp only[Bi,hf,hg];split
   ·rfl
   ·rw[if_pos (by simpa using h0)]
theorem Fp{a:Amt}(h:usable a=true):(Bf a.mode=true∧a.AA=0)∨(a.mode=0∧1≤a.AA∧a.AA≤8):=by
 unfold usable at h;rw[Bool.or_eq_true]at h;rcases h with h|h
 ·rcases(Ct h).2 with ⟨_,b,c⟩|⟨a,_⟩
  ·exact .inl ⟨b,c⟩
  ·exact absurd rfl a
 ·rcases(Ct h).2 with ⟨a,_⟩|⟨_,b,c,d,e⟩
  ·exact absurd a (by decide)
  ·exact .inr ⟨b,c,by omega⟩
theorem JQ{m:Int}(h:Bf m=true):m≠0:=by rcases AT h with rfl|rfl|rfl|rfl|rfl<;>decide
theorem SA{a:Amt}(h:usable a=true):a≠⟨0,0⟩:=by
 rintro rfl;rcases Fp h with ⟨h,_⟩|⟨_,h,_⟩
 ·exact JQ h rfl
 ·exact absurd h (by decide)
def Gr(a b:Amt):Prop:=a=⟨0,0⟩∨(usable a=true∧usable b=true∧((a.mode≠0∧Bd b.mode a.mode=true)∨(a.mode=0∧b.mode=0∧a.AA≤b.AA)))
theorem Gr.self{a:Amt}(h:a=⟨0,0⟩∨usable a=true):Gr a a:=by
 rcases h with h|h
 ·exact .inl h
 ·refine .inr ⟨h,h,?_⟩;rcases Fp h with ⟨h1,h2⟩|⟨h1,h2⟩
  ·exact .inl ⟨JQ h1,MS h1⟩
  ·exact .inr ⟨h1,h1,Int.le_refl _⟩
theorem Gr.trans{a b c:Amt}(h1:Gr a b)(h2:Gr b c):Gr a c:=by
 rcases h1 with h1|⟨ua,ub,h1⟩
 ·exact .inl h1
 ·rcases h2 with h2|⟨_,uc,h2⟩
  ·exact absurd h2 (SA ub)
  ·refine .inr ⟨ua,uc,?_⟩;rcases h1 with ⟨a1,a2⟩|⟨a1,a2,a3⟩
   ·rcases h2 with ⟨b1,b2⟩|⟨b1,_⟩
    ·exact .inl ⟨a1,Ra b2 a2⟩
    ·have:Bf b.mode=true:=by simp only[Bd,and_eq_true]at a2;exact a2.1.1
     exact absurd b1 (JQ this)
   ·rcases h2 with ⟨b1,_⟩|⟨b1,b2,b3⟩
    ·exact absurd a2 b1
    ·exact .inr ⟨a1,b2,by omega⟩
theorem Ql{a b:Amt}(h:Hc a b=true):usable b=true∧Gr a b:=by
 unfold Hc at h;split at h
 ·cases h
 rename_i h1;simp only[Bool.or_eq_true,Bool.not_eq_true',decide_eq_true_eq,not_or,Bool.not_eq_false]at h1;refine⟨h1.1,?_⟩;split at h
 ·rename_i h2;obtain⟨m,u⟩:=a;simp at h2;exact .inl (by simp[h2])
 rename_i h2;split at h
 ·cases h
 rename_i h3;have ua:usable a=true:=by simpa using h3
 refine .inr ⟨ua,h1.1,?_⟩;split at h
 ·rename_i h4;exact .inl ⟨by simpa using h4,h⟩
 ·rename_i h4;have h4:a.mode=0:=by simpa using h4
  have h5:a.AA<b.AA:=by simpa using h
  rcases Fp ua with ⟨m,_⟩|⟨_,m,_⟩
  ·exact absurd h4 (JQ m)
  ·rcases Fp h1.1 with ⟨_,n⟩|⟨n,_⟩
   ·omega
   ·exact .inr ⟨h4,n,by omega⟩
theorem XX{r:Res}{h a:Amt}(hf:r.fits h=true)(hg:Gr a h):r.covers h a=true:=by
 rcases hg with rfl|⟨ua,uh,hg⟩
 ·exact Ii hf
 ·obtain⟨hs,hc⟩:=Ct hf;rcases hc with ⟨k,m,u⟩|⟨k,m,u1,u2,u3⟩
  ·rcases hg with ⟨a1,a2⟩|⟨_,a2,_⟩
   ·have ma:Bf a.mode=true:=by simp only[Bd,and_eq_true]at a2;exact a2.1.2
    have ha:a.AA=0:=by
     rcases Fp ua with ⟨_,h⟩|⟨h,_⟩
     ·exact h
     ·exact absurd h a1
    have fa:r.fits a=true:=by simp[Res.fits,hs,k,ma,ha]
    rw[Ef hf fa,if_pos k];exact a2
   ·exact absurd a2 (JQ m)
  ·rcases hg with ⟨a1,a2⟩|⟨a1,a2,a3⟩
   ·have:Bf h.mode=true:=by simp only[Bd,and_eq_true]at a2;exact a2.1.1
    exact absurd m (JQ this)
   ·have h1:1≤a.AA:=by
     rcases Fp ua with ⟨h,_⟩|⟨_,h,_⟩
     ·exact absurd a1 (JQ h)
     ·exact h
    have fa:r.fits a=true:=by
     have hb:AL a.AA 1 r.AA=true:=by simp[AL];omega
     simp[Res.fits,hs,k,a1,hb]
    rw[Ef hf fa,if_neg k];simpa using a3
theorem JY{l:Ledger}(h:Bk l=true){i:Nat}{e:Entry}(he:l.entries[i]?=some e):e.before=AF (l.entries.take i) e.name∧Hc e.before e.after=true:=by
 simp only[Bk,and_eq_true]at h;have:=Rw h.1.1.2 he;simp only[Fw,and_eq_true,decide_eq_true_eq]at this;exact⟨this.1.2,this.2⟩
theorem S6{l:Ledger}(h:Bk l=true)(n:Bs):∀ i,i≤l.entries.length→AF (l.entries.take i) n=⟨0,0⟩∨usable (AF (l.entries.take i) n)=true
 | 0,_=>.inl rfl
 | i+1,hi=>by
  obtain⟨e,he⟩:∃ e,l.entries[i]?=some e:=⟨_,gE (by omega)⟩;rw[Eo he];split
  ·exact .inr (Ql (JY h he).2).1
  ·exact S6 h n i (by omega)
theorem WX{l:Ledger}(h:Bk l=true)(n:Bs)(i:Nat):∀ d,i+d≤l.entries.length→Gr (AF (l.entries.take i) n) (AF (l.entries.take (i+d)) n)
 | 0,hi=>Gr.self (S6 h n i hi)
 | d+1,hi=>by
  obtain⟨e,he⟩:∃ e,l.entries[i+d]?=some e:=⟨_,gE (by omega)⟩;have ih:=WX h n i d (by omega);rw[show i+(d+1)=i+d+1 from rfl,Eo he];split
  ·rename_i hn;have hn:e.name=n:=by simpa using hn
   obtain⟨h1,h2⟩:=JY h he;rw[hn]at h1;rw[h1]at h2;exact ih.trans (Ql h2).2
  ·exact ih
theorem X1{l:Ledger}(h:Bk l=true)(n:Bs)(i:Nat):Gr (AF (l.entries.take i) n) (AF l.entries n):=by
 rcases Nat.lt_or_ge i l.entries.length with hi|hi
 ·have:=WX h n i (l.entries.length-i) (by omega);rw[show i+(l.entries.length-i)=l.entries.length by omega,take_length]at this;exact this
 ·rw[List.take_of_length_le hi];have:=S6 h n l.entries.length (Nat.le_refl _);rw[take_length]at this;exact .self this
theorem R0{l:Ledger}(h:Bk l=true){n:Bs}:∀ i,i≤l.entries.length→(∃ e∈l.entries.take i,e.name=n)→usable (AF (l.entries.take i) n)=true
 | 0,_,⟨e,he,_⟩=>by simp at he
 | i+1,hi,⟨e,he,hn⟩=>by
  obtain⟨b,hb⟩:∃ b,l.entries[i]?=some b:=⟨_,gE (by omega)⟩;rw[Eo hb];split
  ·exact(Ql (JY h hb).2).1
  ·rename_i hne;refine R0 h i (by omega) ⟨e,?_,hn⟩;rw[take_add_one,hb]at he;simp only[toList_some,List.mem_append,List.mem_singleton]at he;rcases he with he|rfl
   ·exact he
   ·rw[hn]at hne;simp at hne
theorem ZC(l:List Bs)(n x:Bs):x∈S7 l n↔x∈l∨x=n:=by
 unfold S7;split
 ·rename_i h;exact⟨.inl,fun hx=>hx.elim id fun e=>e▸h⟩
 ·exact bc _ _ _ _
theorem Sc:∀ (ns l:List Bs) (x:Bs),x∈ns.foldl S7 l↔x∈l∨x∈ns
 |[],l,x=>by simp
 | n::ns,l,x=>by
  rw[foldl_cons,Sc ns,ZC];simp[or_assoc]
theorem QE(l:List Entry)(x:Bs):x∈De l↔∃ e∈l,e.name=x:=by
 unfold De;rw[Sc];simp
theorem Sd{l:Ledger}(h:Bk l=true){n:Bs}(hn:∃ e∈l.entries,e.name=n):(⟨n,AF l.entries n⟩:Atom)∈Fz l∧usable (AF l.entries n)=true:=by
 have hu:=R0 h (n:=n) l.entries.length (Nat.le_refl _) (by rw[take_length];exact hn);rw[take_length]at hu;refine⟨?_,hu⟩;unfold Fz;rw[List.mem_filterMap];refine⟨n,(QE _ _).2 hn,?_⟩;rw[if_neg ?_];intro hz;refine SA hu ?_;generalize AF l.entries n=a at hz;obtain⟨m,u⟩:=a;simp at hz;simp[hz]
theorem RZ{l:List Entry}{n:Bs}(h:¬ ∃ e∈l,e.name=n):AF l n=⟨0,0⟩:=by
 have:∀ (l:List Entry) (a:Amt),(¬ ∃ e∈l,e.name=n)→l.foldl (fun a e=>if e.name==n then e.after else a) a=a:=by
  intro l
  induction l with
  | nil=>intro a _;rfl
  | cons e l ih =>
   intro a hn;rw[foldl_cons,if_neg (by simpa using fun e'=>hn ⟨e,by simp,e'⟩)];exact ih a fun⟨e',h1,h2⟩=>hn ⟨e',by simp[h1],h2⟩
 exact this l _ h
def My(t:List Queue)(x:Pcs):Prop:=∀ n,(∃ e∈x.led.entries,e.name=n)→∃ k q,Cg t n=some k∧t[k]?=some q∧q.res.name=n∧q.res.fits (AF x.led.entries n)=true
def bO(t:List Queue)(x:Pcs)(a:Nat):Prop:=∀ q∈t,As q x.proc=none∧(AB q.holds x.proc=AF x.led.entries q.res.name∨AB q.holds x.proc=AF (x.led.entries.take a) q.res.name)
theorem My.res{t t':List Queue}{x:Pcs}(h:My t x)(hr:t'.map (·.res)=t.map (·.res)):My t' x:=fun n hn=>by
 obtain⟨k,q,h1,h2,h3,h4⟩:=h n hn;have:=congrArg (fun l=>l[k]?) hr;simp only[gm,h2,map_some]at this;cases h5:t'[k]? with
 |none=>rw[h5]at this;cases this
 |some q' =>
  rw[h5]at this;simp only[map_some,Option.some.injEq]at this;exact⟨k,q',(I3 hr n).trans h1,h5,by rw[this];exact h3,by rw[this];exact h4⟩
end Go.Rd
