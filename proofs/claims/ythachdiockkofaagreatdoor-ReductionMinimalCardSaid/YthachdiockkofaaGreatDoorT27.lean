/- part 27 of the proof -/
import Derived.Test.YthachdiockkofaaGreatDoorT26
set_option linter.all false
open Go Go.Abs Go.Proofs
set_option maxRecDepth 100000
namespace Go.Rd
set_option maxHeartbeats 8000000
open List (foldl_cons map_set mem_map set_set take_add_one take_length)
open Bool (and_eq_true false_eq_true)
open Option (map_some toList_some)
open Tryz
def E7(x:Pcs):Int:=IntKind.i64.wrap (x.since+x.req.limit)
def JF(now:Int)(b:Int × Int)(x:Pcs):Bool:=x.waiting&&(!decide (x.req.limit=0)&&(decide (E7 x≤now)&&(decide (b.1<0)||decide (E7 x<b.2))))
def Km(now:Int)(s:Nat × Int × Int)(x:Pcs):Nat × Int × Int:=(s.1+1,if JF now s.2 x then ((s.1:Int),E7 x) else s.2)
def IK(now:Int)(l:List Pcs):Nat × Int × Int:=l.foldl (Km now) (0,-1,0)
def NS(w:Work):Int:=(IK w.now w.procs).2.1
theorem ZB(now:Int)(l:List Pcs):(IK now l).1=l.length:=by
 have:∀ (l:List Pcs) (s:Nat × Int × Int),(l.foldl (Km now) s).1=s.1+l.length:=by
  intro l
  induction l with
  | nil=>intro s;rfl
  | cons a l ih=>intro s;rw[foldl_cons,ih];simp[Km];omega
 rw[IK,this];simp
theorem Qi(now:Int){l:List Pcs}{i:Nat}{b:Pcs}(hb:l[i]?=some b):(IK now (l.take (i+1))).2=if JF now (IK now (l.take i)).2 b then ((i:Int),E7 b) else (IK now (l.take i)).2:=by
 have hi:=Al hb
 have h1:=ZB now (l.take i)
 rw[take_add_one,hb]
 rw[List.length_take,Nat.min_eq_left (Nat.le_of_lt hi)]at h1
 simp only[IK,List.foldl_append,toList_some,foldl_cons,List.foldl_nil]at h1 ⊢
 show (if JF now (List.foldl (Km now) (0,-1,0) (List.take i l)).2 b then (((List.foldl (Km now) (0,-1,0) (List.take i l)).1:Int),E7 b) else (List.foldl (Km now) (0,-1,0) (List.take i l)).2)=_
 rw[h1]
 rfl
theorem ON(now:Int):IK now []=(0,-1,0):=rfl
theorem f181_ok(w:Work)(hp:w.procs.length≤1000000):Ac C0 181 [.ptr 63 0] [(63,w.c)] (I (NS w)) [(63,w.c)]:=by
 refine Ac.go f181 ?_
 unfold f181
 refine gO ?_
 refine Ab (α:=Nat) (fun i=>⟨[(5,I i),(4,I (IK w.now (w.procs.take i)).2.2),(3,I (IK w.now (w.procs.take i)).2.1),(0,.ptr 63 0)],[(63,w.c)]⟩) (fun i=>i≤(w.procs).length∧True) (fun i=>(w.procs).length-i) 0 ⟨by omega,trivial⟩ ?_ ?_
 ·refine Imp.weak ?_ ?_
  all_goals(try simp(disch:=omega)only[go_sem])
  all_goals(try(repeat'(with_reducible apply And.intro)))
  all_goals(first|exact .AA (by omega)|exact .Au (by omega)|exact .sl (by simp[ON])|exact .int (by simp[ON])|exact .eq (by simp[ON]))
 rintro i ⟨hi,hP⟩ J hJ
 refine gO ?_
 refine ⟨fun hlt=>?_,fun hge=>?_⟩
 rotate_left
 have hil:i=(w.procs).length:=by simp at hge;omega
 rotate_left
 obtain⟨b,hb⟩:∃ b,(w.procs)[i]?=some b:=⟨_,gE (by simp at hlt;omega)⟩
 have hbm:=mG hb
 have hlt2:i<(w.procs).length:=by simp at hlt;omega
 ·simp(disch:=omega)only[go_sem,gm,hb]
  have hsn:=Qi w.now hb
  generalize IK w.now (w.procs.take i)=s at hsn
  obtain⟨n,best,when⟩:=s
  simp only at hsn
  cases hw:b.waiting
  ·have hs2:(IK w.now (List.take (i+1) w.procs)).2=(best,when):=by rw[hsn,show JF w.now (best,when) b=false from by simp only[JF,hw]<;>rfl]<;>rfl
   refine Aj 33 [([],[6]),([],[25]),([],[26]),([],[6,27]),([],[28,27]),([],[29,27]),([],[30,27]),([],[27,31]),([],[32]),([],[6,33]),([],[34,33]),([],[6,33]),([],[36,33]),([],[37,33]),([],[35,38,33]),([],[0,33]),([],[40,33]),([],[41,33]),([],[42,33]),([],[43,33]),([],[39,44,33]),([],[33,45]),([],[46]),([],[3,47]),([],[48,47]),([],[49,47]),([],[6,50]),([],[51,50]),([],[6,50]),([],[53,50]),([],[54,50]),([],[52,55,50]),([],[4,50])] fol ?_
   simp(disch:=omega)only[go_sem,hw]
   refine hJ _ (i+1) ⟨by simp at hlt;omega,trivial⟩ (by simp at hlt;omega) (Imp.weak ?_ ?_)
   all_goals(try simp(disch:=omega)only[go_sem])
   all_goals(try(repeat'(with_reducible apply And.intro)))
   all_goals(first|exact .AA (by omega)|exact .Au (by omega)|exact .sl (by simp[hs2,E7])|exact .int (by simp[hs2,E7])|exact .eq (by simp[hs2,E7]))
  ·by_cases hl:b.req.limit=0
   ·have hl3:decide (b.req.limit=0)=true:=by simpa using hl
    have hs2:(IK w.now (List.take (i+1) w.procs)).2=(best,when):=by rw[hsn,show JF w.now (best,when) b=false from by simp only[JF,hw,hl3]<;>rfl]<;>rfl
    refine Aj 33 [([],[6]),([],[25]),([],[26]),([],[6,27]),([],[28,27]),([],[29,27]),([],[30,27]),([],[27,31]),([],[32]),([],[6,33]),([],[34,33]),([],[6,33]),([],[36,33]),([],[37,33]),([],[35,38,33]),([],[0,33]),([],[40,33]),([],[41,33]),([],[42,33]),([],[43,33]),([],[39,44,33]),([],[33,45]),([],[46]),([],[3,47]),([],[48,47]),([],[49,47]),([],[6,50]),([],[51,50]),([],[6,50]),([],[53,50]),([],[54,50]),([],[52,55,50]),([],[4,50])] fol ?_
    simp(disch:=omega)only[go_sem,hw,hl]
    refine hJ _ (i+1) ⟨by simp at hlt;omega,trivial⟩ (by simp at hlt;omega) (Imp.weak ?_ ?_)
    all_goals(try simp(disch:=omega)only[go_sem])
    all_goals(try(repeat'(with_reducible apply And.intro)))
    all_goals(first|exact .AA (by omega)|exact .Au (by omega)|exact .sl (by simp[hs2,E7])|exact .int (by simp[hs2,E7])|exact .eq (by simp[hs2,E7]))
   ·have hl':(b.req.limit !=0)=true:=by simpa using hl
    have hl2:decide (b.req.limit=0)=false:=by simpa using hl
    cases hd:decide (IntKind.i64.wrap (b.since+b.req.limit)≤w.now)
    ·have hd2:decide (E7 b≤w.now)=false:=hd
     have hs2:(IK w.now (List.take (i+1) w.procs)).2=(best,when):=by rw[hsn,show JF w.now (best,when) b=false from by simp only[JF,hw,hd2,hl2]<;>rfl]<;>rfl
     refine Aj 33 [([],[6]),([],[25]),([],[26]),([],[6,27]),([],[28,27]),([],[29,27]),([],[30,27]),([],[27,31]),([],[32]),([],[6,33]),([],[34,33]),([],[6,33]),([],[36,33]),([],[37,33]),([],[35,38,33]),([],[0,33]),([],[40,33]),([],[41,33]),([],[42,33]),([],[43,33]),([],[39,44,33]),([],[33,45]),([],[46]),([],[3,47]),([],[48,47]),([],[49,47]),([],[6,50]),([],[51,50]),([],[6,50]),([],[53,50]),([],[54,50]),([],[52,55,50]),([],[4,50])] fol ?_
     simp(disch:=omega)only[go_sem,hw,hl,hl',hd]
     refine hJ _ (i+1) ⟨by simp at hlt;omega,trivial⟩ (by simp at hlt;omega) (Imp.weak ?_ ?_)
     all_goals(try simp(disch:=omega)only[go_sem])
     all_goals(try(repeat'(with_reducible apply And.intro)))
     all_goals(first|exact .AA (by omega)|exact .Au (by omega)|exact .sl (by simp[hs2,E7])|exact .int (by simp[hs2,E7])|exact .eq (by simp[hs2,E7]))
    ·cases hn:decide (best<0)
     ·cases hq:decide (IntKind.i64.wrap (b.since+b.req.limit)<when)
      ·have hd2:decide (E7 b≤w.now)=true:=hd
       have hq2:decide (E7 b<when)=false:=hq
       have hs2:(IK w.now (List.take (i+1) w.procs)).2=(best,when):=by rw[hsn,show JF w.now (best,when) b=false from by simp only[JF,hw,hd2,hn,hq2,hl2]<;>rfl]<;>rfl
       refine Aj 33 [([],[6]),([],[25]),([],[26]),([],[6,27]),([],[28,27]),([],[29,27]),([],[30,27]),([],[27,31]),([],[32]),([],[6,33]),([],[34,33]),([],[6,33]),([],[36,33]),([],[37,33]),([],[35,38,33]),([],[0,33]),([],[40,33]),([],[41,33]),([],[42,33]),([],[43,33]),([],[39,44,33]),([],[33,45]),([],[46]),([],[3,47]),([],[48,47]),([],[49,47]),([],[6,50]),([],[51,50]),([],[6,50]),([],[53,50]),([],[54,50]),([],[52,55,50]),([],[4,50])] fol ?_
       simp(disch:=omega)only[go_sem,hw,hl,hl',hd,hn,hq]
       refine hJ _ (i+1) ⟨by simp at hlt;omega,trivial⟩ (by simp at hlt;omega) (Imp.weak ?_ ?_)
       all_goals(try simp(disch:=omega)only[go_sem])
       all_goals(try(repeat'(with_reducible apply And.intro)))
       all_goals(first|exact .AA (by omega)|exact .Au (by omega)|exact .sl (by simp[hs2,E7])|exact .int (by simp[hs2,E7])|exact .eq (by simp[hs2,E7]))
      ·have hd2:decide (E7 b≤w.now)=true:=hd
       have hq2:decide (E7 b<when)=true:=hq
       have hs2:(IK w.now (List.take (i+1) w.procs)).2=((i:Int),E7 b):=by rw[hsn,show JF w.now (best,when) b=true from by simp only[JF,hw,hd2,hn,hq2,hl2]<;>rfl]<;>rfl
       refine Aj 33 [([],[6]),([],[25]),([],[26]),([],[6,27]),([],[28,27]),([],[29,27]),([],[30,27]),([],[27,31]),([],[32]),([],[6,33]),([],[34,33]),([],[6,33]),([],[36,33]),([],[37,33]),([],[35,38,33]),([],[0,33]),([],[40,33]),([],[41,33]),([],[42,33]),([],[43,33]),([],[39,44,33]),([],[33,45]),([],[46]),([],[3,47]),([],[48,47]),([],[49,47]),([],[6,50]),([],[51,50]),([],[6,50]),([],[53,50]),([],[54,50]),([],[52,55,50]),([],[4,50])] fol ?_
       simp(disch:=omega)only[go_sem,hw,hl,hl',hd,hn,hq]
       refine Aj 8 [([],[5]),([],[6]),([],[62]),([],[6]),([],[64]),([],[65]),([],[63,66]),([],[61])] fol ?_
       simp(disch:=omega)only[go_sem,hw,hl,hl',hd,hn,hq]
       refine hJ _ (i+1) ⟨by simp at hlt;omega,trivial⟩ (by simp at hlt;omega) (Imp.weak ?_ ?_)
       all_goals(try simp(disch:=omega)only[go_sem])
       all_goals(try(repeat'(with_reducible apply And.intro)))
       all_goals(first|exact .AA (by omega)|exact .Au (by omega)|exact .sl (by simp[hs2,E7])|exact .int (by simp[hs2,E7])|exact .eq (by simp[hs2,E7]))
     ·have hd2:decide (E7 b≤w.now)=true:=hd
      have hs2:(IK w.now (List.take (i+1) w.procs)).2=((i:Int),E7 b):=by rw[hsn,show JF w.now (best,when) b=true from by simp only[JF,hw,hd2,hn,hl2]<;>rfl]<;>rfl
      refine Aj 33 [([],[6]),([],[25]),([],[26]),([],[6,27]),([],[28,27]),([],[29,27]),([],[30,27]),([],[27,31]),([],[32]),([],[6,33]),([],[34,33]),([],[6,33]),([],[36,33]),([],[37,33]),([],[35,38,33]),([],[0,33]),([],[40,33]),([],[41,33]),([],[42,33]),([],[43,33]),([],[39,44,33]),([],[33,45]),([],[46]),([],[3,47]),([],[48,47]),([],[49,47]),([],[6,50]),([],[51,50]),([],[6,50]),([],[53,50]),([],[54,50]),([],[52,55,50]),([],[4,50])] fol ?_
      simp(disch:=omega)only[go_sem,hw,hl,hl',hd,hn]
      refine Aj 8 [([],[5]),([],[6]),([],[62]),([],[6]),([],[64]),([],[65]),([],[63,66]),([],[61])] fol ?_
      simp(disch:=omega)only[go_sem,hw,hl,hl',hd,hn]
      refine hJ _ (i+1) ⟨by simp at hlt;omega,trivial⟩ (by simp at hlt;omega) (Imp.weak ?_ ?_)
      all_goals(try simp(disch:=omega)only[go_sem])
      all_goals(try(repeat'(with_reducible apply And.intro)))
      all_goals(first|exact .AA (by omega)|exact .Au (by omega)|exact .sl (by simp[hs2,E7])|exact .int (by simp[hs2,E7])|exact .eq (by simp[hs2,E7]))
 ·subst hil
  rw[take_length]
  refine BU ⟨[(0,0),(1,1)],[(63,63)],[]⟩ _ ?_ ?_
  ·simp(disch:=omega)only[go_sem,NS]
  ·exact gI
structure WA(Inv:Work→Prop):Prop extends G1 Inv where
 ev:∀ w k p,Inv w→Inv (BM w k p)
 wd:∀ w i x,Inv w→w.procs[i]?=some x→x.waiting=true→KW w x (Ag x.req.expr)∧Inv (AL w i x)
 nx:∀ w i x,Inv w→w.procs[i]?=some x→Inv (AH w i (Ch x))
theorem VM{now:Int}{b:Int × Int}{x:Pcs}(h:JF now b x=true):x.waiting=true:=by
 unfold JF at h
 simp only[and_eq_true]at h
 exact h.1
theorem Qj(now:Int)(l:List Pcs):∀ i,i≤l.length→(IK now (l.take i)).2.1 = -1∨∃ k x,(IK now (l.take i)).2.1=(k:Nat)∧l[k]?=some x∧x.waiting=true
 | 0,_=>.inl rfl
 | i+1,hi=>by
  obtain⟨b,hb⟩:∃ b,l[i]?=some b:=⟨_,gE (by omega)⟩
  rw[Qi now hb]
  split
  ·rename_i hc
   exact .inr ⟨i,b,rfl,hb,VM hc⟩
  ·exact Qj now l i (by omega)
theorem Kl(w:Work):NS w = -1∨∃ k x,NS w=(k:Nat)∧w.procs[k]?=some x∧x.waiting=true:=by
 have:=Qj w.now w.procs w.procs.length (Nat.le_refl _)
 rwa [take_length]at this
def DQ(w:Work)(i:Nat)(x:Pcs):Work :=
 let w1:=AL (BM w 4 x.proc) i x
 AH w1 i (Ch (w1.procs.getD i x0))
def JP:Nat→Work→Work
 | 0,w=>w
 | n+1,w=>match w.procs[(NS w).toNat]? with
  |none=>w
  |some x=>if NS w<0 then w else JP n (BC (DQ w (NS w).toNat x))
theorem KQ:∀ (n:Nat) (w:Work),(Fx n w).procs.length=w.procs.length∧wcount (Fx n w)≤wcount w
 | 0,w=>⟨rfl,Nat.le_refl _⟩
 | n+1,w=>by
  simp only[Fx]
  cases hs:J8 w with
  |none=>exact⟨rfl,Nat.le_refl _⟩
  |some i =>
   obtain⟨x,hx,hsat⟩:=It hs
   have hg:w.procs.getD i x0=x:=by simp[List.getD,hx]
   simp only[hg]
   obtain⟨h1,h2⟩:=KQ n (CZ w i x)
   obtain⟨y,h3,_⟩:=KP hx
   have h4:=(J9 hs hx hsat).2
   exact⟨by rw[h1,h3];simp,by omega⟩
theorem TC{Inv:Work→Prop}(hI:G1 Inv){w:Work}{i:Nat}{x:Pcs}(hw:Inv w)(hs:J8 w=some i)(hx:w.procs[i]?=some x):(CZ w i x).evs.length≤w.evs.length+1609:=by
 have hks:=hI.safe w i x hw hs hx
 have hal:=Ci x.req.expr
 have hz:=IS hks ((De x.req.expr (Bf w.queues x.proc x.req.expr)).zip (Ag x.req.expr)).length (Nat.le_refl _)
 rw[take_length]at hz
 have hzl:((De x.req.expr (Bf w.queues x.proc x.req.expr)).zip (Ag x.req.expr)).length≤8:=by rw[List.length_zip];omega
 have he2:(BM w 2 x.proc).evs.length=w.evs.length+1:=by simp[BM]
 simp only[CZ,AH]
 omega
theorem HJ{Inv:Work→Prop}(hI:G1 Inv):∀ (n:Nat) (w:Work),Inv w→Inv (Fx n w)∧(Fx n w).evs.length+1700*wcount (Fx n w)≤w.evs.length+1700*wcount w
 | 0,w,h=>⟨h,Nat.le_refl _⟩
 | n+1,w,h=>by
  simp only[Fx]
  cases hs:J8 w with
  |none=>exact⟨h,Nat.le_refl _⟩
  |some i =>
   obtain⟨x,hx,hsat⟩:=It hs
   have hg:w.procs.getD i x0=x:=by simp[List.getD,hx]
   simp only[hg]
   obtain⟨h1,h2⟩:=HJ hI n (CZ w i x) (hI.next w i x h hs hx)
   have h4:=(J9 hs hx hsat).2
   have h5:=TC hI h hs hx
   exact⟨h1,by omega⟩
theorem CJ(w:Work)(i:Nat)(x:Pcs):(AL w i x).procs=w.procs.set i (Bx x):=by simp[AL,AH,GH]
theorem HX{w:Work}{i:Nat}{x:Pcs}(h:KW w x (Ag x.req.expr)):(AL w i x).evs.length≤w.evs.length+1608:=by
 have hal:=Ci x.req.expr
 have:=K6 h _ (Nat.le_refl _)
 rw[take_length]at this
 simp only[AL,AH]
 omega
theorem O2{Inv:Work→Prop}(hI:WA Inv){w:Work}{i:Nat}{x:Pcs}(hw:Inv w)(hx:w.procs[i]?=some x)(hwt:x.waiting=true) :
 Inv (DQ w i x)∧DQ w i x=AH (AL (BM w 4 x.proc) i x) i (Ch (Bx x))∧wcount (DQ w i x)+1=wcount w∧(DQ w i x).evs.length≤w.evs.length+1609:=by
 have hi:=Al hx
 have hn:=hI.ev w 4 x.proc hw
 obtain⟨h1,h2⟩:=hI.wd (BM w 4 x.proc) i x hn hx hwt
 have hp:(AL (BM w 4 x.proc) i x).procs=w.procs.set i (Bx x):=CJ _ _ _
 have hg:(AL (BM w 4 x.proc) i x).procs[i]?=some (Bx x):=by rw[hp];simp[hi]
 have hl:DQ w i x=AH (AL (BM w 4 x.proc) i x) i (Ch (Bx x)):=by
  simp only[DQ]
  rw[show (AL (BM w 4 x.proc) i x).procs.getD i x0=Bx x by simp[List.getD,hg]]
 have hev:=HX (i:=i) h1
 have he2:(BM w 4 x.proc).evs.length=w.evs.length+1:=by simp[BM]
 refine⟨by rw[hl];exact hI.nx _ _ _ h2 hg,hl,?_,by rw[hl];simp only[AH];omega⟩
 rw[hl]
 have:(AH (AL (BM w 4 x.proc) i x) i (Ch (Bx x))).procs=w.procs.set i (Ch (Bx x)):=by simp[AH,hp]
 unfold wcount
 rw[this]
 exact countP_set (p:=(·.waiting)) (y:=Ch (Bx x)) rfl hx hwt
theorem HW(w:Work):wcount (BC w)≤wcount w:=(KQ _ w).2
theorem HO{w:Work}(h:wcount w=0):NS w = -1:=by
 rcases Kl w with h1|⟨k,x,_,h2,h3⟩
 ·exact h1
 ·exfalso
  unfold wcount at h
  rw[List.countP_eq_zero]at h
  exact h x (mG h2) h3
theorem E8{w:Work}(h:NS w = -1):∀ n,JP n w=w
 | 0=>rfl
 | n+1=>by
  simp only[JP,h]
  split<;>simp
theorem Lc{n:Nat}{w:Work}{k:Nat}{x:Pcs}(h:NS w=(k:Nat))(hx:w.procs[k]?=some x):JP (n+1) w=JP n (BC (DQ w k x)):=by
 simp only[JP,h,Int.toNat_natCast,hx]
 rw[if_neg (by omega)]
theorem LX(w:Work){i:Nat}{x:Pcs}(hx:w.procs[i]?=some x)(hwt:x.waiting=true):wcount (DQ w i x)+1=wcount w:=by
 have hi:=Al hx
 have hp:(AL (BM w 4 x.proc) i x).procs=w.procs.set i (Bx x):=CJ _ _ _
 have hg:(AL (BM w 4 x.proc) i x).procs[i]?=some (Bx x):=by rw[hp];simp[hi]
 have:(DQ w i x).procs=w.procs.set i (Ch (Bx x)):=by
  simp only[DQ]
  rw[show (AL (BM w 4 x.proc) i x).procs.getD i x0=Bx x by simp[List.getD,hg]]
  simp[AH,hp]
 unfold wcount
 rw[this]
 exact countP_set (p:=(·.waiting)) (y:=Ch (Bx x)) rfl hx hwt
theorem LY:∀ (n m:Nat) (w:Work),wcount w≤n→wcount w≤m→JP n w=JP m w
 | 0,m,w,h,_=>by rw[E8 (HO (by omega)),E8 (HO (by omega))]
 | n+1,0,w,_,h=>by rw[E8 (HO (by omega)),E8 (HO (by omega))]
 | n+1,m+1,w,h1,h2=>by
  rcases Kl w with h|⟨k,x,h,hx,hwt⟩
  ·rw[E8 h,E8 h]
  ·rw[Lc h hx,Lc h hx]
   have h3:=LX w hx hwt
   have h4:=HW (DQ w k x)
   exact LY n m _ (by omega) (by omega)
def NH(w:Work):Work:=JP (wcount w) w
theorem Ui{w:Work}{k:Nat}{x:Pcs}(h:NS w=(k:Nat))(hx:w.procs[k]?=some x)(hwt:x.waiting=true):NH w=NH (BC (DQ w k x)):=by
 have h3:=LX w hx hwt
 have h4:=HW (DQ w k x)
 unfold NH
 rw[← h3,Lc h hx]
 exact LY _ _ _ (by omega) (by omega)
def Iy(w:Work)(n:Int):Work × Int :=
 if decide (n<0)||decide (1000<n) then (w,1) else if decide (1073741824-n<w.now) then (w,16) else (NH { w with now:=w.now+n },0)
theorem f118_ok(Inv:Work→Prop)(hI:WA Inv)(w:Work)(n:Int)(hw:∀ t,Inv { w with now:=t })(hnow:0≤w.now)(hev:w.evs.length+3500*wcount w≤900000):Ac C0 118 [.ptr 63 0,I n] [(63,w.c)] (I (Iy w n).2) [(63,(Iy w n).1.c)]:=by
 refine Ac.go f118 ?_
 unfold f118
 refine gO ?_
 cases h1:decide (n<0)
 rotate_left
 ·have hn:n<0:=by simpa using h1
  have ht:Iy w n=(w,1):=by simp[Iy,hn]
  rw[ht]
  simp(disch:=omega)only[go_sem,h1]
  refine BU ⟨[(0,0),(1,1)],[(63,63)],[]⟩ _ ?_ ?_
  ·exact gI
  ·exact gI
 cases h2:decide (1000<n)
 rotate_left
 ·have hn:1000<n:=by simpa using h2
  have ht:Iy w n=(w,1):=by simp[Iy,hn]
  rw[ht]
  simp(disch:=omega)only[go_sem,h1,h2]
  refine BU ⟨[(0,0),(1,1)],[(63,63)],[]⟩ _ ?_ ?_
  ·exact gI
  ·exact gI
 have hn1:0≤n:=by simpa using h1
 have hn2:n≤1000:=by simpa using h2
 cases h3:decide (1073741824-n<w.now)
 rotate_left
 ·have hn:1073741824-n<w.now:=by simpa using h3
  have ht:Iy w n=(w,16):=by simp only[Iy,h1,h2,h3];rfl
  rw[ht]
  simp(disch:=omega)only[go_sem,h1,h2,h3]
  refine BU ⟨[(0,0),(1,1)],[(63,63)],[]⟩ _ ?_ ?_
  ·exact gI
  ·exact gI
 have hn3:w.now≤1073741824-n:=by simpa using h3
 have ht:Iy w n=(NH { w with now:=w.now+n },0):=by simp only[Iy,h1,h2,h3];rfl
 rw[ht]
 have hwn:=hw (w.now+n)
 simp(disch:=omega)only[go_sem,h1,h2,h3]
 have hev':({ w with now:=w.now+n }:Work).evs.length+3500*wcount { w with now:=w.now+n }≤900000:=hev
 have hp0:=(hI.few _ hwn).2.1
 refine call2 ⟨⟨[(0,0),(1,1)],[(63,63)],[]⟩,[],[]⟩ (f181_ok { w with now:=w.now+n } (Nat.le_trans hp0 (by decide))) ?_
 generalize ({ w with now:=w.now+n }:Work)=w0 at hwn hev' ⊢
 clear hp0
 refine gO ?_
 refine Ab (α:=Work) (fun w'=>⟨[(5,I (NS w')),(0,.ptr 63 0)],[(63,w'.c)]⟩) (fun w'=>Inv w'∧NH w'=NH w0∧w'.evs.length+3500*wcount w'≤900000) (fun w'=>wcount w') w0 ⟨hwn,rfl,hev'⟩ AE ?_
 clear hwn hev' hw hev hnow ht h1 h2 h3 hn1 hn2 hn3
 rintro w1 ⟨hw,hsw,hev⟩ J hJ
 obtain⟨hf,hp,hr⟩:=hI.few w1 hw
 rcases Kl w1 with hs|⟨o,x,hs,hx,hwt⟩
 ·simp(disch:=omega)only[go_sem,hs]
  rw[← hsw,show NH w1=w1 from E8 hs _]
  refine BU ⟨[(0,0),(1,1)],[(63,63)],[]⟩ _ ?_ ?_
  ·exact gI
  ·exact gI
 ·obtain⟨i1,i2,i3,i4⟩:=O2 hI hw hx hwt
  have hstep:=Ui hs hx hwt
  obtain⟨j1,j2⟩:Inv (BC (DQ w1 o x))∧(BC (DQ w1 o x)).evs.length+1700*wcount (BC (DQ w1 o x))≤(DQ w1 o x).evs.length+1700*wcount (DQ w1 o x):=HJ hI.toG1 (wcount (DQ w1 o x)) (DQ w1 o x) i1
  have j3:=HW (DQ w1 o x)
  have hn:=hI.ev w1 4 x.proc hw
  obtain⟨k1,k2⟩:=hI.wd (BM w1 4 x.proc) o x hn hx hwt
  have hi:=Al hx
  have hg:(AL (BM w1 4 x.proc) o x).procs[o]?=some (Bx x):=by rw[CJ];simp[BM,hi]
  have he2:(BM w1 4 x.proc).evs.length=w1.evs.length+1:=by simp[BM]
  simp(disch:=omega)only[go_sem,hs,eq_true (show (0:Int)≤(o:Int) by omega),decide_true,gm,hx]
  refine call2 ⟨⟨[(0,0),(1,1)],[(63,63)],[]⟩,[],[]⟩ (f182_ok w1 4 x.proc (by omega)) ?_
  refine gO ?_
  refine call2 ⟨⟨[(0,0),(1,1)],[(63,63)],[]⟩,[],[]⟩ (f120_ok (BM w1 4 x.proc) o x hx k1 (by omega)) ?_
  refine gO ?_
  refine call2 ⟨⟨[(0,0),(1,1)],[(63,63)],[]⟩,[],[]⟩ (f121_ok (AL (BM w1 4 x.proc) o x) o (Bx x) hg) ?_
  rw[← i2]
  refine gO ?_
  refine call2 ⟨⟨[(0,0),(1,1)],[(63,63)],[]⟩,[],[]⟩ (f122_ok Inv hI.toG1 (DQ w1 o x) i1 (by omega)) ?_
  refine gO ?_
  have hp4:=(hI.few _ j1).2.1
  refine call2 ⟨⟨[(0,0),(1,1)],[(63,63)],[]⟩,[],[]⟩ (f181_ok (BC (DQ w1 o x)) (Nat.le_trans hp4 (by decide))) ?_
  refine gO ?_
  exact hJ _ (BC (DQ w1 o x)) ⟨j1,hstep.symm.trans hsw,by omega⟩ (by omega) AE
def E6(w:Work)(p:Proc)(a:Atom)(prio:Int):Work:=Cc w (Ds w.queues p a prio).1 (Ds w.queues p a prio).2.1
def Co(w:Work)(p:Proc)(prio:Int)(az:List Atom):Work:=az.foldl (fun w a=>E6 w p a prio) w
theorem LD{w:Work}{p:Proc}{prio:Int}{az:List Atom}{i:Nat}{b:Atom}(hb:az[i]?=some b):Co w p prio (az.take (i+1))=E6 (Co w p prio (az.take i)) p b prio:=by
 simp[Co,take_add_one,hb,List.foldl_append]
def R3(w:Work)(p:Proc)(prio:Int)(az:List Atom):Prop:=∀ i,i<az.length→Di (Co w p prio (az.take i)).queues
theorem Jw{w:Work}{p:Proc}{prio:Int}{az:List Atom}(h:R3 w p prio az):∀ i,i≤az.length→(Co w p prio (az.take i)).evs.length≤w.evs.length+101*i
 | 0,_=>by simp[Co]
 | i+1,hi=>by
  obtain⟨b,hb⟩:∃ b,az[i]?=some b:=⟨_,gE (by omega)⟩
  have h1:=Jw h i (by omega)
  have h2:=Ow (h i (by omega)) p b prio
  rw[LD hb]
  simp only[E6,Cc,List.length_append]
  omega
theorem HQ(w:Work)(p:Proc)(prio:Int):∀ az:List Atom,(Co w p prio az).procs=w.procs
 |[]=>rfl
 | a::az=>HQ (E6 w p a prio) p prio az
theorem GZ(w:Work):wcount w≤w.procs.length:=List.countP_le_length
def Js(now:Int)(x:Pcs)(r:Req):Pcs:=Ch { x with waiting:=true,req:=r,since:=now }
def PH(w:Work)(i:Nat)(x:Pcs)(r:Req):Work:=Co (AH w i (Js w.now x r)) x.proc r.prio (Ag r.expr)
def Dx(w:Work)(i:Nat)(x:Pcs)(r:Req):Work × Int :=
 if x.waiting then (w,14) else if HH r then (if Cu (FA w.queues) r.expr=0 then (BC (PH w i x r),0) else (w,Cu (FA w.queues) r.expr)) else (w,1)
theorem f119_ok(Inv:Work→Prop)(hI:G1 Inv)(w:Work)(i:Nat)(x:Pcs)(r:Req)(hx:w.procs[i]?=some x)(hf:Di w.queues)
 (hc:x.waiting=false→HH r=true→Cu (FA w.queues) r.expr=0→R3 (AH w i (Js w.now x r)) x.proc r.prio (Ag r.expr)∧Inv (PH w i x r))
 (hp:w.procs.length≤8) (hev:w.evs.length≤500000) :
 Ac C0 119 [.ptr 63 0,I i,.agg r.c] [(63,w.c)] (I (Dx w i x r).2) [(63,(Dx w i x r).1.c)]:=by
 have hi:=Al hx
 have hal:=Ci r.expr
 have hn:=hf.n
 refine Ac.go f119 ?_
 unfold f119
 simp(disch:=omega)only[go_sem,gm,hx]
 cases h1:x.waiting
 rotate_left
 ·have ht:Dx w i x r=(w,14):=by simp[Dx,h1]
  rw[ht]
  simp(disch:=omega)only[go_sem,h1]
  refine BU ⟨[(0,0),(1,1)],[(63,63)],[]⟩ _ ?_ ?_
  ·exact gI
  ·exact gI
 simp(disch:=omega)only[go_sem,h1]
 refine Aa (f176_ok r) ?_
 cases h2:HH r
 ·have ht:Dx w i x r=(w,1):=by simp[Dx,h1,h2]
  rw[ht]
  simp(disch:=omega)only[go_sem,h2,Bool.not_false]
  refine BU ⟨[(0,0),(1,1)],[(63,63)],[]⟩ _ ?_ ?_
  ·exact gI
  ·exact gI
 simp(disch:=omega)only[go_sem,h2,Bool.not_true]
 refine Aj 8 [([],[0]),([],[25]),([],[26]),([],[27]),([],[28]),([],[29]),([],[5]),([],[31])] fol ?_
 simp(disch:=omega)only[go_sem]
 first|(refine Aa (f178_ok w.queues (by omega)) ?_)|(refine Ai (f178_ok w.queues (by omega)) ?_)
 simp(disch:=omega)only[go_sem]
 first|(refine Aa (f177_ok (FA w.queues) r.expr) ?_)|(refine Ai (f177_ok (FA w.queues) r.expr) ?_)
 refine gO ?_
 by_cases h3:Cu (FA w.queues) r.expr=0
 rotate_left
 ·have ht:Dx w i x r=(w,Cu (FA w.queues) r.expr):=by simp[Dx,h1,h2,h3]
  rw[ht]
  have h3':(Cu (FA w.queues) r.expr !=0)=true:=by simpa using h3
  simp(disch:=omega)only[go_sem,h3']
  refine BU ⟨[(0,0),(1,1)],[(63,63)],[]⟩ _ ?_ ?_
  ·exact gI
  ·exact gI
 obtain⟨c1,c2⟩:=hc h1 h2 h3
 have ht:Dx w i x r=(BC (PH w i x r),0):=by simp[Dx,h1,h2,h3]
 rw[ht]
 simp(disch:=omega)only[go_sem,h3,gm,hx]
 refine CP (st':=⟨[(5,.ptr 320 0),(0,.ptr 63 0),(1,I i)],[(320,r.c),(63,(AH w i { x with waiting:=true }).c)]⟩) (Imp.weak (by simp(disch:=omega)only[go_sem]) (by simp(disch:=omega)only[go_sem,AH];exact .sl (by rw[map_set];rfl))) ?_
 refine Aj 7 [([],[0]),([],[45]),([],[46]),([],[47]),([],[48]),([],[1]),([],[5])] fol ?_
 simp(disch:=omega)only[go_sem,AH,gm,List.getElem?_set,List.length_map,hi]
 refine CP (st':=⟨[(5,.ptr 320 0),(0,.ptr 63 0),(1,I i)],[(320,r.c),(63,(AH w i { x with waiting:=true,req:=r }).c)]⟩) (Imp.weak (by simp(disch:=omega)only[go_sem]) (by simp(disch:=omega)only[go_sem,AH];exact .sl (by simp only[map_set,set_set];rfl))) ?_
 refine Aj 11 [([],[0]),([],[54]),([],[55]),([],[56]),([],[57]),([],[1]),([],[0]),([],[60]),([],[61]),([],[62]),([],[63])] fol ?_
 simp(disch:=omega)only[go_sem,AH,gm,List.getElem?_set,List.length_map,hi]
 have hx3:(AH w i { x with waiting:=true,req:=r,since:=w.now }).procs[i]?=some { x with waiting:=true,req:=r,since:=w.now }:=by simp[AH,hi]
 refine call2 ⟨⟨[(0,0),(1,1)],[(63,63)],[]⟩,[],[]⟩ (f121_ok (AH w i { x with waiting:=true,req:=r,since:=w.now }) i _ hx3) ?_ (hh:=?_)
 rotate_left
 ·simp only[AH]
  refine gO ?_
  exact .sl (by simp only[map_set,set_set];rfl)
 have e3:AH (AH w i { x with waiting:=true,req:=r,since:=w.now }) i (Ch { x with waiting:=true,req:=r,since:=w.now })=AH w i (Js w.now x r):=by simp[AH,Js]
 rw[e3]
 have hev1:(AH w i (Js w.now x r)).evs.length=w.evs.length:=rfl
 have hx4:(AH w i (Js w.now x r)).procs[i]?=some (Js w.now x r):=by simp[AH,hi]
 unfold PH at c2 ⊢
 obtain⟨y,hy,hyp⟩:∃ y,y=Js w.now x r∧y.proc=x.proc:=⟨_,rfl,rfl⟩
 rw[← hy]at hx4 c1 c2 hev1 ⊢
 rw[← hyp]at c1 c2 ⊢
 generalize AH w i y=w4 at c1 c2 hev1 hx4 ⊢
 clear hx3 e3 ht hc h3 h2 h1
 refine gO ?_
 refine Aa (f93_ok r.expr) ?_
 obtain⟨o,rfl⟩:∃ o,o=i:=⟨i,rfl⟩
 generalize Ag r.expr=az at c1 c2 hal ⊢
 refine gO ?_
 refine Ab (α:=Nat) (fun i=>⟨[(9,I i),(8,Be az),(0,.ptr 63 0),(1,I o),(5,.ptr 320 0)],[(63,(Co w4 y.proc r.prio (az.take i)).c),(320,r.c)]⟩) (fun i=>i≤(az).length∧True) (fun i=>(az).length-i) 0 ⟨by omega,trivial⟩ ?_ ?_
 ·refine Imp.weak ?_ ?_
  all_goals(try simp(disch:=omega)only[go_sem])
  all_goals(try(repeat'(with_reducible apply And.intro)))
  all_goals(first|exact .AA (by omega)|exact .Au (by omega)|exact .sl (by simp[Co])|exact .int (by simp[Co])|exact .eq (by simp[Co]))
 rintro i ⟨hi,hP⟩ J hJ
 refine gO ?_
 refine ⟨fun hlt=>?_,fun hge=>?_⟩
 rotate_left
 have hil:i=(az).length:=by simp at hge;omega
 rotate_left
 obtain⟨b,hb⟩:∃ b,(az)[i]?=some b:=⟨_,gE (by simp at hlt;omega)⟩
 have hbm:=mG hb
 have hlt2:i<(az).length:=by simp at hlt;omega
 ·have g1:=Jw c1 i hi
  have g2:=Ow (c1 i hlt2) y.proc b r.prio
  have g3:(Co w4 y.proc r.prio (az.take i)).procs[o]?=some y:=by rw[HQ];exact hx4
  have g4:=LD (w:=w4) (p:=y.proc) (prio:=r.prio) hb
  have g5:=c1 i hlt2
  generalize Co w4 y.proc r.prio (az.take i)=w5 at g1 g2 g3 g4 g5 ⊢
  refine Aj 27 [([],[0]),([],[80]),([],[81]),([],[82]),([],[83]),([],[0]),([],[85]),([],[86]),([],[87]),([],[88]),([],[1]),([],[89,90]),([],[91]),([],[92]),([],[8]),([],[9]),([],[94,95]),([],[96]),([],[5]),([],[98]),([],[84,93,97,99]),([20],[100]),([20],[79]),([20],[79]),([20],[79]),([20],[101]),([20],[102])] fol ?_
  simp(disch:=omega)only[go_sem,gm,hb,g3]
  first|(refine Aa (f183_ok w5.queues y.proc b r.prio g5) ?_)|(refine Ai (f183_ok w5.queues y.proc b r.prio g5) ?_)
  refine gO ?_
  refine call2 ⟨⟨[(0,0),(1,1)],[(63,63)],[]⟩,[],[]⟩ (f184_ok w5 (Ds w5.queues y.proc b r.prio).1 (Ds w5.queues y.proc b r.prio).2.1 (by omega)) ?_
  refine gO ?_
  refine hJ _ (i+1) ⟨by omega,trivial⟩ (by omega) (Imp.weak ?_ ?_)
  ·exact gI
  ·rw[g4]
   unfold E6
   simp(disch:=omega)only[go_sem]
 ·subst hil
  rw[take_length]
  have g1:=Jw c1 _ (Nat.le_refl _)
  rw[take_length]at g1
  obtain⟨k1,k2,k3⟩:=hI.few _ c2
  have k4:=GZ (Co w4 y.proc r.prio az)
  refine call2 ⟨⟨[(0,0),(1,1)],[(63,63)],[]⟩,[],[]⟩ (f122_ok Inv hI (Co w4 y.proc r.prio az) c2 (by omega)) ?_
  refine gO ?_
  refine BU ⟨[(0,0),(1,1)],[(63,63)],[]⟩ _ ?_ ?_
  ·exact gI
  ·exact gI
def KX(t:List Queue)(x:Pcs):Prop:=∀ q∈t,Kq q x.proc (Ar x.led.entries q.res.name)
def KF(q:Queue)(p:Proc)(l:Amt):Prop:=Ao q p=none∧Ap q.holds p=l
theorem KF.k{q:Queue}{p:Proc}{l:Amt}(h:KF q p l):Kq q p l:=⟨fun hh=>by rw[h.1]at hh;simp at hh,.inl h.2⟩
structure Good(t:List Queue)(x:Pcs):Prop where
 ex:AQ x.req.expr=true
 fd:∀ a∈Ag x.req.expr,∃ k,BR t a.name=some k
 k:KX t x
theorem Good.step{p:Proc}{t t':List Queue}{x:Pcs}(h:Good t x)(hs:Fa p t t')(hp:x.proc≠p):Good t' x :=
 ⟨h.ex,fun a ha=>by rw[Ib hs.res];exact h.fd a ha,hs.other x.proc hp (fun n=>Ar x.led.entries n) h.k⟩
structure JE(e:Option Nat)(w:Work):Prop where
 tab:Ej w.queues
 n:w.procs.length≤8
 uq:∀ (i j:Nat) (x y:Pcs),w.procs[i]?=some x→w.procs[j]?=some y→x.proc=y.proc→i=j
 good:∀ (j:Nat) (x:Pcs),w.procs[j]?=some x→some j≠e→x.waiting=true→Good w.queues x
theorem JE.but{w:Work}(h:JE none w)(i:Nat):JE (some i) w:=⟨h.tab,h.n,h.uq,fun j x hj _ hw=>h.good j x hj (by simp) hw⟩
theorem JE.step{i:Nat}{w w':Work}{z:Pcs}(h:JE (some i) w)(hz:w.procs[i]?=some z)(hp:w'.procs=w.procs)(hs:Fa z.proc w.queues w'.queues):JE (some i) w' where
 tab:=hs.tab
 n:=by rw[hp];exact h.n
 uq:=by rw[hp];exact h.uq
 good:=fun j x hj hne hw=>by
  rw[hp]at hj
  refine(h.good j x hj hne hw).step hs fun e=>hne ?_
  rw[h.uq j i x z hj hz e]
theorem JE.set{i:Nat}{w:Work}{z y:Pcs}(h:JE (some i) w)(hz:w.procs[i]?=some z)(hy:y.proc=z.proc)(hg:y.waiting=true→Good w.queues y):JE none (AH w i y) where
 tab:=h.tab
 n:=by simp only[AH,List.length_set];exact h.n
 uq:=fun a b u v ha hb e=>by
  have key:∀ (c:Nat) (u:Pcs),(w.procs.set i y)[c]?=some u→∃ u',w.procs[c]?=some u'∧u'.proc=u.proc:=fun c u hc=>by
   rw[List.getElem?_set]at hc
   split at hc
   ·rename_i e;subst e
    split at hc
    ·exact⟨z,hz,by rw[← hy,Option.some.inj hc]⟩
    ·cases hc
   ·exact⟨u,hc,rfl⟩
  obtain⟨u',h1,h2⟩:=key a u ha
  obtain⟨v',h3,h4⟩:=key b v hb
  exact h.uq a b u' v' h1 h3 (by rw[h2,h4,e])
 good:=fun j x hj _ hw=>by
  simp only[AH]at hj
  rw[List.getElem?_set]at hj
  split at hj
  ·split at hj
   ·have:=Option.some.inj hj
    subst this
    exact hg hw
   ·cases hj
  ·rename_i hne
   exact h.good j x hj (fun e=>hne (Option.some.inj e).symm) hw
theorem JE.set'{i:Nat}{w:Work}{z y:Pcs}(h:JE (some i) w)(hz:w.procs[i]?=some z)(hy:y.proc=z.proc):JE (some i) (AH w i y):=by
 have h1:=JE.set (y:={ y with waiting:=false }) h hz hy (fun e=>by simp at e)
 refine⟨h.tab,by simp only[AH,List.length_set];exact h.n,fun a b u v ha hb e=>?_,fun j x hj hne hw=>?_⟩
 ·have key:∀ (c:Nat) (u:Pcs),(w.procs.set i y)[c]?=some u→∃ u',w.procs[c]?=some u'∧u'.proc=u.proc:=fun c u hc=>by
   rw[List.getElem?_set]at hc
   split at hc
   ·rename_i e;subst e
    split at hc
    ·exact⟨z,hz,by rw[← hy,Option.some.inj hc]⟩
    ·cases hc
   ·exact⟨u,hc,rfl⟩
  obtain⟨u',h1,h2⟩:=key a u ha
  obtain⟨v',h3,h4⟩:=key b v hb
  exact h.uq a b u' v' h1 h3 (by rw[h2,h4,e])
 ·simp only[AH]at hj
  rw[List.getElem?_set]at hj
  split at hj
  ·rename_i e;subst e;exact absurd rfl hne
  ·exact h.good j x hj hne hw
theorem OI{w:Work}{x:Pcs}{name:Bs}(h:Ej w.queues)(hk:KX w.queues x)(hf:∃ k,BR w.queues name=some k) :
 Oe w x name∧Fa x.proc w.queues (EV w x name).queues∧KX (EV w x name).queues x∧∀ q∈(EV w x name).queues,KF q x.proc (Ar x.led.entries q.res.name)∨(q∈w.queues∧q.res.name≠name):=by
 obtain⟨k,hf⟩:=hf
 obtain⟨hlt,q,hq,hn⟩:=CK hf
 have hg:w.queues.getD k q0=q:=by simp[List.getD,hq]
 have hqm:=mG hq
 have hkq:=hk q hqm
 have fin:∀ q1:Queue,q1.res=q.res→KF q1 x.proc (Ar x.led.entries name)→Fa x.proc w.queues (w.queues.set k q1) →
  KX (w.queues.set k q1) x∧∀ q'∈w.queues.set k q1,KF q' x.proc (Ar x.led.entries q'.res.name)∨(q'∈w.queues∧q'.res.name≠name):=by
  intro q1 hr hkf hs
  have e1:q1.res.name=name:=by rw[hr,hn]
  refine⟨fun q' hq'=>?_,fun q' hq'=>?_⟩
  ·rcases DE (q:=q) hq' with rfl|⟨j,_,hj⟩
   ·rw[e1];exact hkf.k
   ·exact hk q' (mG hj)
  ·rcases DE (q:=q) hq' with rfl|⟨j,_,hj⟩
   ·exact .inl (by rw[e1];exact hkf)
   ·rename_i hji
    exact .inr ⟨mG hj,fun e=>hji (JU h hj hq (e.trans hn.symm))⟩
 cases hw:(Ao q x.proc).isSome
 ·have eA:D8 w x name k=w:=by simp only[D8,hg,hw];rfl
  have hsafe:Oe w x name:=⟨k,hf,CG h,by rw[eA];exact hlt,by rw[eA];exact CG h⟩
  have hwn:=E2 hw
  have eK:EV w x name=LL w x name k:=by unfold EV;rw[hf];simp only[eA]
  rw[eK]
  unfold LL
  rw[hg]
  by_cases hl:Ap q.holds x.proc=Ar x.led.entries name
  ·simp only[hl,decide_true,if_true]
   refine⟨hsafe,.refl h,hk,fun q' hq'=>?_⟩
   by_cases e:q'.res.name=name
   ·obtain⟨j,hj⟩:=List.getElem?_of_mem hq'
    have:=JU h hj hq (e.trans hn.symm)
    subst this
    rw[hq]at hj
    have:=Option.some.inj hj
    subst this
    exact .inl ⟨hwn,by rw[hn];exact hl⟩
   ·exact .inr ⟨hq',e⟩
  ·simp only[hl,decide_false,false_eq_true,if_false]
   rw[hn]at hkq
   obtain⟨hz,hc⟩:=hkq.2.resolve_left hl
   obtain⟨q1,e1,hs,hr,h1,h2⟩:=JT (a:=⟨name,Ar x.led.entries name⟩) h hf hq hwn hz hc
   simp only[Cc]
   rw[e1]
   exact⟨hsafe,hs,fin q1 hr ⟨h1,h2⟩ hs⟩
 ·obtain⟨q1,e1,hs,hr,h1,h2⟩:=Ro h hf hq hw
  have hl:=hkq.1 hw
  rw[hn]at hl
  have eA:D8 w x name k=Cc w (w.queues.set k q1) (Cn w.queues x.proc name).2.1:=by simp only[D8,hg,hw,if_true,e1]
  have hsafe:Oe w x name:=⟨k,hf,CG h,by rw[eA];simpa [Cc]using hlt,by rw[eA];exact CG hs.tab⟩
  have eK:EV w x name=D8 w x name k:=by
   unfold EV
   rw[hf]
   simp only
   unfold LL
   rw[eA]
   have:(Cc w (w.queues.set k q1) (Cn w.queues x.proc name).2.1).queues.getD k q0=q1:=by simp[Cc,List.getD,hlt]
   rw[this,h2,hl]
   simp
  rw[eK,eA]
  exact⟨hsafe,hs,fin q1 hr ⟨h1,h2.trans hl⟩ hs⟩
theorem JC{x:Pcs}:∀ (az:List Atom) (w:Work),Ej w.queues→KX w.queues x→(∀ a∈az,∃ k,BR w.queues a.name=some k) →
 KW w x az∧Fa x.proc w.queues (DH w x az).queues∧KX (DH w x az).queues x∧∀ q∈(DH w x az).queues,KF q x.proc (Ar x.led.entries q.res.name)∨(q∈w.queues∧∀ a∈az,q.res.name≠a.name)
 |[],w,h,hk,_=>⟨fun i b hb=>by simp at hb,.refl h,hk,fun q hq=>.inr ⟨hq,fun a ha=>by cases ha⟩⟩
 | a::az,w,h,hk,hf=>by
  obtain⟨h1,h2,h3,h4⟩:=OI h hk (hf a (by simp))
  obtain⟨g1,g2,g3,g4⟩:=JC az (EV w x a.name) h2.tab h3 (fun b hb=>by rw[Ib h2.res];exact hf b (by simp[hb]))
  refine⟨fun i b hb=>?_,h2.trans g2,g3,fun q hq=>?_⟩
  ·cases i with
   | zero =>
    simp at hb
    subst hb
    exact h1
   | succ i=>exact g1 i b (by simpa using hb)
  ·rcases g4 q hq with hkf|⟨hq,hn⟩
   ·exact .inl hkf
   ·rcases h4 q hq with hkf|⟨hq,hn1⟩
    ·exact .inl hkf
    ·exact .inr ⟨hq,fun b hb=>by
      rcases List.mem_cons.1 hb with rfl|hb
      ·exact hn1
      ·exact hn b hb⟩
theorem D1{w:Work}{i:Nat}{x:Pcs}(h:JE none w)(hx:w.procs[i]?=some x)(hw:x.waiting=true):KW w x (Ag x.req.expr)∧JE none (AL w i x)∧∀ q∈(AL w i x).queues,KF q x.proc (Ar x.led.entries q.res.name)∨(q∈w.queues∧∀ a∈Ag x.req.expr,q.res.name≠a.name):=by
 have hg:=h.good i x hx (by simp) hw
 obtain⟨h1,h2,h3,h4⟩:=JC (Ag x.req.expr) w h.tab hg.k hg.fd
 refine⟨h1,?_,h4⟩
 have hp:=GH w x (Ag x.req.expr)
 exact JE.set (z:=x) ((h.but i).step hx hp h2) (by rw[hp];exact hx) rfl (fun e=>by simp[Bx]at e)
theorem ND{i:Nat}{x:Pcs}:∀ (kl:List (Bool × Atom)) (w:Work) (z:Pcs),JE (some i) w→w.procs[i]?=some z→z.proc=x.proc→KX w.queues x→(∀ p∈kl,∃ k,BR w.queues p.2.name=some k) →
 Rh w i x kl∧JE (some i) (CT w i x kl)
 |[],w,z,h,_,_,_,_=>⟨fun j p hp=>by simp at hp,h⟩
 |(kp,a)::kl,w,z,h,hz,hzp,hk,hf=>by
  have hfa:=hf (kp,a) (by simp)
  obtain⟨h1,h2,h3,_⟩:=OI h.tab hk hfa
  have key:JE (some i) (Gc w i x kp a.name)∧(∃ z',(Gc w i x kp a.name).procs[i]?=some z'∧z'.proc=x.proc)∧KX (Gc w i x kp a.name).queues x∧(Gc w i x kp a.name).queues.map (·.res)=w.queues.map (·.res):=by
   unfold Gc
   cases kp
   ·simp only[Bool.not_false,if_true]
    have hp:=Hv w x a.name
    exact⟨h.step hz hp (hzp▸h2),⟨z,by rw[hp];exact hz,hzp⟩,h3,h2.res⟩
   ·simp only[Bool.not_true,false_eq_true,if_false]
    have hg:w.procs.getD i x0=z:=by simp[List.getD,hz]
    obtain⟨k,hfk⟩:=hfa
    rw[hfk,hg]
    simp only
    split
    ·exact⟨h,⟨z,hz,hzp⟩,hk,rfl⟩
    ·refine⟨h.set' hz rfl,?_,hk,rfl⟩
     simp only[AH]
     rw[List.getElem?_set_self (Al hz)]
     exact⟨_,rfl,hzp⟩
  obtain⟨k1,⟨z',k2,k3⟩,k4,k5⟩:=key
  obtain⟨g1,g2⟩:=ND kl (Gc w i x kp a.name) z' k1 k2 k3 k4 (fun p hp=>by rw[Ib k5];exact hf p (by simp[hp]))
  refine⟨fun j p hp=>?_,g2⟩
  cases j with
  | zero =>
   simp at hp
   subst hp
   exact⟨fun _=>h1,fun _=>⟨CG h.tab,hfa⟩⟩
  | succ j=>exact g1 j p (by simpa using hp)
theorem JE.note{e:Option Nat}{w:Work}(h:JE e w)(k:Int)(p:Proc):JE e (BM w k p):=⟨h.tab,h.n,h.uq,h.good⟩
theorem Mj{w:Work}{i:Nat}{x:Pcs}(h:JE none w)(hx:w.procs[i]?=some x)(hw:x.waiting=true) :
 Rh (BM w 2 x.proc) i x ((De x.req.expr (Bf w.queues x.proc x.req.expr)).zip (Ag x.req.expr))∧JE none (CZ w i x):=by
 have hg:=h.good i x hx (by simp) hw
 obtain⟨h1,h2⟩:=ND ((De x.req.expr (Bf w.queues x.proc x.req.expr)).zip (Ag x.req.expr)) (BM w 2 x.proc) x ((h.but i).note 2 x.proc) hx rfl hg.k (fun p hp=>hg.fd p.2 (List.of_mem_zip hp).2)
 refine⟨h1,?_⟩
 obtain⟨l',hl⟩:=MR (w:=w) (i:=i) (x:=x) (z:=x) hx ((De x.req.expr (Bf w.queues x.proc x.req.expr)).zip (Ag x.req.expr)) (BM w 2 x.proc) ⟨x.led,(Mi hx).symm⟩
 have hi:=Al hx
 have hz:(CT (BM w 2 x.proc) i x ((De x.req.expr (Bf w.queues x.proc x.req.expr)).zip (Ag x.req.expr))).procs[i]?=some { x with led:=l' }:=by rw[hl];simp[hi]
 simp only[CZ]
 generalize CT (BM w 2 x.proc) i x ((De x.req.expr (Bf w.queues x.proc x.req.expr)).zip (Ag x.req.expr))=w1 at h2 hz ⊢
 have e1:w1.procs.getD i x0 = { x with led:=l' }:=by simp[List.getD,hz]
 rw[e1]
 have h3:=JE.set (y:=Bx { x with led:=l' }) h2 hz rfl (fun e=>by simp[Bx]at e)
 have hi2:=Al hz
 have hz2:(AH w1 i (Bx { x with led:=l' })).procs[i]?=some (Bx { x with led:=l' }):=by simp[AH,hi2]
 have e2:(AH w1 i (Bx { x with led:=l' })).procs.getD i x0=Bx { x with led:=l' }:=by simp[List.getD,hz2]
 rw[e2]
 exact JE.set (h3.but i) hz2 rfl (fun e=>by simp[Bx,Ch]at e)
theorem JE.reqs{w:Work}(h:JE none w):Rf w:=fun x hx hw=>by
 obtain⟨j,hj⟩:=List.getElem?_of_mem hx
 exact(h.good j x hj (by simp) hw).ex
theorem JE.D4:G1 (JE none) where
 few:=fun w h=>⟨CG h.tab,h.n,h.reqs⟩
 safe:=fun w i x h hs hx=>by
  obtain⟨y,hy,hsat⟩:=It hs
  rw[hx]at hy
  have:=Option.some.inj hy
  subst this
  exact(Mj h hx (by simp only[Md,and_eq_true]at hsat;exact hsat.1)).1
 next:=fun w i x h hs hx=>by
  obtain⟨y,hy,hsat⟩:=It hs
  rw[hx]at hy
  have:=Option.some.inj hy
  subst this
  exact(Mj h hx (by simp only[Md,and_eq_true]at hsat;exact hsat.1)).2
theorem JE.next{w:Work}{i:Nat}{x:Pcs}(h:JE none w)(hx:w.procs[i]?=some x):JE none (AH w i (Ch x)) :=
 JE.set (h.but i) hx rfl fun hw=>by
  have:=h.good i x hx (by simp) hw
  exact⟨this.ex,this.fd,this.k⟩
theorem JE.Zb:WA (JE none) where
 toG1:=JE.D4
 ev:=fun w k p h=>h.note k p
 wd:=fun w i x h hx hw=>⟨(D1 h hx hw).1,(D1 h hx hw).2.1⟩
 nx:=fun w i x h hx=>h.next hx
structure Lost(w:Work):Prop where
 q:w.queues=[]
 n:w.procs.length≤8
 rq:Rf w
def PD(w:Work):Prop:=JE none w∨Lost w
theorem VZ(l:List Atom)(set:List Bool)(h:∀ b∈set,b=false)(a:Atom):Dc l set a=false:=by
 unfold Dc
 split
 ·rename_i i _
  simp only[List.getD]
  cases hs:set[i]? with
  |none=>rfl
  |some b=>rw[h b (mG hs)];rfl
 ·rfl
theorem OA{has:Atom→Bool}:∀ (es:List Expr) (l:List Atom),(∀ e∈es,∀ l,(prop e l).1=true→DO has e=false)→(BS es l).1=true→Cd has es=0
 |[],_,_,_=>by simp[Cd]
 | e::es,l,hk,h=>by
  simp only[BS]at h
  split at h
  ·rename_i h1
   have:=hk e (by simp) l h1
   simp only[Cd,this,false_eq_true,if_false]
   rw[OA es _ (fun e' he=>hk e' (by simp[he])) h]
   rfl
  ·cases h
theorem Qh{has:Atom→Bool}(hh:∀ a,has a=false):∀ (N:Nat) (e:Expr),SizeOf.sizeOf e<N→∀ l:List Atom,(prop e l).1=true→DO has e=false
 | 0,_,h,_,_=>by omega
 | N+1,e,h,l,hp=>by
  rw[H8]
  rw[Db]at hp
  by_cases h0:e.kids.length=0
  ·rw[if_pos h0];exact hh _
  ·rw[if_neg h0]at hp ⊢
   split at hp
   ·cases hp
   ·rename_i hn
    have hc:=OA (has:=has) e.kids l (fun k hk l' hp'=>Qh hh N k (by have:=C4 hk;omega) l' hp') hp
    rw[hc]
    simp only[not_or,Int.not_lt]at hn
    have:=hn.1
    simp only[decide_eq_false_iff_not]
    omega
theorem Uc{p:Proc}{e:Expr}(h:AQ e=true):D2 e (Bf [] p e)=false:=by
 have hp:(prop e []).1=true:=by simp only[AQ,and_eq_true]at h;exact h.2
 have hg:∀ b∈Bf [] p e,b=false:=fun b hb=>by
  simp only[Bf,mem_map]at hb
  obtain⟨a,_,rfl⟩:=hb
  rfl
 unfold D2
 rw[Qh (fun a=>VZ _ _ hg a) _ e (Nat.lt_succ_self _) [] hp]
 simp
theorem Lost.sat{w:Work}(h:Lost w):J8 w=none:=by
 unfold J8
 rw[List.findIdx?_eq_none_iff]
 intro x hx
 unfold Md
 cases hw:x.waiting
 ·rfl
 ·rw[h.q,Uc (h.rq x hx hw)];rfl
theorem Kn:Di []:=⟨by simp,by simp⟩
theorem PD.D4:G1 PD where
 few:=fun w h=>h.elim (fun h=>JE.D4.few w h) fun h=>⟨by rw[h.q];exact Kn,h.n,h.rq⟩
 safe:=fun w i x h hs hx=>h.elim (fun h=>JE.D4.safe w i x h hs hx) fun h=>by rw[h.sat]at hs;cases hs
 next:=fun w i x h hs hx=>h.elim (fun h=>.inl (JE.D4.next w i x h hs hx)) fun h=>by rw[h.sat]at hs;cases hs
theorem TY(p:Proc)(a:Atom)(prio:Int):(Ds [] p a prio).1=[]:=by
 unfold Ds
 split
 ·rfl
 ·rfl
theorem Nq(p:Proc)(prio:Int):∀ (az:List Atom) (w:Work),w.queues=[]→(Co w p prio az).queues=[]∧R3 w p prio az
 |[],w,h=>⟨h,fun i hi=>by simp at hi⟩
 | a::az,w,h=>by
  have h1:(E6 w p a prio).queues=[]:=by simp only[E6,Cc];rw[h];exact TY p a prio
  obtain⟨g1,g2⟩:=Nq p prio az (E6 w p a prio) h1
  refine⟨g1,fun i hi=>?_⟩
  cases i with
  | zero=>show Di w.queues;rw[h];exact Kn
  | succ i=>exact g2 i (by simpa using hi)
theorem LC{i:Nat}{y:Pcs}{prio:Int}:∀ (az:List Atom) (w:Work),(az.map (·.name)).Nodup→JE (some i) w→w.procs[i]?=some y→KX w.queues y→(∀ q∈w.queues,(∃ a∈az,a.name=q.res.name)→Ap q.holds y.proc=Ar y.led.entries q.res.name) →
 R3 w y.proc prio az∧((Co w y.proc prio az).queues=[]∨(JE (some i) (Co w y.proc prio az)∧KX (Co w y.proc prio az).queues y∧(Co w y.proc prio az).queues.map (·.res)=w.queues.map (·.res)))
 |[],w,_,h,_,hk,_=>⟨fun i hi=>by simp at hi,.inr ⟨h,hk,rfl⟩⟩
 | a::az,w,hu,h,hy,hk,hf=>by
  have hu':=List.nodup_cons.1 hu
  have few0:=CG h.tab
  rcases Sr (p:=y.proc) (a:=a) (prio:=prio) h.tab (fun n=>Ar y.led.entries n) (fun q hq hn=>hf q hq ⟨a,by simp,hn.symm⟩) with hl|⟨k,q,q1,hfk,hq,hn,e1,hs,hr,hkq⟩
  ·have h1:(E6 w y.proc a prio).queues=[]:=hl
   obtain⟨g1,g2⟩:=Nq y.proc prio az (E6 w y.proc a prio) h1
   refine⟨fun j hj=>?_,.inl g1⟩
   cases j with
   | zero=>exact few0
   | succ j=>exact g2 j (by simpa using hj)
  ·have eq1:(E6 w y.proc a prio).queues=w.queues.set k q1:=e1
   have hp1:(E6 w y.proc a prio).procs=w.procs:=rfl
   have hk1:KX (E6 w y.proc a prio).queues y:=fun q' hq'=>by
    rw[eq1]at hq'
    rcases DE (q:=q) hq' with rfl|⟨j,_,hj⟩
    ·rw[hr];exact hkq
    ·exact hk q' (mG hj)
   have hs':Fa y.proc w.queues (E6 w y.proc a prio).queues:=by rw[eq1];exact hs
   obtain⟨g1,g2⟩:=LC az (E6 w y.proc a prio) hu'.2 (h.step hy hp1 hs') (by rw[hp1];exact hy) hk1 (fun q' hq' hx=>by
    rw[eq1]at hq'
    rcases DE (q:=q) hq' with rfl|⟨j,_,hj⟩
    ·exfalso
     obtain⟨b,hb,e⟩:=hx
     refine hu'.1 ?_
     rw[mem_map]
     exact⟨b,hb,by rw[e,hr,hn]⟩
    ·obtain⟨b,hb,e⟩:=hx
     exact hf q' (mG hj) ⟨b,by simp[hb],e⟩)
   refine⟨fun j hj=>?_,?_⟩
   ·cases j with
    | zero=>exact few0
    | succ j=>exact g1 j (by simpa using hj)
   ·rcases g2 with g2|⟨a1,a2,a3⟩
    ·exact .inl g2
    ·exact .inr ⟨a1,a2,a3.trans hs'.res⟩
def Jl(l:List Atom):Prop:=(l.map (·.name)).Nodup
theorem We{l:List Atom}{a:Atom}(h:Jl l):Jl (Ef l a).2:=by
 unfold Ef
 cases hf:l.find? (hit a) with
 |some b=>exact h
 |none =>
  simp only
  split
  ·exact h
  ·unfold Jl at h ⊢
   rw[List.map_append,List.nodup_append]
   refine⟨h,by simp,fun x hx y hy=>?_⟩
   simp at hy
   subst hy
   rw[List.find?_eq_none]at hf
   obtain⟨b,hb,rfl⟩:=mem_map.1 hx
   have:=hf b hb
   simp only[hit]at this
   intro e
   rw[e]at this
   simp at this
theorem Pn:∀ (es:List Expr) (l:List Atom),(∀ e∈es,∀ l,Jl l→Jl (prop e l).2)→Jl l→Jl (BS es l).2
 |[],l,_,h=>by simpa [BS]using h
 | e::es,l,hk,h=>by
  simp only[BS]
  have h1:=hk e (by simp) l h
  split
  ·exact Pn es _ (fun e' he=>hk e' (by simp[he])) h1
  ·exact h1
theorem QV:∀ (N:Nat) (e:Expr),SizeOf.sizeOf e<N→∀ l:List Atom,Jl l→Jl (prop e l).2
 | 0,_,h,_,_=>by omega
 | N+1,e,h,l,hu=>by
  rw[Db]
  split
  ·split
   ·exact We hu
   ·exact hu
  ·split
   ·exact hu
   ·exact Pn e.kids l (fun k hk l' hu'=>QV N k (by have:=C4 hk;omega) l' hu') hu
theorem Sk(e:Expr):Jl (Ag e):=by
 unfold Ag
 split
 ·rename_i h
  have hp:(prop e []).1=true:=by simp only[AQ,and_eq_true]at h;exact h.2
  rw[Hj _ e (Nat.lt_succ_self _) [] hp]
  exact QV _ e (Nat.lt_succ_self _) [] (by simp[Jl])
 ·simp[Jl]
def Idle(t:List Queue)(x:Pcs):Prop:=∀ q∈t,KF q x.proc (Ar x.led.entries q.res.name)
theorem Si{w:Work}{i:Nat}{x:Pcs}{r:Req}(h:JE none w)(hx:w.procs[i]?=some x)(hi:Idle w.queues x)(he:AQ r.expr=true)(hf:∀ a∈Ag r.expr,∃ k,BR w.queues a.name=some k) :
 R3 (AH w i (Js w.now x r)) x.proc r.prio (Ag r.expr)∧PD (PH w i x r):=by
 have hli:=Al hx
 have h1:JE (some i) (AH w i (Js w.now x r)):=(h.but i).set' hx rfl
 have hy:(AH w i (Js w.now x r)).procs[i]?=some (Js w.now x r):=by simp[AH,hli]
 obtain⟨g1,g2⟩:=LC (prio:=r.prio) (Ag r.expr) (AH w i (Js w.now x r)) (Sk r.expr) h1 hy (fun q hq=>(hi q hq).k) (fun q hq _=>(hi q hq).2)
 refine⟨g1,?_⟩
 have hp:(PH w i x r).procs=w.procs.set i (Js w.now x r):=HQ _ _ _ _
 have hy2:(PH w i x r).procs[i]?=some (Js w.now x r):=by rw[hp];simp[hli]
 rcases g2 with g2|⟨a1,a2,a3⟩
 ·refine .inr ⟨g2,by rw[hp];simpa using h.n,fun z hz hw=>?_⟩
  rw[hp]at hz
  rcases List.mem_or_eq_of_mem_set hz with hz|rfl
  ·exact h.reqs z hz hw
  ·exact he
 ·refine .inl ?_
  have:=JE.set (y:=Js w.now x r) a1 hy2 rfl (fun _=>⟨he,fun a ha=>by rw[Ib a3];exact hf a ha,a2⟩)
  have e:AH (PH w i x r) i (Js w.now x r)=PH w i x r:=by
   unfold AH
   rw[Mi hy2]
  unfold PH at e this ⊢
  rw[← e];exact this
theorem Um{t:List Queue}(p:Proc)(a:Atom)(h:Ej t):(AT t p a).1=[]∨Fa p t (AT t p a).1:=by
 cases hf:BR t a.name with
 |none=>left;simp[AT,hf];split<;>rfl
 |some k =>
  obtain⟨hlt,q,hq,hn⟩:=CK hf
  have hg:t.getD k q0=q:=by simp[List.getD,hq]
  have hv:=h.val q (mG hq)
  by_cases h0:(Bl q p a.amt).2.2=0
  ·right
   have:(Ap q.holds p).zero=false∧Ao q p=none∧q.res.covers (Ap q.holds p) a.amt=true:=by
    revert h0
    unfold Bl
    simp only[hv,Bool.not_true,false_eq_true,if_false]
    split
    ·intro h;simp at h
    split
    ·intro h;simp at h
    split
    ·intro h;simp at h
    rename_i h1 h2 h3
    intro _
    exact⟨by simpa using h1,E2 (by simpa using h2),by simpa using h3⟩
   obtain⟨q1,e1,hs,_⟩:=JT h hf hq this.2.1 this.1 this.2.2
   rw[e1];exact hs
  ·left
   simp only[AT,hf,hg]
   split
   ·rfl
   ·rw[if_pos (by simpa using h0)]
theorem EN{a:Amt}(h:usable a=true):(A1 a.mode=true∧a.units=0)∨(a.mode=0∧1≤a.units∧a.units≤8):=by
 unfold usable at h
 rw[Bool.or_eq_true]at h
 rcases h with h|h
 ·rcases(B6 h).2 with ⟨_,b,c⟩|⟨a,_⟩
  ·exact .inl ⟨b,c⟩
  ·exact absurd rfl a
 ·rcases(B6 h).2 with ⟨a,_⟩|⟨_,b,c,d,e⟩
  ·exact absurd a (by decide)
  ·exact .inr ⟨b,c,by omega⟩
theorem IY{m:Int}(h:A1 m=true):m≠0:=by rcases AF h with rfl|rfl|rfl|rfl|rfl<;>decide
theorem Q8{a:Amt}(h:usable a=true):a≠⟨0,0⟩:=by
 rintro rfl
 rcases EN h with ⟨h,_⟩|⟨_,h,_⟩
 ·exact IY h rfl
 ·exact absurd h (by decide)
def Gr(a b:Amt):Prop:=a=⟨0,0⟩∨(usable a=true∧usable b=true∧((a.mode≠0∧AP b.mode a.mode=true)∨(a.mode=0∧b.mode=0∧a.units≤b.units)))
theorem Gr.self{a:Amt}(h:a=⟨0,0⟩∨usable a=true):Gr a a:=by
 rcases h with h|h
 ·exact .inl h
 ·refine .inr ⟨h,h,?_⟩
  rcases EN h with ⟨h1,h2⟩|⟨h1,h2⟩
  ·exact .inl ⟨IY h1,LJ h1⟩
  ·exact .inr ⟨h1,h1,Int.le_refl _⟩
theorem Gr.trans{a b c:Amt}(h1:Gr a b)(h2:Gr b c):Gr a c:=by
 rcases h1 with h1|⟨ua,ub,h1⟩
 ·exact .inl h1
 ·rcases h2 with h2|⟨_,uc,h2⟩
  ·exact absurd h2 (Q8 ub)
  ·refine .inr ⟨ua,uc,?_⟩
   rcases h1 with ⟨a1,a2⟩|⟨a1,a2,a3⟩
   ·rcases h2 with ⟨b1,b2⟩|⟨b1,_⟩
    ·exact .inl ⟨a1,PJ b2 a2⟩
    ·have:A1 b.mode=true:=by simp only[AP,and_eq_true]at a2;exact a2.1.1
     exact absurd b1 (IY this)
   ·rcases h2 with ⟨b1,_⟩|⟨b1,b2,b3⟩
    ·exact absurd a2 b1
    ·exact .inr ⟨a1,b2,by omega⟩
theorem OV{a b:Amt}(h:Gv a b=true):usable b=true∧Gr a b:=by
 unfold Gv at h
 split at h
 ·cases h
 rename_i h1
 simp only[Bool.or_eq_true,Bool.not_eq_true',decide_eq_true_eq,not_or,Bool.not_eq_false]at h1
 refine⟨h1.1,?_⟩
 split at h
 ·rename_i h2
  obtain⟨m,u⟩:=a
  simp at h2
  exact .inl (by simp[h2])
 rename_i h2
 split at h
 ·cases h
 rename_i h3
 have ua:usable a=true:=by simpa using h3
 refine .inr ⟨ua,h1.1,?_⟩
 split at h
 ·rename_i h4
  exact .inl ⟨by simpa using h4,h⟩
 ·rename_i h4
  have h4:a.mode=0:=by simpa using h4
  have h5:a.units<b.units:=by simpa using h
  rcases EN ua with ⟨m,_⟩|⟨_,m,_⟩
  ·exact absurd h4 (IY m)
  ·rcases EN h1.1 with ⟨_,n⟩|⟨n,_⟩
   ·omega
   ·exact .inr ⟨h4,n,by omega⟩
theorem VX{r:Res}{h a:Amt}(hf:r.fits h=true)(hg:Gr a h):r.covers h a=true:=by
 rcases hg with rfl|⟨ua,uh,hg⟩
 ·exact Hu hf
 ·obtain⟨hs,hc⟩:=B6 hf
  rcases hc with ⟨k,m,u⟩|⟨k,m,u1,u2,u3⟩
  ·rcases hg with ⟨a1,a2⟩|⟨_,a2,_⟩
   ·have ma:A1 a.mode=true:=by simp only[AP,and_eq_true]at a2;exact a2.1.2
    have ha:a.units=0:=by
     rcases EN ua with ⟨_,h⟩|⟨h,_⟩
     ·exact h
     ·exact absurd h a1
    have fa:r.fits a=true:=by simp[Res.fits,hs,k,ma,ha]
    rw[DB hf fa,if_pos k];exact a2
   ·exact absurd a2 (IY m)
  ·rcases hg with ⟨a1,a2⟩|⟨a1,a2,a3⟩
   ·have:A1 h.mode=true:=by simp only[AP,and_eq_true]at a2;exact a2.1.1
    exact absurd m (IY this)
   ·have h1:1≤a.units:=by
     rcases EN ua with ⟨h,_⟩|⟨_,h,_⟩
     ·exact absurd a1 (IY h)
     ·exact h
    have fa:r.fits a=true:=by
     have hb:between a.units 1 r.units=true:=by simp[between];omega
     simp[Res.fits,hs,k,a1,hb]
    rw[DB hf fa,if_neg k];simpa using a3
theorem I7{l:Ledger}(h:AX l=true){i:Nat}{e:Entry}(he:l.entries[i]?=some e):e.before=Ar (l.entries.take i) e.name∧Gv e.before e.after=true:=by
 simp only[AX,and_eq_true]at h
 have:=P6 h.1.1.2 he
 simp only[EW,and_eq_true,decide_eq_true_eq]at this
 exact⟨this.1.2,this.2⟩
theorem RA{l:Ledger}(h:AX l=true)(n:Bs):∀ i,i≤l.entries.length→Ar (l.entries.take i) n=⟨0,0⟩∨usable (Ar (l.entries.take i) n)=true
 | 0,_=>.inl rfl
 | i+1,hi=>by
  obtain⟨e,he⟩:∃ e,l.entries[i]?=some e:=⟨_,gE (by omega)⟩
  rw[DI he]
  split
  ·exact .inr (OV (I7 h he).2).1
  ·exact RA h n i (by omega)
theorem UY{l:Ledger}(h:AX l=true)(n:Bs)(i:Nat):∀ d,i+d≤l.entries.length→Gr (Ar (l.entries.take i) n) (Ar (l.entries.take (i+d)) n)
 | 0,hi=>Gr.self (RA h n i hi)
 | d+1,hi=>by
  obtain⟨e,he⟩:∃ e,l.entries[i+d]?=some e:=⟨_,gE (by omega)⟩
  have ih:=UY h n i d (by omega)
  rw[show i+(d+1)=i+d+1 from rfl,DI he]
  split
  ·rename_i hn
   have hn:e.name=n:=by simpa using hn
   obtain⟨h1,h2⟩:=I7 h he
   rw[hn]at h1
   rw[h1]at h2
   exact ih.trans (OV h2).2
  ·exact ih
theorem V1{l:Ledger}(h:AX l=true)(n:Bs)(i:Nat):Gr (Ar (l.entries.take i) n) (Ar l.entries n):=by
 rcases Nat.lt_or_ge i l.entries.length with hi|hi
 ·have:=UY h n i (l.entries.length-i) (by omega)
  rw[show i+(l.entries.length-i)=l.entries.length by omega,take_length]at this
  exact this
 ·rw[List.take_of_length_le hi]
  have:=RA h n l.entries.length (Nat.le_refl _)
  rw[take_length]at this
  exact .self this
theorem Qy{l:Ledger}(h:AX l=true){n:Bs}:∀ i,i≤l.entries.length→(∃ e∈l.entries.take i,e.name=n)→usable (Ar (l.entries.take i) n)=true
 | 0,_,⟨e,he,_⟩=>by simp at he
 | i+1,hi,⟨e,he,hn⟩=>by
  obtain⟨b,hb⟩:∃ b,l.entries[i]?=some b:=⟨_,gE (by omega)⟩
  rw[DI hb]
  split
  ·exact(OV (I7 h hb).2).1
  ·rename_i hne
   refine Qy h i (by omega) ⟨e,?_,hn⟩
   rw[take_add_one,hb]at he
   simp only[toList_some,List.mem_append,List.mem_singleton]at he
   rcases he with he|rfl
   ·exact he
   ·rw[hn]at hne;simp at hne
theorem Xl(l:List Bs)(n x:Bs):x∈RB l n↔x∈l∨x=n:=by
 unfold RB
 split
 ·rename_i h
  exact⟨.inl,fun hx=>hx.elim id fun e=>e▸h⟩
 ·exact YD _ _ _ _
theorem QK:∀ (ns l:List Bs) (x:Bs),x∈ns.foldl RB l↔x∈l∨x∈ns
 |[],l,x=>by simp
 | n::ns,l,x=>by
  rw[foldl_cons,QK ns,Xl]
  simp[or_assoc]
theorem Pe(l:List Entry)(x:Bs):x∈CI l↔∃ e∈l,e.name=x:=by
 unfold CI
 rw[QK]
 simp
theorem QL{l:Ledger}(h:AX l=true){n:Bs}(hn:∃ e∈l.entries,e.name=n):(⟨n,Ar l.entries n⟩:Atom)∈EZ l∧usable (Ar l.entries n)=true:=by
 have hu:=Qy h (n:=n) l.entries.length (Nat.le_refl _) (by rw[take_length];exact hn)
 rw[take_length]at hu
 refine⟨?_,hu⟩
 unfold EZ
 rw[List.mem_filterMap]
 refine⟨n,(Pe _ _).2 hn,?_⟩
 rw[if_neg ?_]
 intro hz
 refine Q8 hu ?_
 generalize Ar l.entries n=a at hz
 obtain⟨m,u⟩:=a
 simp at hz
 simp[hz]
theorem Qx{l:List Entry}{n:Bs}(h:¬ ∃ e∈l,e.name=n):Ar l n=⟨0,0⟩:=by
 have:∀ (l:List Entry) (a:Amt),(¬ ∃ e∈l,e.name=n)→l.foldl (fun a e=>if e.name==n then e.after else a) a=a:=by
  intro l
  induction l with
  | nil=>intro a _;rfl
  | cons e l ih =>
   intro a hn
   rw[foldl_cons,if_neg (by simpa using fun e'=>hn ⟨e,by simp,e'⟩)]
   exact ih a fun⟨e',h1,h2⟩=>hn ⟨e',by simp[h1],h2⟩
 exact this l _ h
def Ls(t:List Queue)(x:Pcs):Prop:=∀ n,(∃ e∈x.led.entries,e.name=n)→∃ k q,BR t n=some k∧t[k]?=some q∧q.res.name=n∧q.res.fits (Ar x.led.entries n)=true
def Y3(t:List Queue)(x:Pcs)(a:Nat):Prop:=∀ q∈t,Ao q x.proc=none∧(Ap q.holds x.proc=Ar x.led.entries q.res.name∨Ap q.holds x.proc=Ar (x.led.entries.take a) q.res.name)
theorem Ls.res{t t':List Queue}{x:Pcs}(h:Ls t x)(hr:t'.map (·.res)=t.map (·.res)):Ls t' x:=fun n hn=>by
 obtain⟨k,q,h1,h2,h3,h4⟩:=h n hn
 have:=congrArg (fun l=>l[k]?) hr
 simp only[gm,h2,map_some]at this
 cases h5:t'[k]? with
 |none=>rw[h5]at this;cases this
 |some q' =>
  rw[h5]at this
  simp only[map_some,Option.some.injEq]at this
  exact⟨k,q',(Ib hr n).trans h1,h5,by rw[this];exact h3,by rw[this];exact h4⟩
end Go.Rd
