/- part 13 of the proof -/
import Derived.Test.YteliegkcmjimoaaGreatDoorW12
set_option linter.all false
open Go Go.Abs Go.Proofs
set_option maxRecDepth 100000
namespace Go.Rd
set_option maxHeartbeats 8000000
open List (filter_sublist getElem_of_mem length_cons length_map mem_cons mem_filter take_add_one take_length)
open Bool (and_eq_true)
open Nat (le_trans lt_succ_self)
open Tryz
@[reducible] def KA(l:List Bool):AV:=.sl .no 1 (l.map λb=>[B b])
def E1(l:List Atom)(set:List Bool)(a:Atom):Bool:=match l.findIdx? (λx=>decide (x=a)) with
 |some i=>set.getD i false
 |none=>false
@[reducible] def ar(l:List Atom)(set:List Bool):AV:=.agg [BG l,KA set]
theorem wD(l:List Atom)(set:List Bool)(a:Atom)(hl:l.length<=1000000):Ad C0 282 [ar l set,.agg a.c] [] (B (E1 l set a)) []:=by
 refine Ad.go f282 ?_;unfold f282;refine gO ?_;refine Ab (lp l a hl) ?_;cases hi:l.findIdx? (λx=>decide (x=a)) with
 |none =>
  have e1:H5 l a = -1:=by simp[H5,hi]
  have e2:E1 l set a=false:=by simp[E1,hi]
  simp only[go_sem,e1];refine Al _ ?_;exact wb (by grind)
 |some i =>
  have e1:H5 l a=i:=by simp[H5,hi]
  by_cases h:i<set.length
  ·have e3:((i:Int)<set.length)=True:=eq_true (by omega);have e4:set[i]?=some (set.getD i false):=by grind
   have e2:E1 l set a=set.getD i false:=by simp[E1,hi]
   simp only[go_sem,e1,e3,e4];refine Al _ ?_;exact wb (by rw[e2])
  ·have e3:((i:Int)<set.length)=False:=eq_false (by omega);have e2:E1 l set a=false:=by grind[E1]
   simp only[go_sem,e1,e3];refine Al _ ?_;exact wb (by grind)
mutual
def FW(has:Atom->Bool):Expr->Bool
 |.mk k a kids=>if kids.length=0 then has a else decide (k<=DR has kids)
def DR(has:Atom->Bool):List Expr->Int
 |[]=>0
 | e::es=>(if FW has e=true then 1 else 0)+DR has es
end
theorem L2(has:Atom->Bool)(e:Expr):FW has e=if e.kids.length=0 then has e.atom else decide (e.k<=DR has e.kids):=by cases e;simp only[FW];rfl
def Oq(has:Atom->Bool):∀ (l:List Expr) (i:Nat) (b:Expr),l[i]?=some b->DR has (l.take (i+1))=DR has (l.take i)+(if FW has b=true then 1 else 0)
 |[],i,b,h=>by grind
 | e::l,0,b,h=>by grind[DR]
 | e::l,i+1,b,h=>by
  have:=Oq has l i b (by simpa using h);simp only[List.take_succ_cons,DR];rw[this];omega
def SI(has:Atom->Bool):∀ l:List Expr,0<=DR has l/\DR has l<=l.length
 |[]=>by simp[DR]
 | e::l=>by
  have:=SI has l;simp only[DR,length_cons];split<;>omega
def lj(l:List Atom)(set:List Bool)(hl:l.length<=1000000):∀ (N:Nat) (e:Expr),SizeOf.sizeOf e<N ->
 Ad C0 283 [.agg e.c,.mv 282 [ar l set]] [] (B (FW (E1 l set) e)) []
 | 0,_,h=>by omega
 | N+1,e,h=>by
  refine Ad.lens f283 λhlen=>?_
  simp[FZ,lens,Expr.Dg,length_map,and_true,true_and]at hlen;refine Ad.go f283 ?_;unfold f283
  by_cases hk:e.kids.length=0
  ·have e1:((e.kids.length:Int)==0)=true:=by grind
   have ee:FW (E1 l set) e=E1 l set e.atom:=by rw[L2,if_pos hk]
   simp only[go_sem,e1,ee];refine Ab (wD l set e.atom hl) (gO ?_);exact AQ _
  have e1:((e.kids.length:Int)==0)=false:=by grind
  have ee:FW (E1 l set) e=decide (e.k<=DR (E1 l set) e.kids):=by rw[L2,if_neg hk]
  refine gS ?_;refine AF (e.kids) (λi=>⟨[(19,I i),(18,I e.kids.length),(17,JP e.kids),(1,.mv 282 [ar l set]),(2,.ptr 128 0),(5,I (DR (E1 l set) (e.kids.take i)))],[(128,e.c)]⟩) (λi=>True) trivial ?_ ?_
  ·refine AT.Aq ?_ ?_
   all_goals(try simp(disch:=omega)only[go_sem])
   all_goals(try(repeat'(with_reducible apply And.intro)))
   all_goals(first|exact .Cr (by omega)|exact .A8 (by omega)|exact .sl (by simp[DR])|exact .int (by simp[DR])|exact .eq (by simp[DR]))
  rintro i ⟨hi,hP⟩ J hJ;refine gO ?_;refine Bo hi (λAP b hb Cg AX=>?_) λBa=>?_
  simp(disch:=omega)only[go_sem,hb]
  ·have Hb:=EM Cg;have RI:=Oq (E1 l set) e.kids i b hb;have ID:=SI (E1 l set) (e.kids.take i);have Y2:(e.kids.take i).length<=i:=by grind
   refine Ab (lj l set hl N b (by omega)) (gO ?_);refine And.intro (λhh=>?_) (λhh=>?_)
   ·rw[if_pos hh]at RI;refine hJ _ (i+1) ⟨by omega,trivial⟩ (by omega) (AT.Aq ?_ ?_)
    ·refine gO ?_;exact .int RI.symm
    ·exact gI
   ·rw[if_neg (by grind)]at RI;refine hJ _ (i+1) ⟨by omega,trivial⟩ (by omega) (AT.Aq ?_ ?_)
    ·refine gO ?_;exact .int (by omega)
    ·exact gI
  ·subst Ba;refine gO ?_;exact AQ _
def Gc(e:Expr)(set:List Bool):Bool:=!decide ((Ah e).length=0)&&FW (E1 (Ah e) set) e
def wg(e:Expr)(l:List Atom)(set:List Bool)(hl:l.length<=1000000):Ad C0 236 [.agg e.c,BG l,KA set] [] (B (FW (E1 l set) e)) []:=by
 refine Ad.go f236 ?_;unfold f236;refine gO ?_;refine Ab (lj l set hl _ e (lt_succ_self _)) (gO ?_);exact AQ _
def vM(e:Expr)(set:List Bool):Ad C0 180 [.agg e.c,KA set] [] (B (Gc e set)) []:=by
 have hl:=Dt e;refine Ad.go f180 ?_;unfold f180;refine gO ?_;refine Ab (kS e) ?_
 by_cases h0:(Ah e).length=0
 ·have e1:(0<((Ah e).length:Int))=False:=eq_false (by omega);simp only[go_sem,e1];refine Al _ ?_;exact wb (by simp[Gc,h0])
 ·have e1:(0<((Ah e).length:Int))=True:=eq_true (by omega);refine gS ?_;refine Ab (wg e (Ah e) set (by omega)) (gO ?_);refine Al _ ?_;exact wb (by simp[Gc,h0])
def DX(l:List Queue)(p:Ac)(name:Bs):Bool:=l.foldl (λw q=>if q.res.name==name then (Ar q p).isSome else w) false
def b8{l:List Queue}{i:Nat}{b:Queue}(p:Ac)(name:Bs)(hb:l[i]?=some b):DX (l.take (i+1)) p name=if b.res.name==name then (Ar b p).isSome else DX (l.take i) p name:=by grind[DX,take_add_one]
def ET(s:WS)(n:Need):List Bool:=(Ah n.expr).map λa=>!DX s.Aa n.proc a.name
def vN(s:WS)(n:Need)(h:Iy s):Ad C0 181 [.agg s.c,.agg n.c] [] (KA (ET s n)) []:=by
 have hl:=Dt n.expr;have dD:=h.nq;refine Ad.go f181 ?_;unfold f181;refine gO ?_;refine Ab (kS n.expr) (gO ?_);refine AF ((Ah n.expr)) (λi=>⟨[(15,I i),(14,I (Ah n.expr).length),(13,BG (Ah n.expr)),(2,.ptr 128 0),(3,.ptr 192 0),(5,.sl (.own 2816 0) 1 (((Ah n.expr).take i).map λa=>[B (!DX s.Aa n.proc a.name)]))],[(128,s.c),(192,n.c)]⟩) (λi=>True) trivial ?_ ?_
 ·exact Ce
 rintro i ⟨hi,hP⟩ J hJ;refine gO ?_;refine Bo hi (λAP b hb Cg AX=>?_) λBa=>?_
 simp(disch:=omega)only[go_sem,hb]
 ·have step:∀ st',AT ⟨C0,[]⟩ st' ⟨[(15,I (i+1:Nat)),(14,I (Ah n.expr).length),(13,BG (Ah n.expr)),(2,.ptr 128 0),(3,.ptr 192 0),(5,.sl (.own 2816 0) 1 (((Ah n.expr).take i).map (λa=>[B (!DX s.Aa n.proc a.name)])++[[B (!DX s.Aa n.proc b.name)]]))],[(128,s.c),(192,n.c)]⟩->J st':=λst' h=>by
   refine hJ st' (i+1) ⟨by omega,trivial⟩ (by omega) ?_;have e:((Ah n.expr).take (i+1)).map (λa=>[B (!DX s.Aa n.proc a.name)])=((Ah n.expr).take i).map (λa=>[B (!DX s.Aa n.proc a.name)])++[[B (!DX s.Aa n.proc b.name)]]:=by grind[take_add_one]
   rw[e];exact h
  have ID:min i (Ah n.expr).length+1<=4294967296:=by omega
  refine Ao (α:=Nat) (λj=>⟨[(22,I j),(21,I s.Aa.length),(20,AN s.Aa),(8,B (DX (s.Aa.take j) n.proc b.name)),(7,.ptr 448 0),(15,I i),(14,I (Ah n.expr).length),(13,BG (Ah n.expr)),(2,.ptr 128 0),(3,.ptr 192 0),(5,.sl (.own 2816 0) 1 (((Ah n.expr).take i).map λa=>[B (!DX s.Aa n.proc a.name)]))],[(448,b.c),(128,s.c),(192,n.c)]⟩) (λj=>j<=s.Aa.length) (λj=>s.Aa.length-j) 0 (by omega) ?_ ?_
  ·refine AT.Aq ?_ ?_
   ·refine gO ?_;exact .eq rfl
   ·exact gI
  rintro j hj J2 Vo;refine gO ?_;refine And.intro (λAX=>?_) (λAeF=>?_)
  ·obtain⟨q,hq⟩:∃ q,s.Aa[j]?=some q:=⟨_,gE (by grind)⟩;have UQ:=mG hq;have hqa:=h.aq q UQ;have y9:q.As.length+q.waits.length<=1000000:=by grind[BS,B7]
   have hw:=b8 n.proc b.name hq;simp(disch:=omega)only[go_sem,hq];refine And.intro (λhh=>?_) (λhh=>?_)
   ·refine Ab (kT q n.proc y9) (gO ?_);rw[if_pos hh]at hw;refine Vo _ (j+1) (by grind) (by grind) (AT.Aq ?_ gI);rw[hw];exact gI
   ·rw[if_neg (by grind)]at hw;refine Vo _ (j+1) (by grind) (by grind) (AT.Aq ?_ gI);rw[hw];exact gI
  ·have hjl:j=s.Aa.length:=by grind
   subst hjl;clear Vo;refine gO ?_;exact step _ AK
 ·subst Ba;refine CU ⟨[],[],[2816]⟩ _ (gO ?_);exact .sl (by simp[ET])
def CY{α:Type}{f:Nat->α->Bool}{l:List α}:Cu f l=true↔∀ i b,l[i]?=some b->f i b=true:=by
 unfold Cu;rw[List.all_eq_true];constructor<;>simp_all[List.mk_mem_zipIdx_iff_getElem?]
def Au{α:Type}{l:List α}{i:Nat}{b:α}(h:l[i]?=some b):i<l.length:=by grind
def get_eq{α:Type}{l:List α}{i:Nat}{b:α}(h:l[i]?=some b):l[i]'(Au h)=b:=by grind
def ZU(l:List Bh):Prop:=l.Pairwise λa b=>a.proc≠b.proc
def fQ(l:List Bh):(∀ (i:Nat) (w:Bh),l[i]?=some w->FG l w.proc=(i:Int))↔ZU l:=by grind[ZU,List.pairwise_iff_getElem,List.findIdx?_eq_some_iff_getElem,FG]
def Qp(l:List A9):Prop:=l.Pairwise λa b=>BF a.proc b.proc<0
def uR(l:List A9):(∀ i h,l[i]?=some h->(decide (i=0)||decide (BF (l.getD (i-1) h0).proc h.proc<0))=true)↔Qp l:=by
 unfold Qp;rw[List.pairwise_iff_getElem];constructor
 ·intro h;have step:∀ i (hi:i+1<l.length),BF l[i].proc l[i+1].proc<0:=λi hi=>by
   have:=h (i+1) l[i+1] (gE hi);simp only[Nat.add_sub_cancel,Bool.or_eq_true,decide_eq_true_eq]at this;rcases this with h'|h'
   ·omega
   ·simpa [List.getD,gE (show i<l.length by omega)]using h'
  have far:∀ d i (hi:i+d+1<l.length),BF l[i].proc l[i+d+1].proc<0:=by
   intro d
   induction d with
   | zero=>omega
   | succ d ih =>
    intro i hi;have h1:=ih i (by omega);have h2:=step (i+d+1) (by omega);exact DQ h1 h2
  intro i j hi hj UN;obtain⟨d,rfl⟩:∃ d,j=i+d+1:=⟨j-i-1,by omega⟩;simp_all
 grind
def Dk(r:BE)(l:List A9):BV r l=true↔r.shaped=true/\l.length<=8/\(∀ h∈l,h.proc.ok=true/\r.fits h.AH=true)/\Qp l/\r.compat (l.map (·.AH))=true:=by
 unfold BV;simp only[and_eq_true,decide_eq_true_eq,CY,Fg];rw[<- uR];constructor
 ·rintro⟨⟨⟨h1,h2⟩,h3⟩,h4⟩;refine⟨h1,h2,λh hm=>?_,λi h hi=>(h3 i h hi).2,h4⟩;obtain⟨i,hi,he⟩:=getElem_of_mem hm;have:=h3 i h (by grind);exact this.1
 grind
theorem Cf(q:Queue):Fe q=true↔q.As.length<=8/\ZU q.As/\∀ w∈q.As,(Am q.holds w.proc).zero=false/\q.res.fits w.AH=true/\q.res.covers w.AH (Am q.holds w.proc)=true/\w.AH≠Am q.holds w.proc/\w.prio=0/\w.Ec=0:=by
 unfold Fe;simp only[and_eq_true,decide_eq_true_eq,CY,Ja];rw[<- fQ];constructor
 ·rintro⟨h1,h2⟩;refine⟨h1,λi w hi=>(h2 i w hi).1.1.1.1.1.1,λw hm=>?_⟩;grind[getElem_of_mem]
 grind
def CS(l:List Bh):Ef l=true↔l.length<=8/\ZU l/\∀ w∈l,w.ok=true:=by
 unfold Ef;simp only[and_eq_true,decide_eq_true_eq,CY,Ht];rw[<- fQ];constructor
 ·rintro⟨h1,h2⟩;refine⟨h1,λi w hi=>(h2 i w hi).2,λw hm=>?_⟩;obtain⟨i,hi,he⟩:=getElem_of_mem hm;exact(h2 i w (by grind)).1
 grind
theorem BX(q:Queue):Fi q=true↔Ef q.waits=true/\q.holds.length+q.waits.length<=8/\∀ w∈q.waits,q.res.fits w.AH=true/\(Am q.holds w.proc).zero=true:=by simp_all[Fi,Ji,and_assoc]
structure Sound(q:Queue):Prop where
 res:Is q.res=true
 holds:BV q.res q.holds=true
 As:Fe q=true
 waits:Fi q=true
 gen:0<=q.gen/\q.gen<=1073741824
theorem Kr(q:Queue):sound q=true↔Sound q:=by
 unfold sound;simp;exact⟨fun⟨⟨⟨⟨⟨a,b⟩,c⟩,d⟩,e⟩,f⟩=>⟨a,b,c,d,e,f⟩,λh=>⟨⟨⟨⟨⟨h.res,h.holds⟩,h.As⟩,h.waits⟩,h.gen.1⟩,h.gen.2⟩⟩
def Oz{α:Type}{f g:α->Bool}(h:∀ x,f x=true->g x=true):∀ l:List α,(l.filter g).find? f=l.find? f
 |[]=>rfl
 | x::l=>by
  simp[List.filter_cons,List.find?_cons];cases hf:f x
  ·cases g x<;>simp_all[Oz]
  grind
def SX{l:List A9}{p p':Ac}(h:p'≠p):Am (AR l p) p'=Am l p':=by grind[Am,AR]
theorem FY{l:List A9}{p p':Ac}{a:BR}(h:p'≠p):Am (CO l p a) p'=Am l p':=by
 rw[<- SX (l:=l) h];unfold CO;split
 ·rfl
 ·unfold Am;generalize Dd (AR l p) p=k
  conv=>rhs;rw[<- List.take_append_drop k (AR l p)]
  grind
def SJ{l:List A9}{p:Ac}(h:(Am l p).zero=false):(AR l p).length+1<=l.length:=by
 unfold Am at h;cases hf:l.find? (λh=>decide (h.proc=p)) with
 |none=>grind[BR.zero]
 |some x =>
  have hm:=List.mem_of_find?_eq_some hf;have hx:=List.find?_some hf;unfold AR;have:(l.filter λh=>decide (h.proc≠p)).length<l.length:=by
   rw[List.length_filter_lt_length_iff_exists];grind
  omega
theorem VD{l:List A9}{p:Ac}{a:BR}:(CO l p a).length<=(AR l p).length+1:=by grind[CO]
theorem Jb{r:BE}{a:BR}(h:r.fits a=true):a.zero=false:=by
 simp only[BE.fits,and_eq_true]at h;grind[BK,A7,BR.zero]
theorem Mm{l:List A9}{p:Ac}{h:A9}:h∈AR l p↔h∈l/\h.proc≠p:=by simp[AR]
theorem Xc{l:List A9}{p:Ac}{a:BR}(ha:a.zero=false){h:A9}:h∈CO l p a↔(h∈l/\h.proc≠p)\/h=⟨p,a⟩:=by
 unfold CO;rw[ha];simp only[Bool.false_eq_true,if_false,List.mem_append,mem_cons];rw[<- Mm]
 conv=>rhs;rw[<- List.take_append_drop (Dd (AR l p) p) (AR l p),List.mem_append]
 grind
def fp{s s':List Bool}{m:Int}(h:∀ k,s'.getD k false=true->s.getD k false=true)(hs:Fz s m=true):Fz s' m=true:=by grind[Fz]
def Js(s:List Bool)(i k:Nat):(s.set i true).getD k false=(if i=k/\i<s.length then true else s.getD k false):=by grind
def aw{r:BE}{l' l:List BR}(GJ:l'.Sublist l):∀ {s s':Int} {seen Qd:List Bool},s'<=s->Qd.length=seen.length->(∀ k,Qd.getD k false=true->seen.getD k false=true)->Cl r l s seen=true->Cl r l' s' Qd=true:=by
 induction GJ with
 | slnil=>intros;rfl
 | cons a GJ ih =>
  intro s s' seen Qd hs hlen hk h;simp only[Cl,and_eq_true]at h;obtain⟨⟨h1,h2⟩,h3⟩:=h;have hu:=Lt h1;split at h3
  ·exact ih (by omega) hlen hk h3
  ·rw[and_eq_true]at h3;refine ih (by omega) (by grind) (λk pG=>?_) h3.2;grind
 | cons_cons a GJ ih =>
  intro s s' seen Qd hs hlen hk h;simp only[Cl,and_eq_true,Bool.not_eq_true',decide_eq_false_iff_not]at h ⊢;obtain⟨⟨h1,h2⟩,h3⟩:=h;refine⟨⟨h1,by omega⟩,?_⟩;split at h3
  ·grind
  ·rename_i hm;rw[if_neg hm];rw[and_eq_true]at h3 ⊢;refine⟨fp hk h3.1,ih (by omega) (by grind) (λk pG=>?_) h3.2⟩;rw[Js]at pG ⊢;grind
def gP{r:BE}{l' l:List BR}(GJ:l'.Sublist l)(h:r.compat l=true):r.compat l'=true:=by
 simp[BE.compat]at *;exact⟨h.1,aw GJ (Int.le_refl _) rfl (λ_ h=>h) h.2⟩
def Lq{r:BE}{l' l:List A9}(GJ:l'.Sublist l)(h:BV r l=true):BV r l'=true:=by
 rw[Dk]at *;obtain⟨h1,h2,h3,h4,h5⟩:=h;exact⟨h1,le_trans GJ.length_le h2,λx hx=>h3 x (GJ.subset hx),h4.sublist GJ,gP (GJ.map _) h5⟩
theorem HU(l:List A9)(p:Ac):CO l p ⟨0,0⟩=AR l p:=by simp[CO,BR.zero]
theorem MD{q:Queue}(h:Sound q)(p:Ac):Sound (B8 q p):=by
 have hd:(AR q.holds p).length<=q.holds.length:=List.length_filter_le _ _;have hw:=Cq q.waits p;have hc:=Cq q.As p;refine⟨h.res,?_,?_,?_,h.gen⟩
 ·simp[B8,HU];exact Lq filter_sublist h.holds
 ·have:=(Cf q).1 h.As;rw[Cf];simp only[B8,HU];refine⟨by omega,this.2.1.sublist filter_sublist,λw hw=>?_⟩;simp_all[Bv,SX]
 ·have:=(BX q).1 h.waits;rw[BX];obtain⟨a,b,c⟩:=this;rw[CS]at a;simp[B8,HU,CS];refine⟨⟨by omega,a.2.1.sublist filter_sublist,λw hw=>?_⟩,by omega,λw hw=>?_⟩<;>simp_all[Bv,SX]
def PU{q:Queue}{w:Bh}(h:F3 q.res q.holds w.proc w.AH=true):q.res.fits w.AH=true/\w.proc.ok=true/\BV q.res (CO q.holds w.proc w.AH)=true:=by simp_all[F3]
def ME{q:Queue}{w:Bh}(h:Sound q)(hh:BZ q=some w)(hr:F3 q.res q.holds w.proc w.AH=true):Sound (DH q w):=by
 obtain⟨r1,r2,r3⟩:=PU hr;have fE:=(Cf q).1 h.As;have XT:=(BX q).1 h.waits;obtain⟨a,b,c⟩:=XT;rw[CS]at a;cases hc:q.As with
 | cons w' l =>
  have WI:w'=w:=by grind[BZ]
  subst WI;have hp:DH q w' = { q with holds:=CO q.holds w'.proc w'.AH,As:=l }:=by grind[DH]
  rw[hp];have hu:=fE.2.1;rw[hc]at hu;have iM:=List.pairwise_cons.1 hu;have AeG:=(fE.2.2 w' (by grind)).1;refine⟨h.res,r3,?_,?_,h.gen⟩
  ·rw[Cf];have:=fE.1;rw[hc]at this;simp only[length_cons]at this;refine⟨by grind,iM.2,λx hx=>?_⟩;grind[FY]
  ·rw[BX];simp[CS];refine⟨a,?_,λx hx=>?_⟩
   ·have h1:=SJ AeG;have h2:=VD (l:=q.holds) (p:=w'.proc) (a:=w'.AH);omega
   ·have xp:=c x hx;have CZ:x.proc≠w'.proc:=λe=>by grind
    rw[FY CZ];exact xp
 | nil =>
  cases hw:q.waits with
  | nil=>simp[BZ,hc,hw]at hh
  | cons w' l =>
   have WI:w'=w:=by grind[BZ]
   subst WI;have hp:DH q w' = { q with holds:=CO q.holds w'.proc w'.AH,waits:=l }:=by grind[DH]
   rw[hp];rw[hw]at a b;have iM:=List.pairwise_cons.1 a.2.1;simp only[length_cons]at a b;refine⟨h.res,r3,?_,?_,h.gen⟩
   ·grind[Cf]
   ·rw[BX];simp[CS];refine⟨⟨by omega,iM.2,λx hx=>a.2.2 x (by simp[hx])⟩,?_,λx hx=>?_⟩<;>grind[VD,AR,FY]
def MB(q:Queue):Prop:=∀ w,BZ q=some w->F3 q.res q.holds w.proc w.AH=false
theorem BN(q:Queue):valid q=true↔Sound q/\MB q:=by
 unfold valid MB;rw[and_eq_true,Kr];grind
theorem Xm(q:Queue)(w:Bh):(DH q w).res=q.res/\(DH q w).gen=q.gen:=by unfold DH;grind
def I8{P:Queue->Prop}(hP:∀ q w,P q->BZ q=some w->F3 q.res q.holds w.proc w.AH=true->P (DH q w)):∀ (n:Nat) (q:Queue),B7 q=n->P q->P (Co q).1/\MB (Co q).1
 | n,q,hn,hq=>by
  rw[Kx];cases hh:BZ q with
  |none=>exact⟨hq,λw hw=>by grind⟩
  |some w =>
   simp only;cases hr:F3 q.res q.holds w.proc w.AH
   ·exact⟨hq,λw' WI=>by grind⟩
   ·have hs:=Km hh;exact I8 hP (B7 (DH q w)) (DH q w) rfl (hP q w hq hh hr)
termination_by n q hn=>B7 q
decreasing_by omega
def ZN{q:Queue}(h:Sound q):Sound (Co q).1/\MB (Co q).1:=I8 (λ_ _ h hh hr=>ME h hh hr) _ q rfl h
def U2(q:Queue):(Co q).1.res=q.res/\(Co q).1.gen=q.gen:=(I8 (P:=λx=>x.res=q.res/\x.gen=q.gen) (λx w h _ _=>by grind[Xm]) _ q rfl ⟨rfl,rfl⟩).1
def jP(q:Queue):BS (Co q).1<=BS q:=(I8 (P:=λx=>BS x<=BS q) (λx w h hh _=>le_trans (cG hh) h) _ q rfl (Nat.le_refl _)).1
def TD{q:Queue}(h:Sound q/\MB q){g:Int}(hg:0<=g/\g<=1073741824):Sound { q with gen:=g }/\MB { q with gen:=g }:=by
 refine⟨⟨h.1.res,h.1.holds,?_,?_,hg⟩,λw hw=>h.2 w hw⟩
 ·rw[Cf];exact(Cf q).1 h.1.As
 ·rw[BX];exact(BX q).1 h.1.waits
theorem I6{q:Queue}(h:valid q=true)(p:Ac):valid (Cd q p)=true:=by
 unfold Cd;split
 ·rw[BN]at h ⊢;have h1:=ZN (MD h.1 p);exact TD h1 h.1.gen
 omega
theorem ZF(q:Queue)(p:Ac):(Cd q p).res=q.res:=by
 unfold Cd;split
 ·exact(U2 (B8 q p)).1
 ·rfl
def jW(q:Queue)(p:Ac):BS (B8 q p)<=BS q:=by grind[AR,Cq,BS,B7,B8,HU]
def oU(q:Queue)(p:Ac):BS (Cd q p)<=BS q:=by
 unfold Cd;split
 ·exact le_trans (jP (B8 q p)) (jW q p)
 omega
def JY(q:Queue)(x:Ac):Prop:=(∃ h∈q.holds,h.proc=x)\/(∃ w∈q.As,w.proc=x)\/(∃ w∈q.waits,w.proc=x)
theorem Ew(q:Queue)(x:Ac):x∈BU q↔JY q x:=by simp_all[BU,JY,Mn,D7,C3]
theorem Kl{l:List A9}{p:Ac}(h:(Am l p).zero=false):∃ x∈l,x.proc=p:=by grind[Am,BR.zero]
def AbL{q:Queue}{w:Bh}(hh:BZ q=some w)(hr:F3 q.res q.holds w.proc w.AH=true)(x:Ac):JY (DH q w) x↔JY q x:=by
 have hz:=Jb (PU hr).1;have WG:(∃ h∈CO q.holds w.proc w.AH,h.proc=x)↔((∃ h∈q.holds,h.proc=x)\/x=w.proc):=by
  simp only[Xc hz];grind
 unfold JY;cases hc:q.As with
 | cons w' l =>
  have WI:w'=w:=by grind[BZ]
  subst WI;have hp:DH q w' = { q with holds:=CO q.holds w'.proc w'.AH,As:=l }:=by grind[DH]
  rw[hp];simp only[WG,mem_cons,or_and_right,exists_or];constructor
  ·grind
  grind
 | nil =>
  cases hw:q.waits with
  | nil=>simp[BZ,hc,hw]at hh
  | cons w' l =>
   have WI:w'=w:=by grind[BZ]
   subst WI;have hp:DH q w' = { q with holds:=CO q.holds w'.proc w'.AH,waits:=l }:=by grind[DH]
   rw[hp];simp only[WG,hc,mem_cons,or_and_right,exists_or,List.not_mem_nil,false_and,exists_false,false_or];constructor
   ·grind
   grind
def r7(q:Queue)(x:Ac):JY (Co q).1 x↔JY q x :=
 (I8 (P:=λy=>JY y x↔JY q x) (λy w h hh hr=>(AbL hh hr x).trans h) _ q rfl Iff.rfl).1
theorem WK(q:Queue)(p x:Ac):JY (B8 q p) x↔JY q x/\x≠p:=by
 unfold JY;simp only[B8,HU,Mm,Bv,mem_filter,decide_eq_true_eq];grind
def r9{q:Queue}(hv:valid q=true)(p x:Ac):x∈BU (Cd q p)↔x∈BU q/\x≠p:=by
 by_cases hp:Br (BU q) p=true
 ·have e:Cd q p = { Ee (B8 q p) with gen:=q.gen }:=by grind[Cd]
  rw[Ew,Ew,e,<- WK];exact r7 (B8 q p) x
 ·have e:Cd q p=q:=by simp[Cd,hp]
  rw[e];have:p∉BU q:=by grind[Br]
  exact⟨λh=>⟨h,λe=>this (e▸h)⟩,And.left⟩
def BO(s:WS):Prop:=∀ q∈s.Aa,valid q=true
theorem E6(s:WS)(x:Ac):x∈Ag s↔(∃ q∈s.Aa,x∈BU q)\/∃ n∈s.Aw,n.proc=x:=by grind[Ag,AM,Dp,Mn]
theorem Jc{s:WS}(h:BO s)(p x:Ac):x∈Ag (BW s p)↔x∈Ag s/\x≠p:=by
 rw[E6,E6];simp only[BW,E7,List.mem_map,mem_filter,decide_eq_true_eq];constructor
 ·rintro(⟨q',⟨q,hq,rfl⟩,hx⟩|⟨n,⟨hn,CZ⟩,rfl⟩)
  ·rw[r9 (h q hq)]at hx;grind
  grind
 ·rintro⟨⟨q,hq,hx⟩|⟨n,hn,rfl⟩,CZ⟩
  ·exact .inl ⟨_,⟨q,hq,rfl⟩,(r9 (h q hq) p x).2 ⟨hx,CZ⟩⟩
  grind
def Cv{s:WS}(h:BO s)(p:Ac):BO (BW s p):=by
 intro q' FI;simp[BW]at FI;obtain⟨q,hq,rfl⟩:=FI;exact I6 (h q hq) p
theorem Ln{s:WS}(h:Iy s)(p:Ac):Iy (BW s p):=by
 refine⟨by simpa [BW]using h.nq,le_trans (List.length_filter_le _ _) h.nn,λq' FI=>?_⟩;simp[BW]at FI;obtain⟨q,hq,rfl⟩:=FI;exact le_trans (oU q p) (h.aq q hq)
theorem PS{s:WS}(h:BO s)(p:Ac):Ag (BW s p)=(Ag s).filter λx=>decide (x≠p):=by
 refine Rb (Fk _) ?_ λx=>?_
 ·exact List.Pairwise.sublist filter_sublist (Fk _)
 grind[Jc]
def D9{s:WS}(h:BO s){p:Ac}(hp:p∈Ag s):(Ag (BW s p)).length<(Ag s).length:=by simp_all[PS]
def Ad.empty{C:Ctx}{f n:Nat}{xs:List AV}{o o':List (Nat × List AV)}{y:AV}(h:∀ a cap,Ad C f (.v (.slice a 0 cap)::xs) o y o'):Ad C f (.sl .no n []::xs) o y o':=by
 refine⟨(h none 0).1,λg w us hg hv ho=>?_⟩
 match us,hv with
 | u::us,hv =>
  simp only[Bf,VR,PR]at hv;obtain⟨⟨_,a,cap,hu,_⟩,W8⟩:=hv;refine(h a cap).2 g w (u::us) hg ?_ ho;grind[Bf,VR]
 |[],hv=>simp[Bf]at hv
def Ve(l:List A9)(hl:l.length<=1000000):Ad C0 127 [Bg l] [] (Bg l) []:=by
 cases l with
 | nil =>
  refine Ad.empty λa cap=>?_
  refine Ad.go f127 ?_;unfold f127;refine gO ?_
  repeat'(with_reducible refine And.intro (λh=>?_) (λh=>?_))
  ·exact AQ _
  ·refine CU ⟨[],[],[448]⟩ _ ?_;exact gI
 | cons x l =>
  refine Ad.go f127 ?_;unfold f127;have hb:l.length+1<=4294967296:=by grind
  simp(disch:=omega)only[go_sem,Bg];refine CU ⟨[],[],[448]⟩ _ ?_;exact gI
def Lk(l:List Bh)(hl:l.length<=1000000):Ad C0 128 [Ct l] [] (Ct l) []:=by
 cases l with
 | nil =>
  refine Ad.empty λa cap=>?_
  refine Ad.go f128 ?_;unfold f128;refine gO ?_
  repeat'(with_reducible refine And.intro (λh=>?_) (λh=>?_))
  ·exact AQ _
  ·refine CU ⟨[],[],[448]⟩ _ ?_;exact gI
 | cons x l =>
  refine Ad.go f128 ?_;unfold f128;have hb:l.length+1<=4294967296:=by grind
  simp(disch:=omega)only[go_sem,Ct];refine CU ⟨[],[],[448]⟩ _ ?_;exact gI
def Dz(s:WS)(p:Ac):Bool:=match s.Aw.find? (λn=>decide (n.proc=p)) with
 |some n=>Gc n.expr (ET s n)
 |none=>true
def vr(s:WS)(p:Ac)(h:Iy s):Ad C0 125 [.agg s.c,.agg p.c] [] (B (Dz s p)) []:=by
 have hn:=h.nn;refine Ad.go f125 ?_;unfold f125;refine gO ?_;refine AF (s.Aw) (λi=>⟨[(10,I i),(9,I s.Aw.length),(8,Io s.Aw),(2,.ptr 128 0),(3,.ptr 192 0)],[(128,s.c),(192,p.c)]⟩) (λi=>(s.Aw.take i).find? (λn=>decide (n.proc=p))=none) rfl ?_ ?_
 ·exact Ce
 rintro i ⟨hi,hP⟩ J hJ;refine gO ?_;refine Bo hi (λAP b hb Cg AX=>?_) λBa=>?_
 simp(disch:=omega)only[go_sem,hb]
 ·refine Ab (LC b.proc p) ?_;refine gO ?_;refine And.intro (λhh=>?_) (λhh=>?_)
  ·have e:Dz s p=Gc b.expr (ET s b):=by grind[Dz,Hq]
   refine Ay 5 [([],[6]),([],[19]),([],[2]),([],[6]),([],[21,22])] B6 (gO ?_);refine Ax (vN s b h) (gO ?_);refine Ai (vM b.expr (ET s b)) (by exact gI) rfl ?_;simp only[go_sem,e];exact AQ _
  ·refine hJ _ (i+1) ⟨by omega,(by grind[Cp])⟩ (by omega) AK
 ·subst Ba;rw[take_length]at hP;have e:Dz s p=true:=by grind[Dz]
  refine gS ?_;exact AQ _
def BJ(s:WS):List Ac:=(Ag s).filter λp=>Dz s p
theorem De{s:WS}(h:Iy s):(Ag s).length<=20000:=by
 have h1:=SH (AM s.Aa++Dp s.Aw);have h2:=O3 h.aq;have h3:=h.nq;have h4:=h.nn;unfold Ag;simp[Dp]at h1;unfold Dp;omega
def ik(s:WS)(h:Iy s):Ad C0 75 [.agg s.c] [] (AL (BJ s)) []:=by
 have hl:=De h;refine Ad.go f75 ?_;unfold f75;refine gO ?_;refine Ab (LB s h) (gO ?_);refine AF ((Ag s)) (λi=>⟨[(9,I i),(8,I (Ag s).length),(7,AL (Ag s)),(1,.ptr 64 0),(3,.sl (.own 1216 0) 3 ((((Ag s).take i).filter λp=>Dz s p).map Ac.c))],[(64,s.c)]⟩) (λi=>True) trivial ?_ ?_
 ·exact Ce
 rintro i ⟨hi,hP⟩ J hJ;refine gO ?_;refine Bo hi (λAP b hb Cg AX=>?_) λBa=>?_
 simp(disch:=omega)only[go_sem,hb]
 ·have ID:(((Ag s).take i).filter λp=>Dz s p).length+1<=4294967296:=by
   grind
  refine Ab (vr s b h) ?_;refine gO ?_;refine And.intro (λhh=>?_) (λhh=>?_)
  ·refine hJ _ (i+1) ⟨by omega,trivial⟩ (by omega) (AT.Aq ?_ gI);refine gO ?_;exact .sl (by grind[take_add_one,Ac.c])
  ·refine hJ _ (i+1) ⟨by omega,trivial⟩ (by omega) (AT.Aq ?_ gI);refine gO ?_;exact .sl (by grind[take_add_one])
 ·subst Ba;refine gO ?_;refine CU ⟨[],[],[1216]⟩ _ ?_;simp only[go_sem,BJ]
def Fw(s:WS)(l:List Ac):WS:=(Ag s).foldl (λx p=>if Br l p then x else BW x p) s
def vz(s:WS)(l:List Ac)(h:Iy s)(hl:l.length<=1000000):Ad C0 148 [.agg s.c,AL l] [] (.agg (Fw s l).c) []:=by
 have Sv:=De h;refine Ad.go f148 ?_;unfold f148;refine gO ?_;refine Ab (LB s h) (gO ?_);refine AF ((Ag s)) (λi=>⟨[(10,I i),(9,I (Ag s).length),(8,AL (Ag s)),(2,.ptr 128 0),(1,AL l),(4,.ptr 256 0)],[(128,(((Ag s).take i).foldl (λx p=>if Br l p then x else BW x p) s).c),(256,jO)]⟩) (λi=>Iy (((Ag s).take i).foldl (λx p=>if Br l p then x else BW x p) s)) h ?_ ?_
 ·exact Ce
 rintro i ⟨hi,hP⟩ J hJ;refine gO ?_;refine Bo hi (λAP b hb Cg AX=>?_) λBa=>?_
 simp(disch:=omega)only[go_sem,hb]
 ·have e:((Ag s).take (i+1)).foldl (λx p=>if Br l p then x else BW x p) s=if Br l b then ((Ag s).take i).foldl (λx p=>if Br l p then x else BW x p) s else BW (((Ag s).take i).foldl (λx p=>if Br l p then x else BW x p) s) b:=by
   grind[take_add_one]
  generalize ((Ag s).take i).foldl (λx p=>if Br l p then x else BW x p) s=t at hP e;refine Ab (KE l b hl) ?_;cases hh:Br l b
  ·rw[if_neg (by grind)]at e;refine gO ?_;refine Ab (aU t b hP) (gO ?_);refine hJ _ (i+1) ⟨by omega,by grind[Ln]⟩ (by omega) (AT.Aq gI ?_);rw[e];exact gI
  ·rw[if_pos hh]at e;refine gO ?_;refine hJ _ (i+1) ⟨by omega,by grind⟩ (by omega) (AT.Aq gI ?_);rw[e];exact gI
 ·subst Ba;rw[take_length]at hP ⊢;refine CT _ ?_;simp only[go_sem,Fw]
def DS{s:WS}{p:Ac}(h:p∈BJ s):p∈Ag s:=(mem_filter.1 h).1
def Sb:Nat->WS->List Ac × List Ac
 | 0,s=>([],Ag s)
 | n+1,s=>match BJ s with
  |[]=>([],Ag s)
  | p::_=>(p::(Sb n (BW s p)).1,(Sb n (BW s p)).2)
def Ca(s:WS):List Ac × List Ac:=Sb (Ag s).length s
def ml:∀ (n m:Nat) (s:WS),BO s->(Ag s).length<=n->(Ag s).length<=m->Sb n s=Sb m s
 | 0,0,_,_,_,_=>rfl
 | 0,m+1,s,_,h,_=>by grind[BJ,Sb]
 | n+1,0,s,_,_,h=>by grind[BJ,Sb]
 | n+1,m+1,s,hg,h1,h2=>by
  simp only[Sb];cases hf:BJ s with
  | nil=>rfl
  | cons p l =>
   have hd:=D9 hg (DS (p:=p) (by rw[hf];simp));simp only;rw[ml n m (BW s p) (Cv hg p) (by omega) (by omega)]
theorem Sc{s:WS}(hg:BO s):Ca s=match BJ s with
 |[]=>([],Ag s)
 | p::_=>(p::(Ca (BW s p)).1,(Ca (BW s p)).2):=by
 unfold Ca;cases hf:BJ s with
 | nil =>
  cases (Ag s).length<;>simp[Sb,hf]
 | cons p l =>
  have hd:=D9 hg (DS (p:=p) (by grind));rw[ml _ ((Ag (BW s p)).length+1) s hg (Nat.le_refl _) (by
   have:=PS hg p;have hm:=DS (p:=p) (s:=s) (by grind);have UO:=IL (Fk (AM s.Aa++Dp s.Aw));rw[this];have:(Ag s).filter (λx=>decide (x≠p))=(Ag s).erase p:=by grind[Ag,List.Nodup.erase_eq_filter]
   rw[this,List.length_erase_of_mem hm];omega)]
  simp[Sb,hf]
def AaJ(s:WS)(h:Iy s)(hg:BO s):Ad C0 87 [.agg s.c] [] (.BC [AL (Ca s).1,AL (Ca s).2]) []:=by
 refine Ad.go f87 ?_;unfold f87;refine gO ?_;refine Ab (ik s h) (gO ?_);refine Ao (α:=WS × List Ac) (λx=>⟨[(5,AL (BJ x.1)),(4,.sl (.own 1472 0) 3 (x.2.map Ac.c)),(1,.ptr 64 0)],[(64,x.1.c)]⟩) (λx=>Iy x.1/\BO x.1/\x.2.length+(Ag x.1).length<=1000000/\x.2++(Ca x.1).1=(Ca s).1/\(Ca x.1).2=(Ca s).2) (λx=>(Ag x.1).length) (s,[]) ⟨h,hg,by grind[De],rfl,rfl⟩ ?_ ?_
 ·exact AT.Aq gI gI
 rintro⟨t,gs⟩ ⟨i1,i2,i3,i4,i5⟩ J hJ
 replace i1:Iy t:=i1
 replace i2:BO t:=i2
 replace i3:gs.length+(Ag t).length<=1000000:=i3
 replace i4:gs++(Ca t).1=(Ca s).1:=i4
 replace i5:(Ca t).2=(Ca s).2:=i5
 rw[Sc i2]at i4 i5;cases hf:BJ t with
 | nil =>
  rw[hf]at i4 i5;refine gO ?_;refine Ab (LB t i1) (gO ?_);refine CU ⟨[],[],[1472]⟩ _ ?_;refine gO ?_;simp at i4 i5;exact .eq (by grind)
 | cons p l =>
  simp[hf]at i4 i5;have hm:p∈Ag t:=DS (by grind);have hd:=D9 i2 hm;have e0:(0<(l.length:Int)+1)=True:=eq_true (by omega);have ID:gs.length+1<=4294967296:=by omega
  simp only[go_sem,AL,e0];refine Ay 4 [([],[1]),([],[5]),([],[14]),([],[15])] B6 (gO ?_)
  first|(refine Ab (aU t p i1) ?_)|(refine Ax (aU t p i1) ?_)
  refine gO ?_;have rE:=Ln i1 p;refine Ab (ik (BW t p) rE) (gO ?_);refine hJ _ (BW t p,gs++[p]) ⟨rE,Cv i2 p,by grind,by grind,i5⟩ hd (AT.Aq ?_ ?_)
  ·refine gO ?_;exact .sl (by simp[Ac.c])
  ·exact gI
def dS:Nat->Expr->Prop
 | 0,_=>True
 | N+1,e=>e.kids.length<=24/\∀ k∈e.kids,dS N k
def ew{lv:Int}:∀ (l:List Expr) (n d:Int),(∀ e∈l,∀ n,n+1<=(meas e (lv+1) n).2)->n<=(Gk l lv n d).2
 |[],n,d,_=>by simp[Gk]
 | e::l,n,d,h=>by
  have h1:=h e (by simp) n;simp only[Gk];split
  ·simp only;omega
  ·have:=ew l (meas e (lv+1) n).2 (max d (meas e (lv+1) n).1) λe' he=>h e' (by grind)
   omega
def Vz:∀ (N:Nat) (e:Expr),SizeOf.sizeOf e<N->∀ lv n:Int,n+1<=(meas e lv n).2
 | 0,_,h,_,_=>by omega
 | N+1,e,h,lv,n=>by
  rw[Ml];split
  ·simp
  ·exact ew _ _ _ λe' he n'=>Vz N e' (by have:=EM he;omega) _ _
def W6{lv:Int}:∀ (l:List Expr) (n d:Int),(Gk l lv n d).1≠0->0<=n->n<=24->(∀ e∈l,∀ n,0<=n->n<=24->(meas e (lv+1) n).1≠0->n+1<=(meas e (lv+1) n).2/\(meas e (lv+1) n).2<=24) ->
 n+l.length<=24/\∀ e∈l,∃ n,0<=n/\n<=24/\(meas e (lv+1) n).1≠0
 |[],n,d,_,h0,h1,_=>by grind
 | e::l,n,d,h,h0,h1,hk=>by
  simp only[Gk]at h;split at h
  ·omega
  ·rename_i CZ;have he:=hk e (by simp) n h0 h1 CZ;have:=W6 l _ _ h (by omega) he.2 λe' nT=>hk e' (by grind)
   refine⟨by grind,λe' nT=>?_⟩;grind
def Zo:∀ (N:Nat) (e:Expr) (lv n:Int),1<=lv->lv<=5->0<=n->n<=24->(meas e lv n).1≠0->dS N e
 | 0,_,_,_,_,_,_,_,_=>trivial
 | N+1,e,lv,n,h1,h2,h3,h4,h=>by
  rw[Ml]at h;split at h
  ·omega
  ·rename_i hc;have:=W6 e.kids (n+1) 0 h (by omega) (by omega) λe' _ n' k1 k2 k3=>⟨Vz _ e' (lt_succ_self _) _ _,(PK _ e' (lt_succ_self _) (lv+1) n' (by omega) (by omega) k1 k2).2.2.2.2 k3⟩
   refine⟨by omega,λk hk=>?_⟩;obtain⟨n',k1,k2,k3⟩:=this.2 k hk;exact Zo N k (lv+1) n' (by omega) (by omega) k1 k2 k3
def T4{e:Expr}(h:BM e=true)(N:Nat):dS N e:=by
 simp only[BM,and_eq_true,Bool.not_eq_true',beq_eq_false_iff_ne]at h;exact Zo N e 1 0 (by omega) (by omega) (by omega) (by omega) h.1
def ke:∀ (N:Nat) (e:Expr),SizeOf.sizeOf e<N->dS N e->Ad C0 129 [.agg e.c] [] (.agg e.c) []
 | 0,_,h,_=>by omega
 | N+1,e,h,hk=>by
  have XS:=hk.1;refine Ad.lens f129 λhlen=>?_
  simp[FZ,lens,Expr.Dg,length_map,and_true,true_and]at hlen;refine Ad.go f129 ?_;unfold f129;refine gO ?_;refine AF (e.kids) (λi=>⟨[(9,I i),(8,I e.kids.length),(7,JP e.kids),(1,.ptr 64 0),(2,.ptr 128 0),(3,.sl (.own 1088 0) 5 ((e.kids.take i).map Expr.c))],[(64,e.c),(128,(Expr.mk 0 a0 []).c)]⟩) (λi=>True) trivial ?_ ?_
  ·refine AT.Aq ?_ ?_
   all_goals(try simp(disch:=omega)only[go_sem])
   all_goals(try(repeat'(with_reducible apply And.intro)))
   all_goals(first|exact .Cr (by omega)|exact .A8 (by omega)|exact .sl (by simp[a0,Expr.Dg,Expr.k,Expr.atom,Expr.kids])|exact .int (by simp[a0,Expr.k,Expr.atom])|exact .eq (by simp[a0,Expr.atom]))
  rintro i ⟨hi,hP⟩ J hJ;refine gO ?_;refine Bo hi (λAP b hb Cg AX=>?_) λBa=>?_
  simp(disch:=omega)only[go_sem,hb]
  ·have Hb:=EM Cg;have ID:min i e.kids.length+1<=4294967296:=by omega
   refine Ab (ke N b (by omega) (hk.2 b Cg)) ?_;simp(disch:=omega)only[go_sem,length_map,List.length_take];refine hJ _ (i+1) ⟨by omega,trivial⟩ (by omega) (AT.Aq ?_ ?_)
   ·refine gO ?_;exact .sl (by simp[take_add_one,hb,Expr.Dg])
   ·exact gI
  ·subst Ba;refine gO ?_;refine CU ⟨[],[],[1088]⟩ _ ?_;exact gI
def BD(a b:Bs):Bool:=Op.bytesLess a b
def n0:Need:=⟨p0,.mk 0 a0 [],0⟩
def CQ(l:List Queue)(i:Nat)(q:Queue):Bool:=valid q&&(decide (i=0)||BD (l.getD (i-1) q0).res.name q.res.name)
def CM(l:List Need)(i:Nat)(n:Need):Bool:=n.proc.ok&&decide (0<=n.gen)&&decide (n.gen<=1073741824)&&BM n.expr&&(decide (i=0)||decide (BF (l.getD (i-1) n0).proc n.proc<0))
def C5(l:List Queue):Bool:=decide (l.length<=8)&&Cu (CQ l) l
def GZ(l:List Need):Bool:=decide (l.length<=8)&&Cu (CM l) l
def AI(s:WS):Bool:=C5 s.Aa&&GZ s.Aw&&decide ((Ag s).length<=8)
def Bt{q:Queue}(h:BS q<=100):q.holds.length<=1000000/\q.As.length<=1000000/\q.waits.length<=1000000:=by
 unfold BS B7 at h;omega
def Qz(s:WS)(h:Iy s):Ad C0 32 [.agg s.c] [] (B (AI s)) []:=by
 refine Ad.go f32 ?_;unfold f32
 by_cases hq:8<s.Aa.length
 ·have e1:(8<(s.Aa.length:Int))=True:=eq_true (by omega);have e:AI s=false:=by simp[AI,C5];omega
  simp(disch:=omega)only[go_sem,e1];refine Al _ ?_;exact wb (by simp[e])
 have e1:(8<(s.Aa.length:Int))=False:=eq_false (by omega)
 by_cases hn:8<s.Aw.length
 ·have e2:(8<(s.Aw.length:Int))=True:=eq_true (by omega);have e:AI s=false:=by simp[AI,GZ];omega
  simp(disch:=omega)only[go_sem,e1,e2,decide_false,decide_true];refine Al _ ?_;exact wb (by simp[e])
 have e2:(8<(s.Aw.length:Int))=False:=eq_false (by omega);simp(disch:=omega)only[go_sem,e1,e2,decide_false];refine AF (s.Aa) (λi=>⟨[(20,I i),(19,I s.Aa.length),(18,AN s.Aa),(1,.ptr 64 0)],[(64,s.c)]⟩) (λi=>Cu (CQ s.Aa) (s.Aa.take i)=true) rfl ?_ ?_
 ·exact Ce
 rintro i ⟨hi,hP⟩ J hJ;refine gO ?_;refine Bo hi (λAP b hb Cg AX=>?_) λBa=>?_
 simp(disch:=omega)only[go_sem,gm,hb]
 ·have ha:=Bt (h.aq b Cg);have bad:CQ s.Aa i b=false->AI s=false:=λh=>by simp only[AI,C5,B5 hb h,Bool.and_false,Bool.false_and]
  have FM:CQ s.Aa i b=true->Cu (CQ s.Aa) (s.Aa.take (i+1))=true:=λh=>by rw[CB hb,hP,h];rfl
  refine Ay 18 [([],[4]),([],[25]),([1],[26]),([1],[27]),([1],[3,28]),([1],[29,28]),([1],[30,28]),([1],[1,31]),([1],[32,31]),([1],[3,31]),([1],[34,31]),([1],[33,35,31]),([1],[36,31]),([1],[37,31]),([1],[38,31]),([1],[4,31]),([1],[40,31]),([1],[41,31])] B6 ?_;refine gO ?_
  first|(refine Ab (Wn b ha.1 ha.2.2) ?_)|(refine Ax (Wn b ha.1 ha.2.2) ?_)
  cases hv:valid b
  ·simp(disch:=omega)only[go_sem];refine Al _ ?_;exact wb (by rw[bad (by simp[CQ,hv])])
  by_cases QI:i=0
  ·subst QI;refine gO ?_;refine hJ _ 1 ⟨by omega,FM (by simp[CQ,hv])⟩ (by omega) AK
  ·have QJ:(0<(i:Int))=True:=eq_true (by omega);have NP:((i:Int)-1)=((i-1:Nat):Int):=by omega
   obtain⟨a,NZ⟩:∃ a,s.Aa[i-1]?=some a:=⟨_,gE (by omega)⟩;have UK:s.Aa.getD (i-1) q0=a:=by simp[List.getD,NZ]
   simp(disch:=omega)only[go_sem,QJ,NP,gm,NZ];refine And.intro (λhh=>?_) (λhh=>?_)
   ·refine Al _ ?_;exact wb (by rw[bad (by simp only[CQ,UK,hv];simp[QI];simpa [BD]using hh)])
   ·refine hJ _ (i+1) ⟨by omega,FM (by simp only[CQ,UK,hv];simp[QI];simpa [BD]using hh)⟩ (by omega) AK
 subst Ba;rw[take_length]at hP;have lM:C5 s.Aa=true:=by simp[C5,hP];omega
 clear hJ;refine AF (s.Aw) (λi=>⟨[(50,I i),(49,I s.Aw.length),(48,Io s.Aw),(1,.ptr 64 0)],[(64,s.c)]⟩) (λi=>Cu (CM s.Aw) (s.Aw.take i)=true) rfl ?_ ?_
 ·exact Ce
 rintro i ⟨hi,hP⟩ J hJ;refine gO ?_;refine Bo hi (λAP b hb Cg AX=>?_) λBa=>?_
 simp(disch:=omega)only[go_sem,gm,hb]
 ·have bad:CM s.Aw i b=false->AI s=false:=λh=>by simp only[AI,GZ,B5 hb h,Bool.and_false,Bool.false_and]
  have FM:CM s.Aw i b=true->Cu (CM s.Aw) (s.Aw.take (i+1))=true:=λh=>by rw[CB hb,hP,h];rfl
  refine Ab (Wo b.proc) ?_;cases hp:b.proc.ok
  ·simp(disch:=omega)only[go_sem];refine Al _ ?_;exact wb (by rw[bad (by simp[CM,hp])])
  by_cases uB:b.gen<0
  ·have k1:(b.gen<0)=True:=eq_true uB;simp(disch:=omega)only[go_sem,k1];refine Al _ ?_;exact wb (by rw[bad (by simp[CM];omega)])
  have k1:(b.gen<0)=False:=eq_false uB
  by_cases iE:1073741824<b.gen
  ·have k2:(1073741824<b.gen)=True:=eq_true iE;simp(disch:=omega)only[go_sem,k1,k2,decide_false];refine Al _ ?_;exact wb (by rw[bad (by simp[CM];omega)])
  have k2:(1073741824<b.gen)=False:=eq_false iE;have g1:decide (0<=b.gen)=true:=by simp;omega
  have g2:decide (b.gen<=1073741824)=true:=by simp;omega
  simp(disch:=omega)only[go_sem,k1,k2,decide_false];refine Ai (ra b.expr) (by simp(disch:=omega)only[go_sem,Expr.Dg]) rfl ?_;cases he:BM b.expr
  ·simp(disch:=omega)only[go_sem];refine Al _ ?_;exact wb (by rw[bad (by simp[CM,he])])
  refine gO ?_;refine Ay 12 [([],[5]),([],[75]),([],[76]),([],[1,77]),([],[78,77]),([],[5,77]),([],[80,77]),([],[79,81,77]),([],[82,77]),([],[83,77]),([],[6,77]),([],[85,77])] B6 ?_
  by_cases QI:i=0
  ·subst QI;refine gO ?_;refine hJ _ 1 ⟨by omega,FM (by simp only[CM,hp,g1,g2,he];rfl)⟩ (by omega) AK
  ·have QJ:(0<(i:Int))=True:=eq_true (by omega);have NP:((i:Int)-1)=((i-1:Nat):Int):=by omega
   obtain⟨a,NZ⟩:∃ a,s.Aw[i-1]?=some a:=⟨_,gE (by omega)⟩;have UK:s.Aw.getD (i-1) n0=a:=by simp[List.getD,NZ]
   simp(disch:=omega)only[go_sem,QJ,NP,gm,NZ]
   first|(refine Ab (LC a.proc b.proc) ?_)|(refine Ax (LC a.proc b.proc) ?_)
   refine gO ?_
   by_cases hc:0<=BF a.proc b.proc
   ·simp(disch:=omega)only[go_sem,hc];refine Al _ ?_;exact wb (by rw[bad (by simp only[CM,UK];simp[QI];omega)])
   ·simp(disch:=omega)only[go_sem,hc,decide_false];refine hJ _ (i+1) ⟨by omega,FM (by simp only[CM,UK,hp,g1,g2,he];simp;omega)⟩ (by omega) AK
 ·subst Ba;rw[take_length]at hP;have gF:GZ s.Aw=true:=by simp[GZ,hP];omega
  refine Ab (LB s h) ?_;refine gO ?_;refine Al _ ?_;exact wb (by simp only[AI,lM,gF];simp;omega)
def Be{s:WS}(h:AI s=true):BO s:=by
 simp only[AI,C5,and_eq_true,CY]at h;intro q hq;obtain⟨i,hi,he⟩:=getElem_of_mem hq;have:=h.1.1.2 i q (by grind);simp only[CQ,and_eq_true]at this;exact this.1
def MT(s:WS):Prop:=∀ n∈s.Aw,BM n.expr=true
def Kf{s:WS}(h:AI s=true):MT s:=by
 simp only[AI,GZ,and_eq_true,CY]at h;intro q hq;obtain⟨i,hi,he⟩:=getElem_of_mem hq;have:=h.1.2.2 i q (by grind);simp only[CM,and_eq_true]at this;exact this.1.2
def YI{s:WS}(h:MT s)(p:Ac):MT (BW s p):=λn hn=>h n (mem_filter.1 hn).1
def bS{P:WS->Prop}(hP:∀ s p,P s->P (BW s p)){s:WS}(l:List Ac)(h:P s):P (Fw s l):=by
 unfold Fw;have:∀ (ps:List Ac) (x:WS),P x->P (ps.foldl (λx p=>if Br l p then x else BW x p) x):=by
  intro ps
  induction ps with
  | nil=>intro x hx;exact hx
  | cons p ps ih =>
   intro x hx;simp;split
   ·exact ih x hx
   ·exact ih _ (hP x p hx)
 exact this _ _ h
def wS{s:WS}(h:Iy s)(l:List Ac):Iy (Fw s l):=bS (P:=Iy) (λ_ p h=>Ln h p) l h
def nB{s:WS}(h:MT s)(l:List Ac):MT (Fw s l):=bS (P:=MT) (λ_ p h=>YI h p) l h
def rb(s:WS)(h:Iy s)(he:MT s):Ad C0 77 [.agg s.c] [] (.agg s.c) []:=by
 have dD:=h.nq;have Y4:=h.nn;refine Ad.go f77 ?_;unfold f77;refine gO ?_;refine AF (s.Aa) (λi=>⟨[(11,I i),(10,I s.Aa.length),(9,AN s.Aa),(1,.ptr 64 0),(2,.ptr 128 0),(3,.ptr 192 0)],[(64,s.c),(128,jO),(192,[.sl (.own 1984 0) 8 ((s.Aa.take i).map Queue.c),.v (.slice none 0 0)])]⟩) (λi=>True) trivial ?_ ?_
 ·exact Ce
 rintro i ⟨hi,hP⟩ J hJ;refine gO ?_;refine Bo hi (λAP b hb Cg AX=>?_) λBa=>?_
 simp(disch:=omega)only[go_sem,hb]
 ·have ha:=Bt (h.aq b Cg);have ID:min i s.Aa.length+1<=4294967296:=by omega
  refine Ay 10 [([],[5]),([],[15]),([],[16]),([],[5]),([],[18]),([2],[19]),([],[5]),([],[21]),([2,5],[22]),([2],[5])] B6 (gO ?_)
  first|(refine Ab (Ve b.holds ha.1) ?_)|(refine Ax (Ve b.holds ha.1) ?_)
  refine gO ?_
  first|(refine Ab (Lk b.As ha.2.1) ?_)|(refine Ax (Lk b.As ha.2.1) ?_)
  refine gO ?_
  first|(refine Ab (Lk b.waits ha.2.2) ?_)|(refine Ax (Lk b.waits ha.2.2) ?_)
  refine gO ?_;refine hJ _ (i+1) ⟨by omega,trivial⟩ (by omega) (AT.Aq gI ?_);refine gO ?_;exact .sl (by simp[take_add_one,hb,Queue.c])
 subst Ba;rw[take_length];clear hJ;refine AF (s.Aw) (λi=>⟨[(37,I i),(36,I s.Aw.length),(35,Io s.Aw),(1,.ptr 64 0),(2,.ptr 128 0),(3,.ptr 192 0)],[(64,s.c),(128,jO),(192,[.sl (.own 1984 0) 8 (s.Aa.map Queue.c),.sl (.own 3136 0) 9 ((s.Aw.take i).map Need.c)])]⟩) (λi=>True) trivial ?_ ?_
 ·exact Ce
 rintro i ⟨hi,hP⟩ J hJ;refine gO ?_;refine Bo hi (λAP b hb Cg AX=>?_) λBa=>?_
 simp(disch:=omega)only[go_sem,hb]
 ·have ID:min i s.Aw.length+1<=4294967296:=by omega
  refine Ai (ke _ b.expr (lt_succ_self _) (T4 (he b Cg) _)) (by exact gI) rfl ?_;refine gO ?_;refine hJ _ (i+1) ⟨by omega,trivial⟩ (by omega) (AT.Aq gI ?_);refine gO ?_;exact .sl (by simp[take_add_one,hb,Need.c])
 ·subst Ba;refine gO ?_;refine CU ⟨[],[],[1984,3136]⟩ _ ?_;exact gI
def N9:WS:=⟨[],[]⟩
def LQ(s:WS):List Ac:=if AI s then BJ s else []
def Aar(s:WS)(h:Iy s):Ad C0 33 [.agg s.c] [] (AL (LQ s)) []:=by
 refine Ad.go f33 ?_;unfold f33;refine gO ?_;refine Ab (Qz s h) ?_;cases hv:AI s
 ·refine gO ?_;refine CT _ ?_;simp only[go_sem,LQ];simp only[hv];exact .A8 (by omega)
 ·refine gO ?_;refine Ab (ik s h) (gO ?_);refine CT _ ?_;simp(disch:=omega)only[go_sem,LQ]
def GS(s:WS):List Ac × List Ac:=if AI s then Ca s else ([],[])
def gZ(s:WS)(h:Iy s):Ad C0 40 [.agg s.c] [] (.BC [AL (GS s).1,AL (GS s).2]) []:=by
 refine Ad.go f40 ?_;unfold f40;refine gO ?_;refine Ab (Qz s h) ?_;cases hv:AI s
 ·have e:GS s=([],[]):=by simp[GS,hv]
  refine gS ?_;exact Gw _
 ·have e:GS s=Ca s:=by simp[GS,hv]
  refine gS ?_;refine Ab (AaJ s h (Be hv)) (gO ?_);exact AQ _
def mm{s:WS}(h:Iy s)(hg:BO s):(Ca s).2.length<=20000:=by
 have key:∀ (n:Nat) (s:WS),Iy s->(Sb n s).2.length<=20000:=by
  intro n
  induction n<;>grind[De,Sb,Ln]
 exact key _ s h
def ED(s:WS)(p:Ac):WS × Int:=if AI s then (if Br (Ag s) p then (BW s p,0) else (N9,10)) else (N9,2)
def Aas(s:WS)(p:Ac)(h:Iy s):Ad C0 35 [.agg s.c,.agg p.c] [] (.BC [.agg (ED s p).1.c,I (ED s p).2]) []:=by
 have hl:=De h;refine Ad.go f35 ?_;unfold f35;refine gO ?_;refine Ab (Qz s h) ?_;cases hv:AI s
 ·have e:ED s p=(N9,2):=by simp[ED,hv]
  simp only[go_sem,e,N9];refine Al _ ?_;refine .BC (Ae.AJ ?_);refine gO ?_
  repeat'(with_reducible apply And.intro)
  all_goals(first|exact .A8 (by omega)|exact .agg (Ae.AJ gI))
 refine gO ?_;refine Ay 3 [([],[2]),([],[10]),([],[3])] B6 (gO ?_)
 first|(refine Ab (LB s h) ?_)|(refine Ax (LB s h) ?_)
 refine gO ?_
 first|(refine Ab (KE (Ag s) p (by omega)) ?_)|(refine Ax (KE (Ag s) p (by omega)) ?_)
 cases hp:Br (Ag s) p
 ·have e:ED s p=(N9,10):=by grind[ED]
  simp only[go_sem,e,N9];refine Al _ ?_;refine .BC (Ae.AJ ?_);refine gO ?_
  repeat'(with_reducible apply And.intro)
  all_goals(first|exact .A8 (by omega)|exact .agg (Ae.AJ gI))
 ·have e:ED s p=(BW s p,0):=by grind[ED]
  refine gS ?_;refine Ab (aU s p h) (gO ?_);refine Ab (rb (BW s p) (Ln h p) (YI (Kf hv) p)) (gO ?_);exact AQ _
def HG(s:WS)(l:List Ac):WS × Int:=if AI s then (Fw s l,0) else (N9,2)
def AaM(s:WS)(l:List Ac)(h:Iy s)(hl:l.length<=1000000):Ad C0 94 [.agg s.c,AL l] [] (.BC [.agg (HG s l).1.c,I (HG s l).2]) []:=by
 refine Ad.go f94 ?_;unfold f94;refine gO ?_;refine Ab (Qz s h) ?_;cases hv:AI s
 ·have e:HG s l=(N9,2):=by simp[HG,hv]
  simp only[go_sem,e,N9];refine Al _ ?_;refine .BC (Ae.AJ ?_);refine gO ?_
  repeat'(with_reducible apply And.intro)
  all_goals(first|exact .A8 (by omega)|exact .agg (Ae.AJ gI))
 ·have e:HG s l=(Fw s l,0):=by simp[HG,hv]
  refine gS ?_;refine Ab (vz s l h hl) (gO ?_);refine Ab (rb (Fw s l) (wS h l) (nB (Kf hv) l)) (gO ?_);exact AQ _
end Go.Rd
