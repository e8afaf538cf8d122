/- part 14 of the proof -/
import Derived.Test.YteliegkcmjimoaaGreatDoorV13
set_option linter.all false
open Go Go.Abs Go.Proofs
set_option maxRecDepth 100000
namespace Go.Rd
set_option maxHeartbeats 8000000
open List (all_eq_true filter_sublist getElem_of_mem length_cons length_filter_le length_map length_take mem_append mem_cons mem_filter mem_map take_add_one take_length)
open Bool (and_eq_true)
open Nat (le_trans)
open Tryz
def FV{α:Type}{f:Nat->α->Bool}{l:List α}:Ci f l=true↔∀ i b,l[i]?=some b->f i b=true:=by
 unfold Ci;rw[all_eq_true];constructor
 ·intro h i b hb;exact h (b,i) (by rw[List.mk_mem_zipIdx_iff_getElem?];exact hb)
 ·rintro h ⟨b,i⟩ hm;rw[List.mk_mem_zipIdx_iff_getElem?]at hm;exact h i b hm
def Ay{α:Type}{l:List α}{i:Nat}{b:α}(h:l[i]?=some b):i<l.length:=by
 rcases Nat.lt_or_ge i l.length with h'|h'
 ·exact h'
 ·rw[List.getElem?_eq_none h']at h;cases h
def get_eq{α:Type}{l:List α}{i:Nat}{b:α}(h:l[i]?=some b):l[i]'(Ay h)=b:=by
 rw[gE (Ay h)]at h;exact Option.some.inj h
def UN(l:List Ba):Prop:=l.Pairwise λa b=>a.proc≠b.proc
def aQ(l:List Ba):(∀ (i:Nat) (w:Ba),l[i]?=some w->EH l w.proc=(i:Int))↔UN l:=by
 unfold UN;rw[List.pairwise_iff_getElem];constructor
 ·intro h i j hi hj Sg he;have h1:=h i l[i] (gE hi);have h2:=h j l[j] (gE hj);rw[he,h2]at h1;omega
 ·intro h i w hw;have hi:=Ay hw;have hwe:=get_eq hw;have:l.findIdx? (λx=>decide (x.proc=w.proc))=some i:=by
   rw[List.findIdx?_eq_some_iff_getElem];refine⟨hi,by simp[hwe],λj hj=>?_⟩;have:=h j i (by omega) hi hj;rw[hwe]at this;simpa using this
  simp[EH,this]
def On(l:List AX):Prop:=l.Pairwise λa b=>Bw a.proc b.proc<0
def nb(l:List AX):(∀ i h,l[i]?=some h->(decide (i=0)||decide (Bw (l.getD (i-1) h0).proc h.proc<0))=true)↔On l:=by
 unfold On;rw[List.pairwise_iff_getElem];constructor
 ·intro h;have step:∀ i (hi:i+1<l.length),Bw l[i].proc l[i+1].proc<0:=λi hi=>by
   have:=h (i+1) l[i+1] (gE hi);simp only[Nat.add_sub_cancel,Bool.or_eq_true,decide_eq_true_eq]at this;rcases this with h'|h'
   ·omega
   ·simpa [List.getD,gE (show i<l.length by omega)]using h'
  have far:∀ d i (hi:i+d+1<l.length),Bw l[i].proc l[i+d+1].proc<0:=by
   intro d
   induction d with
   | zero=>intro i hi;exact step i hi
   | succ d ih =>
    intro i hi;have h1:=ih i (by omega);have h2:=step (i+d+1) (by omega);exact DP h1 h2
  intro i j hi hj Sg;obtain⟨d,rfl⟩:∃ d,j=i+d+1:=⟨j-i-1,by omega⟩;exact far d i hj
 ·intro h i b hb;cases i with
  | zero=>simp
  | succ i =>
   have hi:=Ay hb;have xD:=get_eq hb;have:=h i (i+1) (by omega) hi (by omega);rw[xD]at this;simp[List.getD,gE (show i<l.length by omega),this]
def D6(r:Bo)(l:List AX):BG r l=true↔r.shaped=true/\l.length<=8/\(∀ h∈l,h.proc.ok=true/\r.fits h.AN=true)/\On l/\r.compat (l.map (·.AN))=true:=by
 unfold BG;simp only[and_eq_true,decide_eq_true_eq,FV,Eo];rw[<- nb];constructor
 ·rintro⟨⟨⟨h1,h2⟩,h3⟩,h4⟩;refine⟨h1,h2,λh hm=>?_,λi h hi=>(h3 i h hi).2,h4⟩;obtain⟨i,hi,he⟩:=getElem_of_mem hm;have:=h3 i h (by rw[gE hi,he]);exact this.1
 ·rintro⟨h1,h2,h3,h4,h5⟩;exact⟨⟨⟨h1,h2⟩,λi h hi=>⟨h3 h (mG hi),h4 i h hi⟩⟩,h5⟩
def B1(q:Queue):Em q=true↔q.Ak.length<=8/\UN q.Ak/\∀ w∈q.Ak,(Ap q.holds w.proc).zero=false/\q.res.fits w.AN=true/\q.res.covers w.AN (Ap q.holds w.proc)=true/\w.AN≠Ap q.holds w.proc/\w.prio=0/\w.DW=0:=by
 unfold Em;simp only[and_eq_true,decide_eq_true_eq,FV,HR];rw[<- aQ];constructor
 ·rintro⟨h1,h2⟩;refine⟨h1,λi w hi=>(h2 i w hi).1.1.1.1.1.1,λw hm=>?_⟩;obtain⟨i,hi,he⟩:=getElem_of_mem hm;have:=h2 i w (by rw[gE hi,he]);simp at this;obtain⟨⟨⟨⟨⟨⟨_,a⟩,b⟩,c⟩,d⟩,e⟩,f⟩:=this;exact⟨by simpa using a,b,c,d,e,f⟩
 ·rintro⟨h1,h2,h3⟩;refine⟨h1,λi w hi=>?_⟩;obtain⟨a,b,c,d,e,f⟩:=h3 w (mG hi);exact⟨⟨⟨⟨⟨⟨h2 i w hi,by simp[a]⟩,b⟩,c⟩,by simpa using d⟩,by simpa using e⟩,by simpa using f⟩
def CQ(l:List Ba):DG l=true↔l.length<=8/\UN l/\∀ w∈l,w.ok=true:=by
 unfold DG;simp only[and_eq_true,decide_eq_true_eq,FV,Fp];rw[<- aQ];constructor
 ·rintro⟨h1,h2⟩;refine⟨h1,λi w hi=>(h2 i w hi).2,λw hm=>?_⟩;obtain⟨i,hi,he⟩:=getElem_of_mem hm;exact(h2 i w (by rw[gE hi,he])).1
 ·rintro⟨h1,h2,h3⟩;exact⟨h1,λi w hi=>⟨h3 w (mG hi),h2 i w hi⟩⟩
def BT(q:Queue):Er q=true↔DG q.waits=true/\q.holds.length+q.waits.length<=8/\∀ w∈q.waits,q.res.fits w.AN=true/\(Ap q.holds w.proc).zero=true:=by
 unfold Er;simp only[and_eq_true,decide_eq_true_eq,all_eq_true,HZ,and_assoc]
structure Sound(q:Queue):Prop where
 res:N6 q.res=true
 holds:BG q.res q.holds=true
 Ak:Em q=true
 waits:Er q=true
 gen:0<=q.gen/\q.gen<=1073741824
def I1(q:Queue):sound q=true↔Sound q:=by
 unfold sound;simp only[and_eq_true,decide_eq_true_eq];exact⟨fun⟨⟨⟨⟨⟨a,b⟩,c⟩,d⟩,e⟩,f⟩=>⟨a,b,c,d,e,f⟩,λh=>⟨⟨⟨⟨⟨h.res,h.holds⟩,h.Ak⟩,h.waits⟩,h.gen.1⟩,h.gen.2⟩⟩
def H5{α:Type}{f g:α->Bool}(h:∀ x,f x=true->g x=true):∀ l:List α,(l.filter g).find? f=l.find? f
 |[]=>rfl
 | x::l=>by
  simp only[List.filter_cons,List.find?_cons];cases hf:f x
  ·cases g x
   ·simpa using H5 h l
   ·simp only[if_true,List.find?_cons,hf];exact H5 h l
  ·simp[h x hf,hf]
def QO{l:List AX}{p p':Ad}(h:p'≠p):Ap (AG l p) p'=Ap l p':=by
 unfold Ap AG;rw[H5];intro x hx;simp at hx ⊢;rw[hx];exact h
def FH{l:List AX}{p p':Ad}{a:BO}(h:p'≠p):Ap (Cs l p a) p'=Ap l p':=by
 rw[<- QO (l:=l) h];unfold Cs;split
 ·rfl
 ·unfold Ap;generalize CG (AG l p) p=k
  conv=>rhs;rw[<- List.take_append_drop k (AG l p)]
  rw[List.find?_append,List.find?_append,List.find?_cons];have:decide (p=p')=false:=by simpa using Ne.symm h
  simp[this]
def QG{l:List AX}{p:Ad}(h:(Ap l p).zero=false):(AG l p).length+1<=l.length:=by
 unfold Ap at h;cases hf:l.find? (λh=>decide (h.proc=p)) with
 |none=>rw[hf]at h;simp[BO.zero]at h
 |some x =>
  have hm:=List.mem_of_find?_eq_some hf;have hx:=List.find?_some hf;unfold AG;have:(l.filter λh=>decide (h.proc≠p)).length<l.length:=by
   rw[List.length_filter_lt_length_iff_exists];exact⟨x,hm,by simpa using hx⟩
  omega
def S3{l:List AX}{p:Ad}{a:BO}:(Cs l p a).length<=(AG l p).length+1:=by
 have h2:=NG (AG l p) p;unfold Cs;split
 ·omega
 ·simp;omega
def IN{r:Bo}{a:BO}(h:r.fits a=true):a.zero=false:=by
 simp only[Bo.fits,and_eq_true]at h;obtain⟨h1,h2⟩:=h;split at h2
 ·simp[Bu,AL]at h2;simp[BO.zero];omega
 ·simp[AL]at h2;simp[BO.zero];omega
def KJ{l:List AX}{p:Ad}{h:AX}:h∈AG l p↔h∈l/\h.proc≠p:=by simp[AG]
def Uo{l:List AX}{p:Ad}{a:BO}(ha:a.zero=false){h:AX}:h∈Cs l p a↔(h∈l/\h.proc≠p)\/h=⟨p,a⟩:=by
 unfold Cs;rw[ha];simp only[Bool.false_eq_true,if_false,mem_append,mem_cons];rw[<- KJ]
 conv=>rhs;rw[<- List.take_append_drop (CG (AG l p) p) (AG l p),mem_append]
 constructor
 ·rintro(h|h|h)
  ·exact .inl (.inl h)
  ·exact .inr h
  ·exact .inl (.inr h)
 ·rintro((h|h)|h)
  ·exact .inl h
  ·exact .inr (.inr h)
  ·exact .inr (.inl h)
def aA{s s':List Bool}{m:Int}(h:∀ k,s'.getD k false=true->s.getD k false=true)(hs:EC s m=true):EC s' m=true:=by
 unfold EC at *;rw[all_eq_true]at *;intro k hk;have:=hs k hk;cases h1:s'.getD k false
 ·rfl
 ·rw[h k h1]at this;simpa using this
def G7(s:List Bool)(i k:Nat):(s.set i true).getD k false=(if i=k/\i<s.length then true else s.getD k false):=by
 simp only[List.getD_eq_getElem?_getD,List.getElem?_set]
 by_cases h:i=k
 ·subst h
  by_cases h2:i<s.length
  ·simp[h2]
  ·simp[h2]
 ·simp[h]
def Xh{r:Bo}{l' l:List BO}(ED:l'.Sublist l):∀ {s s':Int} {seen N9:List Bool},s'<=s->N9.length=seen.length->(∀ k,N9.getD k false=true->seen.getD k false=true)->B5 r l s seen=true->B5 r l' s' N9=true:=by
 induction ED with
 | slnil=>intros;rfl
 | cons a ED ih =>
  intro s s' seen N9 hs hlen hk h;simp only[B5,and_eq_true]at h;obtain⟨⟨h1,h2⟩,h3⟩:=h;have hu:=JQ h1;split at h3
  ·exact ih (by omega) hlen hk h3
  ·rw[and_eq_true]at h3;refine ih (by omega) (by simpa using hlen) (λk a7=>?_) h3.2;rw[G7];split
   ·rfl
   ·exact hk k a7
 | cons_cons a ED ih =>
  intro s s' seen N9 hs hlen hk h;simp only[B5,and_eq_true,Bool.not_eq_true',decide_eq_false_iff_not]at h ⊢;obtain⟨⟨h1,h2⟩,h3⟩:=h;refine⟨⟨h1,by omega⟩,?_⟩;split at h3
  ·rename_i hm;rw[if_pos hm];exact ih (by omega) hlen hk h3
  ·rename_i hm;rw[if_neg hm];rw[and_eq_true]at h3 ⊢;refine⟨aA hk h3.1,ih (by omega) (by simpa using hlen) (λk a7=>?_) h3.2⟩;rw[G7]at a7 ⊢;split at a7
   ·rename_i hc;rw[if_pos ⟨hc.1,by omega⟩]
   ·split
    ·rfl
    ·exact hk k a7
def br{r:Bo}{l' l:List BO}(ED:l'.Sublist l)(h:r.compat l=true):r.compat l'=true:=by
 simp only[Bo.compat,and_eq_true]at *;exact⟨h.1,Xh ED (Int.le_refl _) rfl (λ_ h=>h) h.2⟩
def JM{r:Bo}{l' l:List AX}(ED:l'.Sublist l)(h:BG r l=true):BG r l'=true:=by
 rw[D6]at *;obtain⟨h1,h2,h3,h4,h5⟩:=h;exact⟨h1,le_trans ED.length_le h2,λx hx=>h3 x (ED.subset hx),h4.sublist ED,br (ED.map _) h5⟩
def GU(l:List AX)(p:Ad):Cs l p ⟨0,0⟩=AG l p:=by simp[Cs,BO.zero]
def KZ{q:Queue}(h:Sound q)(p:Ad):Sound (B2 q p):=by
 have hd:(AG q.holds p).length<=q.holds.length:=length_filter_le _ _;have hw:=Bx q.waits p;have hc:=Bx q.Ak p;refine⟨h.res,?_,?_,?_,h.gen⟩
 ·simp only[B2,GU];exact JM filter_sublist h.holds
 ·have:=(B1 q).1 h.Ak;rw[B1];simp only[B2,GU];refine⟨by omega,this.2.1.sublist filter_sublist,λw hw=>?_⟩;simp only[Bt,mem_filter,decide_eq_true_eq]at hw;rw[QO hw.2];exact this.2.2 w hw.1
 ·have:=(BT q).1 h.waits;rw[BT];obtain⟨a,b,c⟩:=this;rw[CQ]at a;simp only[B2,GU,CQ];refine⟨⟨by omega,a.2.1.sublist filter_sublist,λw hw=>?_⟩,by omega,λw hw=>?_⟩
  ·simp only[Bt,mem_filter]at hw;exact a.2.2 w hw.1
  ·simp only[Bt,mem_filter,decide_eq_true_eq]at hw;rw[QO hw.2];exact c w hw.1
def NI{q:Queue}{w:Ba}(h:E3 q.res q.holds w.proc w.AN=true):q.res.fits w.AN=true/\w.proc.ok=true/\BG q.res (Cs q.holds w.proc w.AN)=true:=by
 simp only[E3,and_eq_true]at h;exact⟨h.1.2,h.1.1.2,h.2⟩
def K0{q:Queue}{w:Ba}(h:Sound q)(hh:BE q=some w)(hr:E3 q.res q.holds w.proc w.AN=true):Sound (CS q w):=by
 obtain⟨r1,r2,r3⟩:=NI hr;have tP:=(B1 q).1 h.Ak;have ba:=(BT q).1 h.waits;obtain⟨a,b,c⟩:=ba;rw[CQ]at a;cases hc:q.Ak with
 | cons w' l =>
  have PN:w'=w:=by simp[BE,hc]at hh;exact hh
  subst PN;have hp:CS q w' = { q with holds:=Cs q.holds w'.proc w'.AN,Ak:=l }:=by unfold CS;simp only[hc]
  rw[hp];have hu:=tP.2.1;rw[hc]at hu;have V8:=List.pairwise_cons.1 hu;have rA:=(tP.2.2 w' (by rw[hc];simp)).1;refine⟨h.res,r3,?_,?_,h.gen⟩
  ·rw[B1];have:=tP.1;rw[hc]at this;simp only[length_cons]at this;refine⟨by simp;omega,V8.2,λx hx=>?_⟩;have Ca:x.proc≠w'.proc:=λe=>V8.1 x hx e.symm
   simp only[FH Ca];exact tP.2.2 x (by rw[hc];simp[hx])
  ·rw[BT];simp only[CQ];refine⟨a,?_,λx hx=>?_⟩
   ·have h1:=QG rA;have h2:=S3 (l:=q.holds) (p:=w'.proc) (a:=w'.AN);omega
   ·have yp:=c x hx;have Ca:x.proc≠w'.proc:=λe=>by rw[e,rA]at yp;exact absurd yp.2 (by simp)
    rw[FH Ca];exact yp
 | nil =>
  cases hw:q.waits with
  | nil=>simp[BE,hc,hw]at hh
  | cons w' l =>
   have PN:w'=w:=by simp[BE,hc,hw]at hh;exact hh
   subst PN;have hp:CS q w' = { q with holds:=Cs q.holds w'.proc w'.AN,waits:=l }:=by unfold CS;simp only[hc,hw];rfl
   rw[hp];rw[hw]at a b;have V8:=List.pairwise_cons.1 a.2.1;simp only[length_cons]at a b;refine⟨h.res,r3,?_,?_,h.gen⟩
   ·rw[B1];simp[hc,UN]
   ·rw[BT];simp only[CQ];refine⟨⟨by omega,V8.2,λx hx=>a.2.2 x (by simp[hx])⟩,?_,λx hx=>?_⟩
    ·have h2:=S3 (l:=q.holds) (p:=w'.proc) (a:=w'.AN);have h3:(AG q.holds w'.proc).length<=q.holds.length:=length_filter_le _ _;omega
    ·have Ca:x.proc≠w'.proc:=λe=>V8.1 x hx e.symm
     rw[FH Ca];exact c x (by rw[hw];simp[hx])
def KW(q:Queue):Prop:=∀ w,BE q=some w->E3 q.res q.holds w.proc w.AN=false
def Ck(q:Queue):valid q=true↔Sound q/\KW q:=by
 unfold valid KW;rw[and_eq_true,I1];cases h:BE q<;>simp
def P7(q:Queue)(w:Ba):(CS q w).res=q.res/\(CS q w).gen=q.gen:=by unfold CS;split<;>exact⟨rfl,rfl⟩
def HQ{P:Queue->Prop}(hP:∀ q w,P q->BE q=some w->E3 q.res q.holds w.proc w.AN=true->P (CS q w)):∀ (n:Nat) (q:Queue),BJ q=n->P q->P (B0 q).1/\KW (B0 q).1
 | n,q,hn,hq=>by
  rw[I8];cases hh:BE q with
  |none=>exact⟨hq,λw hw=>by simp[hh]at hw⟩
  |some w =>
   simp only;cases hr:E3 q.res q.holds w.proc w.AN
   ·exact⟨hq,λw' PN=>by simp[hh]at PN;subst PN;exact hr⟩
   ·have hs:=HF hh;exact HQ hP (BJ (CS q w)) (CS q w) rfl (hP q w hq hh hr)
termination_by n q hn=>BJ q
decreasing_by simp_wf;have:=HF hh;omega
def WK{q:Queue}(h:Sound q):Sound (B0 q).1/\KW (B0 q).1:=HQ (λ_ _ h hh hr=>K0 h hh hr) _ q rfl h
def Ss(q:Queue):(B0 q).1.res=q.res/\(B0 q).1.gen=q.gen:=(HQ (P:=λx=>x.res=q.res/\x.gen=q.gen) (λx w h _ _=>by rw[(P7 x w).1,(P7 x w).2];exact h) _ q rfl ⟨rfl,rfl⟩).1
def c6(q:Queue):BC (B0 q).1<=BC q:=(HQ (P:=λx=>BC x<=BC q) (λx w h hh _=>le_trans (YH hh) h) _ q rfl (Nat.le_refl _)).1
def Rl{q:Queue}(h:Sound q/\KW q){g:Int}(hg:0<=g/\g<=1073741824):Sound { q with gen:=g }/\KW { q with gen:=g }:=by
 refine⟨⟨h.1.res,h.1.holds,?_,?_,hg⟩,λw hw=>h.2 w hw⟩
 ·rw[B1];exact(B1 q).1 h.1.Ak
 ·rw[BT];exact(BT q).1 h.1.waits
def Rm{q:Queue}(h:valid q=true)(p:Ad):valid (Cm q p)=true:=by
 unfold Cm;split
 ·rw[Ck]at h ⊢;have h1:=WK (KZ h.1 p);exact Rl h1 h.1.gen
 ·exact h
theorem WB(q:Queue)(p:Ad):(Cm q p).res=q.res:=by
 unfold Cm;split
 ·exact(Ss (B2 q p)).1
 ·rfl
def da(q:Queue)(p:Ad):BC (B2 q p)<=BC q:=by
 have hd:(AG q.holds p).length<=q.holds.length:=length_filter_le _ _;have hw:=Bx q.waits p;have hc:=Bx q.Ak p;unfold BC BJ;simp only[B2,GU];omega
def ig(q:Queue)(p:Ad):BC (Cm q p)<=BC q:=by
 unfold Cm;split
 ·exact le_trans (c6 (B2 q p)) (da q p)
 ·exact Nat.le_refl _
def Kc(q:Queue)(x:Ad):Prop:=(∃ h∈q.holds,h.proc=x)\/(∃ w∈q.Ak,w.proc=x)\/(∃ w∈q.waits,w.proc=x)
def ES(q:Queue)(x:Ad):x∈B6 q↔Kc q x:=by
 unfold B6 Kc;rw[IZ];simp[Dn,Ct,or_and_right,exists_or]
def Nx{l:List AX}{p:Ad}(h:(Ap l p).zero=false):∃ x∈l,x.proc=p:=by
 unfold Ap at h;cases hf:l.find? (λh=>decide (h.proc=p)) with
 |none=>rw[hf]at h;simp[BO.zero]at h
 |some x=>exact⟨x,List.mem_of_find?_eq_some hf,by simpa using List.find?_some hf⟩
def uJ{q:Queue}{w:Ba}(hh:BE q=some w)(hr:E3 q.res q.holds w.proc w.AN=true)(x:Ad):Kc (CS q w) x↔Kc q x:=by
 have hz:=IN (NI hr).1;have T0:(∃ h∈Cs q.holds w.proc w.AN,h.proc=x)↔((∃ h∈q.holds,h.proc=x)\/x=w.proc):=by
  simp only[Uo hz];constructor
  ·rintro⟨h,(⟨h1,h2⟩|h1),h3⟩
   ·exact .inl ⟨h,h1,h3⟩
   ·subst h1;exact .inr h3.symm
  ·rintro(⟨h,h1,h2⟩|h1)
   ·by_cases e:h.proc=w.proc
    ·exact⟨⟨w.proc,w.AN⟩,.inr rfl,by rw[<- e,h2]⟩
    ·exact⟨h,.inl ⟨h1,e⟩,h2⟩
   ·exact⟨⟨w.proc,w.AN⟩,.inr rfl,h1.symm⟩
 unfold Kc;cases hc:q.Ak with
 | cons w' l =>
  have PN:w'=w:=by simp[BE,hc]at hh;exact hh
  subst PN;have hp:CS q w' = { q with holds:=Cs q.holds w'.proc w'.AN,Ak:=l }:=by unfold CS;simp only[hc]
  rw[hp];simp only[T0,mem_cons,exists_eq_or_imp,or_and_right,exists_or];constructor
  ·rintro((h|h)|h|h)
   ·exact .inl h
   ·exact .inr (.inl (.inl ⟨w',rfl,h.symm⟩))
   ·exact .inr (.inl (.inr h))
   ·exact .inr (.inr h)
  ·rintro(h|(h|h)|h)
   ·exact .inl (.inl h)
   ·obtain⟨_,rfl,h⟩:=h;exact .inl (.inr h.symm)
   ·exact .inr (.inl h)
   ·exact .inr (.inr h)
 | nil =>
  cases hw:q.waits with
  | nil=>simp[BE,hc,hw]at hh
  | cons w' l =>
   have PN:w'=w:=by simp[BE,hc,hw]at hh;exact hh
   subst PN;have hp:CS q w' = { q with holds:=Cs q.holds w'.proc w'.AN,waits:=l }:=by unfold CS;simp only[hc,hw];rfl
   rw[hp];simp only[T0,hc,mem_cons,exists_eq_or_imp,or_and_right,exists_or,List.not_mem_nil,false_and,exists_false,false_or];constructor
   ·rintro((h|h)|h)
    ·exact .inl h
    ·exact .inr (.inl ⟨w',rfl,h.symm⟩)
    ·exact .inr (.inr h)
   ·rintro(h|h|h)
    ·exact .inl (.inl h)
    ·obtain⟨_,rfl,h⟩:=h;exact .inl (.inr h.symm)
    ·exact .inr h
def kT(q:Queue)(x:Ad):Kc (B0 q).1 x↔Kc q x :=
 (HQ (P:=λy=>Kc y x↔Kc q x) (λy w h hh hr=>(uJ hh hr x).trans h) _ q rfl Iff.rfl).1
def ca(q:Queue)(p x:Ad):Kc (B2 q p) x↔Kc q x/\x≠p:=by
 unfold Kc;simp only[B2,GU,KJ,Bt,mem_filter,decide_eq_true_eq];constructor
 ·rintro(⟨h,⟨h1,h2⟩,h3⟩|⟨h,⟨h1,h2⟩,h3⟩|⟨h,⟨h1,h2⟩,h3⟩)
  ·exact⟨.inl ⟨h,h1,h3⟩,by rw[<- h3];exact h2⟩
  ·exact⟨.inr (.inl ⟨h,h1,h3⟩),by rw[<- h3];exact h2⟩
  ·exact⟨.inr (.inr ⟨h,h1,h3⟩),by rw[<- h3];exact h2⟩
 ·rintro⟨⟨h,h1,h3⟩|⟨h,h1,h3⟩|⟨h,h1,h3⟩,Ca⟩
  ·exact .inl ⟨h,⟨h1,by rw[h3];exact Ca⟩,h3⟩
  ·exact .inr (.inl ⟨h,⟨h1,by rw[h3];exact Ca⟩,h3⟩)
  ·exact .inr (.inr ⟨h,⟨h1,by rw[h3];exact Ca⟩,h3⟩)
def kW{q:Queue}(hv:valid q=true)(p x:Ad):x∈B6 (Cm q p)↔x∈B6 q/\x≠p:=by
 by_cases hp:BL (B6 q) p=true
 ·have e:Cm q p = { DA (B2 q p) with gen:=q.gen }:=by simp[Cm,hv,hp]
  rw[ES,ES,e,<- ca];exact kT (B2 q p) x
 ·have e:Cm q p=q:=by simp[Cm,hp]
  rw[e];have:p∉B6 q:=by simpa [BL]using hp
  exact⟨λh=>⟨h,λe=>this (e▸h)⟩,And.left⟩
def CL(s:WS):Prop:=∀ q∈s.Aa,valid q=true
def GG(s:WS)(x:Ad):x∈Am s↔(∃ q∈s.Aa,x∈B6 q)\/∃ n∈s.AB,n.proc=x:=by
 unfold Am AT CJ;rw[IZ,mem_append,IZ,List.mem_flatMap,mem_map]
def ND{s:WS}(h:CL s)(p x:Ad):x∈Am (BU s p)↔x∈Am s/\x≠p:=by
 rw[GG,GG];simp only[BU,Hs,mem_map,mem_filter,decide_eq_true_eq];constructor
 ·rintro(⟨q',⟨q,hq,rfl⟩,hx⟩|⟨n,⟨hn,Ca⟩,rfl⟩)
  ·rw[kW (h q hq)]at hx;exact⟨.inl ⟨q,hq,hx.1⟩,hx.2⟩
  ·exact⟨.inr ⟨n,hn,rfl⟩,Ca⟩
 ·rintro⟨⟨q,hq,hx⟩|⟨n,hn,rfl⟩,Ca⟩
  ·exact .inl ⟨_,⟨q,hq,rfl⟩,(kW (h q hq) p x).2 ⟨hx,Ca⟩⟩
  ·exact .inr ⟨n,⟨hn,Ca⟩,rfl⟩
def DC{s:WS}(h:CL s)(p:Ad):CL (BU s p):=by
 intro q' L7;simp only[BU,mem_map]at L7;obtain⟨q,hq,rfl⟩:=L7;exact Rm (h q hq) p
def Lp{s:WS}(h:Iq s)(p:Ad):Iq (BU s p):=by
 refine⟨by simpa [BU]using h.nq,le_trans (length_filter_le _ _) h.nn,λq' L7=>?_⟩;simp only[BU,mem_map]at L7;obtain⟨q,hq,rfl⟩:=L7;exact le_trans (ig q p) (h.aq q hq)
def NH{s:WS}(h:CL s)(p:Ad):Am (BU s p)=(Am s).filter λx=>decide (x≠p):=by
 refine O7 (E7 _) ?_ λx=>?_
 ·exact List.Pairwise.sublist filter_sublist (E7 _)
 ·rw[ND h];simp
def EA{s:WS}(h:CL s){p:Ad}(hp:p∈Am s):(Am (BU s p)).length<(Am s).length:=by
 rw[NH h,List.length_filter_lt_length_iff_exists];exact⟨p,hp,by simp⟩
def Ac.empty{C:Ctx}{f n:Nat}{xs:List AV}{o o':List (Nat × List AV)}{y:AV}(h:∀ a cap,Ac C f (.v (.slice a 0 cap)::xs) o y o'):Ac C f (.sl .no n []::xs) o y o':=by
 refine⟨(h none 0).1,λg w us hg hv ho=>?_⟩
 match us,hv with
 | u::us,hv =>
  simp only[Az,VR,PR]at hv;obtain⟨⟨_,a,cap,hu,_⟩,pL⟩:=hv;refine(h a cap).2 g w (u::us) hg ?_ ho;simp only[Az,VR];exact⟨by simpa using hu,pL⟩
 |[],hv=>simp[Az]at hv
def SF(l:List AX)(hl:l.length<=1000000):Ac C0 127 [AY l] [] (AY l) []:=by
 cases l with
 | nil =>
  refine Ac.empty λa cap=>?_
  refine Ac.go f127 ?_;unfold f127;simp(disch:=omega)only[go_sem]
  repeat'(with_reducible refine And.intro (λh=>?_) (λh=>?_))
  ·exact AM _
  ·refine CK ⟨[],[],[448]⟩ _ ?_;simp(disch:=omega)only[go_sem,AY]
 | cons x l =>
  refine Ac.go f127 ?_;unfold f127;have hb:l.length+1<=4294967296:=by simp at hl;omega
  simp(disch:=omega)only[go_sem,AY];refine CK ⟨[],[],[448]⟩ _ ?_;simp(disch:=omega)only[go_sem,AY]
def JI(l:List Ba)(hl:l.length<=1000000):Ac C0 128 [BZ l] [] (BZ l) []:=by
 cases l with
 | nil =>
  refine Ac.empty λa cap=>?_
  refine Ac.go f128 ?_;unfold f128;simp(disch:=omega)only[go_sem]
  repeat'(with_reducible refine And.intro (λh=>?_) (λh=>?_))
  ·exact AM _
  ·refine CK ⟨[],[],[448]⟩ _ ?_;simp(disch:=omega)only[go_sem,BZ]
 | cons x l =>
  refine Ac.go f128 ?_;unfold f128;have hb:l.length+1<=4294967296:=by simp at hl;omega
  simp(disch:=omega)only[go_sem,BZ];refine CK ⟨[],[],[448]⟩ _ ?_;simp(disch:=omega)only[go_sem,BZ]
def CX(s:WS)(p:Ad):Bool:=match s.AB.find? (λn=>decide (n.proc=p)) with
 |some n=>Ff n.expr (FI s n)
 |none=>true
def nH(s:WS)(p:Ad)(h:Iq s):Ac C0 125 [.agg s.c,.agg p.c] [] (B (CX s p)) []:=by
 have hn:=h.nn;refine Ac.go f125 ?_;unfold f125;refine gO ?_;refine AH (s.AB) (λi=>⟨[(10,I i),(9,I s.AB.length),(8,MP s.AB),(2,.ptr 128 0),(3,.ptr 192 0)],[(128,s.c),(192,p.c)]⟩) (λi=>(s.AB.take i).find? (λn=>decide (n.proc=p))=none) rfl ?_ ?_
 ·exact B9
 rintro i ⟨hi,hP⟩ J hJ;refine gO ?_;refine Bp hi (λAu b hb Cc AR=>?_) λBf=>?_
 simp(disch:=omega)only[go_sem,gm,hb]
 ·refine Ab (J7 b.proc p) ?_;refine gO ?_;refine And.intro (λhh=>?_) (λhh=>?_)
  ·have e:CX s p=Ff b.expr (FI s b):=by unfold CX;rw[G5 hP hb (by simpa using hh)]
   refine Av 5 [([],[6]),([],[19]),([],[2]),([],[6]),([],[21,22])] B7 ?_;refine gO ?_;refine Aq (n9 s b h) ?_;refine gO ?_;refine Ag (n5 b.expr (FI s b)) (by simp(disch:=omega)only[go_sem,Expr.Cf]) rfl ?_;simp(disch:=omega)only[go_sem,e];exact AM _
  ·refine hJ _ (i+1) ⟨by omega,(by rw[B4 hP hb];simp at hh;simp[hh])⟩ (by omega) AS
 ·subst Bf;rw[take_length]at hP;have e:CX s p=true:=by unfold CX;rw[hP]
  simp(disch:=omega)only[go_sem,e];exact AM _
def BH(s:WS):List Ad:=(Am s).filter λp=>CX s p
def Da{s:WS}(h:Iq s):(Am s).length<=20000:=by
 have h1:=QD (AT s.Aa++CJ s.AB);have h2:=MX h.aq;have h3:=h.nq;have h4:=h.nn;unfold Am;simp only[List.length_append,CJ,length_map]at h1;unfold CJ;omega
def bH(s:WS)(h:Iq s):Ac C0 75 [.agg s.c] [] (AA (BH s)) []:=by
 have hl:=Da h;refine Ac.go f75 ?_;unfold f75;refine gO ?_;refine Ab (J6 s h) ?_;refine gO ?_;refine AH ((Am s)) (λi=>⟨[(9,I i),(8,I (Am s).length),(7,AA (Am s)),(1,.ptr 64 0),(3,.sl (.own 1216 0) 3 ((((Am s).take i).filter λp=>CX s p).map Ad.c))],[(64,s.c)]⟩) (λi=>True) trivial ?_ ?_
 ·exact B9
 rintro i ⟨hi,hP⟩ J hJ;refine gO ?_;refine Bp hi (λAu b hb Cc AR=>?_) λBf=>?_
 simp(disch:=omega)only[go_sem,gm,hb]
 ·have IY:(((Am s).take i).filter λp=>CX s p).length+1<=4294967296:=by
   have:(((Am s).take i).filter λp=>CX s p).length<=((Am s).take i).length:=length_filter_le _ _;rw[length_take]at this;omega
  refine Ab (nH s b h) ?_;refine gO ?_;refine And.intro (λhh=>?_) (λhh=>?_)
  ·refine hJ _ (i+1) ⟨by omega,trivial⟩ (by omega) (AQ.An ?_ gI);refine gO ?_;exact .sl (by simp[take_add_one,hb,hh,Ad.c])
  ·refine hJ _ (i+1) ⟨by omega,trivial⟩ (by omega) (AQ.An ?_ gI);refine gO ?_;exact .sl (by simp[take_add_one,hb,hh])
 ·subst Bf;simp(disch:=omega)only[go_sem,take_length];refine CK ⟨[],[],[1216]⟩ _ ?_;simp(disch:=omega)only[go_sem,BH]
def GW(s:WS)(l:List Ad):WS:=(Am s).foldl (λx p=>if BL l p then x else BU x p) s
def nP(s:WS)(l:List Ad)(h:Iq s)(hl:l.length<=1000000):Ac C0 148 [.agg s.c,AA l] [] (.agg (GW s l).c) []:=by
 have NP:=Da h;refine Ac.go f148 ?_;unfold f148;refine gO ?_;refine Ab (J6 s h) ?_;refine gO ?_;refine AH ((Am s)) (λi=>⟨[(10,I i),(9,I (Am s).length),(8,AA (Am s)),(2,.ptr 128 0),(1,AA l),(4,.ptr 256 0)],[(128,(((Am s).take i).foldl (λx p=>if BL l p then x else BU x p) s).c),(256,sh)]⟩) (λi=>Iq (((Am s).take i).foldl (λx p=>if BL l p then x else BU x p) s)) h ?_ ?_
 ·exact B9
 rintro i ⟨hi,hP⟩ J hJ;refine gO ?_;refine Bp hi (λAu b hb Cc AR=>?_) λBf=>?_
 simp(disch:=omega)only[go_sem,gm,hb]
 ·have e:((Am s).take (i+1)).foldl (λx p=>if BL l p then x else BU x p) s=if BL l b then ((Am s).take i).foldl (λx p=>if BL l p then x else BU x p) s else BU (((Am s).take i).foldl (λx p=>if BL l p then x else BU x p) s) b:=by
   rw[take_add_one,hb,Option.toList_some,List.foldl_append];rfl
  generalize ((Am s).take i).foldl (λx p=>if BL l p then x else BU x p) s=t at hP e;refine Ab (Jd l b hl) ?_;cases hh:BL l b
  ·rw[if_neg (by simp[hh])]at e;simp(disch:=omega)only[go_sem,Bool.not_false];refine Ab (XF t b hP) ?_;refine gO ?_;refine hJ _ (i+1) ⟨by omega,by rw[e];exact Lp hP b⟩ (by omega) (AQ.An gI ?_);rw[e];simp(disch:=omega)only[go_sem]
  ·rw[if_pos hh]at e;simp(disch:=omega)only[go_sem,Bool.not_true];refine hJ _ (i+1) ⟨by omega,by rw[e];exact hP⟩ (by omega) (AQ.An gI ?_);rw[e];simp(disch:=omega)only[go_sem]
 ·subst Bf;rw[take_length]at hP ⊢;refine CD _ ?_;simp(disch:=omega)only[go_sem,GW]
def DU{s:WS}{p:Ad}(h:p∈BH s):p∈Am s:=(mem_filter.1 h).1
def Qa:Nat->WS->List Ad × List Ad
 | 0,s=>([],Am s)
 | n+1,s=>match BH s with
  |[]=>([],Am s)
  | p::_=>(p::(Qa n (BU s p)).1,(Qa n (BU s p)).2)
def C2(s:WS):List Ad × List Ad:=Qa (Am s).length s
def fi:∀ (n m:Nat) (s:WS),CL s->(Am s).length<=n->(Am s).length<=m->Qa n s=Qa m s
 | 0,0,_,_,_,_=>rfl
 | 0,m+1,s,_,h,_=>by
  have e:BH s=[]:=by unfold BH;rw[List.eq_nil_of_length_eq_zero (by omega:(Am s).length=0)];rfl
  simp[Qa,e]
 | n+1,0,s,_,_,h=>by
  have e:BH s=[]:=by unfold BH;rw[List.eq_nil_of_length_eq_zero (by omega:(Am s).length=0)];rfl
  simp[Qa,e]
 | n+1,m+1,s,hg,h1,h2=>by
  simp only[Qa];cases hf:BH s with
  | nil=>rfl
  | cons p l =>
   have hd:=EA hg (DU (p:=p) (by rw[hf];simp));simp only;rw[fi n m (BU s p) (DC hg p) (by omega) (by omega)]
def Uz{s:WS}(hg:CL s):C2 s=match BH s with
 |[]=>([],Am s)
 | p::_=>(p::(C2 (BU s p)).1,(C2 (BU s p)).2):=by
 unfold C2;cases hf:BH s with
 | nil =>
  cases (Am s).length<;>simp[Qa,hf]
 | cons p l =>
  have hd:=EA hg (DU (p:=p) (by rw[hf];simp));rw[fi _ ((Am (BU s p)).length+1) s hg (Nat.le_refl _) (by
   have:=NH hg p;have hm:=DU (p:=p) (s:=s) (by rw[hf];simp);have El:=IU (E7 (AT s.Aa++CJ s.AB));rw[this];have:(Am s).filter (λx=>decide (x≠p))=(Am s).erase p:=by
    have Abe:(Am s).Nodup:=El;rw[List.Nodup.erase_eq_filter Abe];refine List.filter_congr λx _=>?_
    by_cases hx:x=p<;>simp[hx]
   rw[this,List.length_erase_of_mem hm];omega)]
  simp only[Qa,hf]
def tv(s:WS)(h:Iq s)(hg:CL s):Ac C0 87 [.agg s.c] [] (.Bl [AA (C2 s).1,AA (C2 s).2]) []:=by
 refine Ac.go f87 ?_;unfold f87;refine gO ?_;refine Ab (bH s h) ?_;refine gO ?_;refine Ao (α:=WS × List Ad) (λx=>⟨[(5,AA (BH x.1)),(4,.sl (.own 1472 0) 3 (x.2.map Ad.c)),(1,.ptr 64 0)],[(64,x.1.c)]⟩) (λx=>Iq x.1/\CL x.1/\x.2.length+(Am x.1).length<=1000000/\x.2++(C2 x.1).1=(C2 s).1/\(C2 x.1).2=(C2 s).2) (λx=>(Am x.1).length) (s,[]) ⟨h,hg,by have:=Da h;simp;omega,rfl,rfl⟩ ?_ ?_
 ·exact AQ.An gI gI
 rintro⟨t,gs⟩ ⟨i1,i2,i3,i4,i5⟩ J hJ
 replace i1:Iq t:=i1
 replace i2:CL t:=i2
 replace i3:gs.length+(Am t).length<=1000000:=i3
 replace i4:gs++(C2 t).1=(C2 s).1:=i4
 replace i5:(C2 t).2=(C2 s).2:=i5
 rw[Uz i2]at i4 i5;cases hf:BH t with
 | nil =>
  rw[hf]at i4 i5;have e0:(0<((0:Nat):Int))=False:=by simp
  simp(disch:=omega)only[go_sem,hf,List.map_nil,List.length_nil,e0,decide_false];refine Ab (J6 t i1) ?_;refine gO ?_;refine CK ⟨[],[],[1472]⟩ _ ?_;refine gO ?_;simp only[List.append_nil]at i4 i5;exact .eq (by rw[<- i4,<- i5])
 | cons p l =>
  simp only[hf]at i4 i5;have hm:p∈Am t:=DU (by rw[hf];simp);have hd:=EA i2 hm;have e0:(0<(l.length:Int)+1)=True:=eq_true (by omega);have IY:gs.length+1<=4294967296:=by omega
  simp(disch:=omega)only[go_sem,hf,AA,e0];refine Av 4 [([],[1]),([],[5]),([],[14]),([],[15])] B7 ?_;refine gO ?_
  first|(refine Ab (XF t p i1) ?_)|(refine Aq (XF t p i1) ?_)
  refine gO ?_;have xP:=Lp i1 p;refine Ab (bH (BU t p) xP) ?_;refine gO ?_;refine hJ _ (BU t p,gs++[p]) ⟨xP,DC i2 p,by simp;omega,by rw[<- i4];simp,i5⟩ hd (AQ.An ?_ ?_)
  ·simp(disch:=omega)only[go_sem];exact .sl (by simp[Ad.c])
  ·exact gI
def ZH:Nat->Expr->Prop
 | 0,_=>True
 | N+1,e=>e.kids.length<=24/\∀ k∈e.kids,ZH N k
def ZT{lv:Int}:∀ (l:List Expr) (n d:Int),(∀ e∈l,∀ n,n+1<=(meas e (lv+1) n).2)->n<=(Fq l lv n d).2
 |[],n,d,_=>by simp[Fq]
 | e::l,n,d,h=>by
  have h1:=h e (by simp) n;simp only[Fq];split
  ·simp only;omega
  ·have:=ZT l (meas e (lv+1) n).2 (max d (meas e (lv+1) n).1) λe' he=>h e' (by simp[he])
   omega
def S0:∀ (N:Nat) (e:Expr),SizeOf.sizeOf e<N->∀ lv n:Int,n+1<=(meas e lv n).2
 | 0,_,h,_,_=>by omega
 | N+1,e,h,lv,n=>by
  rw[KI];split
  ·simp
  ·exact ZT _ _ _ λe' he n'=>S0 N e' (by have:=D3 he;omega) _ _
def Uj{lv:Int}:∀ (l:List Expr) (n d:Int),(Fq l lv n d).1≠0->0<=n->n<=24->(∀ e∈l,∀ n,0<=n->n<=24->(meas e (lv+1) n).1≠0->n+1<=(meas e (lv+1) n).2/\(meas e (lv+1) n).2<=24) ->
 n+l.length<=24/\∀ e∈l,∃ n,0<=n/\n<=24/\(meas e (lv+1) n).1≠0
 |[],n,d,_,h0,h1,_=>by simp;omega
 | e::l,n,d,h,h0,h1,hk=>by
  simp only[Fq]at h;split at h
  ·simp at h
  ·rename_i Ca;have he:=hk e (by simp) n h0 h1 Ca;have:=Uj l _ _ h (by omega) he.2 λe' SR=>hk e' (by simp[SR])
   refine⟨by simp only[length_cons];omega,λe' SR=>?_⟩;rcases mem_cons.1 SR with rfl|SR
   ·exact⟨n,h0,h1,Ca⟩
   ·exact this.2 e' SR
def Wm:∀ (N:Nat) (e:Expr) (lv n:Int),1<=lv->lv<=5->0<=n->n<=24->(meas e lv n).1≠0->ZH N e
 | 0,_,_,_,_,_,_,_,_=>trivial
 | N+1,e,lv,n,h1,h2,h3,h4,h=>by
  rw[KI]at h;split at h
  ·simp at h
  ·rename_i hc;have:=Uj e.kids (n+1) 0 h (by omega) (by omega) λe' _ n' k1 k2 k3=>⟨S0 _ e' (Nat.lt_succ_self _) _ _,(NC _ e' (Nat.lt_succ_self _) (lv+1) n' (by omega) (by omega) k1 k2).2.2.2.2 k3⟩
   refine⟨by omega,λk hk=>?_⟩;obtain⟨n',k1,k2,k3⟩:=this.2 k hk;exact Wm N k (lv+1) n' (by omega) (by omega) k1 k2 k3
def RJ{e:Expr}(h:BA e=true)(N:Nat):ZH N e:=by
 simp only[BA,and_eq_true,Bool.not_eq_true',beq_eq_false_iff_ne]at h;exact Wm N e 1 0 (by omega) (by omega) (by omega) (by omega) h.1
def dm:∀ (N:Nat) (e:Expr),SizeOf.sizeOf e<N->ZH N e->Ac C0 129 [.agg e.c] [] (.agg e.c) []
 | 0,_,h,_=>by omega
 | N+1,e,h,hk=>by
  have Sh:=hk.1;refine Ac.lens f129 λhlen=>?_
  simp only[E0,lens,Expr.Cf,length_map,and_true,true_and]at hlen;refine Ac.go f129 ?_;unfold f129;refine gO ?_;refine AH (e.kids) (λi=>⟨[(9,I i),(8,I e.kids.length),(7,It e.kids),(1,.ptr 64 0),(2,.ptr 128 0),(3,.sl (.own 1088 0) 5 ((e.kids.take i).map Expr.c))],[(64,e.c),(128,(Expr.mk 0 a0 []).c)]⟩) (λi=>True) trivial ?_ ?_
  ·refine AQ.An ?_ ?_
   all_goals(try simp(disch:=omega)only[go_sem])
   all_goals(try(repeat'(with_reducible apply And.intro)))
   all_goals(first|exact .AU (by omega)|exact .AD (by omega)|exact .sl (by simp[a0,Expr.Cf,Expr.k,Expr.atom,Expr.kids])|exact .int (by simp[a0,Expr.Cf,Expr.k,Expr.atom,Expr.kids])|exact .eq (by simp[a0,Expr.Cf,Expr.k,Expr.atom,Expr.kids]))
  rintro i ⟨hi,hP⟩ J hJ;refine gO ?_;refine Bp hi (λAu b hb Cc AR=>?_) λBf=>?_
  simp(disch:=omega)only[go_sem,gm,hb]
  ·have Ec:=D3 Cc;have Fx:i<e.kids.length:=by omega
   have IY:min i e.kids.length+1<=4294967296:=by omega
   refine Ab (dm N b (by omega) (hk.2 b Cc)) ?_;simp(disch:=omega)only[go_sem,length_map,length_take];refine hJ _ (i+1) ⟨by omega,trivial⟩ (by omega) (AQ.An ?_ ?_)
   ·simp(disch:=omega)only[go_sem];exact .sl (by simp[take_add_one,hb,Expr.Cf])
   ·simp(disch:=omega)only[go_sem,Expr.Cf]
  ·subst Bf;simp(disch:=omega)only[go_sem,take_length];refine CK ⟨[],[],[1088]⟩ _ ?_;simp(disch:=omega)only[go_sem,Expr.Cf]
def DJ(a b:Bs):Bool:=Op.bytesLess a b
def n0:Need:=⟨p0,.mk 0 a0 [],0⟩
def Cq(l:List Queue)(i:Nat)(q:Queue):Bool:=valid q&&(decide (i=0)||DJ (l.getD (i-1) q0).res.name q.res.name)
def Cn(l:List Need)(i:Nat)(n:Need):Bool:=n.proc.ok&&decide (0<=n.gen)&&decide (n.gen<=1073741824)&&BA n.expr&&(decide (i=0)||decide (Bw (l.getD (i-1) n0).proc n.proc<0))
def CC(l:List Queue):Bool:=decide (l.length<=8)&&Ci (Cq l) l
def FY(l:List Need):Bool:=decide (l.length<=8)&&Ci (Cn l) l
def A7(s:WS):Bool:=CC s.Aa&&FY s.AB&&decide ((Am s).length<=8)
def Bv{q:Queue}(h:BC q<=100):q.holds.length<=1000000/\q.Ak.length<=1000000/\q.waits.length<=1000000:=by
 unfold BC BJ at h;omega
def Ox(s:WS)(h:Iq s):Ac C0 32 [.agg s.c] [] (B (A7 s)) []:=by
 refine Ac.go f32 ?_;unfold f32
 by_cases hq:8<s.Aa.length
 ·have e1:(8<(s.Aa.length:Int))=True:=eq_true (by omega);have e:A7 s=false:=by simp[A7,CC];omega
  simp(disch:=omega)only[go_sem,e1];refine Aj _ ?_;exact wb (by simp[e])
 have e1:(8<(s.Aa.length:Int))=False:=eq_false (by omega)
 by_cases hn:8<s.AB.length
 ·have e2:(8<(s.AB.length:Int))=True:=eq_true (by omega);have e:A7 s=false:=by simp[A7,FY];omega
  simp(disch:=omega)only[go_sem,e1,e2,decide_false,decide_true];refine Aj _ ?_;exact wb (by simp[e])
 have e2:(8<(s.AB.length:Int))=False:=eq_false (by omega);simp(disch:=omega)only[go_sem,e1,e2,decide_false];refine AH (s.Aa) (λi=>⟨[(20,I i),(19,I s.Aa.length),(18,AW s.Aa),(1,.ptr 64 0)],[(64,s.c)]⟩) (λi=>Ci (Cq s.Aa) (s.Aa.take i)=true) rfl ?_ ?_
 ·exact B9
 rintro i ⟨hi,hP⟩ J hJ;refine gO ?_;refine Bp hi (λAu b hb Cc AR=>?_) λBf=>?_
 simp(disch:=omega)only[go_sem,gm,hb]
 ·have ha:=Bv (h.aq b Cc);have bad:Cq s.Aa i b=false->A7 s=false:=λh=>by simp only[A7,CC,BM hb h,Bool.and_false,Bool.false_and]
  have Fv:Cq s.Aa i b=true->Ci (Cq s.Aa) (s.Aa.take (i+1))=true:=λh=>by rw[Cl hb,hP,h];rfl
  refine Av 18 [([],[4]),([],[25]),([1],[26]),([1],[27]),([1],[3,28]),([1],[29,28]),([1],[30,28]),([1],[1,31]),([1],[32,31]),([1],[3,31]),([1],[34,31]),([1],[33,35,31]),([1],[36,31]),([1],[37,31]),([1],[38,31]),([1],[4,31]),([1],[40,31]),([1],[41,31])] B7 ?_;refine gO ?_
  first|(refine Ab (TG b ha.1 ha.2.2) ?_)|(refine Aq (TG b ha.1 ha.2.2) ?_)
  cases hv:valid b
  ·simp(disch:=omega)only[go_sem];refine Aj _ ?_;exact wb (by rw[bad (by simp[Cq,hv])])
  by_cases NO:i=0
  ·subst NO;refine gO ?_;refine hJ _ 1 ⟨by omega,Fv (by simp[Cq,hv])⟩ (by omega) AS
  ·have PJ:(0<(i:Int))=True:=eq_true (by omega);have Lu:((i:Int)-1)=((i-1:Nat):Int):=by omega
   obtain⟨a,ME⟩:∃ a,s.Aa[i-1]?=some a:=⟨_,gE (by omega)⟩;have PH:s.Aa.getD (i-1) q0=a:=by simp[List.getD,ME]
   simp(disch:=omega)only[go_sem,PJ,Lu,gm,ME];refine And.intro (λhh=>?_) (λhh=>?_)
   ·refine Aj _ ?_;exact wb (by rw[bad (by simp only[Cq,PH,hv];simp[NO];simpa [DJ]using hh)])
   ·refine hJ _ (i+1) ⟨by omega,Fv (by simp only[Cq,PH,hv];simp[NO];simpa [DJ]using hh)⟩ (by omega) AS
 subst Bf;rw[take_length]at hP;have Yu:CC s.Aa=true:=by simp[CC,hP];omega
 clear hJ;refine AH (s.AB) (λi=>⟨[(50,I i),(49,I s.AB.length),(48,MP s.AB),(1,.ptr 64 0)],[(64,s.c)]⟩) (λi=>Ci (Cn s.AB) (s.AB.take i)=true) rfl ?_ ?_
 ·exact B9
 rintro i ⟨hi,hP⟩ J hJ;refine gO ?_;refine Bp hi (λAu b hb Cc AR=>?_) λBf=>?_
 simp(disch:=omega)only[go_sem,gm,hb]
 ·have bad:Cn s.AB i b=false->A7 s=false:=λh=>by simp only[A7,FY,BM hb h,Bool.and_false,Bool.false_and]
  have Fv:Cn s.AB i b=true->Ci (Cn s.AB) (s.AB.take (i+1))=true:=λh=>by rw[Cl hb,hP,h];rfl
  refine Ab (TH b.proc) ?_;cases hp:b.proc.ok
  ·simp(disch:=omega)only[go_sem];refine Aj _ ?_;exact wb (by rw[bad (by simp[Cn,hp])])
  by_cases mO:b.gen<0
  ·have k1:(b.gen<0)=True:=eq_true mO;simp(disch:=omega)only[go_sem,k1];refine Aj _ ?_;exact wb (by rw[bad (by simp[Cn];omega)])
  have k1:(b.gen<0)=False:=eq_false mO
  by_cases eM:1073741824<b.gen
  ·have k2:(1073741824<b.gen)=True:=eq_true eM;simp(disch:=omega)only[go_sem,k1,k2,decide_false];refine Aj _ ?_;exact wb (by rw[bad (by simp[Cn];omega)])
  have k2:(1073741824<b.gen)=False:=eq_false eM;have g1:decide (0<=b.gen)=true:=by simp;omega
  have g2:decide (b.gen<=1073741824)=true:=by simp;omega
  simp(disch:=omega)only[go_sem,k1,k2,decide_false];refine Ag (j0 b.expr) (by simp(disch:=omega)only[go_sem,Expr.Cf]) rfl ?_;cases he:BA b.expr
  ·simp(disch:=omega)only[go_sem];refine Aj _ ?_;exact wb (by rw[bad (by simp[Cn,he])])
  refine gO ?_;refine Av 12 [([],[5]),([],[75]),([],[76]),([],[1,77]),([],[78,77]),([],[5,77]),([],[80,77]),([],[79,81,77]),([],[82,77]),([],[83,77]),([],[6,77]),([],[85,77])] B7 ?_
  by_cases NO:i=0
  ·subst NO;refine gO ?_;refine hJ _ 1 ⟨by omega,Fv (by simp only[Cn,hp,g1,g2,he];rfl)⟩ (by omega) AS
  ·have PJ:(0<(i:Int))=True:=eq_true (by omega);have Lu:((i:Int)-1)=((i-1:Nat):Int):=by omega
   obtain⟨a,ME⟩:∃ a,s.AB[i-1]?=some a:=⟨_,gE (by omega)⟩;have PH:s.AB.getD (i-1) n0=a:=by simp[List.getD,ME]
   simp(disch:=omega)only[go_sem,PJ,Lu,gm,ME]
   first|(refine Ab (J7 a.proc b.proc) ?_)|(refine Aq (J7 a.proc b.proc) ?_)
   refine gO ?_
   by_cases hc:0<=Bw a.proc b.proc
   ·simp(disch:=omega)only[go_sem,hc];refine Aj _ ?_;exact wb (by rw[bad (by simp only[Cn,PH];simp[NO];omega)])
   ·simp(disch:=omega)only[go_sem,hc,decide_false];refine hJ _ (i+1) ⟨by omega,Fv (by simp only[Cn,PH,hp,g1,g2,he];simp;omega)⟩ (by omega) AS
 ·subst Bf;rw[take_length]at hP;have rG:FY s.AB=true:=by simp[FY,hP];omega
  refine Ab (J6 s h) ?_;refine gO ?_;refine Aj _ ?_;exact wb (by simp only[A7,Yu,rG];simp;omega)
def Dq{s:WS}(h:A7 s=true):CL s:=by
 simp only[A7,CC,and_eq_true,FV]at h;intro q hq;obtain⟨i,hi,he⟩:=getElem_of_mem hq;have:=h.1.1.2 i q (by rw[gE hi,he]);simp only[Cq,and_eq_true]at this;exact this.1
def K8(s:WS):Prop:=∀ n∈s.AB,BA n.expr=true
def IT{s:WS}(h:A7 s=true):K8 s:=by
 simp only[A7,FY,and_eq_true,FV]at h;intro q hq;obtain⟨i,hi,he⟩:=getElem_of_mem hq;have:=h.1.2.2 i q (by rw[gE hi,he]);simp only[Cn,and_eq_true]at this;exact this.1.2
def VK{s:WS}(h:K8 s)(p:Ad):K8 (BU s p):=λn hn=>h n (mem_filter.1 hn).1
def Yf{P:WS->Prop}(hP:∀ s p,P s->P (BU s p)){s:WS}(l:List Ad)(h:P s):P (GW s l):=by
 unfold GW;have:∀ (ps:List Ad) (x:WS),P x->P (ps.foldl (λx p=>if BL l p then x else BU x p) x):=by
  intro ps
  induction ps with
  | nil=>intro x hx;exact hx
  | cons p ps ih =>
   intro x hx;simp only[List.foldl_cons];split
   ·exact ih x hx
   ·exact ih _ (hP x p hx)
 exact this _ _ h
def pf{s:WS}(h:Iq s)(l:List Ad):Iq (GW s l):=Yf (P:=Iq) (λ_ p h=>Lp h p) l h
def gb{s:WS}(h:K8 s)(l:List Ad):K8 (GW s l):=Yf (P:=K8) (λ_ p h=>VK h p) l h
def j5(s:WS)(h:Iq s)(he:K8 s):Ac C0 77 [.agg s.c] [] (.agg s.c) []:=by
 have gH:=h.nq;have bX:=h.nn;refine Ac.go f77 ?_;unfold f77;refine gO ?_;refine AH (s.Aa) (λi=>⟨[(11,I i),(10,I s.Aa.length),(9,AW s.Aa),(1,.ptr 64 0),(2,.ptr 128 0),(3,.ptr 192 0)],[(64,s.c),(128,sh),(192,[.sl (.own 1984 0) 8 ((s.Aa.take i).map Queue.c),.v (.slice none 0 0)])]⟩) (λi=>True) trivial ?_ ?_
 ·exact B9
 rintro i ⟨hi,hP⟩ J hJ;refine gO ?_;refine Bp hi (λAu b hb Cc AR=>?_) λBf=>?_
 simp(disch:=omega)only[go_sem,gm,hb]
 ·have ha:=Bv (h.aq b Cc);have IY:min i s.Aa.length+1<=4294967296:=by omega
  refine Av 10 [([],[5]),([],[15]),([],[16]),([],[5]),([],[18]),([2],[19]),([],[5]),([],[21]),([2,5],[22]),([2],[5])] B7 ?_;refine gO ?_
  first|(refine Ab (SF b.holds ha.1) ?_)|(refine Aq (SF b.holds ha.1) ?_)
  refine gO ?_
  first|(refine Ab (JI b.Ak ha.2.1) ?_)|(refine Aq (JI b.Ak ha.2.1) ?_)
  refine gO ?_
  first|(refine Ab (JI b.waits ha.2.2) ?_)|(refine Aq (JI b.waits ha.2.2) ?_)
  simp(disch:=omega)only[go_sem,length_map,length_take];refine hJ _ (i+1) ⟨by omega,trivial⟩ (by omega) (AQ.An gI ?_);refine gO ?_;exact .sl (by simp[take_add_one,hb,Queue.c])
 subst Bf;rw[take_length];clear hJ;refine AH (s.AB) (λi=>⟨[(37,I i),(36,I s.AB.length),(35,MP s.AB),(1,.ptr 64 0),(2,.ptr 128 0),(3,.ptr 192 0)],[(64,s.c),(128,sh),(192,[.sl (.own 1984 0) 8 (s.Aa.map Queue.c),.sl (.own 3136 0) 9 ((s.AB.take i).map Need.c)])]⟩) (λi=>True) trivial ?_ ?_
 ·exact B9
 rintro i ⟨hi,hP⟩ J hJ;refine gO ?_;refine Bp hi (λAu b hb Cc AR=>?_) λBf=>?_
 simp(disch:=omega)only[go_sem,gm,hb]
 ·have IY:min i s.AB.length+1<=4294967296:=by omega
  refine Ag (dm _ b.expr (Nat.lt_succ_self _) (RJ (he b Cc) _)) (by simp(disch:=omega)only[go_sem,Expr.Cf]) rfl ?_;simp(disch:=omega)only[go_sem,Expr.Cf,length_map,length_take];refine hJ _ (i+1) ⟨by omega,trivial⟩ (by omega) (AQ.An gI ?_);refine gO ?_;exact .sl (by simp[take_add_one,hb,Need.c])
 ·subst Bf;simp(disch:=omega)only[go_sem,take_length];refine CK ⟨[],[],[1984,3136]⟩ _ ?_;simp(disch:=omega)only[go_sem]
def Qs:WS:=⟨[],[]⟩
def Kj(s:WS):List Ad:=if A7 s then BH s else []
def sZ(s:WS)(h:Iq s):Ac C0 33 [.agg s.c] [] (AA (Kj s)) []:=by
 refine Ac.go f33 ?_;unfold f33;refine gO ?_;refine Ab (Ox s h) ?_;cases hv:A7 s
 ·simp(disch:=omega)only[go_sem];refine CD _ ?_;simp(disch:=omega)only[go_sem,Kj];simp only[Kj,hv];exact .AD (by omega)
 ·simp(disch:=omega)only[go_sem];refine Ab (bH s h) ?_;refine gO ?_;refine CD _ ?_;simp(disch:=omega)only[go_sem,Kj,hv]
def IF(s:WS):List Ad × List Ad:=if A7 s then C2 s else ([],[])
def bD(s:WS)(h:Iq s):Ac C0 40 [.agg s.c] [] (.Bl [AA (IF s).1,AA (IF s).2]) []:=by
 refine Ac.go f40 ?_;unfold f40;refine gO ?_;refine Ab (Ox s h) ?_;cases hv:A7 s
 ·have e:IF s=([],[]):=by simp[IF,hv]
  simp(disch:=omega)only[go_sem,e];exact Fy _
 ·have e:IF s=C2 s:=by simp[IF,hv]
  simp(disch:=omega)only[go_sem,e];refine Ab (tv s h (Dq hv)) ?_;refine gO ?_;exact AM _
def qz{s:WS}(h:Iq s)(hg:CL s):(C2 s).2.length<=20000:=by
 have key:∀ (n:Nat) (s:WS),Iq s->(Qa n s).2.length<=20000:=by
  intro n
  induction n with
  | zero=>intro s h;exact Da h
  | succ n ih =>
   intro s h;simp only[Qa];split
   ·exact Da h
   ·exact ih _ (Lp h _)
 exact key _ s h
def DY(s:WS)(p:Ad):WS × Int:=if A7 s then (if BL (Am s) p then (BU s p,0) else (Qs,10)) else (Qs,2)
def s8(s:WS)(p:Ad)(h:Iq s):Ac C0 35 [.agg s.c,.agg p.c] [] (.Bl [.agg (DY s p).1.c,I (DY s p).2]) []:=by
 have hl:=Da h;refine Ac.go f35 ?_;unfold f35;refine gO ?_;refine Ab (Ox s h) ?_;cases hv:A7 s
 ·have e:DY s p=(Qs,2):=by simp[DY,hv]
  simp(disch:=omega)only[go_sem,e,Qs];refine Aj _ ?_;refine .Bl (Af.AI ?_);simp(disch:=omega)only[go_sem]
  repeat'(with_reducible apply And.intro)
  all_goals(first|exact .AD (by omega)|exact .agg (Af.AI gI))
 refine gO ?_;refine Av 3 [([],[2]),([],[10]),([],[3])] B7 ?_;refine gO ?_
 first|(refine Ab (J6 s h) ?_)|(refine Aq (J6 s h) ?_)
 refine gO ?_
 first|(refine Ab (Jd (Am s) p (by omega)) ?_)|(refine Aq (Jd (Am s) p (by omega)) ?_)
 cases hp:BL (Am s) p
 ·have e:DY s p=(Qs,10):=by simp[DY,hv,hp]
  simp(disch:=omega)only[go_sem,e,Qs];refine Aj _ ?_;refine .Bl (Af.AI ?_);simp(disch:=omega)only[go_sem]
  repeat'(with_reducible apply And.intro)
  all_goals(first|exact .AD (by omega)|exact .agg (Af.AI gI))
 ·have e:DY s p=(BU s p,0):=by simp[DY,hv,hp]
  simp(disch:=omega)only[go_sem,e];refine Ab (XF s p h) ?_;refine gO ?_;refine Ab (j5 (BU s p) (Lp h p) (VK (IT hv) p)) ?_;refine gO ?_;exact AM _
def GK(s:WS)(l:List Ad):WS × Int:=if A7 s then (GW s l,0) else (Qs,2)
def tz(s:WS)(l:List Ad)(h:Iq s)(hl:l.length<=1000000):Ac C0 94 [.agg s.c,AA l] [] (.Bl [.agg (GK s l).1.c,I (GK s l).2]) []:=by
 refine Ac.go f94 ?_;unfold f94;refine gO ?_;refine Ab (Ox s h) ?_;cases hv:A7 s
 ·have e:GK s l=(Qs,2):=by simp[GK,hv]
  simp(disch:=omega)only[go_sem,e,Qs];refine Aj _ ?_;refine .Bl (Af.AI ?_);simp(disch:=omega)only[go_sem]
  repeat'(with_reducible apply And.intro)
  all_goals(first|exact .AD (by omega)|exact .agg (Af.AI gI))
 ·have e:GK s l=(GW s l,0):=by simp[GK,hv]
  simp(disch:=omega)only[go_sem,e];refine Ab (nP s l h hl) ?_;refine gO ?_;refine Ab (j5 (GW s l) (pf h l) (gb (IT hv) l)) ?_;refine gO ?_;exact AM _
end Go.Rd
