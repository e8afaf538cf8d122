/- part 21 of the proof -/
import Derived.Test.YteliegkcmjimoaaGreatDoorW20
set_option linter.all false
open Go Go.Abs Go.Proofs
set_option maxRecDepth 100000
namespace Go.Rd
set_option maxHeartbeats 8000000
open List (map_set nil_append pairwise_cons take_add_one take_length)
open Bool (and_eq_true)
open Tryz
def Kq(q:Queue)(p:Ac)(l:BR):Prop:=((Ar q p).isSome=true->Am q.holds p=l)/\(Am q.holds p=l\/((Am q.holds p).zero=false/\q.res.covers (Am q.holds p) l=true))
theorem zero_eq{a:BR}(h:a.zero=true):a=⟨0,0⟩:=by
 obtain⟨m,u⟩:=a;simp[BR.zero]at h;simp[h]
theorem HK{r:BE}{a:BR}(h:r.fits a=true):r.covers a ⟨0,0⟩=true:=by
 have hs:r.shaped=true:=by simp only[BE.fits,and_eq_true]at h;exact h.1
 have hz:(⟨0,0⟩:BR).zero=true:=rfl;simp[BE.covers,BE.permits,hs,h,hz]
def nI{l:List A9}{p:Ac}{a:BR}(ha:a.zero=false):Am (CO l p a) p=a:=by
 unfold CO Am;rw[ha];simp only[Bool.false_eq_true,if_false];rw[List.find?_append];have:((AR l p).take (Dd (AR l p) p)).find? (λh=>decide (h.proc=p))=none:=by
  rw[List.find?_eq_none];intro x hx;have:=List.mem_of_mem_take hx;simp[AR]at this;simpa using this.2
 rw[this];simp
def nH{l:List A9}{p:Ac}:Am (AR l p) p=⟨0,0⟩:=by
 unfold Am;have:(AR l p).find? (λh=>decide (h.proc=p))=none:=by
  rw[List.find?_eq_none];intro x hx;simp[AR]at hx;simpa using hx.2
 rw[this]
def LF{l:List A9}{p:Ac}{a:BR}:Am (CO l p a) p=a:=by
 cases h:a.zero
 ·exact nI h
 ·rw[zero_eq h,HU,nH]
def NN{l:List Bh}{p p':Ac}(h:p'≠p):(Bv l p).find? (λw=>decide (w.proc=p'))=l.find? λw=>decide (w.proc=p'):=by
 unfold Bv;rw[Oz];intro x hx;simp at hx ⊢;rw[hx];exact h
theorem Ws{l:List Bh}{p:Ac}:(Bv l p).find? (λw=>decide (w.proc=p))=none:=by
 rw[List.find?_eq_none];intro x hx;simp[Bv]at hx;simpa using hx.2
theorem Ga{q:Queue}{p:Ac}:Ar q p=none↔∀ w,w∈q.As++q.waits->w.proc≠p:=by
 unfold Ar;rw[Option.map_eq_none_iff,List.find?_eq_none];simp
def F7{q:Queue}{w:Bh}(h:BZ q=some w):(∃ l,q.As=w::l/\DH q w = { q with holds:=CO q.holds w.proc w.AH,As:=l })\/(q.As=[]/\∃ l,q.waits=w::l/\DH q w = { q with holds:=CO q.holds w.proc w.AH,waits:=l }):=by
 cases hc:q.As with
 | cons w' l =>
  have WI:w'=w:=by simp[BZ,hc]at h;exact h
  subst WI;exact .inl ⟨l,rfl,by unfold DH;simp only[hc]⟩
 | nil =>
  cases hw:q.waits with
  | nil=>simp[BZ,hc,hw]at h
  | cons w' l =>
   have WI:w'=w:=by simp[BZ,hc,hw]at h;exact h
   subst WI;exact .inr ⟨rfl,l,rfl,by unfold DH;simp only[hc,hw];rfl⟩
def K6{q:Queue}{w:Bh}{p:Ac}(h:BZ q=some w)(hp:p≠w.proc):Ar (DH q w) p=Ar q p:=by
 have hd:decide (w.proc=p)=false:=by simpa using Ne.symm hp
 rcases F7 h with ⟨l,hc,e⟩|⟨hc,l,hw,e⟩
 ·rw[e];unfold Ar;simp only[hc,List.cons_append,List.find?_cons,hd]
 ·rw[e];unfold Ar;simp only[hc,hw,nil_append,List.find?_cons,hd]
def S3{q:Queue}{w:Bh}(h:BZ q=some w):Ar q w.proc=some w.AH:=by
 rcases F7 h with ⟨l,hc,e⟩|⟨hc,l,hw,e⟩
 ·unfold Ar;simp[hc]
 ·unfold Ar;simp[hc,hw]
def Qk{q:Queue}{w:Bh}(hs:Sound q)(h:BZ q=some w):Ar (DH q w) w.proc=none:=by
 have fE:=(Cf q).1 hs.As;obtain⟨a,b,c⟩:=(BX q).1 hs.waits;rw[CS]at a;rw[Ga];rcases F7 h with ⟨l,hc,e⟩|⟨hc,l,hw,e⟩
 ·rw[e];intro x hx;have hu:=fE.2.1;rw[hc]at hu;have iM:=pairwise_cons.1 hu;simp only[List.mem_append]at hx;rcases hx with hx|hx
  ·exact λe=>iM.1 x hx e.symm
  ·have hh:=(fE.2.2 w (by rw[hc];simp)).1;have hz:=(c x hx).2;intro e2;rw[e2,hh]at hz;cases hz
 ·rw[e];intro x hx;simp only[hc,nil_append]at hx;have hu:=a.2.1;rw[hw]at hu;exact λe=>(pairwise_cons.1 hu).1 x hx e.symm
def AdJ{q:Queue}{w:Bh}{p:Ac}{l:BR}(hs:Sound q)(h:BZ q=some w)(hr:F3 q.res q.holds w.proc w.AH=true)(hk:Kq q p l):Kq (DH q w) p l:=by
 by_cases hp:p=w.proc
 ·subst hp;have hl:=hk.1 (by rw[S3 h];rfl);have hf:=(PU hr).1;have e:Am (DH q w).holds w.proc=w.AH:=by rcases F7 h with ⟨l,hc,e⟩|⟨hc,l,hw,e⟩<;>rw[e]<;>exact LF
  refine⟨λhh=>absurd hh (by rw[Qk hs h];simp),.inr ?_⟩;rw[e,(Xm q w).1];refine⟨Jb hf,?_⟩;rcases F7 h with ⟨l',hc,_⟩|⟨hc,l',hw,_⟩
  ·have:=((Cf q).1 hs.As).2.2 w (by rw[hc];simp);rw[<- hl];exact this.2.2.1
  ·have:=((BX q).1 hs.waits).2.2 w (by rw[hw];simp);rw[<- hl,zero_eq this.2];exact HK hf
 ·have e:Am (DH q w).holds p=Am q.holds p:=by
   rcases F7 h with ⟨l,hc,e⟩|⟨hc,l,hw,e⟩<;>rw[e]<;>exact FY hp
  unfold Kq at hk ⊢;rw[K6 h hp,e,(Xm q w).1];exact hk
def AdI{q:Queue}{p:Ac}{l:BR}(hs:Sound q)(hk:Kq q p l):Kq (Co q).1 p l :=
 (I8 (P:=λx=>Sound x/\Kq x p l) (λ_ _ h hh hr=>⟨ME h.1 hh hr,AdJ h.1 hh hr h.2⟩) _ q rfl ⟨hs,hk⟩).1.2
def rp{q:Queue}{p:Ac}(hw:Ar q p=none):Ar (Co q).1 p=none/\Am (Co q).1.holds p=Am q.holds p :=
 (I8 (P:=λx=>Ar x p=none/\Am x.holds p=Am q.holds p) (λx w h hh hr=>by
  have hp:p≠w.proc:=λe=>by rw[e,S3 hh]at h;cases h.1
  refine⟨by rw[K6 hh hp];exact h.1,?_⟩;rw[<- h.2];rcases F7 hh with ⟨l,hc,e⟩|⟨hc,l,hw,e⟩<;>rw[e]<;>exact FY hp) _ q rfl ⟨hw,rfl⟩).1
def KQ(g:Int):0<=OW g/\OW g<=1073741824:=by unfold OW;split<;>omega
def SM{q:Queue}(h:Sound q):valid (Ee q)=true:=by
 rw[BN];exact TD (ZN h) (KQ _)
def jZ(q:Queue):(Ee q).res=q.res:=(U2 q).1
theorem qE{q:Queue}{p:Ac}{l:BR}(hs:Sound q)(hk:Kq q p l):Kq (Ee q) p l:=AdI hs hk
def de{q:Queue}{p:Ac}(hw:Ar q p=none):Ar (Ee q) p=none/\Am (Ee q).holds p=Am q.holds p:=rp hw
theorem SL(q:Queue)(x:Ac):JY (Ee q) x↔JY q x:=r7 q x
def BP{α:Type}[DecidableEq α]:∀ (l' l:List α),l'.Nodup->(∀ x∈l',x∈l)->l'.length<=l.length
 |[],_,_,_=>Nat.zero_le _
 | a::l',l,hn,hs=>by
  have iH:=List.nodup_cons.1 hn;have ha:=hs a (by simp);have:=BP l' (l.erase a) iH.2 λx hx=>(List.mem_erase_of_ne (λe=>iH.1 (by grind))).2 (hs x (by grind))
  have h2:=List.length_erase_of_mem ha;have h3:0<l.length:=List.length_pos_of_mem ha;simp only[List.length_cons];omega
theorem JI{l:List Bh}:ZU l↔(l.map (·.proc)).Nodup:=by grind[ZU]
def Dw(q:Queue)(p:Ac):Queue:={ q with As:=Bv q.As p,waits:=Bv q.waits p }
def Pc{q:Queue}(h:Sound q)(p:Ac):Sound (Dw q p):=by
 have hw:=Cq q.waits p;have hc:=Cq q.As p;refine⟨h.res,h.holds,?_,?_,h.gen⟩
 ·have:=(Cf q).1 h.As;rw[Cf];simp only[Dw];refine⟨by omega,this.2.1.sublist List.filter_sublist,λw hw=>?_⟩;simp_all[Bv]
 ·have:=(BX q).1 h.waits;rw[BX];obtain⟨a,b,c⟩:=this;rw[CS]at a;simp[Dw,CS];refine⟨⟨by omega,a.2.1.sublist List.filter_sublist,λw hw=>?_⟩,by omega,λw hw=>?_⟩<;>simp_all[Bv]
def nY{q:Queue}(h:Sound q){p:Ac}(hz:(Am q.holds p).zero=false):q.res.fits (Am q.holds p)=true/\p.ok=true/\∃ x∈q.holds,x.proc=p:=by
 obtain⟨h1,h2,h3,h4,h5⟩:=(Dk _ _).1 h.holds;grind[Am,BR.zero]
def pj{m n:Int}(hm:BK m=true)(hn:BK n=true):BK (XM m n)=true/\BI (XM m n) m=true/\BI (XM m n) n=true:=by rcases Bc hm with rfl|rfl|rfl|rfl|rfl<;>rcases Bc hn with rfl|rfl|rfl|rfl|rfl<;>decide
def Rq{m:Int}(hm:BK m=true):BI m m=true:=by rcases Bc hm with rfl|rfl|rfl|rfl|rfl<;>decide
theorem X1{a b c:Int}(h1:BI a b=true)(h2:BI b c=true):BI a c=true:=by
 have ha:BK a=true:=by simp_all[BI]
 have hb:BK b=true:=by simp only[BI,and_eq_true]at h1;exact h1.1.2
 have hc:BK c=true:=by simp only[BI,and_eq_true]at h2;exact h2.1.2
 revert h1 h2;rcases Bc ha with rfl|rfl|rfl|rfl|rfl<;>rcases Bc hb with rfl|rfl|rfl|rfl|rfl<;>rcases Bc hc with rfl|rfl|rfl|rfl|rfl<;>decide
theorem Db{r:BE}{a:BR}(h:r.fits a=true):r.shaped=true/\((r.kind=1/\BK a.mode=true/\a.AG=0)\/(r.kind≠1/\a.mode=0/\1<=a.AG/\a.AG<=r.AG/\r.AG<=8)):=by
 simp only[BE.fits,and_eq_true]at h;obtain⟨h1,h2⟩:=h;refine⟨h1,?_⟩;split at h2<;>simp_all[A7,BE.shaped]
def ER{r:BE}{a b:BR}(ha:r.fits a=true)(hb:r.fits b=true):r.covers a b=if r.kind=1 then BI a.mode b.mode else decide (b.AG<=a.AG):=by grind[Jb,Db,BE.covers,BE.permits]
theorem Jr{r:BE}{a:BR}(h:r.fits a=true):(Il.fits a||Ir.fits a)=true:=by grind[BE.fits,Il,BE.shaped,A7,Ir]
theorem QL{r:BE}{h a:BR}(hh:r.fits h=true)(ha:r.fits a=true)(hc:r.covers h a=false):r.fits (D4 r h a)=true/\r.covers (D4 r h a) h=true/\D4 r h a≠h/\r.covers (D4 r h a) a=true:=by
 have hs:=(Db hh).1;have iJ:r.permits h=true:=by grind[BE.permits]
 have og:r.permits a=true:=by grind[BE.permits]
 unfold D4;simp only[iJ,og,hc,Bool.and_self,Bool.not_true,Bool.false_eq_true,if_false]
 by_cases h2:r.covers a h=true
 ·rw[if_pos h2];refine⟨ha,h2,(λe=>by grind),?_⟩;rw[ER ha ha];rcases(Db ha).2 with ⟨k1,k2,k3⟩|⟨k1,k2,k3,k4,_⟩<;>simp_all[Rq]
 ·rw[if_neg h2];rw[ER hh ha]at hc;rw[ER ha hh]at h2;rcases(Db hh).2 with ⟨k1,k2,k3⟩|⟨k1,k2,k3,k4,_⟩
  ·rcases(Db ha).2 with ⟨_,j2,j3⟩|⟨j1,_⟩
   ·obtain⟨s1,s2,s3⟩:=pj k2 j2;rw[if_pos k1]at hc;have hf:r.fits ⟨XM h.mode a.mode,0⟩=true:=by grind[BE.fits]
    refine⟨hf,(by simp_all[ER]),λe=>?_,by simp_all[ER]⟩;grind
   ·exact absurd k1 j1
  ·rw[if_neg k1]at hc h2;simp at hc h2;omega
def Q0{q:Queue}(h:Sound q){p:Ac}{a:BR}(ha:q.res.fits a=true)(hw:Ar q p=none)(hz:(Am q.holds p).zero=false)(hc:q.res.covers (Am q.holds p) a=false) :
 Sound { q with As:=q.As++[⟨p,D4 q.res (Am q.holds p) a,0,0⟩] }:=by
 obtain⟨hf,hpo,x,hx,oh⟩:=nY h hz;obtain⟨j1,j2,j3,_⟩:=QL hf ha hc;obtain⟨c1,c2,c3⟩:=(Cf q).1 h.As;have hn:=Ga.1 hw;have hlen:q.holds.length<=8:=((Dk _ _).1 h.holds).2.1;have UO:(q.As.map (·.proc)++[p]).Nodup:=by grind[JI]
 have hle:=BP _ (q.holds.map (·.proc)) UO λy hy=>by grind[Kl]
 simp at hle;refine⟨h.res,h.holds,?_,h.waits,h.gen⟩;rw[Cf];refine⟨by grind,?_,λw hw=>?_⟩
 ·grind[JI]
 grind
def Gq(l:List Bh)(w:Bh):Nat->Nat
 | 0=>0
 | k+1=>if (l.getD k w0).prio<w.prio/\(l.getD k w0).Ec<3 then Gq l w k else k+1
def N5(l:List Bh)(w:Bh):List Bh:=l.take (Gq l w l.length)++w::(l.drop (Gq l w l.length)).map λx=>{ x with Ec:=x.Ec+1 }
def tM(l:List Bh)(w:Bh):∀ k,Gq l w k<=k
 | 0=>by simp[Gq]
 | k+1=>by
  simp only[Gq];split
  ·have:=tM l w k;omega
  ·omega
def XJ(l:List Bh)(w:Bh):∀ k,k<=l.length->(∀ y∈l.drop k,y.Ec<3)->∀ y∈l.drop (Gq l w k),y.Ec<3
 | 0,_,h=>by grind
 | k+1,hk,h=>by
  simp only[Gq];split
  ·rename_i hc;refine XJ l w k (by omega) λy hy=>?_
   rw[List.drop_eq_getElem_cons (by omega)]at hy;grind
  omega
def jr(l:List Bh)(w:Bh):(N5 l w).map (·.proc)=(l.map (·.proc)).take (Gq l w l.length)++w.proc::(l.map (·.proc)).drop (Gq l w l.length):=by simp[N5,List.map_take,List.map_drop,Function.comp_def]
theorem Xs(l:List Bh)(w:Bh):(N5 l w).length=l.length+1:=by grind[N5]
def O5{l:List Bh}{w x:Bh}(h:x∈N5 l w):x=w\/x∈l\/∃ y∈l,y.Ec<3/\x = { y with Ec:=y.Ec+1 }:=by
 simp only[N5,List.mem_append,List.mem_cons,List.mem_map]at h;rcases h with h|h|⟨y,hy,h⟩
 ·grind
 ·grind
 ·exact .inr (.inr ⟨y,List.mem_of_mem_drop hy,XJ l w _ (Nat.le_refl _) (by simp) y hy,h.symm⟩)
def TA{q:Queue}(h:Sound q){p:Ac}{a:BR}{prio:Int}(hp:p.ok=true)(Vq:0<=prio/\prio<=7)(ha:q.res.fits a=true)(hw:Ar q p=none)(hz:(Am q.holds p).zero=true)(hl:q.holds.length+q.waits.length<8) :
 Sound { q with waits:=N5 q.waits ⟨p,a,prio,0⟩ }:=by
 obtain⟨a1,a2,a3⟩:=(BX q).1 h.waits;rw[CS]at a1;have hn:=Ga.1 hw;have hlen:=Xs q.waits ⟨p,a,prio,0⟩;refine⟨h.res,h.holds,h.As,?_,h.gen⟩;rw[BX];simp[CS];refine⟨⟨by omega,?_,λx hx=>?_⟩,by omega,λx hx=>?_⟩
 ·rw[JI,jr];have hu:=JI.1 a1.2.1;have hpn:p∉q.waits.map (·.proc):=λhm=>by grind
  generalize q.waits.map (·.proc)=ps at hu hpn;generalize Gq q.waits ⟨p,a,prio,0⟩ q.waits.length=k;have uH:=hu;rw[<- List.take_append_drop k ps,List.nodup_append]at uH;rw[List.nodup_append];grind
 ·rcases O5 hx with rfl|hx|⟨y,hy,hy3,rfl⟩
  ·grind[Bh.ok,Jr,A7]
  ·grind
  ·have:=a1.2.2 y hy;simp only[Bh.ok,and_eq_true,A7,decide_eq_true_eq]at this ⊢;exact⟨this.1,by omega,by omega⟩
 ·rcases O5 hx with rfl|hx|⟨y,hy,hy3,rfl⟩<;>grind
def aX{l1 l2:List A9}{p:Ac}(h1:∀ y∈l1,BF y.proc p<0)(h2:∀ y∈l2,BF p y.proc<0):AR (l1++l2) p=l1++l2/\Dd (l1++l2) p=l1.length:=by
 have n1:∀ y∈l1++l2,y.proc≠p:=λy hy e=>by grind[CJ]
 refine⟨by grind[AR,List.filter_eq_self],?_⟩;unfold Dd;rw[List.findIdx?_append];have e1:l1.findIdx? (after' p)=none:=by grind[after']
 rw[e1];cases l2 with
 | nil=>simp
 | cons y l2 =>
  have:=h2 y (by simp);have hs:=DP p y.proc;have:after' p y=true:=by grind[after']
  simp[List.findIdx?_cons,this]
def mM{l:List A9}(h:Qp l){x:A9}(hx:x∈l):∃ l1 l2,l=l1++x::l2/\∀ a:BR,a.zero=false->CO l x.proc a=l1++⟨x.proc,a⟩::l2:=by
 obtain⟨l1,l2,rfl⟩:=List.append_of_mem hx;unfold Qp at h;rw[List.pairwise_append]at h;obtain⟨h1,h2,h3⟩:=h;have h2':=pairwise_cons.1 h2;have b1:∀ y∈l1,BF y.proc x.proc<0:=λy hy=>h3 y hy x (by simp)
 have b2:∀ y∈l2,BF x.proc y.proc<0:=λy hy=>h2'.1 y hy
 obtain⟨e1,e2⟩:=aX b1 b2;refine⟨l1,l2,rfl,λa ha=>?_⟩;grind[AR,CO]
theorem Ro{a b c:Int}(h1:BI a b=true)(h2:CF a c=true):CF b c=true:=by
 have ha:BK a=true:=by simp_all[BI]
 have hb:BK b=true:=by simp_all[BI]
 have hc:BK c=true:=by simp_all[CF]
 revert h1 h2;rcases Bc ha with rfl|rfl|rfl|rfl|rfl<;>rcases Bc hb with rfl|rfl|rfl|rfl|rfl<;>rcases Bc hc with rfl|rfl|rfl|rfl|rfl<;>decide
theorem Rp{a b:Int}(h:CF a b=true):CF b a=true:=by
 have ha:BK a=true:=by simp_all[CF]
 have hb:BK b=true:=by simp_all[CF]
 revert h;rcases Bc ha with rfl|rfl|rfl|rfl|rfl<;>rcases Bc hb with rfl|rfl|rfl|rfl|rfl<;>decide
def eb(s' s:List Bool):Prop:=∀ k:Nat,s'.getD k false=true->s.getD k false=true\/∃ k':Nat,s.getD k' false=true/\k'<6/\BI k' k=true
def fk{s s':List Bool}{m:Int}(h:eb s' s)(hs:Fz s m=true):Fz s' m=true:=by
 unfold Fz at *;rw[List.all_eq_true]at *;intro k hk;cases h1:s'.getD k false
 ·rfl
 ·rcases h k h1 with h2|⟨k',h2,h4,h3⟩<;>grind[Ro]
def fo{s:List Bool}{m m':Int}(h:BI m m'=true)(hs:Fz s m=true):Fz s m'=true:=by grind[Fz,Rp,Ro]
def ot{s s':List Bool}(h:eb s' s)(hl:s'.length=s.length)(i:Nat):eb (s'.set i true) (s.set i true):=by
 intro k hk;rw[Js]at hk;split at hk
 ·grind
 ·rcases h k hk with h2|⟨k',h2,h4,h3⟩<;>grind
def J6{r:BE}:∀ (l:List BR) {s s':Int} {seen Qd:List Bool},s'<=s->Qd.length=seen.length->eb Qd seen->Cl r l s seen=true->Cl r l s' Qd=true
 |[],_,_,_,_,_,_,_,_=>rfl
 | a::l,s,s',seen,Qd,hs,hl,hk,h=>by
  simp only[Cl,and_eq_true,Bool.not_eq_true',decide_eq_false_iff_not]at h ⊢;obtain⟨⟨h1,h2⟩,h3⟩:=h;refine⟨⟨h1,by omega⟩,?_⟩;split at h3
  ·rename_i hm;rw[if_pos hm];exact J6 l (by omega) hl hk h3
  ·rename_i hm;rw[if_neg hm];rw[and_eq_true]at h3 ⊢;exact⟨fk hk h3.1,J6 l (by omega) (by grind) (ot hk hl _) h3.2⟩
def iW(s:List Bool):eb s s:=λ_ h=>.inl h
def Lz{r:BE}{a b:BR}(ha:r.fits a=true)(hb:r.fits b=true)(hc:r.covers a b=true)(l2:List BR):∀ (l1:List BR) {s:Int} {seen:List Bool},seen.length=6->Cl r (l1++a::l2) s seen=true->Cl r (l1++b::l2) s seen=true
 |[],s,seen,hl,h=>by
  rw[ER ha hb]at hc;have hs:=(Db ha).1;have hpb:r.permits b=true:=by grind[BE.permits]
  simp only[nil_append,Cl,and_eq_true,Bool.not_eq_true',decide_eq_false_iff_not]at h ⊢;obtain⟨⟨h1,h2⟩,h3⟩:=h;rcases(Db ha).2 with ⟨k1,k2,k3⟩|⟨k1,k2,k3,k4,_⟩
  ·rcases(Db hb).2 with ⟨_,j2,j3⟩|⟨j1,_⟩
   ·rw[if_pos k1]at hc;have m1:a.mode≠0:=by grind[Bc]
    have m2:b.mode≠0:=by grind[Bc]
    rw[if_neg m1,and_eq_true]at h3;rw[if_neg m2,and_eq_true];refine⟨⟨hpb,by omega⟩,fo hc h3.1,J6 l2 (by omega) (by simp) (λk hk=>?_) h3.2⟩;rw[Js]at hk;split at hk
    ·rename_i pG;refine .inr ⟨a.mode.toNat,?_,?_,?_⟩
     ·rw[Js,if_pos ⟨rfl,by grind[Bc]⟩]
     ·grind[Bc]
     grind[Bc]
    grind
   ·exact absurd k1 j1
  ·rcases(Db hb).2 with ⟨j1,_⟩|⟨_,j2,j3,j4,_⟩
   ·exact absurd j1 k1
   ·rw[if_neg k1]at hc;simp at hc;rw[if_pos k2]at h3;rw[if_pos j2];exact⟨⟨hpb,by omega⟩,J6 l2 (by omega) rfl (iW _) h3⟩
 | x::l1,s,seen,hl,h=>by
  simp only[List.cons_append,Cl,and_eq_true]at h ⊢;refine⟨h.1,?_⟩;have h3:=h.2;split at h3
  ·rename_i hm;rw[if_pos hm];exact Lz ha hb hc l2 l1 hl h3
  ·rename_i hm;rw[and_eq_true]at h3;rw[if_neg hm,and_eq_true];exact⟨h3.1,Lz ha hb hc l2 l1 (by simpa using hl) h3.2⟩
def X9{r:BE}{l:List A9}(h:BV r l=true){p:Ac}{a:BR}(hz:(Am l p).zero=false)(hc:r.covers (Am l p) a=true)(ha:a.zero=false):BV r (CO l p a)=true:=by
 obtain⟨h1,h2,h3,h4,h5⟩:=(Dk _ _).1 h;obtain⟨x,hx,oh,hg⟩:∃ x∈l,x.proc=p/\Am l p=x.AH:=by
  unfold Am at hz ⊢;cases hf:l.find? (λh=>decide (h.proc=p)) with
  |none=>grind[BR.zero]
  |some x=>grind
 have hfx:=(h3 x hx).2;rw[hg]at hc;have gz:r.fits a=true:=by simp_all[BE.covers,BE.permits]
 subst oh;obtain⟨l1,l2,rfl,WG⟩:=mM h4 hx;rw[WG a ha,Dk];refine⟨h1,by grind,λy hy=>?_,?_,?_⟩
 ·grind
 ·simp_all[Qp,List.pairwise_append]
 ·simp[BE.compat]at h5 ⊢;exact⟨h5.1,Lz hfx gz hc _ _ rfl h5.2⟩
def Hc(q:Queue)(p:Ac)(a:BR):Queue:={ q with holds:=CO q.holds p a }
def Tz{q:Queue}(h:Sound q){p:Ac}{a:BR}(hz:(Am q.holds p).zero=false)(hw:Ar q p=none)(hc:q.res.covers (Am q.holds p) a=true):Sound (Hc q p a):=by
 have hn:=Ga.1 hw;have hlen:(CO q.holds p a).length<=q.holds.length:=by
  have h1:=SJ hz;have h2:=VD (l:=q.holds) (p:=p) (a:=a);omega
 refine⟨h.res,?_,?_,?_,h.gen⟩
 ·cases ha:a.zero
  ·exact X9 h.holds hz hc ha
  ·simp[Hc,zero_eq ha,HU];exact Lq List.filter_sublist h.holds
 ·obtain⟨c1,c2,c3⟩:=(Cf q).1 h.As;grind[Cf,Hc,FY]
 ·obtain⟨a1,a2,a3⟩:=(BX q).1 h.waits;grind[BX,Hc,FY]
def UT{α:Type}(l:List α)(k:Nat)(p:α):List α:=l.take k++p::l.drop k
section
variable {α:Type}
theorem bK(l:List α)(k:Nat)(p:α)(h:k<=l.length):(UT l k p).length=l.length+1:=by grind[UT]
def l0(l:List α)(k:Nat)(p:α)(h:k<=l.length):(UT l k p)[k]?=some p:=by grind[UT]
def eE(l:List α)(k:Nat)(p:α)(h:k+1<=l.length):(UT l (k+1) p)[k]?=l[k]?:=by simp_all[UT,List.getElem?_append_left]
def eF{l:List α}{k:Nat}{p x:α}(hx:l[k]?=some x):((UT l (k+1) p).set (k+1) x).set k p=UT l k p:=by
 have hk:=Au hx;have hd:l.drop k=x::l.drop (k+1):=by rw[List.drop_eq_getElem_cons hk,get_eq hx]
 have ht:l.take (k+1)=l.take k++[x]:=by grind
 unfold UT;rw[ht,hd];have hl:(l.take k).length=k:=by grind
 rw[List.append_assoc,List.set_append_right _ _ (by omega),hl];simp;rw[List.set_append_right _ _ (by omega),hl];simp
theorem bL(l:List α)(k:Nat)(p x:α):x∈UT l k p↔x∈l\/x=p:=by grind[UT,List.take_append_drop]
end
@[reducible] def MK(l:List Bs):AV:=.sl .no 1 (l.map λs=>[.v (.string (str s))])
@[reducible] def ZR(r:Nat)(l:List Bs):AV:=.sl (.own r 0) 1 (l.map λs=>[.v (.string (str s))])
def K5(l:List Bs)(n:Bs):Nat->Nat
 | 0=>0
 | k+1=>if BD n (l.getD k []) then K5 l n k else k+1
def UR(l:List Bs)(n:Bs):List Bs:=if n∈l then l else UT l (K5 l n l.length) n
def Dc(l:List Entry):List Bs:=(l.map (·.name)).foldl UR []
theorem fJ(l:List Bs)(n:Bs):∀ k,K5 l n k<=k
 | 0=>by simp[K5]
 | k+1=>by
  simp only[K5];split
  ·have:=fJ l n k;omega
  ·omega
def sd(l:List Bs)(n:Bs):(UR l n).length<=l.length+1:=by grind[UR,bK,fJ]
def OV{l:List Entry}{i:Nat}{b:Entry}(hb:l[i]?=some b):Dc (l.take (i+1))=UR (Dc (l.take i)) b.name:=by simp[Dc,take_add_one,hb,List.foldl_append]
def QP{l:List Entry}:∀ i,i<=l.length->(Dc (l.take i)).length<=i
 | 0,_=>by simp[Dc]
 | i+1,h=>by
  obtain⟨b,hb⟩:∃ b,l[i]?=some b:=⟨_,gE (by omega)⟩;rw[OV hb];have:=sd (Dc (l.take i)) b.name;have:=QP (l:=l) i (by omega);omega
def aM(l:List Entry)(hl:l.length<=1000000):Ad C0 197 [Et l] [] (MK (Dc l)) []:=by
 refine Ad.go f197 ?_;unfold f197;refine gO ?_;refine AF (l) (λi=>⟨[(4,I i),(3,ZR 2688 (Dc (l.take i))),(0,Et l)],[]⟩) (λi=>True) trivial ?_ ?_
 ·have Q4:=@Dc.eq_1;exact Gd
 rintro i ⟨hi,hP⟩ J hJ;refine gO ?_;refine Bo hi (λAP b hb Cg AX=>?_) λBa=>?_
 ·have pI:=QP i hi;generalize xk:Dc (l.take i)=out at pI ⊢;refine Ao (α:=Nat) (λk=>⟨[(6,I k),(5,B (decide (b.name∈out.take k))),(4,I i),(3,ZR 2688 out),(0,Et l)],[]⟩) (λk=>k<=out.length) (λk=>out.length-k) 0 (by omega) ?_ ?_
  ·refine AT.Aq ?_ ?_
   all_goals simp(disch:=omega)only[go_sem]
  rintro k hk J2 Vo;refine gO ?_;refine And.intro (λAhS=>?_) (λAhD=>?_)
  ·obtain⟨x,hx⟩:∃ x,out[k]?=some x:=⟨_,gE (by grind)⟩;refine Ay 11 [([],[5]),([],[21]),([],[3,22]),([],[6,22]),([],[23,24,22]),([],[25,22]),([],[0,22]),([],[4,22]),([],[27,28,22]),([],[29,22]),([],[30,22])] B6 ?_;have cp:decide (b.name∈out.take (k+1))=(decide (b.name∈out.take k)||x==b.name):=by
    rw[take_add_one,hx];grind
   cases hc:decide (b.name∈out.take k)
   ·simp(disch:=omega)only[go_sem,hx,hb];refine Vo _ (k+1) (by grind) (by grind) (AT.Aq ?_ ?_)
    all_goals(try simp(disch:=omega)only[go_sem])
    rw[cp,hc,Bool.false_or];exact .rfl
   ·refine gO ?_;refine Vo _ (k+1) (by grind) (by grind) (AT.Aq ?_ ?_)
    all_goals(try simp(disch:=omega)only[go_sem])
    rw[cp,hc,Bool.true_or];exact .rfl
  have TM:k=out.length:=by grind
  subst TM;rw[take_length];cases Hf:decide (b.name∈out);rotate_left
  ·refine gO ?_;have e:Dc (l.take (i+1))=out:=by simp_all[OV,UR]
   refine hJ _ (i+1) ⟨by omega,trivial⟩ (by omega) Gd
  have ID:out.length+1<=4294967296:=by omega
  have xg:b.name∉out:=by grind
  simp(disch:=omega)only[go_sem,hb];refine Ao (α:=Nat) (λk=>⟨[(7,I k),(4,I i),(3,ZR 2688 (UT out k b.name)),(0,Et l)],[]⟩) (λk=>k<=out.length/\K5 out b.name out.length=K5 out b.name k) (λk=>k) out.length ⟨by omega,rfl⟩ ?_ ?_
  ·refine AT.Aq ?_ ?_
   all_goals(try simp(disch:=omega)only[go_sem])
   all_goals(try(repeat'(with_reducible apply And.intro)))
   all_goals(first|exact .int (by simp;omega)|exact .int (by simp)|exact .sl (by simp[UT]))
  rintro k ⟨hk,hs⟩ J2 Vo;have fin:K5 out b.name k=k->∀ st',AT ⟨C0,[]⟩ st' ⟨[(4,I (i+1:Nat)),(3,ZR 2688 (UT out k b.name)),(0,Et l)],[]⟩->J st':=λGR st' dB =>
   hJ st' (i+1) ⟨by omega,trivial⟩ (by omega) (by
    have e:Dc (l.take (i+1))=UT out k b.name:=by simp_all[OV,UR]
    rw[e];exact dB)
  refine Ay 12 [([],[7]),([],[46]),([],[47]),([],[3,48]),([],[7,48]),([],[49,50,48]),([],[51,48]),([],[3,48]),([],[7,48]),([],[54,48]),([],[53,55,48]),([],[56,48])] B6 ?_;cases k with
  | zero =>
   have e0:(0<((0:Nat):Int))=False:=by simp
   refine gO ?_;exact fin rfl _ AK
  | succ k =>
   have e0:(0<(((k+1:Nat)):Int))=True:=eq_true (by omega);have e1:(0<(k:Int)+1)=True:=eq_true (by omega);have e2:((k:Int)+1-1)=(k:Int):=by omega
   obtain⟨x,hx⟩:∃ x,out[k]?=some x:=⟨_,gE (by omega)⟩;have g1:=l0 out (k+1) b.name hk;have g2:=eE out k b.name hk;rw[hx]at g2;have Y2:=bK out (k+1) b.name hk;refine gS ?_;cases hc:Op.bytesLess b.name x
   ·refine gO ?_;exact fin (by grind[K5,BD]) _ AK
   ·have e4:(k=k+1)=False:=eq_false (by omega);have e5:(k+1=k)=False:=eq_false (by omega);simp(disch:=omega)only[go_sem,e2,g2,List.getElem?_set,e4,e5];refine Vo _ k ⟨by omega,by grind[K5,BD]⟩ (by omega) (AT.Aq ?_ gI);refine gO ?_;refine .sl ?_;rw[<- eF hx,map_set,map_set]
 ·subst Ba;refine gO ?_;refine CU ⟨[],[],[2688]⟩ _ ?_;exact gI
def s0:Save:=⟨0,0⟩
def CI:Ledger:=⟨[],[]⟩
def FV(l:List Entry)(i:Nat)(e:Entry):Bool:=B9 e.name&&decide (e.before=An (l.take i) e.name)&&EL e.before e.after
def FQ(l:Ledger)(i:Nat)(s:Save):Bool:=decide (1<=s.label)&&decide (s.label<=99)&&decide (0<=s.pos)&&decide (s.pos<=l.entries.length)&&(decide (i=0)||decide ((l.AA.getD (i-1) s0).pos<=s.pos))&&decide (L5 l.AA s.label=(i:Int))
def Bx(l:Ledger):Bool:=decide (l.entries.length<=72)&&decide (l.AA.length<=4)&&Cu (FV l.entries) l.entries&&decide ((Dc l.entries).length<=8)&&Cu (FQ l) l.AA
def M6(l:Ledger):Ad C0 136 [.agg l.c] [] (B (Bx l)) []:=by
 have bad:Bx l=false->Ci (B false) (B (Bx l)):=λh=>wb h.symm
 refine Ad.go f136 ?_;unfold f136
 by_cases h1:72<l.entries.length
 ·have e1:(72<(l.entries.length:Int))=True:=eq_true (by omega);refine gS ?_;refine Al _ ?_;exact wb (by grind[Bx])
 have e1:(72<(l.entries.length:Int))=False:=eq_false (by omega)
 by_cases h2:4<l.AA.length
 ·have e2:(4<(l.AA.length:Int))=True:=eq_true (by omega);refine gS ?_;refine Al _ ?_;exact wb (by grind[Bx])
 have e2:(4<(l.AA.length:Int))=False:=eq_false (by omega);refine gS ?_;refine AF (l.entries) (λi=>⟨[(3,I i),(1,.ptr 64 0)],[(64,l.c)]⟩) (λi=>Cu (FV l.entries) (l.entries.take i)=true) rfl ?_ ?_
 ·exact Ce
 rintro i ⟨hi,hP⟩ J hJ;refine gO ?_;refine Bo hi (λAP b hb Cg AX=>?_) λBa=>?_
 simp(disch:=omega)only[go_sem,hb]
 ·refine Ay 21 [([],[4]),([],[29]),([],[30]),([2],[31]),([2],[32]),([2],[4,33]),([2],[34,33]),([2],[1,33]),([2],[36,33]),([2],[3,33]),([2],[37,38,33]),([2],[4,33]),([2],[40,33]),([2],[39,41,33]),([2,13],[35,42,33]),([2,13],[33,43]),([2,13],[44]),([2,13],[4,45]),([2,13],[46,45]),([2,13],[4,45]),([2,13],[48,45])] B6 (gO ?_);have no:FV l.entries i b=false->Bx l=false:=λh=>by simp[Bx,B5 hb h,Bool.and_false,Bool.false_and]
  have yes:FV l.entries i b=true->Cu (FV l.entries) (l.entries.take (i+1))=true:=λh=>by grind[CB]
  first|(refine Ab (Ox b.name) ?_)|(refine Ax (Ox b.name) ?_)
  cases h3:B9 b.name
  ·refine gO ?_;refine Al _ ?_;exact wb (by grind[FV])
  refine gO ?_
  first|(refine Ab (Ib (l.entries.take i) b.name) ?_)|(refine Ax (Ib (l.entries.take i) b.name) ?_)
  refine gO ?_;cases h4:decide (b.before=An (l.entries.take i) b.name)
  ·refine gO ?_;refine Al _ ?_;exact wb (by grind[FV])
  refine gO ?_
  first|(refine Ab (kF b.before b.after) ?_)|(refine Ax (kF b.before b.after) ?_)
  cases h5:EL b.before b.after
  ·refine gO ?_;refine Al _ ?_;exact wb (by grind[FV])
  refine gO ?_;refine hJ _ (i+1) ⟨by omega,yes (by grind[FV])⟩ (by omega) AK
 subst Ba;rw[take_length]at hP;refine Ab (aM l.entries (by omega)) ?_
 by_cases h6:8<(Dc l.entries).length
 ·have e6:(8<((Dc l.entries).length:Int))=True:=eq_true (by omega);refine gS ?_;refine Al _ ?_;exact wb (by grind[Bx])
 have e6:(8<((Dc l.entries).length:Int))=False:=eq_false (by omega);refine gS ?_;have hP1:=hP;clear hP hJ hi;refine AF (l.AA) (λi=>⟨[(5,I i),(1,.ptr 64 0)],[(64,l.c)]⟩) (λi=>Cu (FQ l) (l.AA.take i)=true) rfl ?_ ?_
 ·exact Ce
 rintro i ⟨hi,hP⟩ J hJ;refine gO ?_;refine Bo hi (λAP b hb Cg AX=>?_) λBa=>?_
 simp(disch:=omega)only[go_sem,hb]
 ·have no:FQ l i b=false->Bx l=false:=λh=>by simp[Bx,B5 hb h,Bool.and_false]
  have yes:FQ l i b=true->Cu (FQ l) (l.AA.take (i+1))=true:=λh=>by grind[CB]
  refine Ay 44 [([],[6]),([],[70]),([],[71]),([],[72]),([],[6,73]),([],[74,73]),([],[75,73]),([],[73,76]),([],[77]),([],[6,78]),([],[79,78]),([],[80,78]),([],[78,81]),([],[82]),([],[6,83]),([],[84,83]),([],[1,83]),([],[86,83]),([],[87,83]),([],[85,88,83]),([],[83,89]),([],[90]),([],[5,91]),([],[92,91]),([],[93,91]),([],[1,94]),([],[95,94]),([],[5,94]),([],[97,94]),([],[96,98,94]),([],[99,94]),([],[100,94]),([],[6,94]),([],[102,94]),([],[101,103,94]),([],[94,104,91]),([],[91,105]),([],[106]),([],[1,107]),([],[108,107]),([],[6,107]),([],[110,107]),([],[109,111,107]),([],[5,107])] B6 ?_
  by_cases c1:b.label<1
  ·have f1:=eq_true c1;simp only[go_sem,f1];refine Al _ ?_;exact wb (by grind[FQ])
  have f1:=eq_false c1
  by_cases c2:99<b.label
  ·have f2:=eq_true c2;simp only[go_sem,f1,f2];refine Al _ ?_;exact wb (by grind[FQ])
  have f2:=eq_false c2
  by_cases c3:b.pos<0
  ·have f3:=eq_true c3;simp only[go_sem,f1,f2,f3];refine Al _ ?_;exact wb (by grind[FQ])
  have f3:=eq_false c3
  by_cases c4:(l.entries.length:Int)<b.pos
  ·have f4:=eq_true c4;simp only[go_sem,f1,f2,f3,f4];refine Al _ ?_;exact wb (by grind[FQ])
  have f4:=eq_false c4;have base:FQ l i b=((decide (i=0)||decide ((l.AA.getD (i-1) s0).pos<=b.pos))&&decide (L5 l.AA b.label=(i:Int))):=by grind[FQ]
  have last:(decide (i=0)||decide ((l.AA.getD (i-1) s0).pos<=b.pos))=true->FQ l i b=decide (L5 l.AA b.label=(i:Int)):=λh=>by grind
  by_cases QI:i=0
  ·subst QI;have g0:=last (by simp);refine gS ?_
   first|(refine Ab (M8 l.AA b.label) ?_)|(refine Ax (M8 l.AA b.label) ?_)
   refine gO ?_;refine And.intro (λhh=>?_) (λhh=>?_)
   ·refine Al _ ?_;exact wb (by grind)
   ·refine hJ _ 1 ⟨by omega,yes (by grind)⟩ (by omega) AK
  have QJ:(0<(i:Int))=True:=eq_true (by omega);have NP:((i:Int)-1)=((i-1:Nat):Int):=by omega
  obtain⟨a,NZ⟩:∃ a,l.AA[i-1]?=some a:=⟨_,gE (by omega)⟩;have UK:l.AA.getD (i-1) s0=a:=by grind
  by_cases c5:b.pos<a.pos
  ·have f5:=eq_true c5;simp(disch:=omega)only[go_sem,f1,f2,f3,f4,f5,QJ,NP,NZ];refine Al _ ?_;exact wb (by grind)
  have f5:=eq_false c5;have g0:=last (by grind);simp(disch:=omega)only[go_sem,f1,f2,f3,f4,f5,QJ,NP,NZ]
  first|(refine Ab (M8 l.AA b.label) ?_)|(refine Ax (M8 l.AA b.label) ?_)
  refine gO ?_;refine And.intro (λhh=>?_) (λhh=>?_)
  ·refine Al _ ?_;exact wb (by grind)
  ·refine hJ _ (i+1) ⟨by omega,yes (by grind)⟩ (by omega) AK
 subst Ba;rw[take_length]at hP;refine Al _ ?_;exact wb (by grind[Bx])
def iP(x:Bh):Bh:={ x with Ec:=x.Ec+1 }
theorem eY(l:List Bh)(w:Bh):N5 l w=l.take (Gq l w l.length)++w::(l.drop (Gq l w l.length)).map iP:=rfl
def OL(l:List Bh)(w:Bh):List Bh × Int × Int:=if !Ef l then ([],0,2) else if !w.ok||w.Ec !=0 then ([],0,1) else if 0<=FG l w.proc then ([],0,11) else if l.length=8 then ([],0,4) else (N5 l w,((Gq l w l.length:Nat):Int),0)
def wO(l:List Bh)(w:Bh)(hl:l.length<=1000000):Ad C0 303 [Ct l,.agg w.c] [] (.BC [Ct (OL l w).1,I (OL l w).2.1,I (OL l w).2.2]) []:=by
 refine Ad.go f303 ?_;unfold f303;refine gO ?_;refine Ab (Vj l hl) ?_;cases h1:Ef l
 ·have e:OL l w=([],0,2):=by simp[OL,h1]
  refine gS ?_;exact Gw _
 refine gO ?_;refine Ab (kV w) ?_;cases h2:w.ok
 ·have e:OL l w=([],0,1):=by grind[OL]
  refine gS ?_;exact Gw _
 refine gO ?_;cases h3:(w.Ec !=0);rotate_left
 ·have e:OL l w=([],0,1):=by grind[OL]
  refine gS ?_;exact Gw _
 refine gO ?_;refine Ab (Pt l w.proc hl) ?_
 by_cases h4:0<=FG l w.proc
 ·have e:OL l w=([],0,11):=by grind[OL]
  refine gS ?_;exact Gw _
 refine gS ?_;have hl8:l.length<=8:=((CS l).1 h1).1
 by_cases h5:l.length=8
 ·have e:OL l w=([],0,4):=by grind[OL]
  have e5:((l.length:Int)==8)=true:=by grind
  simp only[go_sem,e,e5];exact Gw _
 have e5:((l.length:Int)==8)=false:=by grind
 refine gS ?_;have e:OL l w=(N5 l w,((Gq l w l.length:Nat):Int),0):=by grind[OL]
 rw[e];refine Ao (α:=Nat) (λk=>⟨[(7,I k),(0,Ct l),(3,.ptr 192 0)],[(192,w.c)]⟩) (λk=>k<=l.length/\Gq l w l.length=Gq l w k) (λk=>k) l.length ⟨by omega,rfl⟩ AK ?_;rintro k ⟨hk,hs⟩ J hJ;have Lp:k=0\/(∃ j x,k=j+1/\l[j]?=some x/\¬ x.prio<w.prio)\/(∃ j x,k=j+1/\l[j]?=some x/\x.prio<w.prio/\¬ x.Ec<3)\/(∃ j x,k=j+1/\l[j]?=some x/\x.prio<w.prio/\x.Ec<3):=by cases k<;>grind
 have S5:∀ j x,l[j]?=some x->l.getD j w0=x:=λj x h=>by grind
 have fin:(¬ ∃ j x,k=j+1/\l[j]?=some x/\x.prio<w.prio/\x.Ec<3)->N5 l w=l.take k++w::(l.drop k).map iP/\Gq l w l.length=k:=λh=>by
  have:Gq l w k=k:=by
   cases k with
   | zero=>rfl
   | succ j =>
    obtain⟨x,hx⟩:∃ x,l[j]?=some x:=⟨_,gE (by omega)⟩;simp_all[Gq,if_neg]
  rw[eY,hs,this];exact⟨rfl,rfl⟩
 refine Ay 17 [([],[7]),([],[32]),([],[33]),([],[0,34]),([],[7,34]),([],[36,34]),([],[35,37,34]),([],[38,34]),([],[39,34]),([],[3,34]),([],[41,34]),([],[40,42,34]),([],[34,43]),([],[44]),([],[0,45]),([],[7,45]),([],[47,45])] B6 ?_;rcases Lp with h0|⟨j,x,hj,hx,c1⟩|⟨j,x,hj,hx,c1,c2⟩|⟨j,x,hj,hx,c1,c3⟩
 rotate_left 3
 ·subst hj;simp(disch:=omega)only[go_sem,eq_true (show 0<(j:Int)+1 by omega),(show ((j:Int)+1-1)=(j:Int) by omega),hx,eq_true c1,eq_true c3];refine hJ _ j ⟨by omega,by simp_all[Gq]⟩ (by omega) AK
 all_goals first
  |(have CZ:=fin (fun⟨j',x',a,b,c,d⟩=>by grind);simp(disch:=omega)only[go_sem,eq_true (show 0<(k:Int) by omega),(show ((k:Int)-1)=(j:Int) by omega),gm,hx,eq_true c1,eq_false c2,decide_true,decide_false])
  |(have CZ:=fin (fun⟨j',x',a,b,c,d⟩=>by grind);simp(disch:=omega)only[go_sem,eq_true (show 0<(k:Int) by omega),(show ((k:Int)-1)=(j:Int) by omega),hx,eq_false c1])
  |(have CZ:=fin (fun⟨j',x',a,b,c,d⟩=>by omega);simp only[go_sem,eq_false (show ¬ 0<(k:Int) by omega)])
 all_goals
  rw[CZ.1,CZ.2];clear fin hJ hs;have Ala:(l.take k).length+1<=4294967296:=by grind
  refine Dj 511 [(0,1,0),(1,2,0),(2,4,0),(3,8,6),(4,16,9),(5,32,0),(6,64,32),(7,128,80),(8,256,255)] [0,1,2,4,32,3,5,33,6,34,36,96,7,35,37,97,14,38,98,100,15,39,99,101,46,102,31,47,103,110,63,111,127,255,511] (λm=>⟨XE m [(1,56,(if m / 16%2=1 then .undef else .sl (.own 3584 0) 7 [])),(2,57,Ct l),(4,58,I k),(8,59,.sl .no 7 ((l.take k).map Bh.c)),(16,60,(if m / 128%2=1 then .undef else .sl (.own 3840 0) 7 ((l.take k).map Bh.c))),(32,61,.agg w.c),(64,62,.sl (.own 3968 0) 7 [w.c]),(128,63,.sl (.own 4032 0) 7 ((l.take k++[w]).map Bh.c)),(256,8,.sl (.own 4032 0) 7 ((l.take k++[w]).map Bh.c))]++[(7,I k),(0,Ct l),(3,.ptr 192 0)],[(192,w.c)]⟩) ?_ ?_ ?_ B6
  ·exact AK
  ·simp (maxSteps:=100000000)only[Di,Dh,D0,DZ,and_true,Nat.reduceDiv,Nat.reduceMod,Nat.reduceAnd,Nat.reduceEqDiff,reduceIte,true_and,and_false,and_self]
   repeat'(with_reducible refine And.intro ?_ ?_)
   all_goals simp(disch:=omega)only[go_sem,nil_append,List.map_append,List.map_cons,List.map_nil]
   all_goals exact AT.Aq (by simp(disch:=omega)only[go_sem]) gI
  refine gO ?_;refine Ao (α:=Nat) (λi=>⟨[(9,I i),(8,.sl (.own 5248 0) 7 ((l.take k++w::((l.drop k).take (i-k)).map iP).map Bh.c)),(0,Ct l),(7,I k)],[]⟩) (λi=>k<=i/\i<=l.length) (λi=>l.length-i) k ⟨by omega,hk⟩ ?_ ?_
  ·refine AT.CX ⟨[(4032,5248)],[],[]⟩ ⟨rfl,rfl⟩ (by grind) ?_ ?_
   all_goals(try simp(disch:=omega)only[go_sem])
   all_goals(try(repeat'(with_reducible apply And.intro)))
   all_goals(exact .sl (by simp))
  rintro i ⟨QJ,NP⟩ J2 Vo;refine gO ?_;refine ⟨λAP=>?_,λJX=>?_⟩
  ·obtain⟨b,hb⟩:∃ b,l[i]?=some b:=⟨_,gE (by grind)⟩;have w7:(l.take k++w::((l.drop k).take (i-k)).map iP).length+1<=4294967296:=by grind
   have Ahl:=((CS l).1 h1).2.2 b (mG hb);have hbp:0<=b.Ec/\b.Ec<=3:=by grind[Bh.ok,A7]
   have uE:(l.drop k).take (i+1-k)=(l.drop k).take (i-k)++[b]:=by rw[show i+1-k=(i-k)+1 by omega,take_add_one,List.getElem?_drop,show k+(i-k)=i by omega,hb];rfl
   simp(disch:=omega)only[go_sem,hb];refine Vo _ (i+1) ⟨by omega,by grind⟩ (by grind) (AT.Aq ?_ ?_)
   all_goals(try simp(disch:=omega)only[go_sem])
   exact .sl (by grind[iP,Bh.c])
  ·have Ba:i=l.length:=by grind
   subst Ba;rw[show (l.drop k).take (l.length-k)=l.drop k from List.take_of_length_le (by simp)];refine CU ⟨[],[],[5248]⟩ _ ?_;simp(disch:=omega)only[go_sem]
def Bd(q:Queue)(p:Ac):Queue × List A9 × Int:=if !valid q then (q0,[],2) else if !(Ar q p).isSome then (q0,[],10) else (Ee (Dw q p),(Co (Dw q p)).2,0)
def AD(q:Queue)(p:Ac)(a:BR):Queue × List A9 × Int:=if !valid q then (q0,[],2) else if (Am q.holds p).zero then (q0,[],10) else if (Ar q p).isSome then (q0,[],14) else if !q.res.covers (Am q.holds p) a then (q0,[],12) else if decide (Am q.holds p=a) then (q,[],0) else (Ee (Hc q p a),(Co (Hc q p a)).2,0)
def HJ(q:Queue)(p:Ac)(a:BR):Queue:={ q with As:=q.As++[⟨p,D4 q.res (Am q.holds p) a,0,0⟩] }
def Ik(q:Queue)(p:Ac)(a:BR)(prio:Int):Queue:={ q with waits:=N5 q.waits ⟨p,a,prio,0⟩ }
def BA(q:Queue)(p:Ac)(a:BR)(prio:Int):Queue × List A9 × Int:=if !valid q then (q0,[],2) else if !p.ok then (q0,[],1) else if decide (prio<0) then (q0,[],1) else if decide (7<prio) then (q0,[],1) else if !q.res.fits a then (q0,[],12) else if (Ar q p).isSome then (q0,[],14)
 else if q.res.covers (Am q.holds p) a then (q,[],0) else if !(Am q.holds p).zero then (Ee (HJ q p a),(Co (HJ q p a)).2,0) else if decide (8<=(q.holds.length:Int)+q.waits.length) then (q0,[],4) else (Ee (Ik q p a prio),(Co (Ik q p a prio)).2,0)
theorem F4{q:Queue}{p:Ac}(h:(Ar q p).isSome=false):Ar q p=none:=by simp_all
def qW(q:Queue)(p:Ac)(h:BS q<=100):Ad C0 56 [.agg q.c,.agg p.c] [] (.BC [.agg (Bd q p).1.c,Bg (Bd q p).2.1,I (Bd q p).2.2]) []:=by
 obtain⟨h1,h2,h3⟩:=Bt h;refine Ad.go f56 ?_;unfold f56;refine gO ?_;refine Ab (Pu q h1 h3) ?_;cases hv:valid q
 ·have e:Bd q p=(q0,[],2):=by simp[Bd,hv]
  simp only[go_sem,e,q0];refine Al _ ?_;refine .BC (Ae.AJ ?_);refine gO ?_
  repeat'(with_reducible apply And.intro)
  all_goals(first|exact .A8 (by omega)|exact .agg (Ae.AJ gI))
 refine gO ?_;refine Ab (Nc q p h2 h3) ?_;cases hw:(Ar q p).isSome
 ·have e:Bd q p=(q0,[],10):=by grind[Bd]
  simp only[go_sem,e,q0];refine Al _ ?_;refine .BC (Ae.AJ ?_);refine gO ?_
  repeat'(with_reducible apply And.intro)
  all_goals(first|exact .A8 (by omega)|exact .agg (Ae.AJ gI))
 have e:Bd q p=(Ee (Dw q p),(Co (Dw q p)).2,0):=by grind[Bd]
 rw[e];refine gO ?_;refine Ab (SP q h1 h2 h3) ?_;refine gO ?_;refine Ab (Va q.As p h2) ?_;refine gO ?_;refine Ab (Va q.waits p h3) ?_;refine gO ?_;have WI:=Cq q.waits p;have X6:=Cq q.As p;refine Ai (Rt (Dw q p) (Pc ((BN q).1 hv).1 p) h1 (by grind[Dw]) (by grind[Dw])) (by simp only[go_sem,Dw]) rfl ?_;refine gO ?_;exact AQ _
def Wl(q:Queue)(p:Ac)(a:BR)(h:BS q<=100):Ad C0 60 [.agg q.c,.agg p.c,.agg a.c] [] (.BC [.agg (AD q p a).1.c,Bg (AD q p a).2.1,I (AD q p a).2.2]) []:=by
 obtain⟨h1,h2,h3⟩:=Bt h;refine Ad.go f60 ?_;unfold f60;refine gO ?_;refine Ab (Pu q h1 h3) ?_;cases hv:valid q
 ·have e:AD q p a=(q0,[],2):=by simp[AD,hv]
  simp only[go_sem,e,q0];refine Al _ ?_;refine .BC (Ae.AJ ?_);refine gO ?_
  repeat'(with_reducible apply And.intro)
  all_goals(first|exact .A8 (by omega)|exact .agg (Ae.AJ gI))
 refine gO ?_;refine Ab (E0 q p h1) ?_;refine gO ?_;refine Ab (Fp (Am q.holds p)) ?_;cases hz:(Am q.holds p).zero;rotate_left
 ·have e:AD q p a=(q0,[],10):=by grind[AD]
  simp only[go_sem,e,q0];refine Al _ ?_;refine .BC (Ae.AJ ?_);refine gO ?_
  repeat'(with_reducible apply And.intro)
  all_goals(first|exact .A8 (by omega)|exact .agg (Ae.AJ gI))
 refine gO ?_;refine Ab (Nc q p h2 h3) ?_;cases hw:(Ar q p).isSome;rotate_left
 ·have e:AD q p a=(q0,[],14):=by grind[AD]
  simp only[go_sem,e,q0];refine Al _ ?_;refine .BC (Ae.AJ ?_);refine gO ?_
  repeat'(with_reducible apply And.intro)
  all_goals(first|exact .A8 (by omega)|exact .agg (Ae.AJ gI))
 refine gO ?_;refine Ab (KH q.res (Am q.holds p) a) ?_;cases hc:q.res.covers (Am q.holds p) a
 ·have e:AD q p a=(q0,[],12):=by grind[AD]
  simp only[go_sem,e,q0];refine Al _ ?_;refine .BC (Ae.AJ ?_);refine gO ?_
  repeat'(with_reducible apply And.intro)
  all_goals(first|exact .A8 (by omega)|exact .agg (Ae.AJ gI))
 refine gO ?_;refine Ab (SP q h1 h2 h3) (gO ?_);cases ha:decide (Am q.holds p=a);rotate_left
 ·have e:AD q p a=(q,[],0):=by grind[AD]
  refine gS ?_;exact Gw _
 simp(disch:=omega)only[go_sem,ha];have e:AD q p a=(Ee (Hc q p a),(Co (Hc q p a)).2,0):=by grind[AD]
 rw[e];refine Ab (Pv q.holds p a h1) ?_;refine gO ?_;have hl:=SJ hz;have lK:=VD (l:=q.holds) (p:=p) (a:=a);refine Ai (Rt (Hc q p a) (Tz ((BN q).1 hv).1 hz (F4 hw) hc) (by grind[Hc]) h2 h3) (by simp only[go_sem,Hc]) rfl ?_;refine gO ?_;exact AQ _
def qX(q:Queue)(h1:q.holds.length<=1000000)(h2:q.As.length<=1000000)(h3:q.waits.length<=1000000):Ad C0 61 [.agg q.c] [] (.agg [.v (.string (str q.res.name)),.v (.int .i64 q.res.kind),.v (.int .i64 q.res.AG),.v (.int .i64 q.res.home),Bg q.holds,.sl (.own 0 0) 7 (q.As.map Bh.c),Ct q.waits,.v (.int .i64 q.gen)]) []:=by
 refine Ad.go f61 ?_;unfold f61;refine gO ?_;refine CU ⟨[(704,0)],[],[384,1024]⟩ _ ?_;exact gI
def wJ(q:Queue)(p:Ac)(a:BR)(prio:Int)(h:BS q<=100):Ad C0 293 [.agg q.c,.agg p.c,.agg a.c,I prio] [] (.BC [.agg (BA q p a prio).1.c,Bg (BA q p a prio).2.1,I (BA q p a prio).2.2]) []:=by
 obtain⟨h1,h2,h3⟩:=Bt h;refine Ad.go f293 ?_;unfold f293;refine gO ?_;refine Ab (Pu q h1 h3) ?_;cases hv:valid q
 ·have e:BA q p a prio=(q0,[],2):=by simp[BA,hv]
  simp only[go_sem,e,q0];refine Al _ ?_;refine .BC (Ae.AJ ?_);refine gO ?_
  repeat'(with_reducible apply And.intro)
  all_goals(first|exact .A8 (by omega)|exact .agg (Ae.AJ gI))
 refine gO ?_;refine Ab (KI p) ?_;cases hp:p.ok
 ·have e:BA q p a prio=(q0,[],1):=by grind[BA]
  simp only[go_sem,e,q0];refine Al _ ?_;refine .BC (Ae.AJ ?_);refine gO ?_
  repeat'(with_reducible apply And.intro)
  all_goals(first|exact .A8 (by omega)|exact .agg (Ae.AJ gI))
 refine gO ?_
 by_cases uF:prio<0
 ·have e:BA q p a prio=(q0,[],1):=by grind[BA]
  simp only[go_sem,eq_true uF,e,q0];refine Al _ ?_;refine .BC (Ae.AJ ?_);refine gO ?_
  repeat'(with_reducible apply And.intro)
  all_goals(first|exact .A8 (by omega)|exact .agg (Ae.AJ gI))
 by_cases hp7:7<prio
 ·have e:BA q p a prio=(q0,[],1):=by grind[BA]
  simp only[go_sem,eq_false uF,eq_true hp7,e,q0];refine Al _ ?_;refine .BC (Ae.AJ ?_);refine gO ?_
  repeat'(with_reducible apply And.intro)
  all_goals(first|exact .A8 (by omega)|exact .agg (Ae.AJ gI))
 refine gS ?_;refine Ab (Hp q.res a) ?_;cases hf:q.res.fits a
 ·have e:BA q p a prio=(q0,[],12):=by grind[BA]
  simp only[go_sem,e,q0];refine Al _ ?_;refine .BC (Ae.AJ ?_);refine gO ?_
  repeat'(with_reducible apply And.intro)
  all_goals(first|exact .A8 (by omega)|exact .agg (Ae.AJ gI))
 refine gO ?_;refine Ab (Nc q p h2 h3) ?_;cases hw:(Ar q p).isSome;rotate_left
 ·have e:BA q p a prio=(q0,[],14):=by grind[BA]
  simp only[go_sem,e,q0];refine Al _ ?_;refine .BC (Ae.AJ ?_);refine gO ?_
  repeat'(with_reducible apply And.intro)
  all_goals(first|exact .A8 (by omega)|exact .agg (Ae.AJ gI))
 refine gO ?_;refine By ⟨⟨[],[],[]⟩,[(0,3072)],[]⟩ (qX q h1 h2 h3) gI (by decide) trivial (.inl rfl) (gO ?_);refine B4 [3072] (E0 q p h1) gI rfl (by simp[BR.c,AV.CX,AV.Cz,F0,Flat,Ob]) (gO ?_);refine Ab (KH q.res (Am q.holds p) a) ?_;cases hc:q.res.covers (Am q.holds p) a;rotate_left
 ·have e:BA q p a prio=(q,[],0):=by grind[BA]
  refine gS ?_;refine CU ⟨[],[],[3072]⟩ _ (gO ?_);refine .BC (Ae.AJ ?_);exact gI
  repeat'(with_reducible apply And.intro)
  all_goals(first|exact .A8 (by omega)|exact .agg (Ae.AJ gI))
 refine gO ?_;have hs:=((BN q).1 hv).1;have gr:=ZO hs;unfold BS B7 at gr;refine Ab (Fp (Am q.holds p)) ?_;cases hz:(Am q.holds p).zero
 ·have e:BA q p a prio=(Ee (HJ q p a),(Co (HJ q p a)).2,0):=by grind[BA]
  rw[e];refine gO ?_;refine Ay 10 [([],[4]),([],[61]),([],[5]),([],[4]),([],[64]),([],[13]),([],[6]),([],[65,66,67]),([7],[63,68]),([7],[69])] B6 (gO ?_)
  first|(refine Ab (aN q.res (Am q.holds p) a) ?_)|(refine Ax (aN q.res (Am q.holds p) a) ?_)
  refine gO ?_;refine FU [4544] (Rt (HJ q p a) (Q0 hs hf (F4 hw) hz hc) h1 (by grind[HJ]) h3) (by simp only[go_sem,HJ];exact .eq (by simp[Bh.c])) rfl ?_;refine gO ?_;exact AQ _
 ·refine gO ?_;have e8:(q.holds.length:Int)+q.waits.length=((q.holds.length+q.waits.length:Nat):Int):=by omega
  by_cases h8:8<=(q.holds.length:Int)+q.waits.length
  ·have e:BA q p a prio=(q0,[],4):=by grind[BA]
   simp only[go_sem,eq_true h8,e,q0];refine Al _ ?_;refine .BC (Ae.AJ ?_);refine gO ?_
   repeat'(with_reducible apply And.intro)
   all_goals(first|exact .A8 (by omega)|exact .agg (Ae.AJ gI))
  simp only[go_sem,eq_false h8];have e:BA q p a prio=(Ee (Ik q p a prio),(Co (Ik q p a prio)).2,0):=by grind[BA]
  rw[e];have hS:=TA hs hp (prio:=prio) ⟨by omega,by omega⟩ hf (F4 hw) hz (by omega);obtain⟨a1,a2,a3⟩:=(BX q).1 hs.waits;have hwo:Bh.ok ⟨p,a,prio,0⟩=true:=by grind[Bh.ok,Jr,A7]
  have y6:¬ 0<=FG q.waits p:=by grind[Ga,F4,FG]
  have ei:OL q.waits ⟨p,a,prio,0⟩=(N5 q.waits ⟨p,a,prio,0⟩,((Gq q.waits ⟨p,a,prio,0⟩ q.waits.length:Nat):Int),0):=by grind[OL]
  have hi:=wO q.waits ⟨p,a,prio,0⟩ h3;rw[ei]at hi;refine Ab hi ?_;refine gO ?_;have Sv:=Xs q.waits ⟨p,a,prio,0⟩;refine FU [3072] (Rt (Ik q p a prio) hS h1 h2 (show (N5 q.waits ⟨p,a,prio,0⟩).length<=1000000 by omega)) (by simp only[go_sem,Ik]) rfl ?_;refine gO ?_;exact AQ _
end Go.Rd
