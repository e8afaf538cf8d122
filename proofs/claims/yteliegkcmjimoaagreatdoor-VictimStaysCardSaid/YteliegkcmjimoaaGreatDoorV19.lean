/- part 19 of the proof -/
import Derived.Laws.Bits64b
import Derived.Laws.Bits128
import Derived.Test.YteliegkcmjimoaaGreatDoorV18
set_option linter.all false
open Go Go.Abs Go.Proofs
set_option maxRecDepth 100000
namespace Go.Rd
set_option maxHeartbeats 8000000
open List (length_map length_take map_append map_cons map_nil mem_cons pairwise_cons take_add_one take_length)
open Nat (le_refl lt_or_ge lt_trichotomy mul_one)
open Int (natCast_add)
open Tryz
@[reducible] def KN:AV:=.v (.slice none 0 0)
theorem tk(s:WS)(p:Ad)(h:Iq s)(hg:CL s):Ac C0 63 [.agg s.c,.agg p.c] [] (.agg (BU s p).c) []:=by
 have gH:=h.nq;have bX:=h.nn;refine Ac.go f63 ?_;unfold f63;refine gO ?_;refine AH (s.Aa) (λi=>⟨[(6,I i),(2,.ptr 128 0),(3,.ptr 192 0),(5,.ptr 320 0),(4,.ptr 256 0)],[(128,s.c),(192,p.c),(256,[KN,KN]),(320,[.sl (.own 2688 0) 8 (((s.Aa.take i).map λq=>Cm q p).map Queue.c),KN])]⟩) (λi=>True) trivial ?_ ?_
 ·exact B9
 rintro i ⟨hi,hP⟩ J hJ;refine gO ?_;refine Bp hi (λAu b hb Cc AR=>?_) λBf=>?_
 simp(disch:=omega)only[go_sem,gm,hb]
 ·have ha:=h.aq b Cc;have hvb:=hg b Cc;have IY:i+1<=4294967296:=by omega
  have xC:min i s.Aa.length+1<=4294967296:=by omega
  have fin:∀ q,Cm b p=q->∀ st',AQ ⟨C0,[],[]⟩ st' ⟨[(6,I (i+1:Nat)),(2,.ptr 128 0),(3,.ptr 192 0),(5,.ptr 320 0),(4,.ptr 256 0)],[(128,s.c),(192,p.c),(256,[KN,KN]),(320,[.sl (.own 2688 0) 8 (((s.Aa.take i).map λq=>Cm q p).map Queue.c++[q.c]),KN])]⟩->J st':=λq hq st' h=>by
   refine hJ st' (i+1) ⟨by omega,trivial⟩ (by omega) ?_;have e:((s.Aa.take (i+1)).map λq=>Cm q p).map Queue.c=((s.Aa.take i).map λq=>Cm q p).map Queue.c++[q.c]:=by
    rw[take_add_one,hb];simp[hq]
   rw[e];exact h
  clear hJ;refine Ab (SD b p (by omega)) ?_;rw[rl hvb p];cases hp:BL (B6 b) p
  ·simp(disch:=omega)only[go_sem,length_map,length_take];refine fin b (by simp[Cm,hp]) _ (AQ.An gI ?_);simp(disch:=omega)only[go_sem]
  refine gO ?_;refine Ab (dg b p ha) ?_;have e:FN b p=(DA (B2 b p),(B0 (B2 b p)).2,0):=by simp[FN,hvb,hp]
  simp(disch:=omega)only[go_sem,e,length_map,length_take];refine fin { DA (B2 b p) with gen:=b.gen } (by simp[Cm,hvb,hp]) _ (AQ.An gI ?_);simp(disch:=omega)only[go_sem]
 subst Bf;rw[take_length];clear hJ;refine AH (s.AB) (λi=>⟨[(11,I i),(2,.ptr 128 0),(3,.ptr 192 0),(5,.ptr 320 0),(4,.ptr 256 0)],[(128,s.c),(192,p.c),(256,[KN,KN]),(320,[.sl (.own 2688 0) 8 ((s.Aa.map λq=>Cm q p).map Queue.c),.sl (.own 4288 0) 9 ((Hs (s.AB.take i) p).map Need.c)])]⟩) (λi=>True) trivial ?_ ?_
 ·exact B9
 rintro i ⟨hi,hP⟩ J hJ;refine gO ?_;refine Bp hi (λAu b hb Cc AR=>?_) λBf=>?_
 refine Av 7 [([],[2]),([],[51]),([],[11]),([],[52,53]),([],[54]),([],[55]),([],[3])] B7 ?_;simp(disch:=omega)only[go_sem,gm,hb]
 ·have IY:(Hs (s.AB.take i) p).length+1<=4294967296:=by
   have:(Hs (s.AB.take i) p).length<=(s.AB.take i).length:=List.length_filter_le _ _;rw[length_take]at this;omega
  have e1:Hs (s.AB.take (i+1)) p=if b.proc=p then Hs (s.AB.take i) p else Hs (s.AB.take i) p++[b]:=by
   simp only[Hs,take_add_one,hb,Option.toList_some,List.filter_append,List.filter_cons,List.filter_nil]
   by_cases h:b.proc=p<;>simp[h]
  by_cases Ca:b.proc=p
  ·rw[if_pos Ca]at e1;simp(disch:=omega)only[go_sem,Ca,decide_true];refine hJ _ (i+1) ⟨by omega,trivial⟩ (by omega) (AQ.An gI ?_);rw[e1];simp(disch:=omega)only[go_sem]
  ·rw[if_neg Ca]at e1;simp(disch:=omega)only[go_sem,Ca,decide_false];refine Tv (let o0:OT:=.done;let o1:OT:=.pick [(10,o0)];let o2:OT:=.pick [(9,o1)];let o3:OT:=.pick [(8,o2)];let o4:OT:=.pick [(7,o3)];let o5:OT:=.pick [(6,o4)];let o6:OT:=.pick [(5,o5)];let o7:OT:=.pick [(4,o6)];let o8:OT:=.pick [(3,o6)];let o9:OT:=.pick [(3,o7),(4,o8)];let bb:OT:=.pick [(2,o8)];let ia:OT:=.pick [(2,o9),(4,bb)];let qk:OT:=.pick [(1,o3)];let lL:OT:=.pick [(1,o4),(7,qk)];let uW:OT:=.pick [(1,o5),(6,lL)];let rW:OT:=.pick [(1,o6),(5,uW)];let uX:OT:=.pick [(1,o7),(4,rW)];let mU:OT:=.pick [(1,o8),(3,rW)];let uY:OT:=.pick [(1,o9),(3,uX),(4,mU)];let rX:OT:=.pick [(1,bb),(2,mU)];let wm:OT:=.pick [(1,ia),(2,uY),(4,rX)];let rY:OT:=.pick [(0,qk)];let rZ:OT:=.pick [(0,lL),(7,rY)];let r5:OT:=.pick [(0,uW),(6,rZ)];let uZ:OT:=.pick [(0,rW),(5,r5)];let u0:OT:=.pick [(0,uX),(4,uZ)];let u4:OT:=.pick [(0,mU),(3,uZ)];let wo:OT:=.pick [(0,uY),(3,u0),(4,u4)];let o28:OT:=.pick [(0,rX),(2,u4)];let wq:OT:=.pick [(0,wm),(2,wo),(4,o28)];wq) B7 (by kernel_rfl) ?_;simp(disch:=omega)only[go_sem,gm,hb];have step:∀ st',AQ ⟨C0,[],[]⟩ st' ⟨[(11,I (i+1:Nat)),(2,.ptr 128 0),(3,.ptr 192 0),(5,.ptr 320 0),(4,.ptr 256 0)],[(128,s.c),(192,p.c),(256,[KN,KN]),(320,[.sl (.own 2688 0) 8 ((s.Aa.map λq=>Cm q p).map Queue.c),.sl (.own 4288 0) 9 ((Hs (s.AB.take i) p).map Need.c++[b.c])])]⟩->J st':=λst' h=>by
    refine hJ st' (i+1) ⟨by omega,trivial⟩ (by omega) ?_;rw[e1,map_append];exact h
   clear hJ
   repeat'(with_reducible refine And.intro ?_ ?_)
   all_goals(refine step _ (AQ.An ?_ ?_))
   all_goals(simp(disch:=omega)only[go_sem])
 ·subst Bf;simp(disch:=omega)only[go_sem,take_length];refine CK ⟨[],[],[2688,4288]⟩ _ ?_;simp(disch:=omega)only[go_sem,BU];exact .eq (by simp)
def Jz{s:WS}(hv:A7 s=true):Kj s=BH s:=by simp[Kj,hv]
def J1{s:WS}(hv:A7 s=true):IF s=C2 s:=by simp[IF,hv]
def jN(l m:List Ad)(hl:l.length<=1000000)(hm:m.length<=1000000):Ac C0 16 [AA l,AA m] [] (B (decide (l=m))) []:=by
 refine Ac.go f16 ?_;unfold f16
 by_cases hn:l.length=m.length
 rotate_left
 ·have e1:((l.length:Int) !=m.length)=true:=by simp only[bne_iff_ne,ne_eq];omega
  have e2:l≠m:=λh=>hn (by rw[h])
  simp(disch:=omega)only[go_sem,e1];refine Aj _ ?_;exact wb (by simp[e2])
 have e1:((l.length:Int) !=m.length)=false:=by simp[hn]
 simp(disch:=omega)only[go_sem,e1];refine AH (l) (λi=>⟨[(5,I i),(0,AA l),(1,AA m)],[]⟩) (λi=>l.take i=m.take i) rfl ?_ ?_
 ·exact B9
 rintro i ⟨hi,hP⟩ J hJ;refine gO ?_;refine Bp hi (λAu b hb Cc AR=>?_) λBf=>?_
 refine Av 8 [([],[0]),([],[5]),([],[17,18]),([],[19]),([],[1]),([],[5]),([],[21,22]),([],[23])] B7 ?_;simp(disch:=omega)only[go_sem,gm,hb]
 ·obtain⟨c,hc⟩:∃ c,m[i]?=some c:=⟨_,gE (by omega)⟩;simp(disch:=omega)only[go_sem,gm,hb,hc]
  by_cases po:b=c
  ·simp(disch:=omega)only[go_sem,po,decide_true];refine hJ _ (i+1) ⟨by omega,(by rw[take_add_one,take_add_one,hb,hc,hP,po])⟩ (by omega) AS
  ·simp(disch:=omega)only[go_sem,po,decide_false];refine Aj _ ?_;refine wb ?_;have:l≠m:=λh=>po (by rw[h,hc]at hb;simpa using hb.symm)
   simp[this]
 ·subst Bf;rw[take_length,hn,take_length]at hP;refine Aj _ ?_;exact wb (by simp[hP])
def mg(q:Queue):Bool:=decide (q.holds.length<=12)&&decide (q.Ak.length<=12)&&decide (q.waits.length<=12)
def mh(s:WS):Bool:=decide (s.Aa.length<=12)&&decide (s.AB.length<=12)&&s.Aa.all mg
def WJ{s:WS}(h:mh s=true):Iq s:=by
 simp only[mh,mg,Bool.and_eq_true,decide_eq_true_eq,List.all_eq_true]at h;refine⟨by omega,by omega,λq hq=>?_⟩;have:=h.2 q hq;unfold BC BJ;omega
def Sl(n m:Int):Int:=if m<1 then 0 else if n.tmod m<0 then n.tmod m+m else n.tmod m
def uT(n:Int):0<=Sl n 8/\Sl n 8<8:=by
 have h1:=Int.tmod_lt_of_pos n (show (0:Int)<8 by decide);have h2:-8<n.tmod 8:=by
  rw[Int.tmod_eq_emod];split<;>omega
 unfold Sl;rw[if_neg (by decide)];split<;>omega
def xj(n:Int):Ac C0 70 [I n,I 8] [] (I (Sl n 8)) []:=by
 have z:((8:Int)=0)=False:=by simp
 have z2:((8:Int)<1)=False:=by simp
 have h1:=Int.tmod_lt_of_pos n (show (0:Int)<8 by decide);have h2:-8<n.tmod 8:=by
  rw[Int.tmod_eq_emod];split<;>omega
 refine Ac.go f70 ?_;unfold f70
 by_cases h:n.tmod 8<0
 ·have e:Sl n 8=n.tmod 8+8:=by simp[Sl,h]
  have z3:(n.tmod 8<0)=True:=eq_true h;simp(disch:=omega)only[go_sem,z,z2,if_false,decide_false,z3,e];exact AM _
 ·have e:Sl n 8=n.tmod 8:=by simp[Sl,h]
  have z3:(n.tmod 8<0)=False:=eq_false h;simp(disch:=omega)only[go_sem,z,z2,if_false,decide_false,z3,e];exact AM _
def BK(n:Int):Ad:=⟨(Sl n 8).tmod 4,1,1+(Sl n 8).tdiv 4⟩
def jU(n:Int):Ac C0 31 [I n] [] (.agg (BK n).c) []:=by
 have z:((4:Int)=0)=False:=by simp
 have hm:=uT n;have hd:0<=(Sl n 8).tdiv 4/\(Sl n 8).tdiv 4<=2:=by
  rw[Int.tdiv_eq_ediv_of_nonneg hm.1];omega
 refine Ac.go f31 ?_;unfold f31;refine gO ?_;refine Ab (xj n) ?_;simp(disch:=omega)only[go_sem,z,if_false];refine Aj _ ?_;simp(disch:=omega)only[go_sem,BK]
def wA:BO:=⟨5,0⟩
def KH(name:Bs)(p q:Ad):Queue:=⟨⟨name,1,1,0⟩,[⟨p,wA⟩],[],[⟨q,wA,0,0⟩],0⟩
def KM(p:Ad)(name:Bs):Need:=⟨p,.mk 0 ⟨name,wA⟩ [],0⟩
def Dw:WS:=⟨[KH [97] (BK 0) (BK 1),KH [98] (BK 1) (BK 0)],[KM (BK 0) [98],KM (BK 1) [97]]⟩
def sD:WS:=⟨Dw.Aa,Dw.AB.take 1⟩
def RG:Iq Dw/\Iq sD:=⟨WJ (by kernel_rfl),WJ (by kernel_rfl)⟩
def Vn{s:WS}(h:Iq s):(Kj s).length<=20000:=by
 unfold Kj;split
 ·exact Nat.le_trans (List.length_filter_le _ _) (Da h)
 ·simp
section
variable {α:Type}
def DM(l:List α)(i j:Nat):List α:=match l[i]?,l[j]? with
 |some a,some b=>(l.set i b).set j a
 |_,_=>l
def F7(lt:α->α->Bool)(l:List α)(i j:Nat):Bool:=match l[i]?,l[j]? with
 |some a,some b=>lt a b
 |_,_=>false
def Yn(lt:α->α->Bool):Nat->Nat->List α->List α
 | 0,_,l=>l
 | f+1,j,l=>if j=0\/F7 lt l j ((j-1) / 2)=false then l else Yn lt f ((j-1) / 2) (DM l ((j-1) / 2) j)
def Jx(lt:α->α->Bool)(l:List α)(i n:Nat):Nat:=if 2*i+2<n/\F7 lt l (2*i+2) (2*i+1)=true then 2*i+2 else 2*i+1
def Eu(lt:α->α->Bool):Nat->Nat->Nat->List α->List α
 | 0,_,_,l=>l
 | f+1,i,n,l=>if n<=2*i+1\/F7 lt l (Jx lt l i n) i=false then l else Eu lt f (Jx lt l i n) n (DM l i (Jx lt l i n))
def Uw(lt:α->α->Bool)(l:List α)(x:α):List α:=Yn lt l.length l.length (l++[x])
def IP(lt:α->α->Bool)(l:List α):List α:=Eu lt (l.length-1) 0 (l.length-1) (DM l 0 (l.length-1))
def Qm{l:List α}{i j:Nat}(hi:i<l.length)(hj:j<l.length)(k:Nat):(DM l i j)[k]?=if k=j then l[i]? else if k=i then l[j]? else l[k]?:=by
 unfold DM;rw[gE hi,gE hj];simp only[List.getElem?_set,List.length_set]
 by_cases h1:j=k
 ·subst h1;simp[hj]
 ·by_cases h2:i=k
  ·subst h2;simp[h1,Ne.symm h1,hi]
  ·simp[h1,h2,Ne.symm h1,Ne.symm h2]
def DD(l:List α)(i j:Nat):(DM l i j).length=l.length:=by
 unfold DM;split<;>simp
def swap_perm{l:List α}{i j:Nat}(hi:i<l.length)(hj:j<l.length):(DM l i j).Perm l:=by
 unfold DM;rw[gE hi,gE hj];exact List.set_set_perm hi hj
def Jj{lt:α->α->Bool}{l:List α}{i j:Nat}{a b:α}(ha:l[i]?=some a)(hb:l[j]?=some b):F7 lt l i j=lt a b:=by simp[F7,ha,hb]
variable {lt:α->α->Bool} (has:∀ a b,lt a b=true->lt b a=false) (rN:∀ a b c,lt b a=false->lt c b=false->lt c a=false)
def Tu:∀ (f i n:Nat) (l:List α),(Eu lt f i n l).length=l.length
 | 0,_,_,_=>rfl
 | f+1,i,n,l=>by
  simp only[Eu];split
  ·rfl
  ·rw[Tu f,DD]
def fp:∀ (f j:Nat) (l:List α),j<l.length->(Yn lt f j l).Perm l
 | 0,_,_,_=>.refl _
 | f+1,j,l,hj=>by
  simp only[Yn];split
  ·exact .refl _
  ·have h1:=fp f ((j-1) / 2) (DM l ((j-1) / 2) j) (by rw[DD];omega);exact h1.trans (swap_perm (by omega) hj)
def We(l:List α)(i n:Nat):(Jx lt l i n=2*i+2/\2*i+2<n/\F7 lt l (2*i+2) (2*i+1)=true)\/(Jx lt l i n=2*i+1/\(2*i+2<n->F7 lt l (2*i+2) (2*i+1)=false)):=by
 unfold Jx;split
 ·rename_i h;exact .inl ⟨rfl,h⟩
 ·rename_i h;refine .inr ⟨rfl,λhn=>?_⟩;cases hl:F7 lt l (2*i+2) (2*i+1) with
  | false=>rfl
  | true=>exact absurd ⟨hn,hl⟩ h
def PV{l:List α}{i n:Nat}(h:¬ n<=2*i+1):i<Jx lt l i n/\Jx lt l i n<n:=by
 rcases We (lt:=lt) l i n with ⟨h1,h2,_⟩|⟨h1,_⟩<;>omega
def VE:∀ (f i n:Nat) (l:List α),n<=l.length->(Eu lt f i n l).Perm l/\∀ k,n<=k->(Eu lt f i n l)[k]?=l[k]?
 | 0,_,_,_,_=>⟨.refl _,λ_ _=>rfl⟩
 | f+1,i,n,l,hn=>by
  simp only[Eu];split
  ·exact⟨.refl _,λ_ _=>rfl⟩
  ·rename_i hc;simp only[not_or]at hc;obtain⟨k1,k2⟩:=PV (lt:=lt) (l:=l) hc.1;obtain⟨h1,h2⟩:=VE f (Jx lt l i n) n (DM l i (Jx lt l i n)) (by rw[DD];exact hn);refine⟨h1.trans (swap_perm (by omega) (by omega)),λk hk=>?_⟩;rw[h2 k hk,Qm (by omega) (by omega),if_neg (by omega),if_neg (by omega)]
def u6(lt:α->α->Bool)(l:List α)(k p:Nat):Prop:=∀ a b,l[k]?=some a->l[p]?=some b->lt a b=false
def Heap(lt:α->α->Bool)(l:List α):Prop:=∀ k,0<k->u6 lt l k ((k-1) / 2)
def get_some{l:List α}{i:Nat}(h:i<l.length):∃ a,l[i]?=some a:=⟨_,gE h⟩
include has rN
def qK:∀ (f j:Nat) (l:List α),j<=f->j<l.length->(∀ k,0<k->k≠j->u6 lt l k ((k-1) / 2))->(∀ k,0<k->(k-1) / 2=j->0<j->u6 lt l k ((j-1) / 2))->Heap lt (Yn lt f j l):=by
 intro f
 induction f with
 | zero=>intro j l hf _ h1 _ k hk;exact h1 k hk (by omega)
 | succ f ih =>
  intro j l hf hj h1 h2;simp only[Yn];split
  ·rename_i hc;intro k hk
   by_cases SU:k=j
   ·rcases hc with hc|hc
    ·omega
    ·subst SU;intro a b ha hb
     rwa [Jj ha hb]at hc
   ·exact h1 k hk SU
  ·rename_i hc;simp only[not_or,Bool.not_eq_false]at hc;obtain⟨hj0,hc⟩:=hc;generalize hp:(j-1) / 2=p at hc h2 ⊢;have zI:p<j:=by omega
   obtain⟨a,ha⟩:=get_some hj;obtain⟨b,hb⟩:=get_some (l:=l) (i:=p) (by omega);rw[Jj ha hb]at hc;have zy:=has _ _ hc;have hg:=Qm (l:=l) (i:=p) (j:=j) (by omega) hj;have gp:(DM l p j)[p]?=some a:=by rw[hg,if_neg (by omega),if_pos rfl,ha]
   have gj:(DM l p j)[j]?=some b:=by rw[hg,if_pos rfl,hb]
   have gk:∀ k,k≠p->k≠j->(DM l p j)[k]?=l[k]?:=λk k1 k2=>by rw[hg,if_neg k2,if_neg k1]
   refine ih p _ (by omega) (by rw[DD];omega) (λk hk rD=>?_) (λk hk rD QW=>?_)
   ·by_cases SU:k=j
    ·subst SU;rw[hp];intro x y hx hy;rw[gj]at hx;rw[gp]at hy;injection hx with hx;injection hy with hy;subst hx;subst hy
     exact zy
    ·by_cases hpk:(k-1) / 2=j
     ·rw[hpk];intro x y hx hy;rw[gk k rD SU]at hx;rw[gj]at hy;injection hy with hy;subst hy
      exact h2 k hk hpk (by omega) x b hx hb
     ·by_cases hpp:(k-1) / 2=p
      ·rw[hpp];intro x y hx hy;rw[gk k rD SU]at hx;rw[gp]at hy;injection hy with hy;subst hy
       have:=h1 k hk SU x b hx (by rw[hpp];exact hb);exact rN a b x zy this
      ·intro x y hx hy;rw[gk k rD SU]at hx;rw[gk _ hpp hpk]at hy;exact h1 k hk SU x y hx hy
   ·have hq:(p-1) / 2<p:=by omega
    by_cases SU:k=j
    ·subst SU;intro x y hx hy;rw[gj]at hx;rw[gk _ (by omega) (by omega)]at hy;injection hx with hx;subst hx
     exact h1 p QW (by omega) b y hb hy
    ·intro x y hx hy;rw[gk k (by omega) SU]at hx;rw[gk _ (by omega) (by omega)]at hy;have e1:=h1 k hk SU x b hx (by rw[rD];exact hb);have e2:=h1 p QW (by omega) b y hb hy;exact rN y b x e2 e1
def fU:∀ (f i n:Nat) (l:List α),n<=i+f->n<=l.length->(∀ k,0<k->k<n->(k-1) / 2≠i->u6 lt l k ((k-1) / 2))->(∀ k,0<k->k<n->(k-1) / 2=i->0<i->u6 lt l k ((i-1) / 2)) ->
 ∀ k,0<k->k<n->u6 lt (Eu lt f i n l) k ((k-1) / 2):=by
 intro f
 induction f with
 | zero=>intro i n l hf _ h1 _ k hk V4;exact h1 k hk V4 (by omega)
 | succ f ih =>
  intro i n l hf hn h1 h2;simp only[Eu]
  by_cases hle:n<=2*i+1
  ·rw[if_pos (.inl hle)];intro k hk V4;exact h1 k hk V4 (by omega)
  ·obtain⟨k1,k2⟩:=PV (lt:=lt) (l:=l) hle;have hkc:=We (lt:=lt) l i n;generalize hj:Jx lt l i n=j at k1 k2 hkc ⊢;have zI:(j-1) / 2=i:=by rcases hkc with ⟨e,_⟩|⟨e,_⟩<;>omega
   obtain⟨a,ha⟩:=get_some (l:=l) (i:=j) (by omega);obtain⟨b,hb⟩:=get_some (l:=l) (i:=i) (by omega);have xU:∀ x,lt x x=false:=λx=>by
    cases h:lt x x with
    | false=>rfl
    | true=>have:=has x x h;rw[h]at this;cases this
   have vZ:∀ k,0<k->k<n->(k-1) / 2=i->u6 lt l k j:=by
    intro k hk V4 kD x y hx hy;rw[ha]at hy;injection hy with hy;subst hy
    rcases hkc with ⟨e,e1,e2⟩|⟨e,e1⟩
    ·by_cases SU:k=j
     ·subst SU;rw[ha]at hx;injection hx with hx;subst hx;exact xU _
     ·have Sh:k=2*i+1:=by omega
      subst Sh;rw[<- e,Jj ha hx]at e2;exact has _ _ e2
    ·by_cases SU:k=j
     ·subst SU;rw[ha]at hx;injection hx with hx;subst hx;exact xU _
     ·have Sh:k=2*i+2:=by omega
      subst Sh;have e3:=e1 V4;rw[<- e,Jj hx ha]at e3;exact e3
   by_cases hc:F7 lt l j i=false
   ·rw[if_pos (.inr hc)];intro k hk V4
    by_cases kD:(k-1) / 2=i
    ·rw[kD];intro x y hx hy;rw[hb]at hy;injection hy with hy;subst hy
     rw[Jj ha hb]at hc;exact rN b a x hc (vZ k hk V4 kD x a hx ha)
    ·exact h1 k hk V4 kD
   ·rw[if_neg (by simp only[not_or];exact⟨hle,hc⟩)];have hc:lt a b=true:=by rw[Jj ha hb]at hc;simpa using hc
    have zy:=has _ _ hc;have hg:=Qm (l:=l) (i:=i) (j:=j) (by omega) (by omega);have gi:(DM l i j)[i]?=some a:=by rw[hg,if_neg (by omega),if_pos rfl,ha]
    have gj:(DM l i j)[j]?=some b:=by rw[hg,if_pos rfl,hb]
    have gk:∀ k,k≠i->k≠j->(DM l i j)[k]?=l[k]?:=λk k1 k2=>by rw[hg,if_neg k2,if_neg k1]
    refine ih j n _ (by omega) (by rw[DD];exact hn) (λk hk V4 SU=>?_) (λk hk V4 SU hj0=>?_)
    ·by_cases e1:k=j
     ·subst e1;rw[zI];intro x y hx hy;rw[gj]at hx;rw[gi]at hy;injection hx with hx;injection hy with hy;subst hx;subst hy
      exact zy
     ·by_cases e2:(k-1) / 2=i
      ·rw[e2];intro x y hx hy;rw[gk k (by omega) e1]at hx;rw[gi]at hy;injection hy with hy;subst hy
       exact vZ k hk V4 e2 x a hx ha
      ·by_cases e3:k=i
       ·subst e3;intro x y hx hy;rw[gi]at hx;rw[gk _ (by omega) (by omega)]at hy;injection hx with hx;subst hx
        exact h2 j (by omega) k2 zI (by omega) a y ha hy
       ·intro x y hx hy;rw[gk k e3 e1]at hx;rw[gk _ e2 SU]at hy;exact h1 k hk V4 e2 x y hx hy
    ·rw[zI];intro x y hx hy;rw[gk k (by omega) (by omega)]at hx;rw[gi]at hy;injection hy with hy;subst hy
     exact h1 k hk V4 (by omega) x a hx (by rw[SU];exact ha)
def gA{l:List α}(h:Heap lt l){x:α}(hx:l[0]?=some x):∀ (k:Nat) (y:α),l[k]?=some y->lt y x=false:=by
 intro k
 induction k using Nat.strongRecOn with
 | ind k ih =>
  intro y hy
  by_cases hk:k=0
  ·subst hk;rw[hx]at hy;injection hy with hy;subst hy
   cases h:lt x x with
   | false=>rfl
   | true=>have:=has x x h;rw[h]at this;cases this
  ·have Au:(k-1) / 2<l.length:=by
    rcases lt_or_ge k l.length with h|h
    ·omega
    ·rw[List.getElem?_eq_none h]at hy;cases hy
   obtain⟨z,hz⟩:=get_some Au;exact rN x z y (ih _ (by omega) z hz) (h k (by omega) y z hy hz)
def Rf{l:List α}(h:Heap lt l)(x:α):Heap lt (Uw lt l x)/\(Uw lt l x).Perm (x::l):=by
 have hl:l.length<(l++[x]).length:=by simp
 constructor
 ·refine qK has rN _ _ _ (le_refl _) hl (λk hk bV a b ha hb=>?_) (λk hk bV _ a b ha _=>?_)
  ·have SS:k<l.length:=by
    rcases lt_or_ge k l.length with h|h
    ·exact h
    ·rw[List.getElem?_eq_none (by simp;omega)]at ha;cases ha
   rw[List.getElem?_append_left SS]at ha;rw[List.getElem?_append_left (by omega)]at hb;exact h k hk a b ha hb
  ·rw[List.getElem?_eq_none (by simp;omega)]at ha;cases ha
 ·exact(fp _ _ _ hl).trans (List.perm_append_singleton x l)
def lU{l:List α}(h:Heap lt l){x:α}(hx:l[0]?=some x):(IP lt l)[l.length-1]?=some x/\Heap lt ((IP lt l).take (l.length-1))/\l.Perm (x::(IP lt l).take (l.length-1))/\(IP lt l).length=l.length/\∀ y∈l,lt y x=false:=by
 have hl:0<l.length:=by
  rcases Nat.eq_zero_or_pos l.length with h|h
  ·rw[List.getElem?_eq_none (by omega)]at hx;cases hx
  ·exact h
 obtain⟨p1,p2⟩:=VE (lt:=lt) (l.length-1) 0 (l.length-1) (DM l 0 (l.length-1)) (by rw[DD];omega);have hg:=Qm (l:=l) (i:=0) (j:=l.length-1) hl (by omega);have e1:(IP lt l)[l.length-1]?=some x:=by
  show (Eu _ _ _ _ _)[_]?=_;rw[p2 _ (le_refl _),hg,if_pos rfl,hx]
 have e4:(IP lt l).length=l.length:=by
  show (Eu _ _ _ _ _).length=_;rw[Tu,DD]
 refine⟨e1,λk hk a b ha hb=>?_,?_,e4,λy hy=>?_⟩
 ·have SS:k<l.length-1:=by
   rcases lt_or_ge k (l.length-1) with h|h
   ·exact h
   ·rw[List.getElem?_eq_none (by simp;omega)]at ha;cases ha
  rw[List.getElem?_take,if_pos SS]at ha;rw[List.getElem?_take,if_pos (by omega)]at hb;refine fU has rN (l.length-1) 0 (l.length-1) (DM l 0 (l.length-1)) (by omega) (by rw[DD];omega) (λk hk V4 kD a b ha hb=>?_) (λk _ _ _ h0=>by omega) k hk SS a b ha hb;rw[hg,if_neg (by omega),if_neg (by omega)]at ha;rw[hg,if_neg (by omega),if_neg kD]at hb;exact h k hk a b ha hb
 ·have e2:IP lt l=(IP lt l).take (l.length-1)++[x]:=by
   have:=List.take_append_drop (l.length-1) (IP lt l);rw[<- this];congr 1
   ·rw[List.take_append_drop]
   ·have Au:l.length-1<(IP lt l).length:=by omega
    rw[List.drop_eq_getElem_cons Au,List.drop_eq_nil_of_le (by omega)];rw[gE Au]at e1;injection e1 with e1
    rw[e1]
  have e3:(IP lt l).Perm l:=p1.trans (swap_perm hl (by omega));refine e3.symm.trans ?_;rw[e2];have:=List.perm_append_singleton x ((IP lt l).take (l.length-1));refine this.trans ?_;rw[List.take_append_of_le_length (by simp;omega),List.take_take,Nat.min_self]
 ·obtain⟨k,hk⟩:=List.mem_iff_getElem?.1 hy;exact gA has rN h hx k y hk
end
structure Srch where
 n:Nat
 cost:Nat->Int
 aT:Nat->Ad
 sol:List Nat->Bool
def Fk(c:Nat->Int):List Nat->Int
 |[]=>0
 | i::s=>c i+Fk c s
def isSet(P:Srch)(S:List Nat):Prop:=S.Pairwise (· < ·)/\(∀ i∈S,i<P.n)/\(S.map P.aT).Nodup
def again(P:Srch)(S:List Nat)(i:Nat):Bool:=S.any λk=>decide (P.aT k=P.aT i)
def prune(P:Srch)(S:List Nat):Option (List Nat)->Bool
 |none=>false
 |some B=>decide (Fk P.cost B<Fk P.cost S)||(decide (Fk P.cost S=Fk P.cost B)&&decide (B.length<=S.length))
def goN(P:Srch):Nat->List Nat->Option (List Nat)->Option (List Nat)
 | 0,_,b=>b
 | f+1,S,b=>goN P f S (if again P S (P.n-(f+1)) then b else if prune P (S++[P.n-(f+1)]) b then b else if P.sol (S++[P.n-(f+1)]) then some (S++[P.n-(f+1)]) else goN P f (S++[P.n-(f+1)]) b)
def Ab3(P:Srch)(f:Nat)(S:List Nat)(b:Option (List Nat)):Option (List Nat):=if prune P S b then b else if P.sol S then some S else goN P f S b
def best(P:Srch):Option (List Nat):=Ab3 P P.n [] none
def Pl(c:Nat->Int):∀ S T:List Nat,Fk c (S++T)=Fk c S+Fk c T
 |[],T=>by simp[Fk]
 | i::S,T=>by simp only[List.cons_append,Fk,Pl c S T];omega
section
variable {c:Nat->Int} {S T U:List Nat}
end
def Vs{P:Srch}{S:List Nat}{i:Nat}:again P S i=true↔P.aT i∈S.map P.aT:=by simp[again]
structure Cand where
 cost:Int
 set:Nat
def popc(x:Nat):Nat:=((List.range 64).filter λi=>x.testBit i).length
def lexB(x y:Nat):Bool:=match (List.range 64).find? (λi=>x.testBit i !=y.testBit i) with
 |some i=>x.testBit i
 |none=>false
def AK(c d:Cand):Bool:=if c.cost=d.cost then (if popc c.set=popc d.set then lexB c.set d.set else decide (popc c.set<popc d.set)) else decide (c.cost<d.cost)
def Kk(x y:Nat):Prop:=∃ k,k<64/\x.testBit k=true/\y.testBit k=false/\∀ j,j<k->x.testBit j=y.testBit j
def TL{p:Nat->Bool}:∀ {n i:Nat},(List.range n).find? p=some i->i<n/\p i=true/\∀ j,j<i->p j=false:=by
 intro n
 induction n with
 | zero=>intro i h;simp at h
 | succ n ih =>
  intro i h;rw[List.range_succ,List.find?_append]at h;cases hf:(List.range n).find? p with
  |some k =>
   rw[hf]at h;simp only[Option.some_or,Option.some.injEq]at h;subst h;obtain⟨a,b,c⟩:=ih hf;exact⟨by omega,b,c⟩
  |none =>
   rw[hf]at h;simp only[Option.none_or]at h;rw[List.find?_cons]at h;cases hp:p n with
   | false=>rw[hp]at h;simp at h
   | true =>
    rw[hp]at h;simp only[Option.some.injEq]at h;subst h;refine⟨by omega,hp,λj hj=>?_⟩;have:=List.find?_eq_none.1 hf j (by simpa using hj);simpa using this
def Ub(x y:Nat):lexB x y=true↔Kk x y:=by
 unfold lexB;split
 ·rename_i i h;obtain⟨h1,h2,h3⟩:=TL h;constructor
  ·intro hx;refine⟨i,h1,hx,?_,λj hj=>by have:=h3 j hj;simpa using this⟩;rw[hx]at h2;cases hy:y.testBit i with
   | false=>rfl
   | true=>rw[hy]at h2;simp at h2
  ·rintro⟨k,k1,k2,k3,k4⟩;rcases lt_trichotomy i k with h|h|h
   ·have:=k4 i h;rw[this]at h2;simp at h2
   ·rw[h];exact k2
   ·have:=h3 k h;rw[k2,k3]at this;simp at this
 ·rename_i h;constructor
  ·intro h;cases h
  ·rintro⟨k,k1,k2,k3,_⟩;have:=List.find?_eq_none.1 h k (by simpa using k1);rw[k2,k3]at this;simp at this
def SX{x y:Nat}:lexB x y=false↔¬ Kk x y:=by rw[<- Ub];simp
def Kk.asymm{x y:Nat}:Kk x y->¬ Kk y x:=by
 rintro⟨k,k1,k2,k3,k4⟩ ⟨m,m1,m2,m3,m4⟩;rcases lt_trichotomy k m with h|h|h
 ·have:=m4 k h;rw[k2,k3]at this;cases this
 ·subst h;rw[k2]at m3;cases m3
 ·have:=k4 m h;rw[m2,m3]at this;cases this
def bM(x y:Nat):Kk x y\/Kk y x\/∀ j,j<64->x.testBit j=y.testBit j:=by
 cases h:(List.range 64).find? (λi=>x.testBit i !=y.testBit i) with
 |none =>
  right;right;intro j hj;have:=List.find?_eq_none.1 h j (by simpa using hj);simpa using this
 |some i =>
  obtain⟨h1,h2,h3⟩:=TL h;have h4:∀ j,j<i->x.testBit j=y.testBit j:=λj hj=>by have:=h3 j hj;simpa using this
  cases hx:x.testBit i with
  | true =>
   cases hy:y.testBit i with
   | true=>rw[hx,hy]at h2;simp at h2
   | false=>exact .inl ⟨i,h1,hx,hy,h4⟩
  | false =>
   cases hy:y.testBit i with
   | false=>rw[hx,hy]at h2;simp at h2
   | true=>exact .inr (.inl ⟨i,h1,hy,hx,λj hj=>(h4 j hj).symm⟩)
def Kk.trans{x y z:Nat}:Kk x y->Kk y z->Kk x z:=by
 rintro⟨k,k1,k2,k3,k4⟩ ⟨m,m1,m2,m3,m4⟩;rcases lt_trichotomy k m with h|h|h
 ·exact⟨k,k1,k2,by rw[<- m4 k h];exact k3,λj hj=>(k4 j hj).trans (m4 j (by omega))⟩
 ·subst h;rw[m2]at k3;cases k3
 ·exact⟨m,m1,by rw[k4 m h];exact m2,m3,λj hj=>(k4 j (by omega)).trans (m4 j hj)⟩
def Kk.congr{x y z:Nat}(h:∀ j,j<64->y.testBit j=z.testBit j):Kk x y↔Kk x z:=by
 constructor<;>rintro⟨k,k1,k2,k3,k4⟩
 ·exact⟨k,k1,k2,by rw[<- h k k1];exact k3,λj hj=>(k4 j hj).trans (h j (by omega))⟩
 ·exact⟨k,k1,k2,by rw[h k k1];exact k3,λj hj=>(k4 j hj).trans (h j (by omega)).symm⟩
def kZ{a b c:Nat}(h1:¬ Kk b a)(h2:¬ Kk c b):¬ Kk c a:=by
 intro h;rcases bM b a with h3|h3|h3
 ·exact h1 h3
 ·exact h2 (h.trans h3)
 ·exact h2 ((Kk.congr h3).2 h)
def Lc(a b:Cand)(h:AK a b=true):AK b a=false:=by
 unfold AK at h ⊢
 by_cases h1:a.cost=b.cost
 ·rw[if_pos h1]at h;rw[if_pos h1.symm]
  by_cases h2:popc a.set=popc b.set
  ·rw[if_pos h2]at h;rw[if_pos h2.symm,SX];exact((Ub _ _).1 h).asymm
  ·rw[if_neg h2]at h;rw[if_neg (Ne.symm h2)];simp only[decide_eq_true_eq]at h;simp;omega
 ·rw[if_neg h1]at h;rw[if_neg (Ne.symm h1)];simp only[decide_eq_true_eq]at h;simp;omega
def fH{a b:Cand}:AK b a=false↔a.cost<=b.cost/\(a.cost=b.cost->popc a.set<=popc b.set/\(popc a.set=popc b.set->¬ Kk b.set a.set)):=by
 unfold AK
 by_cases h1:b.cost=a.cost
 ·rw[if_pos h1]
  by_cases h2:popc b.set=popc a.set
  ·rw[if_pos h2,SX];constructor
   ·intro h;exact⟨by omega,λ_=>⟨by omega,λ_=>h⟩⟩
   ·intro h;exact(h.2 h1.symm).2 h2.symm
  ·rw[if_neg h2];simp only[decide_eq_false_iff_not];constructor
   ·intro h;exact⟨by omega,λ_=>⟨by omega,λh=>by omega⟩⟩
   ·intro h;have:=(h.2 h1.symm).1;omega
 ·rw[if_neg h1];simp only[decide_eq_false_iff_not];constructor
  ·intro h;exact⟨by omega,λh=>by omega⟩
  ·intro h;have:=h.1;omega
def Ld(a b c:Cand)(h1:AK b a=false)(h2:AK c b=false):AK c a=false:=by
 rw[fH]at h1 h2 ⊢;refine⟨by omega,λh=>?_⟩;obtain⟨a1,a2⟩:=h1.2 (by omega);obtain⟨b1,b2⟩:=h2.2 (by omega);exact⟨by omega,λh'=>kZ (a2 (by omega)) (b2 (by omega))⟩
def code:List Nat->Nat
 |[]=>0
 | i::s=>2 ^ i ||| code s
def Ku:∀ (S:List Nat) (j:Nat),(code S).testBit j=decide (j∈S)
 |[],j=>by simp[code]
 | i::s,j=>by
  simp only[code,Nat.testBit_or,Ku s j,Nat.testBit_two_pow,mem_cons]
  by_cases h:i=j
  ·subst h;simp
  ·have h':¬ j=i:=λe=>h e.symm
   simp[h,h']
def Pf:∀ {S:List Nat} {n:Nat},(∀ i∈S,i<n)->code S<2 ^ n
 |[],n,_=>by simp only[code];exact Nat.pow_pos (by omega)
 | i::s,n,h=>Nat.or_lt_two_pow (Nat.pow_lt_pow_right (by omega) (h i (by simp))) (Pf λj hj=>h j (by simp[hj]))
def VA:∀ (S:List Nat) (i:Nat),code (S++[i])=code S ||| 2 ^ i
 |[],i=>by simp[code]
 | j::s,i=>by simp only[List.cons_append,code,VA s i,Nat.or_assoc]
def YN:∀ {S T:List Nat},S.Pairwise (· < ·)->T.Pairwise (· < ·)->(∀ x,x∈S↔x∈T)->S=T
 |[],[],_,_,_=>rfl
 |[],j::t,_,_,h=>by have:=(h j).2 (by simp);cases this
 | i::s,[],_,_,h=>by have:=(h i).1 (by simp);cases this
 | i::s,j::t,hs,ht,h=>by
  have gL:=pairwise_cons.1 hs;have ht':=pairwise_cons.1 ht;have Sg:i=j:=by
   have h1:=(h i).1 (by simp);have h2:=(h j).2 (by simp);rcases mem_cons.1 h1 with h1|h1
   ·exact h1
   rcases mem_cons.1 h2 with h2|h2
   ·exact h2.symm
   have:=ht'.1 i h1;have:=gL.1 j h2;omega
  subst Sg;rw[YN gL.2 ht'.2 λx=>?_];constructor
  ·intro hx;have h1:=gL.1 x hx;rcases mem_cons.1 ((h x).1 (by simp[hx])) with e|e
   ·omega
   ·exact e
  ·intro hx;have h1:=ht'.1 x hx;rcases mem_cons.1 ((h x).2 (by simp[hx])) with e|e
   ·omega
   ·exact e
def YX(x:Nat):List Nat:=(List.range 64).filter λi=>x.testBit i
def fI(x:Nat):(YX x).Pairwise (· < ·):=List.pairwise_lt_range.filter _
def bk{S:List Nat}(hs:S.Pairwise (· < ·))(hn:∀ i∈S,i<64):YX (code S)=S :=
 YN (fI _) hs λx=>by
  simp only[YX,List.mem_filter,List.mem_range,Ku,decide_eq_true_eq];exact⟨λh=>h.2,λh=>⟨hn x h,h⟩⟩
def Gx(P:Srch)(S:List Nat):Cand:=⟨Fk P.cost S,code S⟩
def kids(P:Srch)(S:List Nat):Nat->List Cand
 | 0=>[]
 | f+1=>(if again P S (P.n-(f+1)) then [] else [Gx P (S++[P.n-(f+1)])])++kids P S f
def Hh(h:List Cand):List Cand->List Cand
 |[]=>h
 | c::l=>Hh (Uw AK h c) l
def IQ:∀ (l h:List Cand),Heap AK h->Heap AK (Hh h l)/\(Hh h l).Perm (l++h)
 |[],h,hh=>⟨hh,.refl _⟩
 | c::l,h,hh=>by
  obtain⟨a,b⟩:=Rf Lc Ld hh c;obtain⟨x,y⟩:=IQ l _ a;exact⟨x,y.trans ((List.Perm.append_left l b).trans List.perm_middle)⟩
def Hb(S:List Nat):Nat:=S.getLast?.elim 0 (· + 1)
def ln:∀ {S:List Nat},S.Pairwise (· < ·)->∀ i∈S,i<Hb S:=by
 intro S hp i hi;unfold Hb;cases h:S.getLast? with
 |none=>rw[List.getLast?_eq_none_iff]at h;subst h;cases hi
 |some k =>
  obtain⟨T,rfl⟩:=List.getLast?_eq_some_iff.1 h;simp only[Option.elim];rcases List.mem_append.1 hi with h'|h'
  ·have:=(List.pairwise_append.1 hp).2.2 i h' k (by simp);omega
  ·simp at h';omega
def Gd:Nat->Nat->Nat
 | 0,_=>0
 | n+1,x=>x%2+Gd n (x / 2)
def Ep:∀ n x,Gd n x<=n
 | 0,_=>le_refl _
 | n+1,x=>by
  have:=Ep n (x / 2);simp only[Gd];omega
def MV:∀ (a b x:Nat),Gd (a+b) x=Gd a x+Gd b (x / 2 ^ a)
 | 0,b,x=>by simp[Gd]
 | a+1,b,x=>by
  have e:a+1+b=(a+b)+1:=by omega
  rw[e];simp only[Gd,MV a b (x / 2),Nat.div_div_eq_div_mul];rw[Nat.pow_succ,Nat.mul_comm 2];omega
def R2:∀ n x,Gd n x=((List.range n).filter λi=>x.testBit i).length
 | 0,_=>rfl
 | n+1,x=>by
  rw[MV n 1 x,R2 n x,List.range_succ,List.filter_append,List.length_append];congr 1;simp only[Gd,Nat.add_zero,List.filter_cons,List.filter_nil];rw[Nat.testBit_eq_decide_div_mod_eq]
  by_cases h:x / 2 ^ n%2=1
  ·simp[h]
  ·simp[h];omega
def ve(x:Nat):popc x=Gd 64 x:=(R2 64 x).symm
def mk(k c:Nat):Nat->Nat
 | 0=>0
 | n+1=>2 ^ k*mk k c n+c
def PW{k c:Nat}(hc:c<2 ^ k)(a n:Nat):a &&& mk k c (n+1)=2 ^ k*(a / 2 ^ k &&& mk k c n)+(a%2 ^ k &&& c):=by
 have h:=Nat.div_add_mod (a &&& mk k c (n+1)) (2 ^ k);rw[Nat.and_div_two_pow,Nat.and_mod_two_pow]at h;have e1:mk k c (n+1) / 2 ^ k=mk k c n:=by
  simp only[mk];rw[Nat.mul_add_div (Nat.pow_pos (by omega)),Nat.div_eq_of_lt hc,Nat.add_zero]
 have e2:mk k c (n+1)%2 ^ k=c:=by
  simp only[mk];rw[Nat.mul_add_mod,Nat.mod_eq_of_lt hc]
 rw[e1,e2]at h;exact h.symm
def d1:Nat->Nat->Nat
 | 0,_=>0
 | n+1,x=>4*d1 n (x / 4)+Gd 2 x
def d2:Nat->Nat->Nat
 | 0,_=>0
 | n+1,x=>16*d2 n (x / 16)+Gd 4 x
def d3:Nat->Nat->Nat
 | 0,_=>0
 | n+1,x=>256*d3 n (x / 256)+Gd 8 x
def qY:∀ n x,d1 n x<4 ^ n
 | 0,_=>by simp[d1]
 | n+1,x=>by
  have:=qY n (x / 4);have:=Ep 2 x;simp only[d1,Nat.pow_succ];omega
def qZ:∀ n x,15*d2 n x+4<=4*16 ^ n
 | 0,_=>by simp[d2]
 | n+1,x=>by
  have:=qZ n (x / 16);have:=Ep 4 x;simp only[d2,Nat.pow_succ];omega
def wP(a:Nat):a &&& 1=a%2:=Nat.and_one_is_mod a
def wR(a:Nat):a &&& 3=a%4:=Nat.and_two_pow_sub_one_eq_mod a 2
def wQ(a:Nat):a &&& 15=a%16:=Nat.and_two_pow_sub_one_eq_mod a 4
def sw1:∀ n x,(x / 2 &&& mk 2 1 n)+(x &&& mk 2 1 n)=d1 n x
 | 0,x=>by simp[mk,d1]
 | n+1,x=>by
  rw[PW (by decide),PW (by decide),wP,wP];have ih:=sw1 n (x / 4);simp only[d1,Gd,<- ih];have e:x / 2 / 2 ^ 2=x / 4 / 2:=by omega
  rw[e];have e2:x / 2 ^ 2=x / 4:=rfl;rw[e2];omega
def p4(x:Nat):Gd 4 x=Gd 2 x+Gd 2 (x / 4):=MV 2 2 x
def p8(x:Nat):Gd 8 x=Gd 4 x+Gd 4 (x / 16):=MV 4 4 x
def sw2:∀ n x,(d1 (2*n) x / 4 &&& mk 4 3 n)+(d1 (2*n) x &&& mk 4 3 n)=d2 n x
 | 0,x=>by simp[mk,d2]
 | n+1,x=>by
  rw[PW (by decide),PW (by decide),wR,wR];have ih:=sw2 n (x / 16);have e0:2*(n+1)=2*n+1+1:=by omega
  have e3:x / 4 / 4=x / 16:=by omega
  simp only[d2,p4,<- ih,e0,d1,e3];have b0:=Ep 2 x;have b1:=Ep 2 (x / 4);generalize d1 (2*n) (x / 16)=Y;generalize Gd 2 x=p at *;generalize Gd 2 (x / 4)=q at *;have e4:(4*(4*Y+q)+p) / 4 / 2 ^ 4=Y / 4:=by omega
  have e5:(4*(4*Y+q)+p) / 2 ^ 4=Y:=by omega
  rw[e4,e5];omega
def sE(n x:Nat):d2 n x%16<=4:=by
 cases n with
 | zero=>simp[d2]
 | succ n=>have:=Ep 4 x;simp only[d2];omega
def sw3:∀ n x,(d2 (2*n) x / 16+d2 (2*n) x) &&& mk 8 15 n=d3 n x
 | 0,x=>by simp[mk,d3]
 | n+1,x=>by
  rw[PW (by decide),wQ];have ih:=sw3 n (x / 256);have e0:2*(n+1)=2*n+1+1:=by omega
  have e3:x / 16 / 16=x / 256:=by omega
  simp only[d3,p8,<- ih,e0,d2,e3];have b0:=Ep 4 x;have b1:=Ep 4 (x / 16);have b2:=sE (2*n) (x / 256);generalize d2 (2*n) (x / 256)=Y at *;generalize Gd 4 x=p at *;generalize Gd 4 (x / 16)=q at *;have e4:((16*(16*Y+q)+p) / 16+(16*(16*Y+q)+p)) / 2 ^ 8=Y / 16+Y:=by omega
  have e5:((16*(16*Y+q)+p) / 16+(16*(16*Y+q)+p))%2 ^ 8%16=p+q:=by omega
  rw[e4,e5]
def divq{n d q r:Nat}(h:n=d*q+r)(hr:r<d):n / d=q:=by
 rw[h,Nat.mul_add_div (by omega),Nat.div_eq_of_lt hr,Nat.add_zero]
def w1{A1 A2 A3 p0 p1 p2 a b:Nat}(ha:a=256*A1+p0)(h1:A1=256*A2+p1)(h2:A2=256*A3+p2)(hb:b=a+A1):b=65536*(A2+A3)+(256*(p1+p2)+p0+p1):=by omega
def w2{A2 A3 A4 A5 p2 p3 p4:Nat}(h2:A2=256*A3+p2)(h3:A3=256*A4+p3)(h4:A4=256*A5+p4):A2+A3=65536*(A4+A5)+(256*(p3+p4)+p2+p3):=by omega
def w3{X Y b c p0 p1 p2 r:Nat}(hb:b=65536*X+(256*(p1+p2)+p0+p1))(hc:c=b+X)(e3:X=65536*Y+r):c=65536*(X+Y)+(256*(p1+p2)+p0+p1+r):=by omega
def w4{X Y Z r s:Nat}(e3:X=65536*Y+r)(e4:Y=65536*Z+s):X+Y=65536*(Y+Z)+(r+s):=by omega
def w5{X Y A6 p0 p1 p2 p3 p4 p5 p6 p7 c:Nat}(e5:c=65536*X+(256*(p1+p2)+p0+p1+(256*(p3+p4)+p2+p3)))(e4:Y=65536*(A6+p7)+(256*(p5+p6)+p4+p5))(h6:A6=256*p7+p6) :
 c+(Y+(A6+p7))=128*(512*X+2*(p1+p2)+2*(p3+p4)+512*(A6+p7)+2*(p5+p6)+2*p7)+(p0+p1+p2+p3+p4+p5+p6+p7):=by omega
def w6{A B p m:Nat}(h:A=256*B+p)(hp:p<=8)(hB:B<=m):A<=256*m+8:=by omega
def AbY{p0 p1 p2 p3 p4 p5 p6 p7 A1 A2 A3 A4 A5 A6 a b c:Nat}(b0:p0<=8)(b1:p1<=8)(b2:p2<=8)(b3:p3<=8)(b4:p4<=8)(b5:p5<=8)(b6:p6<=8)(b7:p7<=8)
 (ha:a=256*A1+p0) (h1:A1=256*A2+p1) (h2:A2=256*A3+p2) (h3:A3=256*A4+p3) (h4:A4=256*A5+p4) (h5:A5=256*A6+p5) (h6:A6=256*p7+p6) (hb:b=a+a / 256) (hc:c=b+b / 65536) :
 (c+c / 4294967296)%128=p0+p1+p2+p3+p4+p5+p6+p7/\a<9223372036854775808/\b<9223372036854775808/\c<9223372036854775808/\c+c / 4294967296<9223372036854775808:=by
 have r1:256*(p1+p2)+p0+p1<65536:=by clear ha h1 h2 h3 h4 h5 h6 hb hc;omega
 have r2:256*(p1+p2)+p0+p1+(256*(p3+p4)+p2+p3)<65536:=by clear ha h1 h2 h3 h4 h5 h6 hb hc;omega
 have r3:256*(p3+p4)+p2+p3+(256*(p5+p6)+p4+p5)<65536:=by clear ha h1 h2 h3 h4 h5 h6 hb hc;omega
 have r4:p0+p1+p2+p3+p4+p5+p6+p7<128:=by clear ha h1 h2 h3 h4 h5 h6 hb hc;omega
 have k6:=w6 h6 b6 b7;have k5:=w6 h5 b5 k6;have k4:=w6 h4 b4 k5;have k3:=w6 h3 b3 k4;have k2:=w6 h2 b2 k3;have k1:=w6 h1 b1 k2;have k0:=w6 ha b0 k1;have e1:a / 256=A1:=divq ha (Nat.lt_of_le_of_lt b0 (by decide));rw[e1]at hb;have QT:=w1 ha h1 h2 hb;have e2:b / 65536=A2+A3:=divq QT r1;rw[e2]at hc;have e3:=w2 h2 h3 h4;have e4:=w2 h4 h5 h6;have e5:=w3 QT hc e3;have e6:c / 65536=(A2+A3)+(A4+A5):=divq e5 r2;have e8:=w4 e3 e4;have e7:c / 4294967296=(A4+A5)+(A6+p7):=by
  rw[show (4294967296:Nat)=65536*65536 from rfl,<- Nat.div_div_eq_div_mul,e6];exact divq e8 r3
 rw[e7];have e9:=w5 e5 e4 h6;clear e1 e2 e3 e4 e5 e6 e7 e8 QT ha h1 h2 h3 h4 h5 h6 r1 r2 r3;refine⟨?_,by clear e9 hc hb;omega,by clear e9 hc;omega,by clear e9;omega,by clear e9;omega⟩;rw[e9,Nat.mul_add_mod,Nat.mod_eq_of_lt r4]
def sw4(x a b c:Nat)(ha:a=d3 8 x)(hb:b=a+a / 256)(hc:c=b+b / 65536):(c+c / 4294967296)%128=popc x/\a<9223372036854775808/\b<9223372036854775808/\c<9223372036854775808/\c+c / 4294967296<9223372036854775808:=by
 have h:popc x=Gd 8 x+Gd 8 (x / 256)+Gd 8 (x / 256 / 256)+Gd 8 (x / 256 / 256 / 256)+Gd 8 (x / 256 / 256 / 256 / 256)+Gd 8 (x / 256 / 256 / 256 / 256 / 256)+Gd 8 (x / 256 / 256 / 256 / 256 / 256 / 256)+Gd 8 (x / 256 / 256 / 256 / 256 / 256 / 256 / 256):=by
  rw[ve,show (64:Nat)=8+(8+(8+(8+(8+(8+(8+8)))))) from rfl];simp only[MV,Nat.reducePow];omega
 rw[h];simp only[d3,Nat.mul_zero,Nat.zero_add]at ha;exact AbY (Ep 8 _) (Ep 8 _) (Ep 8 _) (Ep 8 _) (Ep 8 _) (Ep 8 _) (Ep 8 _) (Ep 8 _) ha rfl rfl rfl rfl rfl rfl hb hc
@[reducible] def U(n:Nat):AV:=.v (.int .u64 n)
theorem HV(x k j:Nat)(h:2 ^ min k 64=j):((x:Nat):Int).fdiv (2 ^ min k 64)=((x / j:Nat):Int):=by
 rw[Int.fdiv_eq_ediv_of_nonneg _ (Int.pow_nonneg (by omega)),<- h];simp
def Ju{n:Nat}(h:n<18446744073709551616):IntKind.u64.wrap (n:Int)=(n:Int):=fw _ (by omega) (by omega)
def SN(x:Nat)(hx:x<18446744073709551616):Ac C0 325 [U x] [] (I (popc x)) []:=by
 have e1:(6148914691236517205:Int)=((mk 2 1 32:Nat):Int):=by decide
 have e2:(3689348814741910323:Int)=((mk 4 3 16:Nat):Int):=by decide
 have e3:(1085102592571150095:Int)=((mk 8 15 8:Nat):Int):=by decide
 have l1:=qY 32 x;have l2:=qZ 16 x;have h1:=sw1 32 x;have h2:=sw2 16 x;have h3:=sw3 8 x;refine Ac.go f325 ?_;unfold f325;simp(disch:=omega)only[go_sem];have s1:IntKind.u64.wrap (bits BinOp.and IntKind.u64 ((x:Int).fdiv (2 ^ min 1 64)) 6148914691236517205+bits BinOp.and IntKind.u64 (x:Int) 6148914691236517205)=((d1 32 x:Nat):Int):=by
  rw[HV x 1 2 rfl,e1,bits_and_u64_nat _ _ (by omega) (by decide),bits_and_u64_nat _ _ hx (by decide),<- natCast_add,h1,Ju (by omega)]
 rw[s1];generalize d1 32 x=y at *;have s2:IntKind.u64.wrap (bits BinOp.and IntKind.u64 ((y:Int).fdiv (2 ^ min 2 64)) 3689348814741910323+bits BinOp.and IntKind.u64 (y:Int) 3689348814741910323)=((d2 16 x:Nat):Int):=by
  rw[HV y 2 4 rfl,e2,bits_and_u64_nat _ _ (by omega) (by decide),bits_and_u64_nat _ _ (by omega) (by decide),<- natCast_add,h2,Ju (by omega)]
 rw[s2];generalize d2 16 x=z at *;have s3:bits BinOp.and IntKind.u64 (IntKind.u64.wrap ((z:Int).fdiv (2 ^ min 4 64)+(z:Int))) 1085102592571150095=((d3 8 x:Nat):Int):=by
  rw[HV z 4 16 rfl,<- natCast_add,Ju (by omega),e3,bits_and_u64_nat _ _ (by omega) (by decide),h3]
 rw[s3];obtain⟨k1,k2,k3,k4,k5⟩:=sw4 x (d3 8 x) _ _ rfl rfl rfl;generalize d3 8 x=a at *;have s4:IntKind.u64.wrap ((a:Int)+(a:Int).fdiv (2 ^ min 8 64))=((a+a / 256:Nat):Int):=by
  rw[HV a 8 256 rfl,<- natCast_add,Ju (by omega)]
 rw[s4];generalize a+a / 256=b at *;have s5:IntKind.u64.wrap ((b:Int)+(b:Int).fdiv (2 ^ min 16 64))=((b+b / 65536:Nat):Int):=by
  rw[HV b 16 65536 rfl,<- natCast_add,Ju (by omega)]
 rw[s5];generalize b+b / 65536=c at *;have s6:IntKind.u64.wrap ((c:Int)+(c:Int).fdiv (2 ^ min 32 64))=((c+c / 4294967296:Nat):Int):=by
  rw[HV c 32 4294967296 rfl,<- natCast_add,Ju (by omega)]
 rw[s6];generalize c+c / 4294967296=d at *;rw[wrap64 _ (by omega) (by omega),i64_and127];refine Aj _ ?_;exact .int (by omega)
def sG{k:Nat}(hk:k<64):sF[k]?=some (.v (.int .u8 ((Go.Lib.deBruijn64tab.getD k 0:Nat):Int))):=by
 have:Go.Lib.deBruijn64tab.length=64:=by decide
 unfold sF;rw[gm,gE (by omega)];simp[List.getD_eq_getElem?_getD,gE (by omega:k<Go.Lib.deBruijn64tab.length)]
def tB(x:Nat)(hx:x<18446744073709551616):Ac C0 96 [U x] [] (I (Go.Lib.ctz 64 x)) []:=by
 refine Ac.go f96 ?_;unfold f96;refine gO ?_;refine⟨λh=>?_,λh=>?_⟩
 ·have h0:x=0:=by simp at h;omega
  subst h0;refine Aj _ ?_;exact .int (by decide)
 ·have h0:x≠0:=λe=>by subst e;simp at h
  have sH:(2:Nat) ^ 64=18446744073709551616:=by decide
  obtain⟨k1,k2⟩:=Go.Lib.lowest_bit 64 x h0 (by rw[sH];exact hx);rw[sH]at k1;obtain⟨k3,k4⟩:=Go.Lib.deBruijn64_at _ k2;generalize Go.Lib.ctz 64 x=k at *;have s1:IntKind.u64.wrap (0-(x:Int))=((18446744073709551616-x:Nat):Int):=by rw[IntKind.wrap_u64];omega
  rw[s1,bits_and_u64_nat _ _ hx (by omega),k1];have s2:IntKind.u64.wrap (((2 ^ k:Nat):Int)*285870213051353865)=((2 ^ k*285870213051353865%18446744073709551616:Nat):Int):=by rw[IntKind.wrap_u64];omega
  rw[s2,HV _ 58 288230376151711744 rfl];generalize 2 ^ k*285870213051353865%18446744073709551616 / 288230376151711744=m at *;have hl:sF.length=64:=by decide
  have hg:=sG k3;have hd:(sF.drop m).take 1=[.v (.int .u8 ((k:Nat):Int))]:=by
   rw[List.drop_eq_getElem_cons (by omega)];rw[gE (by omega)]at hg;injection hg with hg
   rw[hg,k4];rfl
  rw[if_pos ⟨by omega,by omega⟩,Int.toNat_natCast,mul_one];have hld:Ug C0 5 (.ep .no 0 sF m) []=some (.v (.int .u8 ((k:Nat):Int))):=by
   rw[gW,F.ag5,F.sz5];simp only[LX];rw[if_pos (by omega),hd];rfl
  simp only[cU,lY,qo,sM,p9,if_true,Option.getD_some,hld];refine gO ?_;exact AM _
def jv{i:Nat}{s:List Nat}(hs:(i::s).Pairwise (· < ·))(hn:∀ j∈i::s,j<64):Go.Lib.ctz 64 (code (i::s))=i/\code (i::s) &&& (code (i::s)-1)=code s:=by
 have gL:=pairwise_cons.1 hs;have hb:=Ku (i::s);have Au:code (i::s)<2 ^ 64:=Pf hn;have h0:code (i::s)≠0:=λe=>by
  have:=hb i;rw[e]at this;simp at this
 obtain⟨m,hm,hk⟩:=Go.Lib.ctzFrom_spec 64 _ (by omega) Au;have hc:Go.Lib.ctz 64 (code (i::s))=Go.Lib.ctzFrom 64 (code (i::s)):=by simp[Go.Lib.ctz,h0]
 rw[hc];generalize Go.Lib.ctzFrom 64 (code (i::s))=c at *;have e1:code (i::s)=2 ^ (c+1)*m+2 ^ c:=by rw[hm,Nat.mul_add,Nat.pow_succ,mul_one,Nat.mul_assoc]
 have p1:2 ^ c<2 ^ (c+1):=Nat.pow_lt_pow_right (by omega) (by omega);have hx:∀ j,(code (i::s)).testBit j=if j<c+1 then decide (c=j) else m.testBit (j-(c+1)):=λj=>by
  rw[e1,Nat.testBit_two_pow_mul_add m p1 j,Nat.testBit_two_pow]
 have hci:c=i:=by
  rcases lt_trichotomy c i with h|h|h
  ·have h1:=hx c;rw[hb c,if_pos (by omega)]at h1;simp only[decide_true,decide_eq_true_eq]at h1;rcases mem_cons.1 h1 with h2|h2
   ·omega
   ·have:=gL.1 c h2;omega
  ·exact h
  ·have h1:=hx i;rw[hb i,if_pos (by omega)]at h1;simp at h1;omega
 refine⟨hci,Nat.eq_of_testBit_eq λj=>?_⟩;have e2:code (i::s)-1=2 ^ (c+1)*m+(2 ^ c-1):=by
  have:1<=2 ^ c:=Nat.pow_pos (by omega);omega
 rw[Nat.testBit_and,e2,Nat.testBit_two_pow_mul_add m (by omega) j,Nat.testBit_two_pow_sub_one,hx j,Ku s j];have pt:=hb j;rw[hx j]at pt
 by_cases hj:j<c+1
 ·rw[if_pos hj,if_pos hj];have:¬ j∈s:=λh=>by have:=gL.1 j h;omega
  by_cases hcj:c=j
  ·subst hcj;simp[this]
  ·simp[hcj,this]
 ·rw[if_neg hj,if_neg hj,Bool.and_self];rw[if_neg hj]at pt;rw[pt];have:¬ j=i:=by omega
  simp[this]
def Cand.c(x:Cand):List AV:=[I x.cost,U x.set]
@[reducible] def jo(l:List Cand):AV:=.sl .no 2 (l.map Cand.c)
attribute [go_sem] Cand.c
theorem k9{x y:Nat}(hx:x<18446744073709551616)(hy:y<18446744073709551616):(bits BinOp.and IntKind.u64 (bits BinOp.and IntKind.u64 (x:Int) (bits BinOp.xor IntKind.u64 (x:Int) (y:Int))) (IntKind.u64.wrap (0-bits BinOp.xor IntKind.u64 (x:Int) (y:Int))) !=0)=lexB x y:=by
 have sH:(2:Nat) ^ 64=18446744073709551616:=by decide
 have hd:x ^^^ y<18446744073709551616:=by rw[<- sH]at *;exact Nat.xor_lt_two_pow hx hy
 rw[bits_xor_u64_nat x y hx hy,bits_and_u64_nat x (x ^^^ y) hx hd];have hlx:x &&& (x ^^^ y)<18446744073709551616:=Nat.lt_of_le_of_lt Nat.and_le_left hx
 by_cases h0:x ^^^ y=0
 ·have hxy:x=y:=by
   refine Nat.eq_of_testBit_eq λj=>?_
   have:=congrArg (λn=>n.testBit j) h0;simpa using this
  subst hxy;have:lexB x x=false:=SX.2 λh=>h.asymm h
  rw[this,h0,Nat.and_zero];decide
 ·obtain⟨k1,k2⟩:=Go.Lib.lowest_bit 64 (x ^^^ y) h0 (by rw[sH];exact hd);obtain⟨m,hm,_⟩:=Go.Lib.ctzFrom_spec 64 (x ^^^ y) (by omega) (by rw[sH];exact hd);have hc:Go.Lib.ctz 64 (x ^^^ y)=Go.Lib.ctzFrom 64 (x ^^^ y):=by simp[Go.Lib.ctz,h0]
  rw[sH]at k1;rw[<- hc]at hm;generalize Go.Lib.ctz 64 (x ^^^ y)=k at *;have s1:IntKind.u64.wrap (0-((x ^^^ y:Nat):Int))=((18446744073709551616-(x ^^^ y):Nat):Int):=by rw[IntKind.wrap_u64];omega
  rw[s1,bits_and_u64_nat _ _ hlx (by omega),Nat.and_assoc,k1];have xF:∀ j,(x ^^^ y).testBit j=if j<k+1 then decide (k=j) else m.testBit (j-(k+1)):=λj=>by
   have e1:x ^^^ y=2 ^ (k+1)*m+2 ^ k:=by rw[hm,Nat.mul_add,Nat.pow_succ,mul_one,Nat.mul_assoc]
   rw[e1,Nat.testBit_two_pow_mul_add m (Nat.pow_lt_pow_right (by omega) (by omega)) j,Nat.testBit_two_pow]
  have Ca:x.testBit k≠y.testBit k:=by
   have:=xF k;rw[if_pos (by omega),Nat.testBit_xor]at this;intro h;rw[h]at this;simp at this
  have rK:∀ j,j<k->x.testBit j=y.testBit j:=λj hj=>by
   have:=xF j;rw[if_pos (by omega),Nat.testBit_xor]at this;have h2:¬ k=j:=by omega
   simpa [h2]using this
  have hand:x &&& 2 ^ k=if x.testBit k then 2 ^ k else 0:=by
   refine Nat.eq_of_testBit_eq λj=>?_
   rw[Nat.testBit_and,Nat.testBit_two_pow]
   by_cases SU:k=j
   ·subst SU;cases v8:x.testBit k<;>simp
   ·cases v8:x.testBit k<;>simp[SU,Nat.testBit_two_pow]
  rw[hand];cases v8:x.testBit k with
  | true =>
   have:lexB x y=true:=(Ub x y).2 ⟨k,k2,v8,by rw[v8]at Ca;cases h:y.testBit k with|false=>rfl|true=>exact absurd h.symm Ca,rK⟩;rw[this];have:0<2 ^ k:=Nat.pow_pos (by omega);simp only[if_true,bne_iff_ne,ne_eq];omega
  | false =>
   have:lexB x y=false:=by
    rw[SX];intro h;have:Kk y x:=⟨k,k2,by rw[v8]at Ca;cases h:y.testBit k with|true=>rfl|false=>exact absurd h.symm Ca,v8,λj hj=>(rK j hj).symm⟩;exact h.asymm this
   rw[this];rfl
def et(c d:Cand)(hc:c.set<18446744073709551616)(hd:d.set<18446744073709551616):Ac C0 324 [.agg c.c,.agg d.c] [] (B (AK c d)) []:=by
 refine Ac.go f324 ?_;unfold f324;refine gO ?_;refine⟨λh=>?_,λh=>?_⟩
 ·refine Aj _ ?_;have h2:¬ c.cost=d.cost:=by simpa using h
  exact .eq (by simp only[AK,if_neg h2])
 have h2:c.cost=d.cost:=by simpa using h
 refine Av 5 [([],[2]),([],[18]),([],[19]),([],[3]),([],[21])] B7 ?_;refine gO ?_
 first|(refine Ab (SN c.set hc) ?_)|(refine Aq (SN c.set hc) ?_)
 refine gO ?_
 first|(refine Ab (SN d.set hd) ?_)|(refine Aq (SN d.set hd) ?_)
 refine gO ?_;refine⟨λh3=>?_,λh3=>?_⟩
 ·refine Aj _ ?_;have h4:¬ popc c.set=popc d.set:=by intro e;rw[e]at h3;simp at h3
  exact .eq (by simp only[AK,if_pos h2,if_neg h4];congr 3;simp)
 ·refine Aj _ ?_;have h4:popc c.set=popc d.set:=by
   have:((popc c.set:Nat):Int)=(popc d.set:Nat):=by simpa using h3
   omega
  exact .eq (by rw[k9 hc hd];simp only[AK,if_pos h2,if_pos h4])
def bF(l:List Cand):Ac C0 47 [jo l] [] (I l.length) []:=by
 refine Ac.go f47 ?_;unfold f47;simp(disch:=omega)only[go_sem,length_map];exact AM _
@[go_sem] theorem sN{α:Type}(a:α):(∃ x,some a=some x)=True:=by simp
def NL(l:List Cand):Prop:=∀ c∈l,c.set<18446744073709551616
def NL.get{l:List Cand}(h:NL l){i:Nat}{c:Cand}(hc:l[i]?=some c):c.set<18446744073709551616:=h c (mG hc)
def PA(l:List Cand)(i j:Nat)(hi:i<l.length)(hj:j<l.length)(hs:NL l):Ac C0 320 [jo l,I i,I j] [] (B (F7 AK l i j)) []:=by
 obtain⟨a,ha⟩:=get_some hi;obtain⟨b,hb⟩:=get_some hj;refine Ac.go f320 ?_;unfold f320;refine gO ?_;refine Av 8 [([],[0]),([],[1]),([],[7,8]),([],[9]),([],[0]),([],[2]),([],[11,12]),([],[13])] B7 ?_;simp(disch:=omega)only[go_sem,length_map,gm,ha,hb]
 first|(refine Ab (et a b (hs.get ha) (hs.get hb)) ?_)|(refine Aq (et a b (hs.get ha) (hs.get hb)) ?_)
 refine gO ?_;refine Aj _ ?_;exact .eq (by rw[Jj ha hb])
@[reducible] def L4(l:List Cand):List AV:=[.sl (.own 0 0) 2 (l.map Cand.c)]
theorem pc(l:List Cand)(x:Cand)(hx:l[l.length-1]?=some x)(hn:l.length<=4294967296):Ac C0 321 [.ptr 63 0] [(63,L4 l)] (.Gc 95 (.agg x.c)) [(63,L4 (l.take (l.length-1)))]:=by
 have hl:l.length-1<l.length:=(List.getElem?_eq_some_iff.1 hx).1;have he:IntKind.i64.wrap ((l.length:Int)-1)=((l.length-1:Nat):Int):=by rw[wrap64 _ (by omega) (by omega)];omega
 refine Ac.go f321 ?_;unfold f321;simp(disch:=omega)only[go_sem,length_map,gm,hx,he];refine AZ ⟨[(0,0)],[(63,63)],[]⟩ _ rfl ⟨rfl,rfl⟩ (by simp[lk]) ?_ ?_
 ·exact gI
 ·simp(disch:=omega)only[go_sem];exact .sl (by rw[List.map_take])
def pd(l:List Cand)(x:Cand)(hl:l.length+1<=4294967296):Ac C0 322 [.ptr 63 0,.Gc 95 (.agg x.c)] [(63,L4 l)] (.Bl []) [(63,L4 (l++[x]))]:=by
 refine Ac.go f322 ?_;unfold f322;refine gO ?_;refine C8 1023 [(0,1,0),(1,2,0),(2,4,2),(3,8,4),(4,16,0),(5,32,16),(6,64,32),(7,128,72),(8,256,255),(9,512,511)] [0,1,2,16,3,17,6,18,48,7,19,49,14,22,50,112,15,23,51,113,30,54,114,31,55,115,62,118,63,119,126,127,254,255,511,1023] (λm=>⟨Vm m [(1,4,.ptr 63 0),(2,5,.ptr 63 0),(4,6,.ptr 63 0),(8,7,(if m / 128%2=1 then .undef else .sl (.own 0 0) 2 (l.map Cand.c))),(16,8,.Gc 95 (.agg x.c)),(32,9,.agg x.c),(64,10,.sl (.own 640 0) 2 [x.c]),(128,11,.sl (.own 704 0) 2 ((l++[x]).map Cand.c)),(256,12,.ptr 63 0)]++[(0,.ptr 63 0),(1,.Gc 95 (.agg x.c))],[(63,[if m / 128%2=1 then (if m / 512%2=1 then .sl (.own 704 0) 2 ((l++[x]).map Cand.c) else .undef) else .sl (.own 0 0) 2 (l.map Cand.c)])]⟩) ?_ ?_ ?_ B7
 ·exact AS
 ·simp (maxSteps:=100000000)only[C7,C6,DS,DR,and_true,Nat.reduceDiv,Nat.reduceMod,Nat.reduceAnd,Nat.reduceEqDiff,reduceIte,true_and,and_false,false_and,and_self]
  repeat'(with_reducible refine And.intro ?_ ?_)
  all_goals simp(disch:=omega)only[go_sem,map_append,map_cons,map_nil]
  all_goals exact AQ.An (by simp(disch:=omega)only[go_sem,map_append,map_cons,map_nil]) (by simp(disch:=omega)only[go_sem,map_append,map_cons,map_nil])
 refine gO ?_;refine AZ ⟨[(704,0)],[(63,63)],[]⟩ _ rfl ⟨rfl,rfl⟩ (by simp[lk]) ?_ ?_
 ·exact gI
 ·simp(disch:=omega)only[go_sem,map_append]
end Go.Rd
