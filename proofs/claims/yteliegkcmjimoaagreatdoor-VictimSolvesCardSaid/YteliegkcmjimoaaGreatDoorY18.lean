/- part 18 of the proof -/
import Derived.Laws.Bits64b
import Derived.Laws.Bits128
import Derived.Test.YteliegkcmjimoaaGreatDoorY17
set_option linter.all false
open Go Go.Abs Go.Proofs
set_option maxRecDepth 100000
namespace Go.Rd
set_option maxHeartbeats 8000000
open List (length_map map_append map_cons map_nil mem_cons pairwise_cons)
open Nat (mul_one)
open Int (natCast_add)
open Tryz
@[reducible] def Mq:AV:=.v (.slice none 0 0)
theorem ij(s:WS)(p:Ac)(h:Iy s)(hg:BO s):Ad C0 63 [.agg s.c,.agg p.c] [] (.agg (BW s p).c) []:=by
 have dD:=h.nq;have Y4:=h.nn;refine Ad.go f63 ?_;unfold f63;refine gO ?_;refine AF (s.Aa) (λi=>⟨[(6,I i),(2,.ptr 128 0),(3,.ptr 192 0),(5,.ptr 320 0),(4,.ptr 256 0)],[(128,s.c),(192,p.c),(256,[Mq,Mq]),(320,[.sl (.own 2688 0) 8 (((s.Aa.take i).map λq=>Cd q p).map Queue.c),Mq])]⟩) (λi=>True) trivial ?_ ?_
 ·exact Ce
 rintro i ⟨hi,hP⟩ J hJ;refine gO ?_;refine Bo hi (λAP b hb Cg AX=>?_) λBa=>?_
 simp(disch:=omega)only[go_sem,hb]
 ·have ha:=h.aq b Cg;have vh:=hg b Cg;have ID:i+1<=4294967296:=by omega
  have Aa1:min i s.Aa.length+1<=4294967296:=by omega
  have fin:∀ q,Cd b p=q->∀ st',AT ⟨C0,[]⟩ st' ⟨[(6,I (i+1:Nat)),(2,.ptr 128 0),(3,.ptr 192 0),(5,.ptr 320 0),(4,.ptr 256 0)],[(128,s.c),(192,p.c),(256,[Mq,Mq]),(320,[.sl (.own 2688 0) 8 (((s.Aa.take i).map λq=>Cd q p).map Queue.c++[q.c]),Mq])]⟩->J st':=λq hq st' h=>by
   refine hJ st' (i+1) ⟨by omega,trivial⟩ (by omega) ?_;have e:((s.Aa.take (i+1)).map λq=>Cd q p).map Queue.c=((s.Aa.take i).map λq=>Cd q p).map Queue.c++[q.c]:=by grind[List.take_add_one]
   rw[e];exact h
  clear hJ;refine Ab (Vc b p (by omega)) ?_;rw[yP vh p];cases hp:Br (BU b) p
  ·refine gO ?_;refine fin b (by simp[Cd,hp]) _ (AT.Aq gI ?_);exact gI
  refine gO ?_;refine Ab (j7 b p ha) ?_;have e:Ge b p=(Ee (B8 b p),(Co (B8 b p)).2,0):=by grind[Ge]
  simp(disch:=omega)only[go_sem,e];refine fin { Ee (B8 b p) with gen:=b.gen } (by grind[Cd]) _ (AT.Aq gI ?_);exact gI
 subst Ba;rw[List.take_length];clear hJ;refine AF (s.Aw) (λi=>⟨[(11,I i),(2,.ptr 128 0),(3,.ptr 192 0),(5,.ptr 320 0),(4,.ptr 256 0)],[(128,s.c),(192,p.c),(256,[Mq,Mq]),(320,[.sl (.own 2688 0) 8 ((s.Aa.map λq=>Cd q p).map Queue.c),.sl (.own 4288 0) 9 ((E7 (s.Aw.take i) p).map Need.c)])]⟩) (λi=>True) trivial ?_ ?_
 ·exact Ce
 rintro i ⟨hi,hP⟩ J hJ;refine gO ?_;refine Bo hi (λAP b hb Cg AX=>?_) λBa=>?_
 refine Ay 7 [([],[2]),([],[51]),([],[11]),([],[52,53]),([],[54]),([],[55]),([],[3])] B6 ?_;simp(disch:=omega)only[go_sem,gm,hb]
 ·have ID:(E7 (s.Aw.take i) p).length+1<=4294967296:=by
   grind[E7]
  have e1:E7 (s.Aw.take (i+1)) p=if b.proc=p then E7 (s.Aw.take i) p else E7 (s.Aw.take i) p++[b]:=by grind[E7,List.take_add_one]
  by_cases CZ:b.proc=p
  ·rw[if_pos CZ]at e1;simp only[go_sem,CZ];refine hJ _ (i+1) ⟨by omega,trivial⟩ (by omega) (AT.Aq gI ?_);rw[e1];exact gI
  ·rw[if_neg CZ]at e1;simp only[go_sem,CZ];refine Wc (let o0:OT:=.done;let o1:OT:=.pick [(10,o0)];let o2:OT:=.pick [(9,o1)];let o3:OT:=.pick [(8,o2)];let o4:OT:=.pick [(7,o3)];let o5:OT:=.pick [(6,o4)];let o6:OT:=.pick [(5,o5)];let o7:OT:=.pick [(4,o6)];let o8:OT:=.pick [(3,o6)];let o9:OT:=.pick [(3,o7),(4,o8)];let gu:OT:=.pick [(2,o8)];let oL:OT:=.pick [(2,o9),(4,gu)];let xM:OT:=.pick [(1,o3)];let sN:OT:=.pick [(1,o4),(7,xM)];let Q7:OT:=.pick [(1,o5),(6,sN)];let zo:OT:=.pick [(1,o6),(5,Q7)];let Ri:OT:=.pick [(1,o7),(4,zo)];let uJ:OT:=.pick [(1,o8),(3,zo)];let Rs:OT:=.pick [(1,o9),(3,Ri),(4,uJ)];let zq:OT:=.pick [(1,gu),(2,uJ)];let W8:OT:=.pick [(1,oL),(2,Rs),(4,zq)];let zr:OT:=.pick [(0,xM)];let zt:OT:=.pick [(0,sN),(7,zr)];let zu:OT:=.pick [(0,Q7),(6,zt)];let RI:OT:=.pick [(0,zo),(5,zu)];let So:OT:=.pick [(0,Ri),(4,RI)];let Sx:OT:=.pick [(0,uJ),(3,RI)];let Xb:OT:=.pick [(0,Rs),(3,So),(4,Sx)];let zd:OT:=.pick [(0,zq),(2,Sx)];let Xh:OT:=.pick [(0,W8),(2,Xb),(4,zd)];Xh) B6 (by kernel_rfl) ?_;simp(disch:=omega)only[go_sem,gm,hb];have step:∀ st',AT ⟨C0,[]⟩ st' ⟨[(11,I (i+1:Nat)),(2,.ptr 128 0),(3,.ptr 192 0),(5,.ptr 320 0),(4,.ptr 256 0)],[(128,s.c),(192,p.c),(256,[Mq,Mq]),(320,[.sl (.own 2688 0) 8 ((s.Aa.map λq=>Cd q p).map Queue.c),.sl (.own 4288 0) 9 ((E7 (s.Aw.take i) p).map Need.c++[b.c])])]⟩->J st':=λst' h=>by
    refine hJ st' (i+1) ⟨by omega,trivial⟩ (by omega) ?_;rw[e1,map_append];exact h
   clear hJ
   repeat'(with_reducible refine And.intro ?_ ?_)
   all_goals(refine step _ (AT.Aq ?_ ?_))
   all_goals(simp(disch:=omega)only[go_sem])
 ·subst Ba;refine gO ?_;refine CU ⟨[],[],[2688,4288]⟩ _ ?_;simp only[go_sem,BW];exact .eq (by simp)
def HF{s:WS}(hv:AI s=true):LQ s=BJ s:=by simp[LQ,hv]
def DW{s:WS}(hv:AI s=true):GS s=Ca s:=by simp[GS,hv]
def Wk(s:WS)(h:Iy s):Ad C0 26 [.agg s.c] [] (.BC [AL (GS s).1,AL (GS s).2]) []:=by
 refine Ad.go f26 ?_;unfold f26;refine gO ?_;refine Ab (SO s h) ?_;cases hv:AI s
 ·have e:GS s=([],[]):=by simp[GS,hv]
  refine gS ?_;exact Gw _
 rw[DW hv];refine gO ?_;refine Ab (ie s h) ?_;rw[HF hv];refine gO ?_;refine Ao (α:=WS × List Ac) (λx=>⟨[(5,AL (BJ x.1)),(4,.sl (.own 1344 0) 3 (x.2.map Ac.c)),(1,.ptr 64 0)],[(64,x.1.c)]⟩) (λx=>Iy x.1/\AI x.1=true/\x.2.length+(Ag x.1).length<=1000000/\x.2++(Ca x.1).1=(Ca s).1/\(Ca x.1).2=(Ca s).2) (λx=>(Ag x.1).length) (s,[]) ⟨h,hv,by grind[De],rfl,rfl⟩ ?_ ?_
 ·exact AT.Aq gI gI
 rintro⟨t,gs⟩ ⟨i1,i2,i3,i4,i5⟩ J hJ
 replace i1:Iy t:=i1
 replace i2:AI t=true:=i2
 replace i3:gs.length+(Ag t).length<=1000000:=i3
 replace i4:gs++(Ca t).1=(Ca s).1:=i4
 replace i5:(Ca t).2=(Ca s).2:=i5
 have ig:=Be i2;rw[Sc ig]at i4 i5;cases hf:BJ t with
 | nil =>
  rw[hf]at i4 i5;have e0:(0<((0:Nat):Int))=False:=by simp
  refine gO ?_;refine Ab (Ow t i1) (gO ?_);refine CU ⟨[],[],[1344]⟩ _ ?_;refine gO ?_;simp at i4 i5;exact .eq (by grind)
 | cons p l =>
  simp[hf]at i4 i5;have hm:p∈Ag t:=DS (by grind);have hd:=D9 ig hm;have e0:(0<(l.length:Int)+1)=True:=eq_true (by omega);have ID:gs.length+1<=4294967296:=by omega
  refine gS ?_;refine Ay 4 [([],[1]),([],[5]),([],[23]),([],[24])] B6 (gO ?_)
  first|(refine Ab (ij t p i1 ig) ?_)|(refine Ax (ij t p i1 ig) ?_)
  refine gO ?_;have rE:=Ln i1 p;have hval:=NH i2 p;refine Ab (ie (BW t p) rE) ?_;rw[HF hval];refine gO ?_;refine hJ _ (BW t p,gs++[p]) ⟨rE,hval,by grind,by grind,i5⟩ hd (AT.Aq ?_ ?_)
  ·refine gO ?_;exact .sl (by simp[Ac.c])
  ·exact gI
def tE(q:Queue):Bool:=decide (q.holds.length<=12)&&decide (q.As.length<=12)&&decide (q.waits.length<=12)
def tF(s:WS):Bool:=decide (s.Aa.length<=12)&&decide (s.Aw.length<=12)&&s.Aa.all tE
def ZM{s:WS}(h:tF s=true):Iy s:=by
 simp only[tF,tE,Bool.and_eq_true,decide_eq_true_eq,List.all_eq_true]at h;refine⟨by omega,by omega,λq hq=>?_⟩;have:=h.2 q hq;unfold BS B7;omega
def UU(n m:Int):Int:=if m<1 then 0 else if n.tmod m<0 then n.tmod m+m else n.tmod m
def AbT(n:Int):0<=UU n 8/\UU n 8<8:=by
 have h1:=Int.tmod_lt_of_pos n (show (0:Int)<8 by decide);have h2:-8<n.tmod 8:=by
  rw[Int.tmod_eq_emod];split<;>omega
 unfold UU;rw[if_neg (by decide)];split<;>omega
def Aef(n:Int):Ad C0 70 [I n,I 8] [] (I (UU n 8)) []:=by
 have z:((8:Int)=0)=False:=by simp
 have z2:((8:Int)<1)=False:=by simp
 have h1:=Int.tmod_lt_of_pos n (show (0:Int)<8 by decide);have h2:-8<n.tmod 8:=by
  rw[Int.tmod_eq_emod];split<;>omega
 refine Ad.go f70 ?_;unfold f70
 by_cases h:n.tmod 8<0
 ·have e:UU n 8=n.tmod 8+8:=by simp[UU,h]
  have z3:(n.tmod 8<0)=True:=eq_true h;simp(disch:=omega)only[go_sem,z,z2,if_false,decide_false,z3,e];exact AQ _
 ·have e:UU n 8=n.tmod 8:=by simp[UU,h]
  have z3:(n.tmod 8<0)=False:=eq_false h;simp(disch:=omega)only[go_sem,z,z2,if_false,decide_false,z3,e];exact AQ _
def B2(n:Int):Ac:=⟨(UU n 8).tmod 4,1,1+(UU n 8).tdiv 4⟩
def qU(n:Int):Ad C0 31 [I n] [] (.agg (B2 n).c) []:=by
 have z:((4:Int)=0)=False:=by simp
 have hm:=AbT n;have hd:0<=(UU n 8).tdiv 4/\(UU n 8).tdiv 4<=2:=by rw[Int.tdiv_eq_ediv_of_nonneg hm.1];omega
 refine Ad.go f31 ?_;unfold f31;refine gO ?_;refine Ab (Aef n) ?_;simp(disch:=omega)only[go_sem,z,if_false];refine Al _ ?_;simp(disch:=omega)only[go_sem,B2]
def wA:BR:=⟨5,0⟩
def Mk(name:Bs)(p q:Ac):Queue:=⟨⟨name,1,1,0⟩,[⟨p,wA⟩],[],[⟨q,wA,0,0⟩],0⟩
def Mp(p:Ac)(name:Bs):Need:=⟨p,.mk 0 ⟨name,wA⟩ [],0⟩
def G8:WS:=⟨[Mk [97] (B2 0) (B2 1),Mk [98] (B2 1) (B2 0)],[Mp (B2 0) [98],Mp (B2 1) [97]]⟩
def zX:WS:=⟨G8.Aa,G8.Aw.take 1⟩
def c8:Iy G8/\Iy zX:=⟨ZM (by kernel_rfl),ZM (by kernel_rfl)⟩
def Yj{s:WS}(h:Iy s):(LQ s).length<=20000:=by
 unfold LQ;split
 ·exact Nat.le_trans (List.length_filter_le _ _) (De h)
 ·simp
section
variable {α:Type}
def Eo(l:List α)(i j:Nat):List α:=match l[i]?,l[j]? with
 |some a,some b=>(l.set i b).set j a
 |_,_=>l
def Hl(lt:α->α->Bool)(l:List α)(i j:Nat):Bool:=match l[i]?,l[j]? with
 |some a,some b=>lt a b
 |_,_=>false
def bY(lt:α->α->Bool):Nat->Nat->List α->List α
 | 0,_,l=>l
 | f+1,j,l=>if j=0\/Hl lt l j ((j-1) / 2)=false then l else bY lt f ((j-1) / 2) (Eo l ((j-1) / 2) j)
def Ld(lt:α->α->Bool)(l:List α)(i n:Nat):Nat:=if 2*i+2<n/\Hl lt l (2*i+2) (2*i+1)=true then 2*i+2 else 2*i+1
def Fo(lt:α->α->Bool):Nat->Nat->Nat->List α->List α
 | 0,_,_,l=>l
 | f+1,i,n,l=>if n<=2*i+1\/Hl lt l (Ld lt l i n) i=false then l else Fo lt f (Ld lt l i n) n (Eo l i (Ld lt l i n))
def Xr(lt:α->α->Bool)(l:List α)(x:α):List α:=bY lt l.length l.length (l++[x])
def LL(lt:α->α->Bool)(l:List α):List α:=Fo lt (l.length-1) 0 (l.length-1) (Eo l 0 (l.length-1))
def Sl{l:List α}{i j:Nat}(hi:i<l.length)(hj:j<l.length)(k:Nat):(Eo l i j)[k]?=if k=j then l[i]? else if k=i then l[j]? else l[k]?:=by
 unfold Eo;grind
theorem EX(l:List α)(i j:Nat):(Eo l i j).length=l.length:=by grind[Eo]
def swap_perm{l:List α}{i j:Nat}(hi:i<l.length)(hj:j<l.length):(Eo l i j).Perm l:=by grind[Eo,List.set_set_perm]
theorem Mi{lt:α->α->Bool}{l:List α}{i j:Nat}{a b:α}(ha:l[i]?=some a)(hb:l[j]?=some b):Hl lt l i j=lt a b:=by grind[Hl]
variable {lt:α->α->Bool} (has:∀ a b,lt a b=true->lt b a=false) (Qc:∀ a b c,lt b a=false->lt c b=false->lt c a=false)
theorem Wb:∀ (f i n:Nat) (l:List α),(Fo lt f i n l).length=l.length
 | 0,_,_,_=>rfl
 | f+1,i,n,l=>by
  simp only[Fo];split
  ·rfl
  ·rw[Wb f,EX]
def mz:∀ (f j:Nat) (l:List α),j<l.length->(bY lt f j l).Perm l
 | 0,_,_,_=>.refl _
 | f+1,j,l,hj=>by
  simp only[bY];split
  ·exact .refl _
  ·have h1:=mz f ((j-1) / 2) (Eo l ((j-1) / 2) j) (by rw[EX];omega);exact h1.trans (swap_perm (by omega) hj)
theorem Zc(l:List α)(i n:Nat):(Ld lt l i n=2*i+2/\2*i+2<n/\Hl lt l (2*i+2) (2*i+1)=true)\/(Ld lt l i n=2*i+1/\(2*i+2<n->Hl lt l (2*i+2) (2*i+1)=false)):=by
 unfold Ld;grind
theorem RW{l:List α}{i n:Nat}(h:¬ n<=2*i+1):i<Ld lt l i n/\Ld lt l i n<n:=by grind[Zc]
def YA:∀ (f i n:Nat) (l:List α),n<=l.length->(Fo lt f i n l).Perm l/\∀ k,n<=k->(Fo lt f i n l)[k]?=l[k]?
 | 0,_,_,_,_=>⟨.refl _,λ_ _=>rfl⟩
 | f+1,i,n,l,hn=>by
  simp[Fo];split
  ·simp
  ·rename_i hc;simp only[not_or]at hc;obtain⟨k1,k2⟩:=RW (lt:=lt) (l:=l) hc.1;obtain⟨h1,h2⟩:=YA f (Ld lt l i n) n (Eo l i (Ld lt l i n)) (by grind[EX]);refine⟨h1.trans (swap_perm (by omega) (by omega)),λk hk=>?_⟩;rw[h2 k hk,Sl (by omega) (by omega),if_neg (by omega),if_neg (by omega)]
def Ti(lt:α->α->Bool)(l:List α)(k p:Nat):Prop:=∀ a b,l[k]?=some a->l[p]?=some b->lt a b=false
def Heap(lt:α->α->Bool)(l:List α):Prop:=∀ k,0<k->Ti lt l k ((k-1) / 2)
def get_some{l:List α}{i:Nat}(h:i<l.length):∃ a,l[i]?=some a:=⟨_,gE h⟩
include has Qc
def ym:∀ (f j:Nat) (l:List α),j<=f->j<l.length->(∀ k,0<k->k≠j->Ti lt l k ((k-1) / 2))->(∀ k,0<k->(k-1) / 2=j->0<j->Ti lt l k ((j-1) / 2))->Heap lt (bY lt f j l):=by
 intro f
 induction f with
 | zero=>intro j l hf _ h1 _ k hk;exact h1 k hk (by omega)
 | succ f ih =>
  intro j l hf hj h1 h2;simp[bY];split
  ·rename_i hc;intro k hk
   by_cases ck:k=j
   ·rcases hc with hc|hc
    ·omega
    ·subst ck;intro a b ha hb;grind[Mi]
   grind
  ·rename_i hc;simp at hc;obtain⟨hj0,hc⟩:=hc;generalize hp:(j-1) / 2=p at hc h2 ⊢;have iy:p<j:=by omega
   obtain⟨a,ha⟩:=get_some hj;obtain⟨b,hb⟩:=get_some (l:=l) (i:=p) (by omega);rw[Mi ha hb]at hc;have TV:=has _ _ hc;have hg:=Sl (l:=l) (i:=p) (j:=j) (by omega) hj;have gp:(Eo l p j)[p]?=some a:=by rw[hg,if_neg (by omega),if_pos rfl,ha]
   have gj:(Eo l p j)[j]?=some b:=by rw[hg,if_pos rfl,hb]
   have gk:∀ k,k≠p->k≠j->(Eo l p j)[k]?=l[k]?:=λk k1 k2=>by grind
   refine ih p _ (by omega) (by grind) (λk hk xe=>?_) (λk hk xe uF=>?_)
   ·by_cases ck:k=j
    ·subst ck;rw[hp];intro x y hx hy;grind
    ·by_cases sO:(k-1) / 2=j
     ·rw[sO];intro x y hx hy;rw[gk k xe ck]at hx;rw[gj]at hy;injection hy with hy;subst hy
      exact h2 k hk sO (by omega) x b hx hb
     ·by_cases hpp:(k-1) / 2=p
      ·rw[hpp];intro x y hx hy;rw[gk k xe ck]at hx;rw[gp]at hy;injection hy with hy;subst hy
       have:=h1 k hk ck x b hx (by grind);exact Qc a b x TV this
      ·intro x y hx hy;rw[gk k xe ck]at hx;rw[gk _ hpp sO]at hy;exact h1 k hk ck x y hx hy
   ·have hq:(p-1) / 2<p:=by omega
    by_cases ck:k=j
    ·subst ck;intro x y hx hy;rw[gj]at hx;rw[gk _ (by omega) (by omega)]at hy;injection hx with hx;subst hx
     exact h1 p uF (by omega) b y hb hy
    ·intro x y hx hy;rw[gk k (by omega) ck]at hx;rw[gk _ (by omega) (by omega)]at hy;have e1:=h1 k hk ck x b hx (by grind);have e2:=h1 p uF (by omega) b y hb hy;exact Qc y b x e2 e1
def nt:∀ (f i n:Nat) (l:List α),n<=i+f->n<=l.length->(∀ k,0<k->k<n->(k-1) / 2≠i->Ti lt l k ((k-1) / 2))->(∀ k,0<k->k<n->(k-1) / 2=i->0<i->Ti lt l k ((i-1) / 2)) ->
 ∀ k,0<k->k<n->Ti lt (Fo lt f i n l) k ((k-1) / 2):=by
 intro f
 induction f with
 | zero=>intro i n l hf _ h1 _ k hk X8;exact h1 k hk X8 (by omega)
 | succ f ih =>
  intro i n l hf hn h1 h2;simp[Fo]
  by_cases hle:n<=2*i+1
  ·grind
  ·obtain⟨k1,k2⟩:=RW (lt:=lt) (l:=l) hle;have hkc:=Zc (lt:=lt) l i n;generalize hj:Ld lt l i n=j at k1 k2 hkc ⊢;have iy:(j-1) / 2=i:=by omega
   obtain⟨a,ha⟩:=get_some (l:=l) (i:=j) (by omega);obtain⟨b,hb⟩:=get_some (l:=l) (i:=i) (by omega);have Alw:∀ x,lt x x=false:=λx=>by grind
   have rX:∀ k,0<k->k<n->(k-1) / 2=i->Ti lt l k j:=by
    intro k hk X8 yW x y hx hy;rw[ha]at hy;injection hy with hy;subst hy
    rcases hkc with ⟨e,e1,e2⟩|⟨e,e1⟩<;>grind[Mi]
   by_cases hc:Hl lt l j i=false
   ·rw[if_pos (.inr hc)];intro k hk X8
    by_cases yW:(k-1) / 2=i
    ·rw[yW];intro x y hx hy;rw[hb]at hy;injection hy with hy;subst hy
     rw[Mi ha hb]at hc;exact Qc b a x hc (rX k hk X8 yW x a hx ha)
    grind
   ·rw[if_neg (by grind)];have hc:lt a b=true:=by grind[Mi]
    have TV:=has _ _ hc;have hg:=Sl (l:=l) (i:=i) (j:=j) (by omega) (by omega);have gi:(Eo l i j)[i]?=some a:=by grind
    have gj:(Eo l i j)[j]?=some b:=by grind
    have gk:∀ k,k≠i->k≠j->(Eo l i j)[k]?=l[k]?:=λk k1 k2=>by grind
    refine ih j n _ (by omega) (by grind[EX]) (λk hk X8 ck=>?_) (λk hk X8 ck hj0=>?_)
    ·by_cases e1:k=j
     ·subst e1;rw[iy];intro x y hx hy;grind
     ·by_cases e2:(k-1) / 2=i
      ·rw[e2];intro x y hx hy;rw[gk k (by omega) e1]at hx;rw[gi]at hy;injection hy with hy;subst hy
       exact rX k hk X8 e2 x a hx ha
      ·by_cases e3:k=i
       ·subst e3;intro x y hx hy;rw[gi]at hx;rw[gk _ (by omega) (by omega)]at hy;injection hx with hx;subst hx
        exact h2 j (by omega) k2 iy (by omega) a y ha hy
       ·intro x y hx hy;rw[gk k e3 e1]at hx;rw[gk _ e2 ck]at hy;exact h1 k hk X8 e2 x y hx hy
    ·rw[iy];intro x y hx hy;rw[gk k (by omega) (by omega)]at hx;rw[gi]at hy;injection hy with hy;subst hy
     exact h1 k hk X8 (by omega) x a hx (by grind)
theorem nV{l:List α}(h:Heap lt l){x:α}(hx:l[0]?=some x):∀ (k:Nat) (y:α),l[k]?=some y->lt y x=false:=by
 intro k
 induction k using Nat.strongRecOn with
 | ind k ih =>
  intro y hy
  by_cases hk:k=0
  ·grind
  ·have AP:(k-1) / 2<l.length:=by
    grind
   obtain⟨z,hz⟩:=get_some AP;exact Qc x z y (ih _ (by omega) z hz) (h k (by omega) y z hy hz)
def Tt{l:List α}(h:Heap lt l)(x:α):Heap lt (Xr lt l x)/\(Xr lt l x).Perm (x::l):=by
 have hl:l.length<(l++[x]).length:=by simp
 constructor
 ·refine ym has Qc _ _ _ (Nat.le_refl _) hl (λk hk X7 a b ha hb=>?_) (λk hk X7 _ a b ha _=>?_)
  ·have gn:k<l.length:=by
    grind
   rw[List.getElem?_append_left gn]at ha;rw[List.getElem?_append_left (by omega)]at hb;exact h k hk a b ha hb
  grind
 ·exact(mz _ _ _ hl).trans (List.perm_append_singleton x l)
def R8{l:List α}(h:Heap lt l){x:α}(hx:l[0]?=some x):(LL lt l)[l.length-1]?=some x/\Heap lt ((LL lt l).take (l.length-1))/\l.Perm (x::(LL lt l).take (l.length-1))/\(LL lt l).length=l.length/\∀ y∈l,lt y x=false:=by
 have hl:0<l.length:=by grind
 obtain⟨p1,p2⟩:=YA (lt:=lt) (l.length-1) 0 (l.length-1) (Eo l 0 (l.length-1)) (by grind[EX]);have hg:=Sl (l:=l) (i:=0) (j:=l.length-1) hl (by omega);have e1:(LL lt l)[l.length-1]?=some x:=by
  show (Fo _ _ _ _ _)[_]?=_;grind
 have e4:(LL lt l).length=l.length:=by
  show (Fo _ _ _ _ _).length=_;rw[Wb,EX]
 refine⟨e1,λk hk a b ha hb=>?_,?_,e4,λy hy=>?_⟩
 ·have gn:k<l.length-1:=by
   grind
  rw[List.getElem?_take,if_pos gn]at ha;rw[List.getElem?_take,if_pos (by omega)]at hb;refine nt has Qc (l.length-1) 0 (l.length-1) (Eo l 0 (l.length-1)) (by omega) (by grind) (λk hk X8 yW a b ha hb=>?_) (λk _ _ _ h0=>by omega) k hk gn a b ha hb;rw[hg,if_neg (by omega),if_neg (by omega)]at ha;rw[hg,if_neg (by omega),if_neg yW]at hb;exact h k hk a b ha hb
 ·have e2:LL lt l=(LL lt l).take (l.length-1)++[x]:=by
   grind[List.take_append_drop,List.drop_eq_getElem_cons]
  have e3:(LL lt l).Perm l:=p1.trans (swap_perm hl (by omega));refine e3.symm.trans ?_;grind[List.perm_append_singleton]
 grind[List.mem_iff_getElem?,nV]
end
structure Srch where
 n:Nat
 cost:Nat->Int
 gv:Nat->Ac
 tG:List Nat->Bool
def Bj(c:Nat->Int):List Nat->Int
 |[]=>0
 | i::s=>c i+Bj c s
def isSet(P:Srch)(S:List Nat):Prop:=S.Pairwise (· < ·)/\(∀ i∈S,i<P.n)/\(S.map P.gv).Nodup
def again(P:Srch)(S:List Nat)(i:Nat):Bool:=S.any λk=>decide (P.gv k=P.gv i)
def prune(P:Srch)(S:List Nat):Option (List Nat)->Bool
 |none=>false
 |some B=>decide (Bj P.cost B<Bj P.cost S)||(decide (Bj P.cost S=Bj P.cost B)&&decide (B.length<=S.length))
def goN(P:Srch):Nat->List Nat->Option (List Nat)->Option (List Nat)
 | 0,_,b=>b
 | f+1,S,b=>goN P f S (if again P S (P.n-(f+1)) then b else if prune P (S++[P.n-(f+1)]) b then b else if P.tG (S++[P.n-(f+1)]) then some (S++[P.n-(f+1)]) else goN P f (S++[P.n-(f+1)]) b)
def N6(P:Srch)(f:Nat)(S:List Nat)(b:Option (List Nat)):Option (List Nat):=if prune P S b then b else if P.tG S then some S else goN P f S b
def best(P:Srch):Option (List Nat):=N6 P P.n [] none
def H9(c:Nat->Int):∀ S T:List Nat,Bj c (S++T)=Bj c S+Bj c T
 |[],T=>by simp[Bj]
 | i::S,T=>by simp only[List.cons_append,Bj,H9 c S T];omega
section
variable {c:Nat->Int} {S T U:List Nat}
end
theorem LU{P:Srch}{S:List Nat}{i:Nat}:again P S i=true↔P.gv i∈S.map P.gv:=by simp[again]
structure Cand where
 cost:Int
 set:Nat
def popc(x:Nat):Nat:=((List.range 64).filter λi=>x.testBit i).length
def lexB(x y:Nat):Bool:=match (List.range 64).find? (λi=>x.testBit i !=y.testBit i) with
 |some i=>x.testBit i
 |none=>false
def AU(c d:Cand):Bool:=if c.cost=d.cost then (if popc c.set=popc d.set then lexB c.set d.set else decide (popc c.set<popc d.set)) else decide (c.cost<d.cost)
def K8(x y:Nat):Prop:=∃ k,k<64/\x.testBit k=true/\y.testBit k=false/\∀ j,j<k->x.testBit j=y.testBit j
def Wt{p:Nat->Bool}:∀ {n i:Nat},(List.range n).find? p=some i->i<n/\p i=true/\∀ j,j<i->p j=false:=by simp_all
theorem WW(x y:Nat):lexB x y=true↔K8 x y:=by
 unfold lexB;split
 ·rename_i i h;obtain⟨h1,h2,h3⟩:=Wt h;constructor
  ·intro hx;refine⟨i,h1,hx,?_,λj hj=>by grind⟩;grind
  ·rintro⟨k,k1,k2,k3,k4⟩;grind
 ·rename_i h;constructor
  ·grind
  ·rintro⟨k,k1,k2,k3,_⟩;grind
def Vu{x y:Nat}:lexB x y=false↔¬ K8 x y:=by grind[WW]
def K8.asymm{x y:Nat}:K8 x y->¬ K8 y x:=by
 rintro⟨k,k1,k2,k3,k4⟩ ⟨m,m1,m2,m3,m4⟩;grind
def ir(x y:Nat):K8 x y\/K8 y x\/∀ j,j<64->x.testBit j=y.testBit j:=by
 cases h:(List.range 64).find? (λi=>x.testBit i !=y.testBit i) with
 |none =>
  grind
 |some i =>
  obtain⟨h1,h2,h3⟩:=Wt h;have h4:∀ j,j<i->x.testBit j=y.testBit j:=λj hj=>by grind
  cases hx:x.testBit i with
  | true =>
   cases hy:y.testBit i with
   | true=>rw[hx,hy]at h2;simp at h2
   | false=>exact .inl ⟨i,h1,hx,hy,h4⟩
  | false =>
   cases hy:y.testBit i with
   | false=>rw[hx,hy]at h2;simp at h2
   | true=>exact .inr (.inl ⟨i,h1,hy,hx,λj hj=>(h4 j hj).symm⟩)
def K8.trans{x y z:Nat}:K8 x y->K8 y z->K8 x z:=by
 rintro⟨k,k1,k2,k3,k4⟩ ⟨m,m1,m2,m3,m4⟩;rcases Nat.lt_trichotomy k m with h|h|h
 ·exact⟨k,k1,k2,by rw[<- m4 k h];exact k3,λj hj=>(k4 j hj).trans (m4 j (by omega))⟩
 ·subst h;rw[m2]at k3;cases k3
 ·exact⟨m,m1,by rw[k4 m h];exact m2,m3,λj hj=>(k4 j (by omega)).trans (m4 j hj)⟩
theorem K8.congr{x y z:Nat}(h:∀ j,j<64->y.testBit j=z.testBit j):K8 x y↔K8 x z:=by
 constructor<;>rintro⟨k,k1,k2,k3,k4⟩
 ·exact⟨k,k1,k2,by grind,λj hj=>(k4 j hj).trans (h j (by omega))⟩
 ·exact⟨k,k1,k2,by grind,λj hj=>(k4 j hj).trans (h j (by omega)).symm⟩
theorem si{a b c:Nat}(h1:¬ K8 b a)(h2:¬ K8 c b):¬ K8 c a:=by
 intro h;rcases ir b a with h3|h3|h3
 ·grind
 ·exact h2 (h.trans h3)
 grind[K8.congr]
def Hy(a b:Cand)(h:AU a b=true):AU b a=false:=by
 unfold AU at h ⊢
 by_cases h1:a.cost=b.cost
 ·rw[if_pos h1]at h;rw[if_pos h1.symm]
  by_cases h2:popc a.set=popc b.set
  ·rw[if_pos h2]at h;rw[if_pos h2.symm,Vu];exact((WW _ _).1 h).asymm
  grind
 grind
theorem SC{a b:Cand}:AU b a=false↔a.cost<=b.cost/\(a.cost=b.cost->popc a.set<=popc b.set/\(popc a.set=popc b.set->¬ K8 b.set a.set)):=by
 unfold AU
 by_cases h1:b.cost=a.cost
 ·rw[if_pos h1]
  by_cases h2:popc b.set=popc a.set
  ·simp_all[Vu]
  grind
 grind
def Hz(a b c:Cand)(h1:AU b a=false)(h2:AU c b=false):AU c a=false:=by grind[SC,si]
def code:List Nat->Nat
 |[]=>0
 | i::s=>2 ^ i ||| code s
def EP:∀ (S:List Nat) (j:Nat),(code S).testBit j=decide (j∈S)
 |[],j=>by simp[code]
 | i::s,j=>by
  simp only[code,Nat.testBit_or,EP s j,Nat.testBit_two_pow,mem_cons]
  by_cases h:i=j
  ·subst h;simp
  ·have h':¬ j=i:=λe=>h e.symm
   simp[h,h']
def Pl:∀ {S:List Nat} {n:Nat},(∀ i∈S,i<n)->code S<2 ^ n
 |[],n,_=>by grind[code]
 | i::s,n,h=>Nat.or_lt_two_pow (Nat.pow_lt_pow_right (by omega) (h i (by simp))) (Pl λj hj=>h j (by grind))
def Yu:∀ (S:List Nat) (i:Nat),code (S++[i])=code S ||| 2 ^ i
 |[],i=>by simp[code]
 | j::s,i=>by simp only[List.cons_append,code,Yu s i,Nat.or_assoc]
def cK:∀ {S T:List Nat},S.Pairwise (· < ·)->T.Pairwise (· < ·)->(∀ x,x∈S↔x∈T)->S=T
 |[],[],_,_,_=>rfl
 |[],j::t,_,_,h=>by have:=(h j).2 (by simp);cases this
 | i::s,[],_,_,h=>by have:=(h i).1 (by simp);cases this
 | i::s,j::t,hs,ht,h=>by
  have br:=pairwise_cons.1 hs;have ht':=pairwise_cons.1 ht;have UN:i=j:=by
   have h1:=(h i).1 (by simp);have h2:=(h j).2 (by simp);rcases mem_cons.1 h1 with h1|h1
   ·exact h1
   rcases mem_cons.1 h2 with h2|h2
   ·exact h2.symm
   have:=ht'.1 i h1;have:=br.1 j h2;omega
  subst UN;rw[cK br.2 ht'.2 λx=>?_];constructor
  ·intro hx;have h1:=br.1 x hx;rcases mem_cons.1 ((h x).1 (by simp[hx])) with e|e
   ·omega
   ·exact e
  ·intro hx;have h1:=ht'.1 x hx;rcases mem_cons.1 ((h x).2 (by simp[hx])) with e|e
   ·omega
   ·exact e
def VQ(x:Nat):List Nat:=(List.range 64).filter λi=>x.testBit i
def mS(x:Nat):(VQ x).Pairwise (· < ·):=List.pairwise_lt_range.filter _
def Kz{S:List Nat}(hs:S.Pairwise (· < ·))(hn:∀ i∈S,i<64):VQ (code S)=S :=
 cK (mS _) hs λx=>by simp_all[VQ,EP]
def Dv(P:Srch)(S:List Nat):Cand:=⟨Bj P.cost S,code S⟩
def kids(P:Srch)(S:List Nat):Nat->List Cand
 | 0=>[]
 | f+1=>(if again P S (P.n-(f+1)) then [] else [Dv P (S++[P.n-(f+1)])])++kids P S f
def Jd(h:List Cand):List Cand->List Cand
 |[]=>h
 | c::l=>Jd (Xr AU h c) l
def Ke:∀ (l h:List Cand),Heap AU h->Heap AU (Jd h l)/\(Jd h l).Perm (l++h)
 |[],h,hh=>⟨hh,.refl _⟩
 | c::l,h,hh=>by
  obtain⟨a,b⟩:=Tt Hy Hz hh c;obtain⟨x,y⟩:=Ke l _ a;exact⟨x,y.trans ((List.Perm.append_left l b).trans List.perm_middle)⟩
def Em(S:List Nat):Nat:=S.getLast?.elim 0 (· + 1)
def ek:∀ {S:List Nat},S.Pairwise (· < ·)->∀ i∈S,i<Em S:=by
 intro S hp i hi;unfold Em;cases h:S.getLast? with
 |none=>grind
 |some k =>
  obtain⟨T,rfl⟩:=List.getLast?_eq_some_iff.1 h;grind
def Hd:Nat->Nat->Nat
 | 0,_=>0
 | n+1,x=>x%2+Hd n (x / 2)
theorem Fh:∀ n x,Hd n x<=n
 | 0,_=>Nat.le_refl _
 | n+1,x=>by
  have:=Fh n (x / 2);simp only[Hd];omega
def O1:∀ (a b x:Nat),Hd (a+b) x=Hd a x+Hd b (x / 2 ^ a)
 | 0,b,x=>by simp[Hd]
 | a+1,b,x=>by
  have e:a+1+b=(a+b)+1:=by omega
  rw[e];simp only[Hd,O1 a b (x / 2),Nat.div_div_eq_div_mul];rw[Nat.pow_succ,Nat.mul_comm 2];omega
def Ur:∀ n x,Hd n x=((List.range n).filter λi=>x.testBit i).length
 | 0,_=>rfl
 | n+1,x=>by
  rw[O1 n 1 x,Ur n x,List.range_succ,List.filter_append,List.length_append];congr 1;simp[Hd,Nat.add_zero,List.filter_cons,List.filter_nil];grind
def Acb(x:Nat):popc x=Hd 64 x:=(Ur 64 x).symm
def mk(k c:Nat):Nat->Nat
 | 0=>0
 | n+1=>2 ^ k*mk k c n+c
def RX{k c:Nat}(hc:c<2 ^ k)(a n:Nat):a &&& mk k c (n+1)=2 ^ k*(a / 2 ^ k &&& mk k c n)+(a%2 ^ k &&& c):=by
 have h:=Nat.div_add_mod (a &&& mk k c (n+1)) (2 ^ k);rw[Nat.and_div_two_pow,Nat.and_mod_two_pow]at h;have e1:mk k c (n+1) / 2 ^ k=mk k c n:=by simp_all[mk,Nat.mul_add_div,Nat.pow_pos]
 have e2:mk k c (n+1)%2 ^ k=c:=by grind[mk,Nat.mul_add_mod,Nat.mod_eq_of_lt]
 rw[e1,e2]at h;exact h.symm
def d1:Nat->Nat->Nat
 | 0,_=>0
 | n+1,x=>4*d1 n (x / 4)+Hd 2 x
def d2:Nat->Nat->Nat
 | 0,_=>0
 | n+1,x=>16*d2 n (x / 16)+Hd 4 x
def d3:Nat->Nat->Nat
 | 0,_=>0
 | n+1,x=>256*d3 n (x / 256)+Hd 8 x
def yD:∀ n x,d1 n x<4 ^ n
 | 0,_=>by simp[d1]
 | n+1,x=>by
  have:=yD n (x / 4);have:=Fh 2 x;simp only[d1,Nat.pow_succ];omega
def yE:∀ n x,15*d2 n x+4<=4*16 ^ n
 | 0,_=>by simp[d2]
 | n+1,x=>by
  have:=yE n (x / 16);have:=Fh 4 x;simp only[d2,Nat.pow_succ];omega
def AdL(a:Nat):a &&& 1=a%2:=Nat.and_one_is_mod a
def AdN(a:Nat):a &&& 3=a%4:=Nat.and_two_pow_sub_one_eq_mod a 2
def AdM(a:Nat):a &&& 15=a%16:=Nat.and_two_pow_sub_one_eq_mod a 4
def sw1:∀ n x,(x / 2 &&& mk 2 1 n)+(x &&& mk 2 1 n)=d1 n x
 | 0,x=>by simp[mk,d1]
 | n+1,x=>by
  rw[RX (by decide),RX (by decide),AdL,AdL];have ih:=sw1 n (x / 4);simp only[d1,Hd,<- ih];have e:x / 2 / 2 ^ 2=x / 4 / 2:=by omega
  rw[e];have e2:x / 2 ^ 2=x / 4:=rfl;rw[e2];omega
def p4(x:Nat):Hd 4 x=Hd 2 x+Hd 2 (x / 4):=O1 2 2 x
def p8(x:Nat):Hd 8 x=Hd 4 x+Hd 4 (x / 16):=O1 4 4 x
def sw2:∀ n x,(d1 (2*n) x / 4 &&& mk 4 3 n)+(d1 (2*n) x &&& mk 4 3 n)=d2 n x
 | 0,x=>by simp[mk,d2]
 | n+1,x=>by
  rw[RX (by decide),RX (by decide),AdN,AdN];have ih:=sw2 n (x / 16);have e0:2*(n+1)=2*n+1+1:=by omega
  have e3:x / 4 / 4=x / 16:=by omega
  simp only[d2,p4,<- ih,e0,d1,e3];have b0:=Fh 2 x;have b1:=Fh 2 (x / 4);generalize d1 (2*n) (x / 16)=Y;generalize Hd 2 x=p at *;generalize Hd 2 (x / 4)=q at *;have e4:(4*(4*Y+q)+p) / 4 / 2 ^ 4=Y / 4:=by omega
  have e5:(4*(4*Y+q)+p) / 2 ^ 4=Y:=by omega
  rw[e4,e5];omega
def zZ(n x:Nat):d2 n x%16<=4:=by cases n<;>grind[d2,Fh]
def sw3:∀ n x,(d2 (2*n) x / 16+d2 (2*n) x) &&& mk 8 15 n=d3 n x
 | 0,x=>by simp[mk,d3]
 | n+1,x=>by
  rw[RX (by decide),AdM];have ih:=sw3 n (x / 256);have e0:2*(n+1)=2*n+1+1:=by omega
  have e3:x / 16 / 16=x / 256:=by omega
  simp only[d3,p8,<- ih,e0,d2,e3];have b0:=Fh 4 x;have b1:=Fh 4 (x / 16);have b2:=zZ (2*n) (x / 256);generalize d2 (2*n) (x / 256)=Y at *;generalize Hd 4 x=p at *;generalize Hd 4 (x / 16)=q at *;have e4:((16*(16*Y+q)+p) / 16+(16*(16*Y+q)+p)) / 2 ^ 8=Y / 16+Y:=by omega
  have e5:((16*(16*Y+q)+p) / 16+(16*(16*Y+q)+p))%2 ^ 8%16=p+q:=by omega
  rw[e4,e5]
def divq{n d q r:Nat}(h:n=d*q+r)(hr:r<d):n / d=q:=by rw[h,Nat.mul_add_div (by omega),Nat.div_eq_of_lt hr,Nat.add_zero]
def w1{A1 A2 A3 p0 p1 p2 a b:Nat}(ha:a=256*A1+p0)(h1:A1=256*A2+p1)(h2:A2=256*A3+p2)(hb:b=a+A1):b=65536*(A2+A3)+(256*(p1+p2)+p0+p1):=by omega
def w2{A2 A3 A4 A5 p2 p3 p4:Nat}(h2:A2=256*A3+p2)(h3:A3=256*A4+p3)(h4:A4=256*A5+p4):A2+A3=65536*(A4+A5)+(256*(p3+p4)+p2+p3):=by omega
def w3{X Y b c p0 p1 p2 r:Nat}(hb:b=65536*X+(256*(p1+p2)+p0+p1))(hc:c=b+X)(e3:X=65536*Y+r):c=65536*(X+Y)+(256*(p1+p2)+p0+p1+r):=by omega
def w4{X Y Z r s:Nat}(e3:X=65536*Y+r)(e4:Y=65536*Z+s):X+Y=65536*(Y+Z)+(r+s):=by omega
def w5{X Y A6 p0 p1 p2 p3 p4 p5 p6 p7 c:Nat}(e5:c=65536*X+(256*(p1+p2)+p0+p1+(256*(p3+p4)+p2+p3)))(e4:Y=65536*(A6+p7)+(256*(p5+p6)+p4+p5))(h6:A6=256*p7+p6) :
 c+(Y+(A6+p7))=128*(512*X+2*(p1+p2)+2*(p3+p4)+512*(A6+p7)+2*(p5+p6)+2*p7)+(p0+p1+p2+p3+p4+p5+p6+p7):=by omega
def w6{A B p m:Nat}(h:A=256*B+p)(hp:p<=8)(hB:B<=m):A<=256*m+8:=by omega
def AiC{p0 p1 p2 p3 p4 p5 p6 p7 A1 A2 A3 A4 A5 A6 a b c:Nat}(b0:p0<=8)(b1:p1<=8)(b2:p2<=8)(b3:p3<=8)(b4:p4<=8)(b5:p5<=8)(b6:p6<=8)(b7:p7<=8)
 (ha:a=256*A1+p0) (h1:A1=256*A2+p1) (h2:A2=256*A3+p2) (h3:A3=256*A4+p3) (h4:A4=256*A5+p4) (h5:A5=256*A6+p5) (h6:A6=256*p7+p6) (hb:b=a+a / 256) (hc:c=b+b / 65536) :
 (c+c / 4294967296)%128=p0+p1+p2+p3+p4+p5+p6+p7/\a<9223372036854775808/\b<9223372036854775808/\c<9223372036854775808/\c+c / 4294967296<9223372036854775808:=by
 have r1:256*(p1+p2)+p0+p1<65536:=by omega
 have r2:256*(p1+p2)+p0+p1+(256*(p3+p4)+p2+p3)<65536:=by clear ha h1 h2 h3 h4 h5 h6 hb hc;omega
 have r3:256*(p3+p4)+p2+p3+(256*(p5+p6)+p4+p5)<65536:=by clear ha h1 h2 h3 h4 h5 h6 hb hc;omega
 have r4:p0+p1+p2+p3+p4+p5+p6+p7<128:=by clear ha h1 h2 h3 h4 h5 h6 hb hc;omega
 have k6:=w6 h6 b6 b7;have k5:=w6 h5 b5 k6;have k4:=w6 h4 b4 k5;have k3:=w6 h3 b3 k4;have k2:=w6 h2 b2 k3;have k1:=w6 h1 b1 k2;have k0:=w6 ha b0 k1;have e1:a / 256=A1:=divq ha (Nat.lt_of_le_of_lt b0 (by decide));rw[e1]at hb;have Ss:=w1 ha h1 h2 hb;have e2:b / 65536=A2+A3:=divq Ss r1;rw[e2]at hc;have e3:=w2 h2 h3 h4;have e4:=w2 h4 h5 h6;have e5:=w3 Ss hc e3;have e6:c / 65536=(A2+A3)+(A4+A5):=divq e5 r2;have e8:=w4 e3 e4;have e7:c / 4294967296=(A4+A5)+(A6+p7):=by grind
 rw[e7];have e9:=w5 e5 e4 h6;clear e1 e2 e3 e4 e5 e6 e7 e8 Ss ha h1 h2 h3 h4 h5 h6 r1 r2 r3;refine⟨?_,by omega,by omega,by omega,by omega⟩;omega
def sw4(x a b c:Nat)(ha:a=d3 8 x)(hb:b=a+a / 256)(hc:c=b+b / 65536):(c+c / 4294967296)%128=popc x/\a<9223372036854775808/\b<9223372036854775808/\c<9223372036854775808/\c+c / 4294967296<9223372036854775808:=by
 have h:popc x=Hd 8 x+Hd 8 (x / 256)+Hd 8 (x / 256 / 256)+Hd 8 (x / 256 / 256 / 256)+Hd 8 (x / 256 / 256 / 256 / 256)+Hd 8 (x / 256 / 256 / 256 / 256 / 256)+Hd 8 (x / 256 / 256 / 256 / 256 / 256 / 256)+Hd 8 (x / 256 / 256 / 256 / 256 / 256 / 256 / 256):=by
  rw[Acb,show (64:Nat)=8+(8+(8+(8+(8+(8+(8+8)))))) from rfl];simp only[O1,Nat.reducePow];omega
 rw[h];simp[d3]at ha;exact AiC (Fh 8 _) (Fh 8 _) (Fh 8 _) (Fh 8 _) (Fh 8 _) (Fh 8 _) (Fh 8 _) (Fh 8 _) ha rfl rfl rfl rfl rfl rfl hb hc
@[reducible] def U(n:Nat):AV:=.v (.int .u64 n)
theorem Jf(x k j:Nat)(h:2 ^ min k 64=j):((x:Nat):Int).fdiv (2 ^ min k 64)=((x / j:Nat):Int):=by
 rw[Int.fdiv_eq_ediv_of_nonneg _ (Int.pow_nonneg (by omega)),<- h];simp
def K7{n:Nat}(h:n<18446744073709551616):IntKind.u64.wrap (n:Int)=(n:Int):=mD _ (by omega) (by omega)
def Vn(x:Nat)(hx:x<18446744073709551616):Ad C0 325 [U x] [] (I (popc x)) []:=by
 have e1:(6148914691236517205:Int)=((mk 2 1 32:Nat):Int):=by decide
 have e2:(3689348814741910323:Int)=((mk 4 3 16:Nat):Int):=by decide
 have e3:(1085102592571150095:Int)=((mk 8 15 8:Nat):Int):=by decide
 have l1:=yD 32 x;have l2:=yE 16 x;have h1:=sw1 32 x;have h2:=sw2 16 x;have h3:=sw3 8 x;refine Ad.go f325 ?_;unfold f325;simp(disch:=omega)only[go_sem];have s1:IntKind.u64.wrap (bits BinOp.and IntKind.u64 ((x:Int).fdiv (2 ^ min 1 64)) 6148914691236517205+bits BinOp.and IntKind.u64 (x:Int) 6148914691236517205)=((d1 32 x:Nat):Int):=by rw[Jf x 1 2 rfl,e1,bits_and_u64_nat _ _ (by omega) (by decide),bits_and_u64_nat _ _ hx (by decide),<- natCast_add,h1,K7 (by omega)]
 rw[s1];generalize d1 32 x=y at *;have s2:IntKind.u64.wrap (bits BinOp.and IntKind.u64 ((y:Int).fdiv (2 ^ min 2 64)) 3689348814741910323+bits BinOp.and IntKind.u64 (y:Int) 3689348814741910323)=((d2 16 x:Nat):Int):=by rw[Jf y 2 4 rfl,e2,bits_and_u64_nat _ _ (by omega) (by decide),bits_and_u64_nat _ _ (by omega) (by decide),<- natCast_add,h2,K7 (by omega)]
 rw[s2];generalize d2 16 x=z at *;have s3:bits BinOp.and IntKind.u64 (IntKind.u64.wrap ((z:Int).fdiv (2 ^ min 4 64)+(z:Int))) 1085102592571150095=((d3 8 x:Nat):Int):=by rw[Jf z 4 16 rfl,<- natCast_add,K7 (by omega),e3,bits_and_u64_nat _ _ (by omega) (by decide),h3]
 rw[s3];obtain⟨k1,k2,k3,k4,k5⟩:=sw4 x (d3 8 x) _ _ rfl rfl rfl;generalize d3 8 x=a at *;have s4:IntKind.u64.wrap ((a:Int)+(a:Int).fdiv (2 ^ min 8 64))=((a+a / 256:Nat):Int):=by rw[Jf a 8 256 rfl,<- natCast_add,K7 (by omega)]
 rw[s4];generalize a+a / 256=b at *;have s5:IntKind.u64.wrap ((b:Int)+(b:Int).fdiv (2 ^ min 16 64))=((b+b / 65536:Nat):Int):=by rw[Jf b 16 65536 rfl,<- natCast_add,K7 (by omega)]
 rw[s5];generalize b+b / 65536=c at *;have s6:IntKind.u64.wrap ((c:Int)+(c:Int).fdiv (2 ^ min 32 64))=((c+c / 4294967296:Nat):Int):=by rw[Jf c 32 4294967296 rfl,<- natCast_add,K7 (by omega)]
 rw[s6];generalize c+c / 4294967296=d at *;rw[wrap64 _ (by omega) (by omega),i64_and127];refine CT _ ?_;simp(disch:=omega)only[go_sem];exact .int (by omega)
def z6{k:Nat}(hk:k<64):u7[k]?=some (.v (.int .u8 ((Go.Lib.deBruijn64tab.getD k 0:Nat):Int))):=by
 have:Go.Lib.deBruijn64tab.length=64:=by decide
 unfold u7;rw[gm,gE (by omega)];simp[List.getD_eq_getElem?_getD,gE (by omega:k<Go.Lib.deBruijn64tab.length)]
def AaO(x:Nat)(hx:x<18446744073709551616):Ad C0 96 [U x] [] (I (Go.Lib.ctz 64 x)) []:=by
 refine Ad.go f96 ?_;unfold f96;refine gO ?_;refine⟨λh=>?_,λh=>?_⟩
 ·have h0:x=0:=by simp at h;omega
  subst h0;refine Al _ ?_;exact .int (by decide)
 ·have h0:x≠0:=λe=>by subst e;simp at h
  have K4:(2:Nat) ^ 64=18446744073709551616:=by decide
  obtain⟨k1,k2⟩:=Go.Lib.lowest_bit 64 x h0 (by rw[K4];exact hx);rw[K4]at k1;obtain⟨k3,k4⟩:=Go.Lib.deBruijn64_at _ k2;generalize Go.Lib.ctz 64 x=k at *;have s1:IntKind.u64.wrap (0-(x:Int))=((18446744073709551616-x:Nat):Int):=by rw[IntKind.wrap_u64];omega
  rw[s1,bits_and_u64_nat _ _ hx (by omega),k1];have s2:IntKind.u64.wrap (((2 ^ k:Nat):Int)*285870213051353865)=((2 ^ k*285870213051353865%18446744073709551616:Nat):Int):=by rw[IntKind.wrap_u64];omega
  rw[s2,Jf _ 58 288230376151711744 rfl];generalize 2 ^ k*285870213051353865%18446744073709551616 / 288230376151711744=m at *;have hl:u7.length=64:=by decide
  have hg:=z6 k3;have hd:(u7.drop m).take 1=[.v (.int .u8 ((k:Nat):Int))]:=by
   rw[List.drop_eq_getElem_cons (by omega)];rw[gE (by omega)]at hg;injection hg with hg
   rw[hg,k4];rfl
  rw[if_pos ⟨by omega,by omega⟩,Int.toNat_natCast,mul_one];have hld:W1 C0 5 (.ep .no 0 u7 m) []=some (.v (.int .u8 ((k:Nat):Int))):=by
   rw[ov,F.ag5,F.sz5];simp only[NS];rw[if_pos (by omega),hd];rfl
  simp only[jG,td,xQ,Aag,xB,if_true,Option.getD_some,hld];refine gO ?_;exact AQ _
def qp{i:Nat}{s:List Nat}(hs:(i::s).Pairwise (· < ·))(hn:∀ j∈i::s,j<64):Go.Lib.ctz 64 (code (i::s))=i/\code (i::s) &&& (code (i::s)-1)=code s:=by
 have br:=pairwise_cons.1 hs;have hb:=EP (i::s);have AP:code (i::s)<2 ^ 64:=Pl hn;have h0:code (i::s)≠0:=λe=>by
  have:=hb i;rw[e]at this;simp at this
 obtain⟨m,hm,hk⟩:=Go.Lib.ctzFrom_spec 64 _ (by omega) AP;have hc:Go.Lib.ctz 64 (code (i::s))=Go.Lib.ctzFrom 64 (code (i::s)):=by simp[Go.Lib.ctz,h0]
 rw[hc];generalize Go.Lib.ctzFrom 64 (code (i::s))=c at *;have e1:code (i::s)=2 ^ (c+1)*m+2 ^ c:=by rw[hm,Nat.mul_add,Nat.pow_succ,mul_one,Nat.mul_assoc]
 have p1:2 ^ c<2 ^ (c+1):=Nat.pow_lt_pow_right (by omega) (by omega);have hx:∀ j,(code (i::s)).testBit j=if j<c+1 then decide (c=j) else m.testBit (j-(c+1)):=λj=>by rw[e1,Nat.testBit_two_pow_mul_add m p1 j,Nat.testBit_two_pow]
 have hci:c=i:=by
  rcases Nat.lt_trichotomy c i with h|h|h
  ·have h1:=hx c;rw[hb c,if_pos (by omega)]at h1;simp only[decide_true,decide_eq_true_eq]at h1;rcases mem_cons.1 h1 with h2|h2
   ·omega
   ·have:=br.1 c h2;omega
  ·exact h
  ·have h1:=hx i;rw[hb i,if_pos (by omega)]at h1;simp at h1;omega
 refine⟨hci,Nat.eq_of_testBit_eq λj=>?_⟩;have e2:code (i::s)-1=2 ^ (c+1)*m+(2 ^ c-1):=by
  have:1<=2 ^ c:=Nat.pow_pos (by omega);omega
 rw[Nat.testBit_and,e2,Nat.testBit_two_pow_mul_add m (by omega) j,Nat.testBit_two_pow_sub_one,hx j,EP s j];have Mo:=hb j;rw[hx j]at Mo
 by_cases hj:j<c+1
 ·rw[if_pos hj,if_pos hj];have:¬ j∈s:=λh=>by have:=br.1 j h;omega
  by_cases hcj:c=j
  ·subst hcj;simp[this]
  ·simp[hcj,this]
 ·rw[if_neg hj,if_neg hj,Bool.and_self];rw[if_neg hj]at Mo;rw[Mo];have:¬ j=i:=by omega
  simp[this]
def Cand.c(x:Cand):List AV:=[I x.cost,U x.set]
@[reducible] def qi(l:List Cand):AV:=.sl .no 2 (l.map Cand.c)
attribute [go_sem] Cand.c
theorem sj{x y:Nat}(hx:x<18446744073709551616)(hy:y<18446744073709551616):(bits BinOp.and IntKind.u64 (bits BinOp.and IntKind.u64 (x:Int) (bits BinOp.xor IntKind.u64 (x:Int) (y:Int))) (IntKind.u64.wrap (0-bits BinOp.xor IntKind.u64 (x:Int) (y:Int))) !=0)=lexB x y:=by
 have K4:(2:Nat) ^ 64=18446744073709551616:=by decide
 have hd:x ^^^ y<18446744073709551616:=by rw[<- K4]at *;exact Nat.xor_lt_two_pow hx hy
 rw[bits_xor_u64_nat x y hx hy,bits_and_u64_nat x (x ^^^ y) hx hd];have a8:x &&& (x ^^^ y)<18446744073709551616:=Nat.lt_of_le_of_lt Nat.and_le_left hx
 by_cases h0:x ^^^ y=0
 ·have my:x=y:=by
   refine Nat.eq_of_testBit_eq λj=>?_
   have:=congrArg (λn=>n.testBit j) h0;simpa using this
  subst my;have:lexB x x=false:=Vu.2 λh=>h.asymm h
  rw[this,h0,Nat.and_zero];decide
 ·obtain⟨k1,k2⟩:=Go.Lib.lowest_bit 64 (x ^^^ y) h0 (by rw[K4];exact hd);obtain⟨m,hm,_⟩:=Go.Lib.ctzFrom_spec 64 (x ^^^ y) (by omega) (by rw[K4];exact hd);have hc:Go.Lib.ctz 64 (x ^^^ y)=Go.Lib.ctzFrom 64 (x ^^^ y):=by simp[Go.Lib.ctz,h0]
  rw[K4]at k1;rw[<- hc]at hm;generalize Go.Lib.ctz 64 (x ^^^ y)=k at *;have s1:IntKind.u64.wrap (0-((x ^^^ y:Nat):Int))=((18446744073709551616-(x ^^^ y):Nat):Int):=by rw[IntKind.wrap_u64];omega
  rw[s1,bits_and_u64_nat _ _ a8 (by omega),Nat.and_assoc,k1];have Aeu:∀ j,(x ^^^ y).testBit j=if j<k+1 then decide (k=j) else m.testBit (j-(k+1)):=λj=>by
   have e1:x ^^^ y=2 ^ (k+1)*m+2 ^ k:=by rw[hm,Nat.mul_add,Nat.pow_succ,mul_one,Nat.mul_assoc]
   rw[e1,Nat.testBit_two_pow_mul_add m (Nat.pow_lt_pow_right (by omega) (by omega)) j,Nat.testBit_two_pow]
  have CZ:x.testBit k≠y.testBit k:=by
   have:=Aeu k;rw[if_pos (by omega),Nat.testBit_xor]at this;intro h;rw[h]at this;simp at this
  have dG:∀ j,j<k->x.testBit j=y.testBit j:=λj hj=>by
   have:=Aeu j;rw[if_pos (by omega),Nat.testBit_xor]at this;have h2:¬ k=j:=by omega
   simpa [h2]using this
  have hand:x &&& 2 ^ k=if x.testBit k then 2 ^ k else 0:=by
   refine Nat.eq_of_testBit_eq λj=>?_
   rw[Nat.testBit_and,Nat.testBit_two_pow]
   by_cases ck:k=j
   ·subst ck;cases WH:x.testBit k<;>simp
   ·cases WH:x.testBit k<;>simp[ck,Nat.testBit_two_pow]
  rw[hand];cases WH:x.testBit k with
  | true =>
   have:lexB x y=true:=(WW x y).2 ⟨k,k2,WH,by rw[WH]at CZ;cases h:y.testBit k with|false=>rfl|true=>exact absurd h.symm CZ,dG⟩;rw[this];have:0<2 ^ k:=Nat.pow_pos (by omega);simp only[if_true,bne_iff_ne,ne_eq];omega
  | false =>
   have:lexB x y=false:=by
    rw[Vu];intro h;have:K8 y x:=⟨k,k2,by rw[WH]at CZ;cases h:y.testBit k with|true=>rfl|false=>exact absurd h.symm CZ,WH,λj hj=>(dG j hj).symm⟩;exact h.asymm this
   rw[this];rfl
def lq(c d:Cand)(hc:c.set<18446744073709551616)(hd:d.set<18446744073709551616):Ad C0 324 [.agg c.c,.agg d.c] [] (B (AU c d)) []:=by
 refine Ad.go f324 ?_;unfold f324;refine gO ?_;refine⟨λh=>?_,λh=>?_⟩
 ·refine Al _ ?_;have h2:¬ c.cost=d.cost:=by simpa using h
  exact .eq (by simp only[AU,if_neg h2])
 have h2:c.cost=d.cost:=by simpa using h
 refine Ay 5 [([],[2]),([],[18]),([],[19]),([],[3]),([],[21])] B6 ?_;refine gO ?_
 first|(refine Ab (Vn c.set hc) ?_)|(refine Ax (Vn c.set hc) ?_)
 refine gO ?_
 first|(refine Ab (Vn d.set hd) ?_)|(refine Ax (Vn d.set hd) ?_)
 refine gO ?_;refine⟨λh3=>?_,λh3=>?_⟩
 ·refine Al _ ?_;have h4:¬ popc c.set=popc d.set:=by intro e;rw[e]at h3;simp at h3
  exact .eq (by simp only[AU,if_pos h2,if_neg h4];congr 3;simp)
 ·refine Al _ ?_;have h4:popc c.set=popc d.set:=by
   have:((popc c.set:Nat):Int)=(popc d.set:Nat):=by simpa using h3
   omega
  exact .eq (by rw[sj hc hd];simp only[AU,if_pos h2,if_pos h4])
def ib(l:List Cand):Ad C0 47 [qi l] [] (I l.length) []:=by
 refine Ad.go f47 ?_;unfold f47;simp(disch:=omega)only[go_sem,length_map];exact AQ _
@[go_sem] theorem Aah{α:Type}(a:α):(∃ x,some a=some x)=True:=by simp
def P0(l:List Cand):Prop:=∀ c∈l,c.set<18446744073709551616
def P0.get{l:List Cand}(h:P0 l){i:Nat}{c:Cand}(hc:l[i]?=some c):c.set<18446744073709551616:=h c (mG hc)
def RE(l:List Cand)(i j:Nat)(hi:i<l.length)(hj:j<l.length)(hs:P0 l):Ad C0 320 [qi l,I i,I j] [] (B (Hl AU l i j)) []:=by
 obtain⟨a,ha⟩:=get_some hi;obtain⟨b,hb⟩:=get_some hj;refine Ad.go f320 ?_;unfold f320;refine gO ?_;refine Ay 8 [([],[0]),([],[1]),([],[7,8]),([],[9]),([],[0]),([],[2]),([],[11,12]),([],[13])] B6 ?_;simp(disch:=omega)only[go_sem,length_map,gm,ha,hb]
 first|(refine Ab (lq a b (hs.get ha) (hs.get hb)) ?_)|(refine Ax (lq a b (hs.get ha) (hs.get hb)) ?_)
 refine gO ?_;refine Al _ ?_;exact .eq (by rw[Mi ha hb])
@[reducible] def NW(l:List Cand):List AV:=[.sl (.own 0 0) 2 (l.map Cand.c)]
theorem wP(l:List Cand)(x:Cand)(hx:l[l.length-1]?=some x)(hn:l.length<=4294967296):Ad C0 321 [.ptr 63 0] [(63,NW l)] (.Kb 95 (.agg x.c)) [(63,NW (l.take (l.length-1)))]:=by
 have hl:l.length-1<l.length:=(List.getElem?_eq_some_iff.1 hx).1;have he:IntKind.i64.wrap ((l.length:Int)-1)=((l.length-1:Nat):Int):=by rw[wrap64 _ (by omega) (by omega)];omega
 refine Ad.go f321 ?_;unfold f321;simp(disch:=omega)only[go_sem,length_map,gm,hx,he];refine AY ⟨[(0,0)],[(63,63)],[]⟩ _ rfl ⟨rfl,rfl⟩ (by simp[lk]) ?_ ?_
 ·exact gI
 ·simp(disch:=omega)only[go_sem];exact .sl (by rw[List.map_take])
def wQ(l:List Cand)(x:Cand)(hl:l.length+1<=4294967296):Ad C0 322 [.ptr 63 0,.Kb 95 (.agg x.c)] [(63,NW l)] (.BC []) [(63,NW (l++[x]))]:=by
 refine Ad.go f322 ?_;unfold f322;refine gO ?_;refine Dj 1023 [(0,1,0),(1,2,0),(2,4,2),(3,8,4),(4,16,0),(5,32,16),(6,64,32),(7,128,72),(8,256,255),(9,512,511)] [0,1,2,16,3,17,6,18,48,7,19,49,14,22,50,112,15,23,51,113,30,54,114,31,55,115,62,118,63,119,126,127,254,255,511,1023] (λm=>⟨XE m [(1,4,.ptr 63 0),(2,5,.ptr 63 0),(4,6,.ptr 63 0),(8,7,(if m / 128%2=1 then .undef else .sl (.own 0 0) 2 (l.map Cand.c))),(16,8,.Kb 95 (.agg x.c)),(32,9,.agg x.c),(64,10,.sl (.own 640 0) 2 [x.c]),(128,11,.sl (.own 704 0) 2 ((l++[x]).map Cand.c)),(256,12,.ptr 63 0)]++[(0,.ptr 63 0),(1,.Kb 95 (.agg x.c))],[(63,[if m / 128%2=1 then (if m / 512%2=1 then .sl (.own 704 0) 2 ((l++[x]).map Cand.c) else .undef) else .sl (.own 0 0) 2 (l.map Cand.c)])]⟩) ?_ ?_ ?_ B6
 ·exact AK
 ·simp (maxSteps:=100000000)only[Di,Dh,D0,DZ,and_true,Nat.reduceDiv,Nat.reduceMod,Nat.reduceAnd,Nat.reduceEqDiff,reduceIte,true_and,and_false,false_and,and_self]
  repeat'(with_reducible refine And.intro ?_ ?_)
  all_goals simp(disch:=omega)only[go_sem,map_append,map_cons,map_nil]
  all_goals exact AT.Aq (by simp(disch:=omega)only[go_sem,map_append,map_cons,map_nil]) (by simp(disch:=omega)only[go_sem,map_append,map_cons,map_nil])
 refine gO ?_;refine AY ⟨[(704,0)],[(63,63)],[]⟩ _ rfl ⟨rfl,rfl⟩ (by simp[lk]) ?_ ?_
 ·exact gI
 ·simp(disch:=omega)only[go_sem,map_append]
end Go.Rd
