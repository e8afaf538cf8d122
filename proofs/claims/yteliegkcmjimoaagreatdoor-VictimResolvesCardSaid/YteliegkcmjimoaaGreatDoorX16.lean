/- part 16 of the proof -/
import Derived.Laws.Bits64b
import Derived.Laws.Bits128
import Derived.Test.YteliegkcmjimoaaGreatDoorX15
set_option linter.all false
open Go Go.Abs Go.Proofs
set_option maxRecDepth 100000
namespace Go.Rd
set_option maxHeartbeats 8000000
open List (append_assoc append_nil map_append mem_append mem_cons nodup_append pairwise_append pairwise_cons)
open Bool (and_eq_true or_eq_true)
open Nat (le_refl)
open Int (natCast_add)
open Tryz
@[reducible] def Mq:AV:=.v (.slice none 0 0)
theorem ij(s:WS)(p:Ac)(h:Iy s)(hg:BO s):Ad C0 63 [.agg s.c,.agg p.c] [] (.agg (BW s p).c) []:=by
 have dD:=h.nq;have Y4:=h.nn;refine Ad.go f63 ?_;unfold f63;refine gO ?_;refine AF (s.Aa) (λi=>⟨[(6,I i),(2,.ptr 128 0),(3,.ptr 192 0),(5,.ptr 320 0),(4,.ptr 256 0)],[(128,s.c),(192,p.c),(256,[Mq,Mq]),(320,[.sl (.own 2688 0) 8 (((s.Aa.take i).map λq=>Cd q p).map Queue.c),Mq])]⟩) (λi=>True) trivial ?_ ?_
 ·exact Ce
 rintro i ⟨hi,hP⟩ J hJ;refine gO ?_;refine Bo hi (λAP b hb Cg AX=>?_) λBa=>?_
 simp(disch:=omega)only[go_sem,hb]
 ·have ha:=h.aq b Cg;have hvb:=hg b Cg;have ID:i+1<=4294967296:=by omega
  have Aa1:min i s.Aa.length+1<=4294967296:=by omega
  have fin:∀ q,Cd b p=q->∀ st',AT ⟨C0,[]⟩ st' ⟨[(6,I (i+1:Nat)),(2,.ptr 128 0),(3,.ptr 192 0),(5,.ptr 320 0),(4,.ptr 256 0)],[(128,s.c),(192,p.c),(256,[Mq,Mq]),(320,[.sl (.own 2688 0) 8 (((s.Aa.take i).map λq=>Cd q p).map Queue.c++[q.c]),Mq])]⟩->J st':=λq hq st' h=>by
   refine hJ st' (i+1) ⟨by omega,trivial⟩ (by omega) ?_;have e:((s.Aa.take (i+1)).map λq=>Cd q p).map Queue.c=((s.Aa.take i).map λq=>Cd q p).map Queue.c++[q.c]:=by grind[List.take_add_one]
   rw[e];exact h
  clear hJ;refine Ab (Vc b p (by omega)) ?_;rw[yP hvb p];cases hp:Br (BU b) p
  ·refine gO ?_;refine fin b (by simp[Cd,hp]) _ (AT.Aq gI ?_);exact gI
  refine gO ?_;refine Ab (j7 b p ha) ?_;have e:Ge b p=(Ee (B8 b p),(Co (B8 b p)).2,0):=by grind[Ge]
  simp(disch:=omega)only[go_sem,e];refine fin { Ee (B8 b p) with gen:=b.gen } (by grind[Cd]) _ (AT.Aq gI ?_);exact gI
 subst Ba;rw[List.take_length];clear hJ;refine AF (s.Aw) (λi=>⟨[(11,I i),(2,.ptr 128 0),(3,.ptr 192 0),(5,.ptr 320 0),(4,.ptr 256 0)],[(128,s.c),(192,p.c),(256,[Mq,Mq]),(320,[.sl (.own 2688 0) 8 ((s.Aa.map λq=>Cd q p).map Queue.c),.sl (.own 4288 0) 9 ((E7 (s.Aw.take i) p).map Need.c)])]⟩) (λi=>True) trivial ?_ ?_
 ·exact Ce
 rintro i ⟨hi,hP⟩ J hJ;refine gO ?_;refine Bo hi (λAP b hb Cg AX=>?_) λBa=>?_
 refine Ay 7 [([],[2]),([],[51]),([],[11]),([],[52,53]),([],[54]),([],[55]),([],[3])] B6 ?_;simp(disch:=omega)only[go_sem,gm,hb]
 ·have ID:(E7 (s.Aw.take i) p).length+1<=4294967296:=by
   grind[E7]
  have e1:E7 (s.Aw.take (i+1)) p=if b.proc=p then E7 (s.Aw.take i) p else E7 (s.Aw.take i) p++[b]:=by grind[E7,List.take_add_one]
  by_cases CZ:b.proc=p
  ·rw[if_pos CZ]at e1;simp only[go_sem,CZ];refine hJ _ (i+1) ⟨by omega,trivial⟩ (by omega) (AT.Aq gI ?_);rw[e1];exact gI
  ·rw[if_neg CZ]at e1;simp only[go_sem,CZ];refine Wc (let o0:OT:=.done;let o1:OT:=.pick [(10,o0)];let o2:OT:=.pick [(9,o1)];let o3:OT:=.pick [(8,o2)];let o4:OT:=.pick [(7,o3)];let o5:OT:=.pick [(6,o4)];let o6:OT:=.pick [(5,o5)];let o7:OT:=.pick [(4,o6)];let o8:OT:=.pick [(3,o6)];let o9:OT:=.pick [(3,o7),(4,o8)];let gu:OT:=.pick [(2,o8)];let oL:OT:=.pick [(2,o9),(4,gu)];let xM:OT:=.pick [(1,o3)];let sN:OT:=.pick [(1,o4),(7,xM)];let o14:OT:=.pick [(1,o5),(6,sN)];let zo:OT:=.pick [(1,o6),(5,o14)];let o16:OT:=.pick [(1,o7),(4,zo)];let uJ:OT:=.pick [(1,o8),(3,zo)];let o18:OT:=.pick [(1,o9),(3,o16),(4,uJ)];let zq:OT:=.pick [(1,gu),(2,uJ)];let o20:OT:=.pick [(1,oL),(2,o18),(4,zq)];let zr:OT:=.pick [(0,xM)];let zt:OT:=.pick [(0,sN),(7,zr)];let zu:OT:=.pick [(0,o14),(6,zt)];let o24:OT:=.pick [(0,zo),(5,zu)];let o25:OT:=.pick [(0,o16),(4,o24)];let o26:OT:=.pick [(0,uJ),(3,o24)];let o27:OT:=.pick [(0,o18),(3,o25),(4,o26)];let o28:OT:=.pick [(0,zq),(2,o26)];let o29:OT:=.pick [(0,o20),(2,o27),(4,o28)];o29) B6 (by kernel_rfl) ?_;simp(disch:=omega)only[go_sem,gm,hb];have step:∀ st',AT ⟨C0,[]⟩ st' ⟨[(11,I (i+1:Nat)),(2,.ptr 128 0),(3,.ptr 192 0),(5,.ptr 320 0),(4,.ptr 256 0)],[(128,s.c),(192,p.c),(256,[Mq,Mq]),(320,[.sl (.own 2688 0) 8 ((s.Aa.map λq=>Cd q p).map Queue.c),.sl (.own 4288 0) 9 ((E7 (s.Aw.take i) p).map Need.c++[b.c])])]⟩->J st':=λst' h=>by
    refine hJ st' (i+1) ⟨by omega,trivial⟩ (by omega) ?_;rw[e1,map_append];exact h
   clear hJ
   repeat'(with_reducible refine And.intro ?_ ?_)
   all_goals(refine step _ (AT.Aq ?_ ?_))
   all_goals(simp(disch:=omega)only[go_sem])
 ·subst Ba;refine gO ?_;refine CU ⟨[],[],[2688,4288]⟩ _ ?_;simp only[go_sem,BW];exact .eq (by simp)
def HF{s:WS}(hv:AI s=true):LQ s=BJ s:=by simp[LQ,hv]
def DW{s:WS}(hv:AI s=true):GS s=Ca s:=by simp[GS,hv]
def Wk(s:WS)(h:Iy s):Ad C0 26 [.agg s.c] [] (.BC [AL (GS s).1,AL (GS s).2]) []:=by
 refine Ad.go f26 ?_;unfold f26;refine gO ?_;refine Ab (SO s h) ?_;cases hv:AI s
 ·have e:GS s=([],[]):=by simp[GS,hv]
  refine gS ?_;exact Gw _
 rw[DW hv];refine gO ?_;refine Ab (ie s h) ?_;rw[HF hv];refine gO ?_;refine Ao (α:=WS × List Ac) (λx=>⟨[(5,AL (BJ x.1)),(4,.sl (.own 1344 0) 3 (x.2.map Ac.c)),(1,.ptr 64 0)],[(64,x.1.c)]⟩) (λx=>Iy x.1/\AI x.1=true/\x.2.length+(Ag x.1).length<=1000000/\x.2++(Ca x.1).1=(Ca s).1/\(Ca x.1).2=(Ca s).2) (λx=>(Ag x.1).length) (s,[]) ⟨h,hv,by grind[De],rfl,rfl⟩ ?_ ?_
 ·exact AT.Aq gI gI
 rintro⟨t,gs⟩ ⟨i1,i2,i3,i4,i5⟩ J hJ
 replace i1:Iy t:=i1
 replace i2:AI t=true:=i2
 replace i3:gs.length+(Ag t).length<=1000000:=i3
 replace i4:gs++(Ca t).1=(Ca s).1:=i4
 replace i5:(Ca t).2=(Ca s).2:=i5
 have ig:=Be i2;rw[Sc ig]at i4 i5;cases hf:BJ t with
 | nil =>
  rw[hf]at i4 i5;have e0:(0<((0:Nat):Int))=False:=by simp
  refine gO ?_;refine Ab (Ow t i1) (gO ?_);refine CU ⟨[],[],[1344]⟩ _ ?_;refine gO ?_;simp at i4 i5;exact .eq (by grind)
 | cons p l =>
  simp[hf]at i4 i5;have hm:p∈Ag t:=DS (by grind);have hd:=D9 ig hm;have e0:(0<(l.length:Int)+1)=True:=eq_true (by omega);have ID:gs.length+1<=4294967296:=by omega
  refine gS ?_;refine Ay 4 [([],[1]),([],[5]),([],[23]),([],[24])] B6 (gO ?_)
  first|(refine Ab (ij t p i1 ig) ?_)|(refine Ax (ij t p i1 ig) ?_)
  refine gO ?_;have rE:=Ln i1 p;have hval:=NH i2 p;refine Ab (ie (BW t p) rE) ?_;rw[HF hval];refine gO ?_;refine hJ _ (BW t p,gs++[p]) ⟨rE,hval,by grind,by grind,i5⟩ hd (AT.Aq ?_ ?_)
  ·refine gO ?_;exact .sl (by simp[Ac.c])
  ·exact gI
def tE(q:Queue):Bool:=decide (q.holds.length<=12)&&decide (q.As.length<=12)&&decide (q.waits.length<=12)
def tF(s:WS):Bool:=decide (s.Aa.length<=12)&&decide (s.Aw.length<=12)&&s.Aa.all tE
def ZM{s:WS}(h:tF s=true):Iy s:=by
 simp only[tF,tE,and_eq_true,decide_eq_true_eq,List.all_eq_true]at h;refine⟨by omega,by omega,λq hq=>?_⟩;have:=h.2 q hq;unfold BS B7;omega
def UU(n m:Int):Int:=if m<1 then 0 else if n.tmod m<0 then n.tmod m+m else n.tmod m
def AbT(n:Int):0<=UU n 8/\UU n 8<8:=by
 have h1:=Int.tmod_lt_of_pos n (show (0:Int)<8 by decide);have h2:-8<n.tmod 8:=by
  rw[Int.tmod_eq_emod];split<;>omega
 unfold UU;rw[if_neg (by decide)];split<;>omega
def Aef(n:Int):Ad C0 70 [I n,I 8] [] (I (UU n 8)) []:=by
 have z:((8:Int)=0)=False:=by simp
 have z2:((8:Int)<1)=False:=by simp
 have h1:=Int.tmod_lt_of_pos n (show (0:Int)<8 by decide);have h2:-8<n.tmod 8:=by
  rw[Int.tmod_eq_emod];split<;>omega
 refine Ad.go f70 ?_;unfold f70
 by_cases h:n.tmod 8<0
 ·have e:UU n 8=n.tmod 8+8:=by simp[UU,h]
  have z3:(n.tmod 8<0)=True:=eq_true h;simp(disch:=omega)only[go_sem,z,z2,if_false,decide_false,z3,e];exact AQ _
 ·have e:UU n 8=n.tmod 8:=by simp[UU,h]
  have z3:(n.tmod 8<0)=False:=eq_false h;simp(disch:=omega)only[go_sem,z,z2,if_false,decide_false,z3,e];exact AQ _
def B2(n:Int):Ac:=⟨(UU n 8).tmod 4,1,1+(UU n 8).tdiv 4⟩
def qU(n:Int):Ad C0 31 [I n] [] (.agg (B2 n).c) []:=by
 have z:((4:Int)=0)=False:=by simp
 have hm:=AbT n;have hd:0<=(UU n 8).tdiv 4/\(UU n 8).tdiv 4<=2:=by rw[Int.tdiv_eq_ediv_of_nonneg hm.1];omega
 refine Ad.go f31 ?_;unfold f31;refine gO ?_;refine Ab (Aef n) ?_;simp(disch:=omega)only[go_sem,z,if_false];refine Al _ ?_;simp(disch:=omega)only[go_sem,B2]
def wA:BR:=⟨5,0⟩
def Mk(name:Bs)(p q:Ac):Queue:=⟨⟨name,1,1,0⟩,[⟨p,wA⟩],[],[⟨q,wA,0,0⟩],0⟩
def Mp(p:Ac)(name:Bs):Need:=⟨p,.mk 0 ⟨name,wA⟩ [],0⟩
def G8:WS:=⟨[Mk [97] (B2 0) (B2 1),Mk [98] (B2 1) (B2 0)],[Mp (B2 0) [98],Mp (B2 1) [97]]⟩
def zX:WS:=⟨G8.Aa,G8.Aw.take 1⟩
def c8:Iy G8/\Iy zX:=⟨ZM (by kernel_rfl),ZM (by kernel_rfl)⟩
def Yj{s:WS}(h:Iy s):(LQ s).length<=20000:=by
 unfold LQ;split
 ·exact Nat.le_trans (List.length_filter_le _ _) (De h)
 ·simp
section
variable {α:Type}
def Eo(l:List α)(i j:Nat):List α:=match l[i]?,l[j]? with
 |some a,some b=>(l.set i b).set j a
 |_,_=>l
def Hl(lt:α->α->Bool)(l:List α)(i j:Nat):Bool:=match l[i]?,l[j]? with
 |some a,some b=>lt a b
 |_,_=>false
def bY(lt:α->α->Bool):Nat->Nat->List α->List α
 | 0,_,l=>l
 | f+1,j,l=>if j=0\/Hl lt l j ((j-1) / 2)=false then l else bY lt f ((j-1) / 2) (Eo l ((j-1) / 2) j)
def Ld(lt:α->α->Bool)(l:List α)(i n:Nat):Nat:=if 2*i+2<n/\Hl lt l (2*i+2) (2*i+1)=true then 2*i+2 else 2*i+1
def Fo(lt:α->α->Bool):Nat->Nat->Nat->List α->List α
 | 0,_,_,l=>l
 | f+1,i,n,l=>if n<=2*i+1\/Hl lt l (Ld lt l i n) i=false then l else Fo lt f (Ld lt l i n) n (Eo l i (Ld lt l i n))
def Xr(lt:α->α->Bool)(l:List α)(x:α):List α:=bY lt l.length l.length (l++[x])
def LL(lt:α->α->Bool)(l:List α):List α:=Fo lt (l.length-1) 0 (l.length-1) (Eo l 0 (l.length-1))
def Sl{l:List α}{i j:Nat}(hi:i<l.length)(hj:j<l.length)(k:Nat):(Eo l i j)[k]?=if k=j then l[i]? else if k=i then l[j]? else l[k]?:=by
 unfold Eo;grind
theorem EX(l:List α)(i j:Nat):(Eo l i j).length=l.length:=by grind[Eo]
def swap_perm{l:List α}{i j:Nat}(hi:i<l.length)(hj:j<l.length):(Eo l i j).Perm l:=by grind[Eo,List.set_set_perm]
theorem Mi{lt:α->α->Bool}{l:List α}{i j:Nat}{a b:α}(ha:l[i]?=some a)(hb:l[j]?=some b):Hl lt l i j=lt a b:=by grind[Hl]
variable {lt:α->α->Bool} (has:∀ a b,lt a b=true->lt b a=false) (htr:∀ a b c,lt b a=false->lt c b=false->lt c a=false)
theorem Wb:∀ (f i n:Nat) (l:List α),(Fo lt f i n l).length=l.length
 | 0,_,_,_=>rfl
 | f+1,i,n,l=>by
  simp only[Fo];split
  ·rfl
  ·rw[Wb f,EX]
def mz:∀ (f j:Nat) (l:List α),j<l.length->(bY lt f j l).Perm l
 | 0,_,_,_=>.refl _
 | f+1,j,l,hj=>by
  simp only[bY];split
  ·exact .refl _
  ·have h1:=mz f ((j-1) / 2) (Eo l ((j-1) / 2) j) (by rw[EX];omega);exact h1.trans (swap_perm (by omega) hj)
theorem Zc(l:List α)(i n:Nat):(Ld lt l i n=2*i+2/\2*i+2<n/\Hl lt l (2*i+2) (2*i+1)=true)\/(Ld lt l i n=2*i+1/\(2*i+2<n->Hl lt l (2*i+2) (2*i+1)=false)):=by
 unfold Ld;grind
theorem RW{l:List α}{i n:Nat}(h:¬ n<=2*i+1):i<Ld lt l i n/\Ld lt l i n<n:=by grind[Zc]
def YA:∀ (f i n:Nat) (l:List α),n<=l.length->(Fo lt f i n l).Perm l/\∀ k,n<=k->(Fo lt f i n l)[k]?=l[k]?
 | 0,_,_,_,_=>⟨.refl _,λ_ _=>rfl⟩
 | f+1,i,n,l,hn=>by
  simp[Fo];split
  ·simp
  ·rename_i hc;simp only[not_or]at hc;obtain⟨k1,k2⟩:=RW (lt:=lt) (l:=l) hc.1;obtain⟨h1,h2⟩:=YA f (Ld lt l i n) n (Eo l i (Ld lt l i n)) (by grind[EX]);refine⟨h1.trans (swap_perm (by omega) (by omega)),λk hk=>?_⟩;rw[h2 k hk,Sl (by omega) (by omega),if_neg (by omega),if_neg (by omega)]
def okL(lt:α->α->Bool)(l:List α)(k p:Nat):Prop:=∀ a b,l[k]?=some a->l[p]?=some b->lt a b=false
def Heap(lt:α->α->Bool)(l:List α):Prop:=∀ k,0<k->okL lt l k ((k-1) / 2)
def get_some{l:List α}{i:Nat}(h:i<l.length):∃ a,l[i]?=some a:=⟨_,gE h⟩
include has htr
def ym:∀ (f j:Nat) (l:List α),j<=f->j<l.length->(∀ k,0<k->k≠j->okL lt l k ((k-1) / 2))->(∀ k,0<k->(k-1) / 2=j->0<j->okL lt l k ((j-1) / 2))->Heap lt (bY lt f j l):=by
 intro f
 induction f with
 | zero=>intro j l hf _ h1 _ k hk;exact h1 k hk (by omega)
 | succ f ih =>
  intro j l hf hj h1 h2;simp[bY];split
  ·rename_i hc;intro k hk
   by_cases ck:k=j
   ·rcases hc with hc|hc
    ·omega
    ·subst ck;intro a b ha hb;grind[Mi]
   grind
  ·rename_i hc;simp at hc;obtain⟨hj0,hc⟩:=hc;generalize hp:(j-1) / 2=p at hc h2 ⊢;have hpj:p<j:=by omega
   obtain⟨a,ha⟩:=get_some hj;obtain⟨b,hb⟩:=get_some (l:=l) (i:=p) (by omega);rw[Mi ha hb]at hc;have hba:=has _ _ hc;have hg:=Sl (l:=l) (i:=p) (j:=j) (by omega) hj;have gp:(Eo l p j)[p]?=some a:=by rw[hg,if_neg (by omega),if_pos rfl,ha]
   have gj:(Eo l p j)[j]?=some b:=by rw[hg,if_pos rfl,hb]
   have gk:∀ k,k≠p->k≠j->(Eo l p j)[k]?=l[k]?:=λk k1 k2=>by grind
   refine ih p _ (by omega) (by grind) (λk hk xe=>?_) (λk hk xe uF=>?_)
   ·by_cases ck:k=j
    ·subst ck;rw[hp];intro x y hx hy;grind
    ·by_cases hpk:(k-1) / 2=j
     ·rw[hpk];intro x y hx hy;rw[gk k xe ck]at hx;rw[gj]at hy;injection hy with hy;subst hy
      exact h2 k hk hpk (by omega) x b hx hb
     ·by_cases hpp:(k-1) / 2=p
      ·rw[hpp];intro x y hx hy;rw[gk k xe ck]at hx;rw[gp]at hy;injection hy with hy;subst hy
       have:=h1 k hk ck x b hx (by grind);exact htr a b x hba this
      ·intro x y hx hy;rw[gk k xe ck]at hx;rw[gk _ hpp hpk]at hy;exact h1 k hk ck x y hx hy
   ·have hq:(p-1) / 2<p:=by omega
    by_cases ck:k=j
    ·subst ck;intro x y hx hy;rw[gj]at hx;rw[gk _ (by omega) (by omega)]at hy;injection hx with hx;subst hx
     exact h1 p uF (by omega) b y hb hy
    ·intro x y hx hy;rw[gk k (by omega) ck]at hx;rw[gk _ (by omega) (by omega)]at hy;have e1:=h1 k hk ck x b hx (by grind);have e2:=h1 p uF (by omega) b y hb hy;exact htr y b x e2 e1
def nt:∀ (f i n:Nat) (l:List α),n<=i+f->n<=l.length->(∀ k,0<k->k<n->(k-1) / 2≠i->okL lt l k ((k-1) / 2))->(∀ k,0<k->k<n->(k-1) / 2=i->0<i->okL lt l k ((i-1) / 2)) ->
 ∀ k,0<k->k<n->okL lt (Fo lt f i n l) k ((k-1) / 2):=by
 intro f
 induction f with
 | zero=>intro i n l hf _ h1 _ k hk X8;exact h1 k hk X8 (by omega)
 | succ f ih =>
  intro i n l hf hn h1 h2;simp[Fo]
  by_cases hle:n<=2*i+1
  ·grind
  ·obtain⟨k1,k2⟩:=RW (lt:=lt) (l:=l) hle;have hkc:=Zc (lt:=lt) l i n;generalize hj:Ld lt l i n=j at k1 k2 hkc ⊢;have hpj:(j-1) / 2=i:=by omega
   obtain⟨a,ha⟩:=get_some (l:=l) (i:=j) (by omega);obtain⟨b,hb⟩:=get_some (l:=l) (i:=i) (by omega);have Alw:∀ x,lt x x=false:=λx=>by grind
   have rX:∀ k,0<k->k<n->(k-1) / 2=i->okL lt l k j:=by
    intro k hk X8 yW x y hx hy;rw[ha]at hy;injection hy with hy;subst hy
    rcases hkc with ⟨e,e1,e2⟩|⟨e,e1⟩<;>grind[Mi]
   by_cases hc:Hl lt l j i=false
   ·rw[if_pos (.inr hc)];intro k hk X8
    by_cases yW:(k-1) / 2=i
    ·rw[yW];intro x y hx hy;rw[hb]at hy;injection hy with hy;subst hy
     rw[Mi ha hb]at hc;exact htr b a x hc (rX k hk X8 yW x a hx ha)
    grind
   ·rw[if_neg (by grind)];have hc:lt a b=true:=by grind[Mi]
    have hba:=has _ _ hc;have hg:=Sl (l:=l) (i:=i) (j:=j) (by omega) (by omega);have gi:(Eo l i j)[i]?=some a:=by grind
    have gj:(Eo l i j)[j]?=some b:=by grind
    have gk:∀ k,k≠i->k≠j->(Eo l i j)[k]?=l[k]?:=λk k1 k2=>by grind
    refine ih j n _ (by omega) (by grind[EX]) (λk hk X8 ck=>?_) (λk hk X8 ck hj0=>?_)
    ·by_cases e1:k=j
     ·subst e1;rw[hpj];intro x y hx hy;grind
     ·by_cases e2:(k-1) / 2=i
      ·rw[e2];intro x y hx hy;rw[gk k (by omega) e1]at hx;rw[gi]at hy;injection hy with hy;subst hy
       exact rX k hk X8 e2 x a hx ha
      ·by_cases e3:k=i
       ·subst e3;intro x y hx hy;rw[gi]at hx;rw[gk _ (by omega) (by omega)]at hy;injection hx with hx;subst hx
        exact h2 j (by omega) k2 hpj (by omega) a y ha hy
       ·intro x y hx hy;rw[gk k e3 e1]at hx;rw[gk _ e2 ck]at hy;exact h1 k hk X8 e2 x y hx hy
    ·rw[hpj];intro x y hx hy;rw[gk k (by omega) (by omega)]at hx;rw[gi]at hy;injection hy with hy;subst hy
     exact h1 k hk X8 (by omega) x a hx (by grind)
theorem nV{l:List α}(h:Heap lt l){x:α}(hx:l[0]?=some x):∀ (k:Nat) (y:α),l[k]?=some y->lt y x=false:=by
 intro k
 induction k using Nat.strongRecOn with
 | ind k ih =>
  intro y hy
  by_cases hk:k=0
  ·grind
  ·have AP:(k-1) / 2<l.length:=by
    grind
   obtain⟨z,hz⟩:=get_some AP;exact htr x z y (ih _ (by omega) z hz) (h k (by omega) y z hy hz)
def Tt{l:List α}(h:Heap lt l)(x:α):Heap lt (Xr lt l x)/\(Xr lt l x).Perm (x::l):=by
 have hl:l.length<(l++[x]).length:=by simp
 constructor
 ·refine ym has htr _ _ _ (le_refl _) hl (λk hk X7 a b ha hb=>?_) (λk hk X7 _ a b ha _=>?_)
  ·have gn:k<l.length:=by
    grind
   rw[List.getElem?_append_left gn]at ha;rw[List.getElem?_append_left (by omega)]at hb;exact h k hk a b ha hb
  grind
 ·exact(mz _ _ _ hl).trans (List.perm_append_singleton x l)
def R8{l:List α}(h:Heap lt l){x:α}(hx:l[0]?=some x):(LL lt l)[l.length-1]?=some x/\Heap lt ((LL lt l).take (l.length-1))/\l.Perm (x::(LL lt l).take (l.length-1))/\(LL lt l).length=l.length/\∀ y∈l,lt y x=false:=by
 have hl:0<l.length:=by grind
 obtain⟨p1,p2⟩:=YA (lt:=lt) (l.length-1) 0 (l.length-1) (Eo l 0 (l.length-1)) (by grind[EX]);have hg:=Sl (l:=l) (i:=0) (j:=l.length-1) hl (by omega);have e1:(LL lt l)[l.length-1]?=some x:=by
  show (Fo _ _ _ _ _)[_]?=_;grind
 have e4:(LL lt l).length=l.length:=by
  show (Fo _ _ _ _ _).length=_;rw[Wb,EX]
 refine⟨e1,λk hk a b ha hb=>?_,?_,e4,λy hy=>?_⟩
 ·have gn:k<l.length-1:=by
   grind
  rw[List.getElem?_take,if_pos gn]at ha;rw[List.getElem?_take,if_pos (by omega)]at hb;refine nt has htr (l.length-1) 0 (l.length-1) (Eo l 0 (l.length-1)) (by omega) (by grind) (λk hk X8 yW a b ha hb=>?_) (λk _ _ _ h0=>by omega) k hk gn a b ha hb;rw[hg,if_neg (by omega),if_neg (by omega)]at ha;rw[hg,if_neg (by omega),if_neg yW]at hb;exact h k hk a b ha hb
 ·have e2:LL lt l=(LL lt l).take (l.length-1)++[x]:=by
   grind[List.take_append_drop,List.drop_eq_getElem_cons]
  have e3:(LL lt l).Perm l:=p1.trans (swap_perm hl (by omega));refine e3.symm.trans ?_;grind[List.perm_append_singleton]
 grind[List.mem_iff_getElem?,nV]
end
structure Srch where
 n:Nat
 cost:Nat->Int
 gv:Nat->Ac
 tG:List Nat->Bool
def Bj(c:Nat->Int):List Nat->Int
 |[]=>0
 | i::s=>c i+Bj c s
def Le:List Nat->List Nat->Bool
 | i::s,j::t=>decide (i<j)||(decide (i=j)&&Le s t)
 |_,_=>false
def oy(c:Nat->Int)(S T:List Nat):Bool:=decide (Bj c S<Bj c T)||(decide (Bj c S=Bj c T)&&decide (S.length<T.length))
def cn(c:Nat->Int)(S T:List Nat):Bool:=oy c S T||(decide (Bj c S=Bj c T)&&decide (S.length=T.length)&&Le S T)
def isSet(P:Srch)(S:List Nat):Prop:=S.Pairwise (· < ·)/\(∀ i∈S,i<P.n)/\(S.map P.gv).Nodup
def pA(P:Srch)(S:List Nat):Prop:=isSet P S/\P.tG S=true
def JN(P:Srch):Option (List Nat)->Prop
 |none=>∀ S,¬ pA P S
 |some S=>pA P S/\∀ T,pA P T->cn P.cost T S=false
def again(P:Srch)(S:List Nat)(i:Nat):Bool:=S.any λk=>decide (P.gv k=P.gv i)
def prune(P:Srch)(S:List Nat):Option (List Nat)->Bool
 |none=>false
 |some B=>decide (Bj P.cost B<Bj P.cost S)||(decide (Bj P.cost S=Bj P.cost B)&&decide (B.length<=S.length))
def goN(P:Srch):Nat->List Nat->Option (List Nat)->Option (List Nat)
 | 0,_,b=>b
 | f+1,S,b=>goN P f S (if again P S (P.n-(f+1)) then b else if prune P (S++[P.n-(f+1)]) b then b else if P.tG (S++[P.n-(f+1)]) then some (S++[P.n-(f+1)]) else goN P f (S++[P.n-(f+1)]) b)
def N6(P:Srch)(f:Nat)(S:List Nat)(b:Option (List Nat)):Option (List Nat):=if prune P S b then b else if P.tG S then some S else goN P f S b
def best(P:Srch):Option (List Nat):=N6 P P.n [] none
theorem a8(P:Srch)(f:Nat)(S:List Nat)(b:Option (List Nat)):goN P (f+1) S b=goN P f S (if again P S (P.n-(f+1)) then b else N6 P f (S++[P.n-(f+1)]) b):=rfl
def H9(c:Nat->Int):∀ S T:List Nat,Bj c (S++T)=Bj c S+Bj c T
 |[],T=>by simp[Bj]
 | i::S,T=>by simp only[List.cons_append,Bj,H9 c S T];omega
theorem lV:∀ a b c:List Nat,a.length=b.length->b.length=c.length->Le b a=false->Le c b=false->Le c a=false
 |[],b,c,_,_,_,_=>by grind
 | x::a,[],c,h,_,_,_=>by grind
 | x::a,y::b,[],_,h,_,_=>by grind
 | x::a,y::b,z::c,h1,h2,h3,h4=>by
  simp only[Le,Bool.or_eq_false_iff,decide_eq_false_iff_not,Bool.and_eq_false_iff]at h3 h4 ⊢;refine⟨by omega,?_⟩
  by_cases hz:z=x
  ·have hy:y=x:=by omega
   right;rcases h3.2 with h|h
   ·exact absurd hy h
   rcases h4.2 with h'|h'
   ·exact absurd (by omega) h'
   exact lV a b c (by simpa using h1) (by simpa using h2) h h'
  ·exact .inl hz
theorem Ti:∀ a b:List Nat,a.length=b.length->Le a b=false->Le b a=false->a=b
 |[],[],_,_,_=>rfl
 |[],_::_,h,_,_=>by grind
 |_::_,[],h,_,_=>by grind
 | x::a,y::b,h,h1,h2=>by
  simp only[Le,Bool.or_eq_false_iff,decide_eq_false_iff_not,Bool.and_eq_false_iff]at h1 h2;have hxy:x=y:=by omega
  subst hxy;rcases h1.2 with h3|h3
  ·exact absurd rfl h3
  rcases h2.2 with h4|h4
  ·exact absurd rfl h4
  rw[Ti a b (by grind) h3 h4]
section
variable {c:Nat->Int} {S T U:List Nat}
theorem Vx:oy c S T=true↔Bj c S<Bj c T\/(Bj c S=Bj c T/\S.length<T.length):=by simp[oy]
theorem OR:oy c S T=false↔Bj c T<=Bj c S/\(Bj c S=Bj c T->T.length<=S.length):=by grind[oy]
theorem Nt:cn c S T=false↔oy c S T=false/\(Bj c S=Bj c T->S.length=T.length->Le S T=false):=by grind[cn]
def xF(h1:cn c T S=false)(h2:cn c U T=false):cn c U S=false:=by grind[Nt,OR,lV]
def oz(h1:cn c S T=false)(h2:cn c T S=false):S=T:=by grind[Nt,OR,Ti]
def AbS(h1:oy c S T=true)(h2:oy c U T=false):cn c U S=false:=by grind[OR,Nt]
end
def Yp{P:Srch}:∀ {r r':Option (List Nat)},JN P r->JN P r'->r=r'
 |none,none,_,_=>rfl
 |none,some S,h,h'=>absurd h'.1 (h S)
 |some S,none,h,h'=>absurd h.1 (h' S)
 |some S,some T,h,h'=>by rw[oz (h'.2 S h.1) (h.2 T h'.1)]
def Yv{P:Srch}(hc:∀ i,i<P.n->1<=P.cost i):∀ {S:List Nat},(∀ i∈S,i<P.n)->(S.length:Int)<=Bj P.cost S
 |[],_=>by simp[Bj]
 | i::S,h=>by
  have h1:=hc i (h i (by simp));have h2:=Yv hc (S:=S) λj hj=>h j (by grind)
  simp only[Bj,List.length_cons];omega
def aD{P:Srch}(hc:∀ i,i<P.n->1<=P.cost i){S R:List Nat}(h:isSet P (S++R)):Bj P.cost S+R.length<=Bj P.cost (S++R):=by
 rw[H9];have:=Yv hc (S:=R) λi hi=>h.2.1 i (by grind)
 omega
def jE{P:Srch}{S R:List Nat}(h:isSet P (S++R)):isSet P S :=
 ⟨h.1.sublist (List.sublist_append_left S R),λi hi=>h.2.1 i (by grind),h.2.2.sublist (by grind)⟩
def Ext(P:Srch)(i:Nat)(S T:List Nat):Prop:=isSet P T/\∃ R,T=S++R/\R≠[]/\∀ x∈R,i<=x
theorem LU{P:Srch}{S:List Nat}{i:Nat}:again P S i=true↔P.gv i∈S.map P.gv:=by simp[again]
theorem Ps{P:Srch}{i:Nat}{S T:List Nat}(h:Ext P i S T):(again P S i=false/\(∃ R,T=(S++[i])++R))\/Ext P (i+1) S T:=by
 obtain⟨hs,R,rfl,CZ,hR⟩:=h
 match R,CZ with
 | x::R,_ =>
  by_cases hx:x=i
  ·subst hx;left;refine⟨?_,R,by simp⟩;cases ha:again P S x with
   | false=>rfl
   | true =>
    have hm:=LU.1 ha;have hn:=hs.2.2;rw[map_append,nodup_append]at hn;exact absurd rfl (hn.2.2 _ hm _ (by simp))
  ·right;refine⟨hs,x::R,rfl,by simp,λy hy=>?_⟩;have Vt:=hR x (by simp);rcases mem_cons.1 hy with rfl|hy
   ·omega
   ·have hp:=(pairwise_append.1 hs.1).2.1;have:=(pairwise_cons.1 hp).1 y hy;omega
def Rs{P:Srch}{i:Nat}{S T:List Nat}(h:Ext P (i+1) S T):Ext P i S T:=by
 obtain⟨hs,R,rfl,CZ,hR⟩:=h;exact⟨hs,R,rfl,CZ,λx hx=>by grind⟩
def Vv:∀ (S R R':List Nat),Le (S++R) (S++R')=Le R R'
 |[],_,_=>rfl
 | i::S,R,R'=>by simp[Le,Vv S R R']
theorem vi{P:Srch}{i:Nat}{S T B:List Nat}(h:Ext P (i+1) S T)(hB:∃ R,B=(S++[i])++R):Le T B=false:=by
 obtain⟨hs,R,rfl,CZ,hR⟩:=h;obtain⟨R',rfl⟩:=hB;rw[append_assoc,Vv]
 match R,CZ with
 | x::R,_ =>
  have:=hR x (by simp);simp only[List.singleton_append,Le,Bool.or_eq_false_iff,decide_eq_false_iff_not,Bool.and_eq_false_iff];exact⟨by omega,.inl (by omega)⟩
theorem sL{P:Srch}{i:Nat}{S B:List Nat}(h:Ext P (i+1) S B)(hB:∃ R,B=(S++[i])++R):False:=by
 obtain⟨hs,R,rfl,CZ,hR⟩:=h;obtain⟨R',h'⟩:=hB;rw[append_assoc]at h';have:=List.append_cancel_left h';subst this;have:=hR i (by simp);omega
def ry{P:Srch}(hc:∀ i,i<P.n->1<=P.cost i):∀ (f:Nat),f<=P.n->∀ (S:List Nat) (b:Option (List Nat)),isSet P S->(∀ x∈S,x<P.n-f)->(∀ B,b=some B->isSet P B/\¬ Ext P (P.n-f) S B) ->
 (goN P f S b=b\/∃ B,goN P f S b=some B/\Ext P (P.n-f) S B/\P.tG B=true/\∀ B0,b=some B0->oy P.cost B B0=true) /\
 ∀ T,Ext P (P.n-f) S T->P.tG T=true->∃ B,goN P f S b=some B/\oy P.cost T B=false/\(Ext P (P.n-f) S B->cn P.cost T B=false):=by
 intro f
 induction f with
 | zero =>
  intro _ S b hS AP hb;refine⟨.inl rfl,λT ⟨hs,R,e,CZ,hR⟩ _=>?_⟩;subst e
  match R,CZ with
  | x::R,_ =>
   have h1:=hR x (by simp);have h2:=hs.2.1 x (by simp);omega
 | succ f ih =>
  intro hf S b hS AP hb;have e:P.n-f=P.n-(f+1)+1:=by omega
  rw[a8];generalize hi:P.n-(f+1)=i at AP hb e ⊢;rw[e]at ih;cases ha:again P S i with
  | true =>
   simp;have hx:∀ {T},Ext P i S T->Ext P (i+1) S T:=λh=>(Ps h).resolve_left λh=>by grind
   obtain⟨h1,h2⟩:=ih (by omega) S b hS (λx hx=>by grind) (λB hB=>⟨(hb B hB).1,λhE=>(hb B hB).2 (Rs hE)⟩);refine⟨h1.imp id fun⟨B,a,b,c⟩=>⟨B,a,Rs b,c⟩,λT hT hs=>?_⟩;grind
  | false =>
   simp;have Hf:i<P.n:=by omega
   have uo:isSet P (S++[i]):=by
    refine⟨pairwise_append.2 ⟨hS.1,by simp,λx hx y hy=>?_⟩,λx hx=>?_,?_⟩
    ·grind
    ·grind
    ·rw[map_append,nodup_append];refine⟨hS.2.2,by simp,λx hx y hy=>?_⟩;grind[LU]
   have JX:∀ {R},isSet P ((S++[i])++R)->∀ x∈R,i+1<=x:=λ{R} hs x hx=>by
    have hp:=hs.1;rw[append_assoc]at hp;have:=(pairwise_cons.1 ((pairwise_append.1 hp).2.1)).1 x hx;omega
   have w8:∀ B,b=some B->¬ ∃ R,B=(S++[i])++R:=λB hB ⟨R,he⟩=>(hb B hB).2 ⟨(hb B hB).1,i::R,by grind,by simp,λx hx=>by grind⟩
   have rL:∀ R:List Nat,((S++[i])++R).length=(S++[i]).length+R.length:=λR=>by grind
   -- the part behind S++[i]
   have sub:(N6 P f (S++[i]) b=b\/∃ B,N6 P f (S++[i]) b=some B/\(∃ R,B=(S++[i])++R)/\isSet P B/\P.tG B=true/\∀ B0,b=some B0->oy P.cost B B0=true) /\
    ∀ T,isSet P T->(∃ R,T=(S++[i])++R)->P.tG T=true->∃ B,N6 P f (S++[i]) b=some B/\oy P.cost T B=false/\((∃ R,B=(S++[i])++R)->cn P.cost T B=false):=by
    unfold N6;cases Vq:prune P (S++[i]) b with
    | true =>
     simp only[if_true];refine⟨.inl trivial,λT hT hR hs=>?_⟩
     match b,Vq,w8 with
     |some B,Vq,w8 =>
      refine⟨B,rfl,?_,λh=>absurd h (w8 B rfl)⟩;obtain⟨R,rfl⟩:=hR;have h1:=aD hc hT;have h2:=rL R;simp only[prune,or_eq_true,decide_eq_true_eq,and_eq_true]at Vq;rw[OR];omega
    | false =>
     simp only[Bool.false_eq_true,if_false];cases gr:P.tG (S++[i]) with
     | true =>
      simp only[if_true];refine⟨.inr ⟨_,rfl,⟨[],by simp⟩,uo,gr,λB0 hB0=>?_⟩,λT hT hR hs=>⟨_,rfl,?_⟩⟩
      ·grind[prune,Vx]
      ·obtain⟨R,rfl⟩:=hR;have h1:=aD hc hT;have hl:=rL R;have h2:oy P.cost ((S++[i])++R) (S++[i])=false:=by rw[OR];omega
       refine⟨h2,λ_=>?_⟩;rw[Nt];refine⟨h2,λ_ h=>?_⟩;have:R=[]:=List.eq_nil_of_length_eq_zero (by omega);subst this;have:=Vv (S++[i]) [] [];rw[append_nil]at this ⊢;rw[this];rfl
     | false =>
      simp only[Bool.false_eq_true,if_false];have JR:∀ {B},isSet P B->(∃ R,B=(S++[i])++R)->B≠S++[i]->Ext P (i+1) (S++[i]) B:=λ{B} hs ⟨R,he⟩ CZ=>⟨hs,R,he,λh=>CZ (by grind),λx hx=>JX (he▸hs) x hx⟩
      obtain⟨h1,h2⟩:=ih (by omega) (S++[i]) b uo (λx hx=>by grind) (λB hB=>⟨(hb B hB).1,λhE=>w8 B hB (by obtain⟨hs,R,he,_⟩:=hE;grind)⟩);refine⟨h1.imp id fun⟨B,a,⟨hs,R,he,_⟩,c,d⟩=>⟨B,a,⟨R,he⟩,hs,c,d⟩,λT hT hR hs=>?_⟩;have hTn:T≠S++[i]:=λh=>by grind
      obtain⟨B,a,b',c⟩:=h2 T (JR hT hR hTn) hs;refine⟨B,a,b',λhRB=>c ?_⟩;rcases h1 with h1|⟨B',h1,h3,_⟩<;>grind
   obtain⟨s1,s2⟩:=sub;generalize UL:N6 P f (S++[i]) b=b1 at s1 s2 ⊢;have hH:∀ B,b1=some B->isSet P B/\¬ Ext P (i+1) S B:=λB hB=>by
    rcases s1 with s1|⟨B',s1,s3,s4,_⟩
    ·rw[s1]at hB;exact⟨(hb B hB).1,λhE=>(hb B hB).2 (Rs hE)⟩
    grind[sL]
   obtain⟨h1,h2⟩:=ih (by omega) S b1 hS (λx hx=>by grind) hH;refine⟨?_,λT hT hs=>?_⟩
   ·rcases h1 with h1|⟨B,h1,h3,h4,h5⟩
    ·rw[h1];rcases s1 with s1|⟨B,s1,⟨R,s3⟩,s4,s5,s6⟩
     ·grind
     ·refine .inr ⟨B,s1,⟨s4,i::R,by grind,by simp,λx hx=>?_⟩,s5,s6⟩;grind
    ·refine .inr ⟨B,h1,Rs h3,h4,λB0 hB0=>?_⟩;rcases s1 with s1|⟨B',s1,_,_,_,s6⟩
     ·grind
     ·have e1:=h5 B' s1;have e2:=s6 B0 hB0;rw[Vx]at e1 e2 ⊢;omega
   ·rcases Ps hT with ⟨_,hR⟩|hT'
    ·obtain⟨B1,a,b',c⟩:=s2 T hT.1 hR hs;rcases h1 with h1|⟨B,h1,h3,h4,h5⟩
     ·grind[Ps]
     ·have:=AbS (h5 B1 a) b';exact⟨B,h1,(Nt.1 this).1,λ_=>this⟩
    ·obtain⟨B,a,b',c⟩:=h2 T hT' hs;refine⟨B,a,b',λhE=>?_⟩;grind[Ps,Nt,vi]
def U3{P:Srch}(hc:∀ i,i<P.n->1<=P.cost i):JN P (best P):=by
 have h0:isSet P []:=⟨.nil,(λ_ h=>by cases h),by simp⟩;unfold best N6;simp[prune];have Abt:∀ T,cn P.cost T []=true->isSet P T->False:=λT h hs=>by
  have:=aD hc (S:=[]) (R:=T) (by grind);simp at this;have e0:Bj P.cost []=0:=rfl;simp only[cn,or_eq_true,Vx,and_eq_true,decide_eq_true_eq]at h;rcases h with h|⟨⟨h1,h2⟩,h3⟩
  ·rcases h with h|⟨h,h'⟩
   ·omega
   ·simp at h'
  ·have:T=[]:=List.eq_nil_of_length_eq_zero h2;subst this;simp[Le]at h3
 cases gr:P.tG [] with
 | true =>
  simp;refine⟨⟨h0,gr⟩,λT hT=>?_⟩;cases h:cn P.cost T [] with
  | false=>rfl
  | true=>exact(Abt T h hT.1).elim
 | false =>
  simp;obtain⟨h1,h2⟩:=ry hc P.n (le_refl _) [] none h0 (λ_ h=>by cases h) (λ_ h=>by cases h);rw[Nat.sub_self]at h1 h2;have hE:∀ {T},pA P T->Ext P 0 [] T:=λ{T} hT=>⟨hT.1,T,rfl,(λh=>by subst h;have h2:=hT.2;rw[gr]at h2;cases h2),λ_ _=>Nat.zero_le _⟩
  rcases h1 with h1|⟨B,h1,h3,h4,_⟩
  ·rw[h1];intro S hS;obtain⟨B,a,_⟩:=h2 S (hE hS) hS.2;grind
  ·rw[h1];refine⟨⟨h3.1,h4⟩,λT hT=>?_⟩;obtain⟨B',a,_,c⟩:=h2 T (hE hT) hT.2;grind
structure Cand where
 cost:Int
 set:Nat
def popc(x:Nat):Nat:=((List.range 64).filter λi=>x.testBit i).length
def lexB(x y:Nat):Bool:=match (List.range 64).find? (λi=>x.testBit i !=y.testBit i) with
 |some i=>x.testBit i
 |none=>false
def AU(c d:Cand):Bool:=if c.cost=d.cost then (if popc c.set=popc d.set then lexB c.set d.set else decide (popc c.set<popc d.set)) else decide (c.cost<d.cost)
def K8(x y:Nat):Prop:=∃ k,k<64/\x.testBit k=true/\y.testBit k=false/\∀ j,j<k->x.testBit j=y.testBit j
def Wt{p:Nat->Bool}:∀ {n i:Nat},(List.range n).find? p=some i->i<n/\p i=true/\∀ j,j<i->p j=false:=by simp_all
theorem WW(x y:Nat):lexB x y=true↔K8 x y:=by
 unfold lexB;split
 ·rename_i i h;obtain⟨h1,h2,h3⟩:=Wt h;constructor
  ·intro hx;refine⟨i,h1,hx,?_,λj hj=>by grind⟩;grind
  ·rintro⟨k,k1,k2,k3,k4⟩;grind
 ·rename_i h;constructor
  ·grind
  ·rintro⟨k,k1,k2,k3,_⟩;grind
def Vu{x y:Nat}:lexB x y=false↔¬ K8 x y:=by grind[WW]
def K8.asymm{x y:Nat}:K8 x y->¬ K8 y x:=by
 rintro⟨k,k1,k2,k3,k4⟩ ⟨m,m1,m2,m3,m4⟩;grind
def ir(x y:Nat):K8 x y\/K8 y x\/∀ j,j<64->x.testBit j=y.testBit j:=by
 cases h:(List.range 64).find? (λi=>x.testBit i !=y.testBit i) with
 |none =>
  grind
 |some i =>
  obtain⟨h1,h2,h3⟩:=Wt h;have h4:∀ j,j<i->x.testBit j=y.testBit j:=λj hj=>by grind
  cases hx:x.testBit i with
  | true =>
   cases hy:y.testBit i with
   | true=>rw[hx,hy]at h2;simp at h2
   | false=>exact .inl ⟨i,h1,hx,hy,h4⟩
  | false =>
   cases hy:y.testBit i with
   | false=>rw[hx,hy]at h2;simp at h2
   | true=>exact .inr (.inl ⟨i,h1,hy,hx,λj hj=>(h4 j hj).symm⟩)
def K8.trans{x y z:Nat}:K8 x y->K8 y z->K8 x z:=by
 rintro⟨k,k1,k2,k3,k4⟩ ⟨m,m1,m2,m3,m4⟩;rcases Nat.lt_trichotomy k m with h|h|h
 ·exact⟨k,k1,k2,by rw[<- m4 k h];exact k3,λj hj=>(k4 j hj).trans (m4 j (by omega))⟩
 ·subst h;rw[m2]at k3;cases k3
 ·exact⟨m,m1,by rw[k4 m h];exact m2,m3,λj hj=>(k4 j (by omega)).trans (m4 j hj)⟩
theorem K8.congr{x y z:Nat}(h:∀ j,j<64->y.testBit j=z.testBit j):K8 x y↔K8 x z:=by
 constructor<;>rintro⟨k,k1,k2,k3,k4⟩
 ·exact⟨k,k1,k2,by grind,λj hj=>(k4 j hj).trans (h j (by omega))⟩
 ·exact⟨k,k1,k2,by grind,λj hj=>(k4 j hj).trans (h j (by omega)).symm⟩
theorem si{a b c:Nat}(h1:¬ K8 b a)(h2:¬ K8 c b):¬ K8 c a:=by
 intro h;rcases ir b a with h3|h3|h3
 ·grind
 ·exact h2 (h.trans h3)
 grind[K8.congr]
def Hy(a b:Cand)(h:AU a b=true):AU b a=false:=by
 unfold AU at h ⊢
 by_cases h1:a.cost=b.cost
 ·rw[if_pos h1]at h;rw[if_pos h1.symm]
  by_cases h2:popc a.set=popc b.set
  ·rw[if_pos h2]at h;rw[if_pos h2.symm,Vu];exact((WW _ _).1 h).asymm
  grind
 grind
theorem SC{a b:Cand}:AU b a=false↔a.cost<=b.cost/\(a.cost=b.cost->popc a.set<=popc b.set/\(popc a.set=popc b.set->¬ K8 b.set a.set)):=by
 unfold AU
 by_cases h1:b.cost=a.cost
 ·rw[if_pos h1]
  by_cases h2:popc b.set=popc a.set
  ·simp_all[Vu]
  grind
 grind
def Hz(a b c:Cand)(h1:AU b a=false)(h2:AU c b=false):AU c a=false:=by grind[SC,si]
def code:List Nat->Nat
 |[]=>0
 | i::s=>2 ^ i ||| code s
theorem EP:∀ (S:List Nat) (j:Nat),(code S).testBit j=decide (j∈S)
 |[],j=>by simp[code]
 | i::s,j=>by
  simp only[code,Nat.testBit_or,EP s j,Nat.testBit_two_pow,mem_cons]
  by_cases h:i=j
  ·subst h;simp
  ·have h':¬ j=i:=λe=>h e.symm
   simp[h,h']
def Pl:∀ {S:List Nat} {n:Nat},(∀ i∈S,i<n)->code S<2 ^ n
 |[],n,_=>by grind[code]
 | i::s,n,h=>Nat.or_lt_two_pow (Nat.pow_lt_pow_right (by omega) (h i (by simp))) (Pl λj hj=>h j (by grind))
def Yu:∀ (S:List Nat) (i:Nat),code (S++[i])=code S ||| 2 ^ i
 |[],i=>by simp[code]
 | j::s,i=>by simp only[List.cons_append,code,Yu s i,Nat.or_assoc]
def cK:∀ {S T:List Nat},S.Pairwise (· < ·)->T.Pairwise (· < ·)->(∀ x,x∈S↔x∈T)->S=T
 |[],[],_,_,_=>rfl
 |[],j::t,_,_,h=>by have:=(h j).2 (by simp);cases this
 | i::s,[],_,_,h=>by have:=(h i).1 (by simp);cases this
 | i::s,j::t,hs,ht,h=>by
  have br:=pairwise_cons.1 hs;have ht':=pairwise_cons.1 ht;have UN:i=j:=by
   have h1:=(h i).1 (by simp);have h2:=(h j).2 (by simp);rcases mem_cons.1 h1 with h1|h1
   ·exact h1
   rcases mem_cons.1 h2 with h2|h2
   ·exact h2.symm
   have:=ht'.1 i h1;have:=br.1 j h2;omega
  subst UN;rw[cK br.2 ht'.2 λx=>?_];constructor
  ·intro hx;have h1:=br.1 x hx;rcases mem_cons.1 ((h x).1 (by simp[hx])) with e|e
   ·omega
   ·exact e
  ·intro hx;have h1:=ht'.1 x hx;rcases mem_cons.1 ((h x).2 (by simp[hx])) with e|e
   ·omega
   ·exact e
def VQ(x:Nat):List Nat:=(List.range 64).filter λi=>x.testBit i
def mS(x:Nat):(VQ x).Pairwise (· < ·):=List.pairwise_lt_range.filter _
theorem Kz{S:List Nat}(hs:S.Pairwise (· < ·))(hn:∀ i∈S,i<64):VQ (code S)=S :=
 cK (mS _) hs λx=>by simp_all[VQ,EP]
def PQ{S:List Nat}(hs:S.Pairwise (· < ·))(hn:∀ i∈S,i<64):popc (code S)=S.length:=by grind[Kz,VQ,popc]
theorem iX:∀ {S T:List Nat},S.Pairwise (· < ·)->T.Pairwise (· < ·)->S.length=T.length->(∀ i∈S,i<64)->Le S T=true->K8 (code S) (code T)
 |[],_,_,_,_,_,h=>by grind[Le]
 |_::_,[],_,_,_,_,h=>by grind
 | i::s,j::t,hs,ht,hl,hn,h=>by
  have br:=pairwise_cons.1 hs;have ht':=pairwise_cons.1 ht;simp[Le]at h;rcases h with h|⟨h,h2⟩
  ·refine⟨i,hn i (by simp),by simp[EP],?_,λk hk=>?_⟩
   ·rw[EP];grind
   ·rw[EP,EP];grind
  ·subst h;obtain⟨k,k1,k2,k3,k4⟩:=iX br.2 ht'.2 (by grind) (λx hx=>hn x (by grind)) h2;rw[EP]at k2 k3;simp at k2 k3;have iG:=br.1 k k2;refine⟨k,k1,by simp[EP,k2],?_,λm hm=>?_⟩
   ·rw[EP];grind
   grind[EP]
def ec{S T:List Nat}(hs:S.Pairwise (· < ·))(ht:T.Pairwise (· < ·))(hl:S.length=T.length)(h1:∀ i∈S,i<64)(h2:∀ i∈T,i<64):K8 (code S) (code T)↔Le S T=true:=by
 constructor
 ·intro h;cases h3:Le S T with
  | true=>rfl
  | false =>
   cases h4:Le T S with
   | true=>exact absurd h (iX ht hs hl.symm h2 h4).asymm
   | false =>
    have:=Ti S T hl h3 h4;subst this;exact absurd h h.asymm
 grind[iX]
def Dv(P:Srch)(S:List Nat):Cand:=⟨Bj P.cost S,code S⟩
def mR{P:Srch}(hn:P.n<=64){S T:List Nat}(hs:isSet P S)(ht:isSet P T):AU (Dv P S) (Dv P T)=cn P.cost S T:=by
 have h1:∀ i∈S,i<64:=λi hi=>by have:=hs.2.1 i hi;omega
 have h2:∀ i∈T,i<64:=λi hi=>by have:=ht.2.1 i hi;omega
 cases h:cn P.cost S T with
 | false =>
  rw[SC];rw[Nt,OR]at h;simp[Dv,PQ hs.1 h1,PQ ht.1 h2];refine⟨h.1.1,λhc=>⟨h.1.2 hc.symm,λhl hx=>?_⟩⟩;have:=h.2 hc.symm hl.symm;rw[(ec hs.1 ht.1 hl.symm h1 h2).1 hx]at this;cases this
 | true =>
  cases hb:AU (Dv P S) (Dv P T) with
  | true=>rfl
  | false =>
   rw[SC]at hb;simp[Dv,PQ hs.1 h1,PQ ht.1 h2]at hb;simp[cn,or_eq_true,Vx,and_eq_true,decide_eq_true_eq]at h;rcases h with h|⟨⟨h3,h4⟩,h5⟩
   ·rcases h with h|⟨h,h'⟩
    ·omega
    ·have:=(hb.2 h.symm).1;omega
   ·exact absurd ((ec hs.1 ht.1 h4 h1 h2).2 h5) ((hb.2 h3.symm).2 h4.symm)
structure Front(P:Srch)(h:List Cand):Prop where
 heap:Heap AU h
 yd:∀ c∈h,∃ S,isSet P S/\c=Dv P S
 all:∀ T,pA P T->∃ S R,T=S++R/\isSet P S/\Dv P S∈h
def nF{P:Srch}(h:Front P []):JN P none:=λS hS=>by
 obtain⟨_,_,_,_,h⟩:=h.all S hS;cases h
def iw{P:Srch}(hn:P.n<=64)(hc:∀ i,i<P.n->1<=P.cost i){h:List Cand}(hF:Front P h){S:List Nat}(hS:isSet P S)(hh:h[0]?=some (Dv P S))(hs:P.tG S=true):JN P (some S):=by
 refine⟨⟨hS,hs⟩,λT hT=>?_⟩;obtain⟨S',R,rfl,hS',hm⟩:=hF.all T hT;have h1:=(R8 Hy Hz hF.heap hh).2.2.2.2 _ hm;rw[mR hn hS' hS]at h1;have h2:cn P.cost (S'++R) S'=false:=by
  have e1:=aD hc hT.1;have e2:(S'++R).length=S'.length+R.length:=by simp
  rw[Nt,OR];refine⟨⟨by omega,λ_=>by omega⟩,λ_ h=>?_⟩;have:R=[]:=List.eq_nil_of_length_eq_zero (by omega);subst this;have:=Vv S' [] [];rw[append_nil]at this ⊢;rw[this];rfl
 exact xF h1 h2
def kids(P:Srch)(S:List Nat):Nat->List Cand
 | 0=>[]
 | f+1=>(if again P S (P.n-(f+1)) then [] else [Dv P (S++[P.n-(f+1)])])++kids P S f
def Jd(h:List Cand):List Cand->List Cand
 |[]=>h
 | c::l=>Jd (Xr AU h c) l
def Ke:∀ (l h:List Cand),Heap AU h->Heap AU (Jd h l)/\(Jd h l).Perm (l++h)
 |[],h,hh=>⟨hh,.refl _⟩
 | c::l,h,hh=>by
  obtain⟨a,b⟩:=Tt Hy Hz hh c;obtain⟨x,y⟩:=Ke l _ a;exact⟨x,y.trans ((List.Perm.append_left l b).trans List.perm_middle)⟩
def Em(S:List Nat):Nat:=S.getLast?.elim 0 (· + 1)
def ek:∀ {S:List Nat},S.Pairwise (· < ·)->∀ i∈S,i<Em S:=by
 intro S hp i hi;unfold Em;cases h:S.getLast? with
 |none=>grind
 |some k =>
  obtain⟨T,rfl⟩:=List.getLast?_eq_some_iff.1 h;grind
def ft{P:Srch}{S:List Nat}{i:Nat}(hS:isSet P S)(h1:Em S<=i)(h2:i<P.n)(ha:again P S i=false):isSet P (S++[i]):=by
 refine⟨pairwise_append.2 ⟨hS.1,by simp,λx hx y hy=>?_⟩,λx hx=>?_,?_⟩
 ·have:=ek hS.1 x hx;simp at hy;omega
 ·rcases mem_append.1 hx with h|h
  ·exact hS.2.1 x h
  grind
 ·rw[map_append,nodup_append];refine⟨hS.2.2,by simp,λx hx y hy=>?_⟩;grind[LU]
def Xb{P:Srch}{S:List Nat}{c:Cand}:∀ {f:Nat},f<=P.n->(c∈kids P S f↔∃ i,P.n-f<=i/\i<P.n/\again P S i=false/\c=Dv P (S++[i]))
 | 0,_=>by
  simp only[kids,List.not_mem_nil,false_iff];omega
 | f+1,hf=>by
  have ih:=Xb (P:=P) (S:=S) (c:=c) (f:=f) (by omega);simp only[kids,mem_append,ih];constructor
  ·grind
  grind
def iy{P:Srch}(hn:P.n<=64){h:List Cand}(hF:Front P h){S:List Nat}(hS:isSet P S)(hh:h[0]?=some (Dv P S))(hs:P.tG S=false):Front P (Jd ((LL AU h).take (h.length-1)) (kids P S (P.n-Em S))):=by
 obtain⟨p1,p2,p3,p4,p5⟩:=R8 Hy Hz hF.heap hh;obtain⟨q1,q2⟩:=Ke (kids P S (P.n-Em S)) _ p2;have hle:Em S<=P.n:=by
  unfold Em;cases h:S.getLast? with
  |none=>grind
  |some k =>
   obtain⟨T,rfl⟩:=List.getLast?_eq_some_iff.1 h;have:=hS.2.1 k (by simp);simp only[Option.elim];omega
 refine⟨q1,λc hc=>?_,λT hT=>?_⟩
 ·rcases mem_append.1 (q2.mem_iff.1 hc) with h1|h1
  ·obtain⟨i,i1,i2,i3,rfl⟩:=(Xb (by omega)).1 h1;exact⟨_,ft hS (by omega) i2 i3,rfl⟩
  ·exact hF.yd c (p3.mem_iff.2 (by grind))
 ·obtain⟨S',R,rfl,hS',hm⟩:=hF.all T hT;rcases mem_cons.1 (p3.mem_iff.1 hm) with h1|h1
  ·have he:S'=S:=by
    have h2:code S'=code S:=by injection h1
    have e1:=Kz hS'.1 (λi hi=>by have:=hS'.2.1 i hi;omega);have e2:=Kz hS.1 (λi hi=>by have:=hS.2.1 i hi;omega);rw[<- e1,h2,e2]
   subst he
   match R,hT with
   |[],hT=>rw[append_nil]at hT;rw[hT.2]at hs;cases hs
   | i::R,hT =>
    have e:S'++i::R=(S'++[i])++R:=by simp
    rw[e]at hT ⊢;have uo:=jE hT.1;refine⟨S'++[i],R,rfl,uo,q2.mem_iff.2 (mem_append.2 (.inl ((Xb (by omega)).2 ⟨i,?_,uo.2.1 i (by simp),?_,rfl⟩)))⟩
    ·have:Em S'<=i:=by
      unfold Em;cases h:S'.getLast? with
      |none=>grind
      |some k =>
       obtain⟨T,rfl⟩:=List.getLast?_eq_some_iff.1 h;have:=(pairwise_append.1 uo.1).2.2 k (by simp) i (by simp);simp only[Option.elim];omega
     omega
    ·cases ha:again P S' i with
     | false=>rfl
     | true =>
      have:=LU.1 ha;have UO:=uo.2.2;rw[map_append,nodup_append]at UO;exact absurd rfl (UO.2.2 _ this _ (by simp))
  grind
def AaU(P:Srch):Front P [Dv P []] where
 heap:=λk hk a b ha _=>by grind
 yd:=λc hc=>⟨[],⟨.nil,(λ_ h=>by cases h),by simp⟩,by grind⟩
 all:=λT hT=>⟨[],T,rfl,⟨.nil,(λ_ h=>by cases h),by simp⟩,by simp⟩
def Hd:Nat->Nat->Nat
 | 0,_=>0
 | n+1,x=>x%2+Hd n (x / 2)
theorem Fh:∀ n x,Hd n x<=n
 | 0,_=>le_refl _
 | n+1,x=>by
  have:=Fh n (x / 2);simp only[Hd];omega
def O1:∀ (a b x:Nat),Hd (a+b) x=Hd a x+Hd b (x / 2 ^ a)
 | 0,b,x=>by simp[Hd]
 | a+1,b,x=>by
  have e:a+1+b=(a+b)+1:=by omega
  rw[e];simp only[Hd,O1 a b (x / 2),Nat.div_div_eq_div_mul];rw[Nat.pow_succ,Nat.mul_comm 2];omega
def Ur:∀ n x,Hd n x=((List.range n).filter λi=>x.testBit i).length
 | 0,_=>rfl
 | n+1,x=>by
  rw[O1 n 1 x,Ur n x,List.range_succ,List.filter_append,List.length_append];congr 1;simp[Hd,Nat.add_zero,List.filter_cons,List.filter_nil];grind
def Acb(x:Nat):popc x=Hd 64 x:=(Ur 64 x).symm
def mk(k c:Nat):Nat->Nat
 | 0=>0
 | n+1=>2 ^ k*mk k c n+c
def RX{k c:Nat}(hc:c<2 ^ k)(a n:Nat):a &&& mk k c (n+1)=2 ^ k*(a / 2 ^ k &&& mk k c n)+(a%2 ^ k &&& c):=by
 have h:=Nat.div_add_mod (a &&& mk k c (n+1)) (2 ^ k);rw[Nat.and_div_two_pow,Nat.and_mod_two_pow]at h;have e1:mk k c (n+1) / 2 ^ k=mk k c n:=by simp_all[mk,Nat.mul_add_div,Nat.pow_pos]
 have e2:mk k c (n+1)%2 ^ k=c:=by grind[mk,Nat.mul_add_mod,Nat.mod_eq_of_lt]
 rw[e1,e2]at h;exact h.symm
def d1:Nat->Nat->Nat
 | 0,_=>0
 | n+1,x=>4*d1 n (x / 4)+Hd 2 x
def d2:Nat->Nat->Nat
 | 0,_=>0
 | n+1,x=>16*d2 n (x / 16)+Hd 4 x
def d3:Nat->Nat->Nat
 | 0,_=>0
 | n+1,x=>256*d3 n (x / 256)+Hd 8 x
def yD:∀ n x,d1 n x<4 ^ n
 | 0,_=>by simp[d1]
 | n+1,x=>by
  have:=yD n (x / 4);have:=Fh 2 x;simp only[d1,Nat.pow_succ];omega
def yE:∀ n x,15*d2 n x+4<=4*16 ^ n
 | 0,_=>by simp[d2]
 | n+1,x=>by
  have:=yE n (x / 16);have:=Fh 4 x;simp only[d2,Nat.pow_succ];omega
def AdL(a:Nat):a &&& 1=a%2:=Nat.and_one_is_mod a
def AdN(a:Nat):a &&& 3=a%4:=Nat.and_two_pow_sub_one_eq_mod a 2
def AdM(a:Nat):a &&& 15=a%16:=Nat.and_two_pow_sub_one_eq_mod a 4
def sw1:∀ n x,(x / 2 &&& mk 2 1 n)+(x &&& mk 2 1 n)=d1 n x
 | 0,x=>by simp[mk,d1]
 | n+1,x=>by
  rw[RX (by decide),RX (by decide),AdL,AdL];have ih:=sw1 n (x / 4);simp only[d1,Hd,<- ih];have e:x / 2 / 2 ^ 2=x / 4 / 2:=by omega
  rw[e];have e2:x / 2 ^ 2=x / 4:=rfl;rw[e2];omega
def p4(x:Nat):Hd 4 x=Hd 2 x+Hd 2 (x / 4):=O1 2 2 x
def p8(x:Nat):Hd 8 x=Hd 4 x+Hd 4 (x / 16):=O1 4 4 x
def sw2:∀ n x,(d1 (2*n) x / 4 &&& mk 4 3 n)+(d1 (2*n) x &&& mk 4 3 n)=d2 n x
 | 0,x=>by simp[mk,d2]
 | n+1,x=>by
  rw[RX (by decide),RX (by decide),AdN,AdN];have ih:=sw2 n (x / 16);have e0:2*(n+1)=2*n+1+1:=by omega
  have e3:x / 4 / 4=x / 16:=by omega
  simp only[d2,p4,<- ih,e0,d1,e3];have b0:=Fh 2 x;have b1:=Fh 2 (x / 4);generalize d1 (2*n) (x / 16)=Y;generalize Hd 2 x=p at *;generalize Hd 2 (x / 4)=q at *;have e4:(4*(4*Y+q)+p) / 4 / 2 ^ 4=Y / 4:=by omega
  have e5:(4*(4*Y+q)+p) / 2 ^ 4=Y:=by omega
  rw[e4,e5];omega
def zZ(n x:Nat):d2 n x%16<=4:=by cases n<;>grind[d2,Fh]
def sw3:∀ n x,(d2 (2*n) x / 16+d2 (2*n) x) &&& mk 8 15 n=d3 n x
 | 0,x=>by simp[mk,d3]
 | n+1,x=>by
  rw[RX (by decide),AdM];have ih:=sw3 n (x / 256);have e0:2*(n+1)=2*n+1+1:=by omega
  have e3:x / 16 / 16=x / 256:=by omega
  simp only[d3,p8,<- ih,e0,d2,e3];have b0:=Fh 4 x;have b1:=Fh 4 (x / 16);have b2:=zZ (2*n) (x / 256);generalize d2 (2*n) (x / 256)=Y at *;generalize Hd 4 x=p at *;generalize Hd 4 (x / 16)=q at *;have e4:((16*(16*Y+q)+p) / 16+(16*(16*Y+q)+p)) / 2 ^ 8=Y / 16+Y:=by omega
  have e5:((16*(16*Y+q)+p) / 16+(16*(16*Y+q)+p))%2 ^ 8%16=p+q:=by omega
  rw[e4,e5]
def divq{n d q r:Nat}(h:n=d*q+r)(hr:r<d):n / d=q:=by rw[h,Nat.mul_add_div (by omega),Nat.div_eq_of_lt hr,Nat.add_zero]
def w1{A1 A2 A3 p0 p1 p2 a b:Nat}(ha:a=256*A1+p0)(h1:A1=256*A2+p1)(h2:A2=256*A3+p2)(hb:b=a+A1):b=65536*(A2+A3)+(256*(p1+p2)+p0+p1):=by omega
def w2{A2 A3 A4 A5 p2 p3 p4:Nat}(h2:A2=256*A3+p2)(h3:A3=256*A4+p3)(h4:A4=256*A5+p4):A2+A3=65536*(A4+A5)+(256*(p3+p4)+p2+p3):=by omega
def w3{X Y b c p0 p1 p2 r:Nat}(hb:b=65536*X+(256*(p1+p2)+p0+p1))(hc:c=b+X)(e3:X=65536*Y+r):c=65536*(X+Y)+(256*(p1+p2)+p0+p1+r):=by omega
def w4{X Y Z r s:Nat}(e3:X=65536*Y+r)(e4:Y=65536*Z+s):X+Y=65536*(Y+Z)+(r+s):=by omega
def w5{X Y A6 p0 p1 p2 p3 p4 p5 p6 p7 c:Nat}(e5:c=65536*X+(256*(p1+p2)+p0+p1+(256*(p3+p4)+p2+p3)))(e4:Y=65536*(A6+p7)+(256*(p5+p6)+p4+p5))(h6:A6=256*p7+p6) :
 c+(Y+(A6+p7))=128*(512*X+2*(p1+p2)+2*(p3+p4)+512*(A6+p7)+2*(p5+p6)+2*p7)+(p0+p1+p2+p3+p4+p5+p6+p7):=by omega
def w6{A B p m:Nat}(h:A=256*B+p)(hp:p<=8)(hB:B<=m):A<=256*m+8:=by omega
def AiC{p0 p1 p2 p3 p4 p5 p6 p7 A1 A2 A3 A4 A5 A6 a b c:Nat}(b0:p0<=8)(b1:p1<=8)(b2:p2<=8)(b3:p3<=8)(b4:p4<=8)(b5:p5<=8)(b6:p6<=8)(b7:p7<=8)
 (ha:a=256*A1+p0) (h1:A1=256*A2+p1) (h2:A2=256*A3+p2) (h3:A3=256*A4+p3) (h4:A4=256*A5+p4) (h5:A5=256*A6+p5) (h6:A6=256*p7+p6) (hb:b=a+a / 256) (hc:c=b+b / 65536) :
 (c+c / 4294967296)%128=p0+p1+p2+p3+p4+p5+p6+p7/\a<9223372036854775808/\b<9223372036854775808/\c<9223372036854775808/\c+c / 4294967296<9223372036854775808:=by
 have r1:256*(p1+p2)+p0+p1<65536:=by omega
 have r2:256*(p1+p2)+p0+p1+(256*(p3+p4)+p2+p3)<65536:=by clear ha h1 h2 h3 h4 h5 h6 hb hc;omega
 have r3:256*(p3+p4)+p2+p3+(256*(p5+p6)+p4+p5)<65536:=by clear ha h1 h2 h3 h4 h5 h6 hb hc;omega
 have r4:p0+p1+p2+p3+p4+p5+p6+p7<128:=by clear ha h1 h2 h3 h4 h5 h6 hb hc;omega
 have k6:=w6 h6 b6 b7;have k5:=w6 h5 b5 k6;have k4:=w6 h4 b4 k5;have k3:=w6 h3 b3 k4;have k2:=w6 h2 b2 k3;have k1:=w6 h1 b1 k2;have k0:=w6 ha b0 k1;have e1:a / 256=A1:=divq ha (Nat.lt_of_le_of_lt b0 (by decide));rw[e1]at hb;have Ss:=w1 ha h1 h2 hb;have e2:b / 65536=A2+A3:=divq Ss r1;rw[e2]at hc;have e3:=w2 h2 h3 h4;have e4:=w2 h4 h5 h6;have e5:=w3 Ss hc e3;have e6:c / 65536=(A2+A3)+(A4+A5):=divq e5 r2;have e8:=w4 e3 e4;have e7:c / 4294967296=(A4+A5)+(A6+p7):=by grind
 rw[e7];have e9:=w5 e5 e4 h6;clear e1 e2 e3 e4 e5 e6 e7 e8 Ss ha h1 h2 h3 h4 h5 h6 r1 r2 r3;refine⟨?_,by omega,by omega,by omega,by omega⟩;omega
def sw4(x a b c:Nat)(ha:a=d3 8 x)(hb:b=a+a / 256)(hc:c=b+b / 65536):(c+c / 4294967296)%128=popc x/\a<9223372036854775808/\b<9223372036854775808/\c<9223372036854775808/\c+c / 4294967296<9223372036854775808:=by
 have h:popc x=Hd 8 x+Hd 8 (x / 256)+Hd 8 (x / 256 / 256)+Hd 8 (x / 256 / 256 / 256)+Hd 8 (x / 256 / 256 / 256 / 256)+Hd 8 (x / 256 / 256 / 256 / 256 / 256)+Hd 8 (x / 256 / 256 / 256 / 256 / 256 / 256)+Hd 8 (x / 256 / 256 / 256 / 256 / 256 / 256 / 256):=by
  rw[Acb,show (64:Nat)=8+(8+(8+(8+(8+(8+(8+8)))))) from rfl];simp only[O1,Nat.reducePow];omega
 rw[h];simp[d3]at ha;exact AiC (Fh 8 _) (Fh 8 _) (Fh 8 _) (Fh 8 _) (Fh 8 _) (Fh 8 _) (Fh 8 _) (Fh 8 _) ha rfl rfl rfl rfl rfl rfl hb hc
@[reducible] def U(n:Nat):AV:=.v (.int .u64 n)
theorem Jf(x k j:Nat)(h:2 ^ min k 64=j):((x:Nat):Int).fdiv (2 ^ min k 64)=((x / j:Nat):Int):=by
 rw[Int.fdiv_eq_ediv_of_nonneg _ (Int.pow_nonneg (by omega)),<- h];simp
def K7{n:Nat}(h:n<18446744073709551616):IntKind.u64.wrap (n:Int)=(n:Int):=mD _ (by omega) (by omega)
def Vn(x:Nat)(hx:x<18446744073709551616):Ad C0 325 [U x] [] (I (popc x)) []:=by
 have e1:(6148914691236517205:Int)=((mk 2 1 32:Nat):Int):=by decide
 have e2:(3689348814741910323:Int)=((mk 4 3 16:Nat):Int):=by decide
 have e3:(1085102592571150095:Int)=((mk 8 15 8:Nat):Int):=by decide
 have l1:=yD 32 x;have l2:=yE 16 x;have h1:=sw1 32 x;have h2:=sw2 16 x;have h3:=sw3 8 x;refine Ad.go f325 ?_;unfold f325;simp(disch:=omega)only[go_sem];have s1:IntKind.u64.wrap (bits BinOp.and IntKind.u64 ((x:Int).fdiv (2 ^ min 1 64)) 6148914691236517205+bits BinOp.and IntKind.u64 (x:Int) 6148914691236517205)=((d1 32 x:Nat):Int):=by rw[Jf x 1 2 rfl,e1,bits_and_u64_nat _ _ (by omega) (by decide),bits_and_u64_nat _ _ hx (by decide),<- natCast_add,h1,K7 (by omega)]
 rw[s1];generalize d1 32 x=y at *;have s2:IntKind.u64.wrap (bits BinOp.and IntKind.u64 ((y:Int).fdiv (2 ^ min 2 64)) 3689348814741910323+bits BinOp.and IntKind.u64 (y:Int) 3689348814741910323)=((d2 16 x:Nat):Int):=by rw[Jf y 2 4 rfl,e2,bits_and_u64_nat _ _ (by omega) (by decide),bits_and_u64_nat _ _ (by omega) (by decide),<- natCast_add,h2,K7 (by omega)]
 rw[s2];generalize d2 16 x=z at *;have s3:bits BinOp.and IntKind.u64 (IntKind.u64.wrap ((z:Int).fdiv (2 ^ min 4 64)+(z:Int))) 1085102592571150095=((d3 8 x:Nat):Int):=by rw[Jf z 4 16 rfl,<- natCast_add,K7 (by omega),e3,bits_and_u64_nat _ _ (by omega) (by decide),h3]
 rw[s3];obtain⟨k1,k2,k3,k4,k5⟩:=sw4 x (d3 8 x) _ _ rfl rfl rfl;generalize d3 8 x=a at *;have s4:IntKind.u64.wrap ((a:Int)+(a:Int).fdiv (2 ^ min 8 64))=((a+a / 256:Nat):Int):=by rw[Jf a 8 256 rfl,<- natCast_add,K7 (by omega)]
 rw[s4];generalize a+a / 256=b at *;have s5:IntKind.u64.wrap ((b:Int)+(b:Int).fdiv (2 ^ min 16 64))=((b+b / 65536:Nat):Int):=by rw[Jf b 16 65536 rfl,<- natCast_add,K7 (by omega)]
 rw[s5];generalize b+b / 65536=c at *;have s6:IntKind.u64.wrap ((c:Int)+(c:Int).fdiv (2 ^ min 32 64))=((c+c / 4294967296:Nat):Int):=by rw[Jf c 32 4294967296 rfl,<- natCast_add,K7 (by omega)]
 rw[s6];generalize c+c / 4294967296=d at *;rw[wrap64 _ (by omega) (by omega),i64_and127];refine CT _ ?_;simp(disch:=omega)only[go_sem];exact .int (by omega)
def z6{k:Nat}(hk:k<64):u7[k]?=some (.v (.int .u8 ((Go.Lib.deBruijn64tab.getD k 0:Nat):Int))):=by
 have:Go.Lib.deBruijn64tab.length=64:=by decide
 unfold u7;rw[gm,gE (by omega)];simp[List.getD_eq_getElem?_getD,gE (by omega:k<Go.Lib.deBruijn64tab.length)]
def AaO(x:Nat)(hx:x<18446744073709551616):Ad C0 96 [U x] [] (I (Go.Lib.ctz 64 x)) []:=by
 refine Ad.go f96 ?_;unfold f96;refine gO ?_;refine⟨λh=>?_,λh=>?_⟩
 ·have h0:x=0:=by simp at h;omega
  subst h0;refine Al _ ?_;exact .int (by decide)
 ·have h0:x≠0:=λe=>by subst e;simp at h
  have So:(2:Nat) ^ 64=18446744073709551616:=by decide
  obtain⟨k1,k2⟩:=Go.Lib.lowest_bit 64 x h0 (by rw[So];exact hx);rw[So]at k1;obtain⟨k3,k4⟩:=Go.Lib.deBruijn64_at _ k2;generalize Go.Lib.ctz 64 x=k at *;have s1:IntKind.u64.wrap (0-(x:Int))=((18446744073709551616-x:Nat):Int):=by rw[IntKind.wrap_u64];omega
  rw[s1,bits_and_u64_nat _ _ hx (by omega),k1];have s2:IntKind.u64.wrap (((2 ^ k:Nat):Int)*285870213051353865)=((2 ^ k*285870213051353865%18446744073709551616:Nat):Int):=by rw[IntKind.wrap_u64];omega
  rw[s2,Jf _ 58 288230376151711744 rfl];generalize 2 ^ k*285870213051353865%18446744073709551616 / 288230376151711744=m at *;have hl:u7.length=64:=by decide
  have hg:=z6 k3;have hd:(u7.drop m).take 1=[.v (.int .u8 ((k:Nat):Int))]:=by
   rw[List.drop_eq_getElem_cons (by omega)];rw[gE (by omega)]at hg;injection hg with hg
   rw[hg,k4];rfl
  rw[if_pos ⟨by omega,by omega⟩,Int.toNat_natCast,Nat.mul_one];have hld:W1 C0 5 (.ep .no 0 u7 m) []=some (.v (.int .u8 ((k:Nat):Int))):=by
   rw[ov,F.ag5,F.sz5];simp only[NS];rw[if_pos (by omega),hd];rfl
  simp only[jG,td,xQ,Aag,xB,if_true,Option.getD_some,hld];refine gO ?_;exact AQ _
def qp{i:Nat}{s:List Nat}(hs:(i::s).Pairwise (· < ·))(hn:∀ j∈i::s,j<64):Go.Lib.ctz 64 (code (i::s))=i/\code (i::s) &&& (code (i::s)-1)=code s:=by
 have br:=pairwise_cons.1 hs;have hb:=EP (i::s);have AP:code (i::s)<2 ^ 64:=Pl hn;have h0:code (i::s)≠0:=λe=>by
  have:=hb i;rw[e]at this;simp at this
 obtain⟨m,hm,hk⟩:=Go.Lib.ctzFrom_spec 64 _ (by omega) AP;have hc:Go.Lib.ctz 64 (code (i::s))=Go.Lib.ctzFrom 64 (code (i::s)):=by simp[Go.Lib.ctz,h0]
 rw[hc];generalize Go.Lib.ctzFrom 64 (code (i::s))=c at *;have e1:code (i::s)=2 ^ (c+1)*m+2 ^ c:=by rw[hm,Nat.mul_add,Nat.pow_succ,Nat.mul_one,Nat.mul_assoc]
 have p1:2 ^ c<2 ^ (c+1):=Nat.pow_lt_pow_right (by omega) (by omega);have hx:∀ j,(code (i::s)).testBit j=if j<c+1 then decide (c=j) else m.testBit (j-(c+1)):=λj=>by rw[e1,Nat.testBit_two_pow_mul_add m p1 j,Nat.testBit_two_pow]
 have hci:c=i:=by
  rcases Nat.lt_trichotomy c i with h|h|h
  ·have h1:=hx c;rw[hb c,if_pos (by omega)]at h1;simp only[decide_true,decide_eq_true_eq]at h1;rcases mem_cons.1 h1 with h2|h2
   ·omega
   ·have:=br.1 c h2;omega
  ·exact h
  ·have h1:=hx i;rw[hb i,if_pos (by omega)]at h1;simp at h1;omega
 refine⟨hci,Nat.eq_of_testBit_eq λj=>?_⟩;have e2:code (i::s)-1=2 ^ (c+1)*m+(2 ^ c-1):=by
  have:1<=2 ^ c:=Nat.pow_pos (by omega);omega
 rw[Nat.testBit_and,e2,Nat.testBit_two_pow_mul_add m (by omega) j,Nat.testBit_two_pow_sub_one,hx j,EP s j];have VX:=hb j;rw[hx j]at VX
 by_cases hj:j<c+1
 ·rw[if_pos hj,if_pos hj];have:¬ j∈s:=λh=>by have:=br.1 j h;omega
  by_cases hcj:c=j
  ·subst hcj;simp[this]
  ·simp[hcj,this]
 ·rw[if_neg hj,if_neg hj,Bool.and_self];rw[if_neg hj]at VX;rw[VX];have:¬ j=i:=by omega
  simp[this]
end Go.Rd
