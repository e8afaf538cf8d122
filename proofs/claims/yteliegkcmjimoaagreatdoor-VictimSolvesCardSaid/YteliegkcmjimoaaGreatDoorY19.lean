/- part 19 of the proof -/
import Derived.Test.YteliegkcmjimoaaGreatDoorY18
set_option linter.all false
open Go Go.Abs Go.Proofs
set_option maxRecDepth 100000
namespace Go.Rd
set_option maxHeartbeats 8000000
open Tryz
def Pe{l:List Cand}(h:P0 l)(i j:Nat):P0 (Eo l i j):=by
 unfold Eo;split
 ·rename_i a b ha hb;intro c hc;rcases List.mem_or_eq_of_mem_set hc with hc|hc
  ·rcases List.mem_or_eq_of_mem_set hc with hc|hc
   ·exact h c hc
   ·subst hc;exact h.get hb
  ·subst hc;exact h.get ha
 ·exact h
def yl{α:Type}(lt:α->α->Bool):∀ (f g j:Nat) (l:List α),j<=f->j<=g->bY lt f j l=bY lt g j l:=by
 intro f
 induction f with
 | zero =>
  intro g j l h _;have:j=0:=by omega
  subst this;cases g<;>simp[bY]
 | succ f ih =>
  intro g j l h hg;cases g with
  | zero =>
   have:j=0:=by omega
   subst this;simp[bY]
  | succ g =>
   simp only[bY];split
   ·rfl
   ·rename_i hc;simp only[not_or]at hc;exact ih g _ _ (by omega) (by omega)
@[go_sem] theorem AiF:((2:Int)=0)=False:=by simp
theorem rz{k:Nat}(h0:k≠0)(h:k<=4294967296):IntKind.i64.wrap (((k:Int)-1).tdiv 2)=(((k-1) / 2:Nat):Int):=by
 rw[show ((k:Int)-1)=((k-1:Nat):Int) by omega];rw[show (((k-1:Nat):Int)).tdiv 2=(((k-1) / 2:Nat):Int) by rw[Int.tdiv_eq_ediv_of_nonneg (by omega)];omega];exact wrap64 _ (by omega) (by omega)
def yn{α:Type}{lt:α->α->Bool}{l:List α}{k:Nat}(h:Hl lt l k ((k-1) / 2)=false):bY lt k k l=l:=by
 cases k with
 | zero=>rfl
 | succ k=>simp only[bY];rw[if_pos (.inr h)]
def AfR{α:Type}{lt:α->α->Bool}{l:List α}{k:Nat}(h0:k≠0)(h:Hl lt l k ((k-1) / 2)=true):bY lt k k l=bY lt ((k-1) / 2) ((k-1) / 2) (Eo l ((k-1) / 2) k):=by
 cases k with
 | zero=>exact absurd rfl h0
 | succ k =>
  simp only[bY];rw[if_neg (by simp only[not_or,Bool.not_eq_false];exact⟨by omega,h⟩)];exact yl lt _ _ _ _ (by omega) (by omega)
def qe{X:Env}{d:Option Nat}{FF:Nat}{xs:List AV}{K:St->Prop}{st:St}(fn:Func)(h:Q3 ⟨X.C,X.ext⟩ (fn.body.getD .skip) (AfE X fn.results.toList λy os=>K (St.put d y ⟨Pd X.ext st.tmps,os⟩)) ⟨XY 0 xs,st.Aj⟩)
 (hX:∀ s∈X.ext,s%32=31:=by simp) (hf:X.C.P.funcs[FF]?=some fn:=by kernel_rfl) (Gj:(fn.name=="runtime.NumGoroutine")=false:=by kernel_rfl) (hb:fn.body=some (fn.body.getD .skip):=by kernel_rfl)
 (CC:HA fn.ntmps (fn.body.getD .skip)=true:=by kernel_rfl) (Hh:Nat.ble xs.length fn.ntmps=true:=by kernel_rfl):Bi X d FF xs K st :=
 qf hX hf Gj hb CC (Nat.le_of_ble_eq_true Hh) h
def ML{X:Env}{d:Option Nat}{K:St->Prop}{tm:List (Nat × AV)}(hX:∀ s∈X.ext,s%32=31)(hC:X.C=C0)(m:List Cand)(i j:Nat)(hi:i<m.length)(hj:j<m.length)(h:K (St.put d (.BC []) ⟨Pd X.ext tm,[(63,NW (Eo m i j))]⟩)) :
 Bi X d 323 [.sl (.own 0 0) 2 (m.map Cand.c),I i,I j] K ⟨tm,[(63,NW m)]⟩:=by
 obtain⟨C,ext⟩:=X;simp only at hC hX h ⊢;subst hC;obtain⟨a,ha⟩:=get_some hi;obtain⟨b,hb⟩:=get_some hj;refine qe f323 ?_ hX;unfold f323;refine gO ?_;refine Kh 12 [([],[0]),([],[1]),([],[0]),([],[2]),([],[0]),([],[2]),([4,5],[10,11]),([4,5,6],[12]),([],[0]),([],[1]),([8,9],[14,15]),([8,9,10],[16]),([0,1,4,5,6,7,8,9,10,11],[]),([0,1,4,5,6,7,8,9,10,11,12],[]),([0,1,2,3,4,5,6,7,8,9,10,11,12,13],[]),([0,1,2,3,4,5,6,7,8,9,10,11,12,13,14],[])] [2,3] [([],[6,7,13,17,0,2],let o0:OT:=.done;let o1:OT:=.pick [(15,o0)];let o2:OT:=.pick [(14,o1)];let o3:OT:=.pick [(13,o2)];let o4:OT:=.pick [(12,o3)];let o5:OT:=.pick [(3,o2)];let o6:OT:=.pick [(3,o3),(13,o5)];let o7:OT:=.pick [(3,o4),(12,o6)];let o8:OT:=.pick [(2,o2)];let o9:OT:=.pick [(2,o3),(13,o8)];let gu:OT:=.pick [(2,o4),(12,o9)];let oL:OT:=.pick [(2,o5),(3,o8)];let xM:OT:=.pick [(2,o6),(3,o9),(13,oL)];let sN:OT:=.pick [(2,o7),(3,gu),(12,xM)];sN),([3],[6,7,13,9,17,0,2],let o0:OT:=.done;let o1:OT:=.pick [(15,o0)];let o2:OT:=.pick [(14,o1)];let o3:OT:=.pick [(13,o2)];let o4:OT:=.pick [(12,o3)];let o5:OT:=.pick [(2,o2)];let o6:OT:=.pick [(2,o3),(13,o5)];let o7:OT:=.pick [(2,o4),(12,o6)];o7),([2],[6,7,13,8,17,0,2],let o0:OT:=.done;let o1:OT:=.pick [(15,o0)];let o2:OT:=.pick [(14,o1)];let o3:OT:=.pick [(13,o2)];let o4:OT:=.pick [(12,o3)];let o5:OT:=.pick [(3,o2)];let o6:OT:=.pick [(3,o3),(13,o5)];let o7:OT:=.pick [(3,o4),(12,o6)];o7),([2,3],[6,7,13,8,9,17,0,2],let o0:OT:=.done;let o1:OT:=.pick [(15,o0)];let o2:OT:=.pick [(14,o1)];let o3:OT:=.pick [(13,o2)];let o4:OT:=.pick [(12,o3)];o4)] B6 (by kernel_rfl) ?_;have zb:((m.map Cand.c).set i b.c).set j a.c=(Eo m i j).map Cand.c:=by simp only[Eo,ha,hb,List.map_set]
 simp only[Cand.c]at zb;have bg:((m.map Cand.c).set i [I b.cost,U b.set])[j]?=some [I b.cost,U b.set]:=by
  rw[List.getElem?_set];split
  ·rename_i e;subst e;simp[hi]
  ·simp[gm,hb,Cand.c]
 simp(disch:=omega)only[go_sem,List.length_map,List.length_set,bg,gm,ha,hb]
 repeat'(with_reducible refine And.intro ?_ ?_)
 all_goals(refine⟨[],rfl,?_⟩)
 all_goals(try rw[zb])
 all_goals exact h
def AaP(l:List Cand)(j:Nat)(hj:j<l.length)(hn:l.length<=4294967296)(hs:P0 l):Ad C0 97 [.Kb 92 (.ptr 63 0),I j] [(63,NW l)] (.BC []) [(63,NW (bY AU j j l))]:=by
 refine Ad.go f97 ?_;unfold f97;refine gO ?_;refine Ao (α:=Nat × List Cand) (λx=>⟨[(0,.Kb 92 (.ptr 63 0)),(1,I x.1)],[(63,NW x.2)]⟩) (λx=>x.1<x.2.length/\x.2.length=l.length/\P0 x.2/\bY AU x.1 x.1 x.2=bY AU j j l) (λx=>x.1) (j,l) ⟨hj,rfl,hs,rfl⟩ AK ?_;rintro⟨k,m⟩ ⟨h1,h2,h3,h4⟩ J hJ;simp only at h1 h2 h3 h4
 by_cases h0:k=0
 ·subst h0;have hz:IntKind.i64.wrap (Int.tdiv (-1) 2)=0:=by decide
  simp(disch:=omega)only[go_sem,hz];refine AY ⟨[(0,0)],[(63,63)],[]⟩ [] rfl ⟨rfl,rfl⟩ (by simp[lk]) ?_ ?_
  ·exact gI
  ·simp(disch:=omega)only[go_sem];exact .sl (by rw[<- h4];rfl)
 ·have hq:=rz h0 (by omega);have CZ:((((k-1) / 2:Nat):Int)==(k:Int))=false:=by simp;omega
  simp(disch:=omega)only[go_sem,hq,CZ];refine B4 [0] (RE m k ((k-1) / 2) (by omega) (by omega) h3) gI rfl trivial ?_;refine gO ?_;refine⟨λh=>?_,λh=>?_⟩
  ·have h5:Hl AU m k ((k-1) / 2)=false:=by simpa using h
   rw[yn h5]at h4;refine AY ⟨[(0,0)],[(63,63)],[]⟩ [] rfl ⟨rfl,rfl⟩ (by simp[lk]) ?_ ?_
   ·exact gI
   ·simp(disch:=omega)only[go_sem];exact .sl (by rw[<- h4])
  ·have h5:Hl AU m k ((k-1) / 2)=true:=by simpa using h
   rw[AfR h0 h5]at h4;refine ML (by simp) rfl m ((k-1) / 2) k (by omega) h1 ?_;refine gO ?_;refine hJ _ ((k-1) / 2,Eo m ((k-1) / 2) k) ⟨by rw[EX];omega,by rw[EX];exact h2,Pe h3 _ _,h4⟩ (by simp only;omega) AK
def nr{α:Type}(lt:α->α->Bool):∀ (f g i n:Nat) (l:List α),n<=i+f->n<=i+g->Fo lt f i n l=Fo lt g i n l:=by
 intro f
 induction f with
 | zero =>
  intro g i n l h _;cases g with
  | zero=>rfl
  | succ g=>simp only[Fo];grind
 | succ f ih =>
  intro g i n l h hg;cases g with
  | zero=>grind
  | succ g =>
   simp[Fo];split
   ·rfl
   ·rename_i hc;simp only[not_or]at hc;grind[RW]
def Pp{α:Type}{lt:α->α->Bool}{l:List α}{i n:Nat}(h:n<=2*i+1\/Hl lt l (Ld lt l i n) i=false):Fo lt (n-i) i n l=l:=by cases hf:n-i<;>simp_all[Fo]
def aB{α:Type}{lt:α->α->Bool}{l:List α}{i n:Nat}(h1:¬ n<=2*i+1)(h2:Hl lt l (Ld lt l i n) i=true):Fo lt (n-i) i n l=Fo lt (n-Ld lt l i n) (Ld lt l i n) n (Eo l i (Ld lt l i n)):=by
 have:=(RW (lt:=lt) (l:=l) h1);cases hf:n-i with
 | zero=>omega
 | succ f =>
  simp[Fo];rw[if_neg (by grind)];exact nr lt _ _ _ _ _ (by omega) (by omega)
def AaN(l:List Cand)(i n:Nat)(hi:i<=n)(Hf:n<=l.length)(hn:l.length<=4294967296)(hs:P0 l):Ad C0 95 [.Kb 92 (.ptr 63 0),I i,I n] [(63,NW l)] .undef [(63,NW (Fo AU (n-i) i n l))]:=by
 refine Ad.go f95 ?_;unfold f95;refine gO ?_;refine Ao (α:=Nat × List Cand) (λx=>⟨[(0,.Kb 92 (.ptr 63 0)),(1,I i),(2,I n),(7,I x.1)],[(63,NW x.2)]⟩) (λx=>x.1<=n/\x.2.length=l.length/\P0 x.2/\Fo AU (n-x.1) x.1 n x.2=Fo AU (n-i) i n l) (λx=>n-x.1) (i,l) ⟨hi,rfl,hs,rfl⟩ AK ?_;rintro⟨k,m⟩ ⟨h1,h2,h3,h4⟩ J hJ;simp only at h1 h2 h3 h4;obtain⟨a,ha⟩:∃ a:Nat,a=2*k+1:=⟨_,rfl⟩;obtain⟨b,hb⟩:∃ b:Nat,b=2*k+2:=⟨_,rfl⟩;have e1:2*(k:Int)+1=(a:Int):=by omega
 have e2:(a:Int)+1=(b:Int):=by omega
 have fin:∀ st',Fo AU (n-k) k n m=m->st'.Aj=[(63,NW m)]->Cx C0 st' [ResultVar.tmp 6]=some [B (decide ((i:Int)<k))]->Xx ⟨C0,[63]⟩ [ResultVar.tmp 6] .undef [(63,NW (Fo AU (n-i) i n l))] .ret st':=by
  rintro⟨tm,ob⟩ hd ho hr;simp only at ho;subst ho;refine AY ⟨[(0,0)],[(63,63)],[]⟩ _ hr ⟨rfl,rfl⟩ (by simp[lk]) ?_ ?_
  ·exact gI
  ·refine gO ?_;exact .sl (by grind)
 by_cases hle:n<=a
 ·simp(disch:=omega)only[go_sem,e1,eq_true (show (n:Int)<=(a:Int) by omega)];exact fin _ (Pp (.inl (by omega))) rfl (by simp only[go_sem,Cx,Gv])
 have Y5:((a:Int)<0)=False:=by simp
 have X7:=RW (lt:=AU) (l:=m) (i:=k) (n:=n) (by omega);simp(disch:=omega)only[go_sem,e1,e2,eq_false (show ¬ (n:Int)<=(a:Int) by omega),Y5]
 by_cases nR:b<n
 ·simp only[go_sem,eq_true (show (b:Int)<(n:Int) by omega)];refine B4 [0] (RE m b a (by omega) (by omega) h3) gI rfl trivial (gO ?_);refine⟨λh=>?_,λh=>?_⟩
  ·have hj:b=Ld AU m k n:=by simp_all[Ld]
   refine B4 [0] (RE m b k (by omega) (by omega) h3) gI rfl trivial (gO ?_);refine⟨λh=>?_,λh=>?_⟩
   ·have h5:Hl AU m b k=false:=by grind
    exact fin _ (Pp (.inr (by grind))) rfl (by simp only[go_sem,Cx,Gv])
   ·have h5:Hl AU m b k=true:=by grind
    have h6:=aB (lt:=AU) (l:=m) (i:=k) (n:=n) (by omega) (by grind);rw[<- hj]at h6;rw[h6]at h4;refine ML (by simp) rfl m k b (by omega) (by omega) (gO ?_);exact hJ _ (b,Eo m k b) ⟨by omega,by grind[EX],Pe h3 _ _,h4⟩ (by omega) AK
  ·have hj:a=Ld AU m k n:=by simp_all[Ld]
   refine B4 [0] (RE m a k (by omega) (by omega) h3) gI rfl trivial (gO ?_);refine⟨λh=>?_,λh=>?_⟩
   ·have h5:Hl AU m a k=false:=by grind
    exact fin _ (Pp (.inr (by grind))) rfl (by simp only[go_sem,Cx,Gv])
   ·have h5:Hl AU m a k=true:=by grind
    have h6:=aB (lt:=AU) (l:=m) (i:=k) (n:=n) (by omega) (by grind);rw[<- hj]at h6;rw[h6]at h4;refine ML (by simp) rfl m k a (by omega) (by omega) (gO ?_);exact hJ _ (a,Eo m k a) ⟨by omega,by grind[EX],Pe h3 _ _,h4⟩ (by omega) AK
 ·simp only[go_sem,eq_false (show ¬ (b:Int)<(n:Int) by omega)];have hj:a=Ld AU m k n:=by unfold Ld;grind
  refine B4 [0] (RE m a k (by omega) (by omega) h3) gI rfl trivial (gO ?_);refine⟨λh=>?_,λh=>?_⟩
  ·have h5:Hl AU m a k=false:=by grind
   exact fin _ (Pp (.inr (by grind))) rfl (by simp only[go_sem,Cx,Gv])
  ·have h5:Hl AU m a k=true:=by grind
   have h6:=aB (lt:=AU) (l:=m) (i:=k) (n:=n) (by omega) (by grind);rw[<- hj]at h6;rw[h6]at h4;refine ML (by simp) rfl m k a (by omega) (by omega) (gO ?_);exact hJ _ (a,Eo m k a) ⟨by omega,by grind[EX],Pe h3 _ _,h4⟩ (by omega) AK
def AaA(l:List Cand)(x:Cand)(hn:l.length+1<=4294967296)(hs:P0 l)(hx:x.set<18446744073709551616):Ad C0 52 [.Kb 92 (.ptr 63 0),.Kb 95 (.agg x.c)] [(63,NW l)] (.BC []) [(63,NW (Xr AU l x))]:=by
 have dF:P0 (l++[x]):=λc hc=>by
  rcases List.mem_append.1 hc with h|h
  ·exact hs c h
  grind
 refine Ad.go f52 ?_;unfold f52;refine gO ?_;refine call2 ⟨⟨[(0,0)],[(63,63)],[]⟩,[],[]⟩ (wQ l x hn) (gO ?_);refine B4 [0] (ib (l++[x])) gI rfl trivial (gO ?_);refine call2 ⟨⟨[(0,0)],[(63,63)],[]⟩,[],[]⟩ (AaP (l++[x]) l.length (by simp) (by grind) dF) ?_ (hx:=by(try refine gO ?_);exact .int (by omega));refine gO ?_;refine AY ⟨[(0,0)],[(63,63)],[]⟩ _ rfl ⟨rfl,rfl⟩ (by simp[lk]) ?_ ?_
 ·exact gI
 ·simp only[go_sem,Xr]
def Aax(l:List Cand)(x:Cand)(hx:(LL AU l)[l.length-1]?=some x)(h0:l≠[])(hn:l.length<=4294967296)(hs:P0 l):Ad C0 48 [.Kb 92 (.ptr 63 0)] [(63,NW l)] (.Kb 95 (.agg x.c)) [(63,NW ((LL AU l).take (l.length-1)))]:=by
 have hl:0<l.length:=List.length_pos_iff.2 h0;have hw:IntKind.i64.wrap ((l.length:Int)-1)=((l.length-1:Nat):Int):=by rw[wrap64 _ (by omega) (by omega)];omega
 have lK:(LL AU l).length=l.length:=by grind[LL,Wb,EX]
 refine Ad.go f48 ?_;unfold f48;refine gO ?_;refine B4 [0] (ib l) gI rfl trivial (gS ?_);refine ML (by simp) rfl l 0 (l.length-1) (by omega) (by omega) (gO ?_);refine call2 ⟨⟨[(0,0)],[(63,63)],[]⟩,[],[]⟩ (AaN (Eo l 0 (l.length-1)) 0 (l.length-1) (by omega) (by grind[EX]) (by grind[EX]) (Pe hs _ _)) ?_;have e:Fo AU (l.length-1-0) 0 (l.length-1) (Eo l 0 (l.length-1))=LL AU l:=rfl;rw[e];refine gO ?_;refine call2 ⟨⟨[(0,0)],[(63,63)],[]⟩,[],[]⟩ (wP (LL AU l) x (by grind) (by omega)) ?_;refine gO ?_;refine AY ⟨[(0,0)],[(63,63)],[]⟩ _ rfl ⟨rfl,rfl⟩ (by simp[lk]) ?_ ?_
 ·exact gI
 ·refine gO ?_;exact .sl (by rw[lK])
def Fq(i:Nat):List AV:=[I i]
@[reducible] def E3(S:List Nat):AV:=.sl .no 1 (S.map Fq)
attribute [go_sem] Fq
def qn{i:Nat}{s:List Nat}:code (i::s)≠0:=λe=>by
 have:=EP (i::s) i;rw[e]at this;simp at this
def Aay(cost:Int)(S:List Nat)(hS:S.Pairwise (· < ·))(hn:∀ i∈S,i<64):Ad C0 49 [.agg (Cand.mk cost (code S)).c] [] (E3 S) []:=by
 have hlen:S.length<=64:=by
  have:=Kz hS hn;rw[<- this];exact Nat.le_trans (List.length_filter_le _ _) (by simp)
 refine Ad.go f49 ?_;unfold f49;refine gO ?_;refine Ao (α:=List Nat × List Nat) (λx=>⟨[(1,.ptr 64 0),(3,.sl (.own 0 0) 1 (x.1.map Fq)),(4,U (code x.2))],[(64,(Cand.mk cost (code S)).c)]⟩) (λx=>x.1++x.2=S) (λx=>x.2.length) ([],S) rfl AK ?_;rintro⟨pre,s⟩ iL J hJ;simp only at iL;cases s with
 | nil =>
  have Abz:pre=S:=by grind
  subst Abz;simp only[go_sem,code];refine CU ⟨[],[],[0]⟩ _ ?_;exact gI
 | cons i s =>
  have hs:(i::s).Pairwise (· < ·):=hS.sublist (by grind);have iH:∀ j∈i::s,j<64:=λj hj=>hn j (by grind)
  have AP:code (i::s)<18446744073709551616:=Pl (n:=64) iH;obtain⟨k1,k2⟩:=qp hs iH;have CZ:=qn (i:=i) (s:=s);have hb:(((code (i::s):Nat):Int) !=0)=true:=by grind
  have GJ:IntKind.u64.wrap (((code (i::s):Nat):Int)-1)=((code (i::s)-1:Nat):Int):=by grind[mD]
  have hand:bits BinOp.and IntKind.u64 ((code (i::s):Nat):Int) ((code (i::s)-1:Nat):Int)=((code s:Nat):Int):=by grind[bits_and_u64_nat]
  have Sv:pre.length<=64:=by grind
  refine gS ?_;refine Ab (AaO (code (i::s)) AP) ?_;rw[k1];refine gS ?_;refine hJ _ (pre++[i],s) (by grind) (by simp) (AT.CX ⟨[(1088,0)],[(64,64)],[]⟩ ⟨rfl,rfl⟩ (by grind) ?_ ?_)
  ·simp only[go_sem,List.map_append]
  ·exact gI
def GX(l:List Ac)(p:Ac):Nat:=match l.findIdx? (λq=>decide (BF p q=0)) with
 |some i=>2 ^ i
 |none=>0
def ic(l:List Ac)(p:Ac)(hl:l.length<=62):Ad C0 50 [AL l,.agg p.c] [] (I (GX l p)) []:=by
 refine Ad.go f50 ?_;unfold f50;refine gO ?_;refine AF (l) (λi=>⟨[(3,.ptr 192 0),(7,AL l),(8,I l.length),(9,I i)],[(192,p.c)]⟩) (λi=>(∀ k q,k<i->l[k]?=some q->¬ BF p q=0)) ((λ_ _ h=>by omega)) ?_ ?_
 ·exact Ce
 rintro i ⟨hi,hP⟩ J hJ;refine gO ?_;refine Bo hi (λAP b hb Cg AX=>?_) λBa=>?_
 simp(disch:=omega)only[go_sem,hb]
 ·refine Ab (LC p b) (gO ?_);refine⟨λh=>?_,λh=>?_⟩
  ·have h0:BF p b=0:=by grind[CJ]
   have hf:l.findIdx? (λq=>decide (BF p q=0))=some i:=by grind[List.findIdx?_eq_some_iff_getElem]
   have AhI:i<62:=by omega
   have h4:(2:Nat) ^ i<4611686018427387904:=Nat.lt_of_lt_of_le (Nat.pow_lt_pow_right (by omega) AhI) (by decide);have h5:((2:Int) ^ min i 64)=((2 ^ i:Nat):Int):=by grind
   have Ss:GX l p=2 ^ i:=by grind[GX]
   rw[Ss];generalize 2 ^ i=z at h4 h5 ⊢;refine Al _ ?_;exact .int (by omega)
  ·have h0:¬ BF p b=0:=λe=>(show ¬p=b by grind) (FL e)
   have hP':∀ k q,k<i+1->l[k]?=some q->¬ BF p q=0:=λk q hk hq=>by grind
   refine hJ _ (i+1) ⟨by omega,hP'⟩ (by omega) AK
 ·subst Ba;have hf:l.findIdx? (λq=>decide (BF p q=0))=none:=by grind[List.mem_iff_getElem?]
  refine Al _ ?_;exact .int (by simp[GX,hf])
def fV(n D:Nat)(c:Cand):Nat:=(n-Em (VQ c.set)+1) ^ (D-(VQ c.set).length)
def lU{P:Srch}{S:List Nat}(hS:isSet P S):Em S<=P.n:=by
 unfold Em;cases h:S.getLast? with
 |none=>grind
 |some k =>
  obtain⟨T,rfl⟩:=List.getLast?_eq_some_iff.1 h;have:=hS.2.1 k (by simp);simp only[Option.elim];omega
def eX(h:List Cand)(l:List Cand)(hh:Heap AU h):(Jd h l).length=l.length+h.length:=by
 have:=(Ke l h hh).2.length_eq;simpa using this
def QM(x:Nat):Nat:=if x=0 then 0 else x.log2+1
def RZ(x k:Nat):QM x<=k↔x<2 ^ k:=by
 unfold QM;split
 ·rename_i h;subst h;have:0<2 ^ k:=Nat.pow_pos (by omega);omega
 ·rename_i h;rw[<- Nat.log2_lt h];omega
def HE{x k j:Nat}(hj:2 ^ k=j)(h:j<=x):QM x=k+QM (x / j):=by
 subst hj;have key:∀ i,QM x<=i↔k+QM (x / 2 ^ k)<=i:=λi=>by
  rw[RZ]
  by_cases hi:i<k
  ·have:2 ^ i<2 ^ k:=Nat.pow_lt_pow_right (by omega) hi;constructor<;>intro h'<;>omega
  ·have e:=RZ (x / 2 ^ k) (i-k);have e2:2 ^ i=2 ^ (i-k)*2 ^ k:=by rw[<- Nat.pow_add];congr 1;omega
   rw[Nat.div_lt_iff_lt_mul (Nat.pow_pos (by omega)),<- e2]at e;omega
 have h1:=(key (QM x)).1 (Nat.le_refl _);have h2:=(key (k+QM (x / 2 ^ k))).2 (Nat.le_refl _);omega
def oq:∀ {S:List Nat},S.Pairwise (· < ·)->QM (code S)=Em S:=by
 intro S hS;have h1:QM (code S)<=Em S:=(RZ _ _).2 (Pl λi hi=>ek hS i hi);cases hl:S.getLast? with
 |none =>
  have:Em S=0:=by simp[Em,hl]
  omega
 |some k =>
  have e:Em S=k+1:=by simp[Em,hl]
  have hk:k∈S:=List.mem_of_getLast? hl;rcases Nat.lt_or_ge k (QM (code S)) with h|h
  ·omega
  ·have h2:=(RZ _ _).1 h;have h3:=EP S k;rw[Nat.testBit_lt_two_pow h2]at h3;simp[hk]at h3
theorem AfI(x:Nat):(x:Int).fdiv (2 ^ min 32 64)=((x / 4294967296:Nat):Int):=Jf x 32 4294967296 rfl
theorem AfH(x:Nat):(x:Int).fdiv (2 ^ min 16 64)=((x / 65536:Nat):Int):=Jf x 16 65536 rfl
theorem AiA(x:Nat):(x:Int).fdiv (2 ^ min 8 64)=((x / 256:Nat):Int):=Jf x 8 256 rfl
def UG{n:Nat}(h:n<256):IntKind.u8.wrap (n:Int)=(n:Int):=by rw[IntKind.wrap_u8];omega
def Lx{d:Option Nat}{K:St->Prop}{T:ByteArray}{st:St}{y:Nat}(hy:y<256)(hT:(List.range 256).all (λk=>T[k]?.map (λc=>c.toNat)==some (QM k))=true)(h:HX d K (some (.v (.int .u8 (QM y)))) st):HX d K (Option.map (λc=>AV.v (.int .u8 (c.toNat:Int))) T[(y:Int).toNat]?) st:=by
 have h1:=List.all_eq_true.1 hT y (List.mem_range.2 hy);simp only[beq_iff_eq]at h1;rw[Int.toNat_natCast];cases hc:T[y]? with
 |none=>rw[hc]at h1;cases h1
 |some c =>
  rw[hc]at h1;simp only[Option.map_some,Option.some.injEq]at h1;rw[<- h1]at h;exact h
def Aaz(x:Nat)(hx:x<18446744073709551616):Ad C0 51 [U x] [] (I (QM x)) []:=by
 have hb:QM x<=64:=(RZ x 64).2 (by simpa using hx);refine Ad.go f51 ?_;unfold f51;simp(disch:=omega)only[go_sem,AfI,AfH,AiA];refine⟨λh1=>?_,λh1=>?_⟩
 ·have e1:=HE (k:=32) (j:=4294967296) (x:=x) (by decide) (by simp at h1;omega);refine⟨λh2=>?_,λh2=>?_⟩
  ·have e2:=HE (k:=16) (j:=65536) (x:=x / 4294967296) (by decide) (by simp at h2;omega);refine⟨λh3=>?_,λh3=>?_⟩
   ·have e3:=HE (k:=8) (j:=256) (x:=x / 4294967296 / 65536) (by decide) (by simp at h3;omega);have k1:x / 4294967296 / 65536 / 256<256:=by omega
    rw[UG k1];refine Lx k1 (by kernel_rfl) ?_;refine gO ?_;refine Al _ ?_;exact .int (by omega)
   ·have k1:x / 4294967296 / 65536<256:=by simp at h3;omega
    rw[UG k1];refine Lx k1 (by kernel_rfl) ?_;refine gO ?_;refine Al _ ?_;exact .int (by omega)
  ·refine⟨λh3=>?_,λh3=>?_⟩
   ·have e3:=HE (k:=8) (j:=256) (x:=x / 4294967296) (by decide) (by simp at h3;omega);have k1:x / 4294967296 / 256<256:=by simp at h2;omega
    rw[UG k1];refine Lx k1 (by kernel_rfl) ?_;refine gO ?_;refine Al _ ?_;exact .int (by omega)
   ·have k1:x / 4294967296<256:=by simp at h3;omega
    rw[UG k1];refine Lx k1 (by kernel_rfl) ?_;refine gO ?_;refine Al _ ?_;exact .int (by omega)
 ·refine⟨λh2=>?_,λh2=>?_⟩
  ·have e2:=HE (k:=16) (j:=65536) (x:=x) (by decide) (by simp at h2;omega);refine⟨λh3=>?_,λh3=>?_⟩
   ·have e3:=HE (k:=8) (j:=256) (x:=x / 65536) (by decide) (by simp at h3;omega);have k1:x / 65536 / 256<256:=by simp at h1;omega
    rw[UG k1];refine Lx k1 (by kernel_rfl) ?_;refine gO ?_;refine Al _ ?_;exact .int (by omega)
   ·have k1:x / 65536<256:=by simp at h3;omega
    rw[UG k1];refine Lx k1 (by kernel_rfl) ?_;refine gO ?_;refine Al _ ?_;exact .int (by omega)
  ·refine⟨λh3=>?_,λh3=>?_⟩
   ·have e3:=HE (k:=8) (j:=256) (x:=x) (by decide) (by simp at h3;omega);have k1:x / 256<256:=by simp at h2;omega
    rw[UG k1];refine Lx k1 (by kernel_rfl) ?_;refine gO ?_;refine Al _ ?_;exact .int (by omega)
   ·have k1:x<256:=by simp at h3;omega
    rw[UG k1];refine Lx k1 (by kernel_rfl) ?_;refine gO ?_;refine Al _ ?_;exact .int (by omega)
end Go.Rd
namespace Go.Abs
def LS(b:Nat->Bool)(i:Nat):Nat->Bool:=λj=>b j||decide (j=i)
def dp(b:Nat->Bool):List Nat->Nat->Bool
 |[]=>b
 | n::ns=>λj=>if j=n then false else dp b ns j
def OA(b:Nat->Bool):List Nat->List Nat->Nat->Bool
 |[],ns=>dp b ns
 | p::ps,ns=>λj=>if j=p then true else OA b ps ns j
def clos(ops:Array Oper)(b:Nat->Bool):Prop:=∀ j,j<ops.size->b j=true->∀ e∈BL ops j,b e=true
def zl(ops:Array Oper):Bool:=(List.range ops.size).all λi=>(BL ops i).all λe=>decide (e<i)
def ao(ops:Array Oper)(i:Nat):List Nat->List Nat->Bool
 |_,[]=>true
 | seen,p::ps=>((BL ops i).contains p||seen.any λq=>decide (q<ops.size)&&(BL ops q).contains p)&&ao ops i (p::seen) ps
def an(ops:Array Oper)(i:Nat):List Nat->List Nat->Bool
 |_,[]=>true
 | seen,n::ns=>decide (n<ops.size)&&((BL ops n).contains i||seen.any λq=>(BL ops n).contains q)&&an ops i (n::seen) ns
def mF(ops:Array Oper)(E:List (Nat × List Nat × List Nat)):Bool:=zl ops&&(E.map (·.1)==List.range ops.size)&&E.all λe=>ao ops e.1 [] e.2.1&&an ops e.1 [] e.2.2
def Pf(X:Env)(ops:Array Oper)(S:(Nat->Bool)->St)(b:Nat->Bool):List (Nat × List Nat × List Nat)->Prop
 |[]=>True
 |(i,ps,ns)::l=>Bw X ops (N3 ops i) (λst'=>AT X st' (S (LS (OA b ps (i::ns)) i))) (S (OA b ps (i::ns)))/\Pf X ops S b l
section
variable {X:Env} {A:A0} {N:Nat} {ops:Array Oper}
def lA{b:Nat->Bool}:∀ {ns:List Nat},(∀ n∈ns,b n=false)->dp b ns=b
 |[],_=>rfl
 | n::ns,hn=>by
  funext j;simp only[dp];split
  ·rename_i h;subst h;exact(hn j (by simp)).symm
  ·rw[lA λm hm=>hn m (by simp[hm])]
theorem aY{b:Nat->Bool}:∀ {ps ns:List Nat},(∀ p∈ps,b p=true)->(∀ n∈ns,b n=false)->OA b ps ns=b
 |[],ns,_,hn=>lA hn
 | p::ps,ns,hp,hn=>by
  funext j;simp only[OA];split
  ·rename_i h;subst h;exact(hp j (by simp)).symm
  ·rw[aY (λm hm=>hp m (by simp[hm])) hn]
def TS{b:Nat->Bool}(hc:clos ops b){i:Nat}(hi:∀ e∈BL ops i,b e=true):∀ (ps seen:List Nat),(∀ q∈seen,b q=true)->ao ops i seen ps=true->∀ p∈ps,b p=true
 |[],_,_,_,p,hp=>by grind
 | p::ps,seen,hs,h,p',gq=>by
  simp[ao]at h;have h1:b p=true:=by
   rcases h.1 with h1|⟨q,hq,h2,h3⟩
   ·grind
   ·exact hc q h2 (hs q hq) p h3
  rcases List.mem_cons.1 gq with rfl|gq
  ·omega
  ·exact TS hc hi ps (p::seen) (λq hq=>by grind) h.2 p' gq
theorem TR{b:Nat->Bool}(hc:clos ops b){i:Nat}(hi:b i=false):∀ (ns seen:List Nat),(∀ q∈seen,b q=false)->an ops i seen ns=true->∀ n∈ns,b n=false
 |[],_,_,_,p,hp=>by grind
 | n::ns,seen,hs,h,n',iH=>by
  simp[an]at h;have h1:b n=false:=by
   cases hb:b n with
   | false=>rfl
   | true =>
    rcases h.1.2 with h2|⟨q,hq,h2⟩
    ·have:=hc n h.1.1 hb i h2;grind
    ·have:=hc n h.1.1 hb q h2;grind
  rcases List.mem_cons.1 iH with rfl|iH
  ·omega
  ·exact TR hc hi ns (n::seen) (λq hq=>by grind) h.2 n' iH
def fM{S:(Nat->Bool)->St}{b:Nat->Bool}{e:Nat × List Nat × List Nat}:∀ {E:List (Nat × List Nat × List Nat)},Pf X ops S b E->e∈E->Bw X ops (N3 ops e.1) (λst'=>AT X st' (S (LS (OA b e.2.1 (e.1::e.2.2)) e.1))) (S (OA b e.2.1 (e.1::e.2.2)))
 |[],_,h=>by cases h
 |(i,ps,ns)::l,h,hm=>by
  simp[Pf]at h;rcases List.mem_cons.1 hm with rfl|hm
  ·grind
  ·exact fM h.2 hm
def pk(hA:A.ext=X.ext)(hX:∀ s∈X.ext,s%32=31)(hN:gy N ops){Q:Exit->Act->World->Prop}{K:St->Prop}(hQ:∀ g st a w,R X.C A N g st a w->K st->Q .normal a w)
 {E:List (Nat × List Nat × List Nat)} {S:(Nat->Bool)->St} (CC:mF ops E=true) (hs:∀ b,Pf X ops S b E) (he:∀ b,(∀ j,j<ops.size->b j=true)->K (S b)) :
 ∀ (fuel:Nat) (b:Nat->Bool) (Af:Array Bool) (g:Gh) (a:Act) (w:World),Af.size=ops.size->XU Af<=fuel->(∀ j,j<ops.size->ES Af j=b j)->clos ops b->R X.C A N g (S b) a w ->
  wpAny X.C.P .any ops Q fuel Af a w:=by
 simp only[mF,Bool.and_eq_true,List.all_eq_true,beq_iff_eq]at CC;obtain⟨⟨bk,hE⟩,hch⟩:=CC;simp[zl]at bk
 -- nothing ready: all is done
 have all:∀ (b:Nat->Bool) (Af:Array Bool),Af.size=ops.size->(∀ j,j<ops.size->ES Af j=b j)->Region.ready .any ops Af=[]->∀ j,j<ops.size->b j=true:=by
  intro b Af Hb hd h0 j
  induction j using Nat.strongRecOn with
  |_ j ih =>
   intro hj;cases hb:b j with
   | true=>rfl
   | false =>
    have Ha:j∈Region.ready .any ops Af:=(Cj Hb).2 ⟨hj,by grind,λe qH=>by grind⟩;grind
 intro fuel
 induction fuel with
 | zero =>
  intro b Af g a w Hb hu hd RN hR;have h0:Region.ready .any ops Af=[]:=by
   cases iX:Region.ready .any ops Af with
   | nil=>rfl
   | cons j l' =>
    have hj:j∈Region.ready .any ops Af:=by grind
    grind[Cj,Iv]
  exact⟨h0,hQ g _ a w hR (he b (all b Af Hb hd h0))⟩
 | succ fuel ih =>
  intro b Af g a w Hb hu hd RN hR;refine⟨λh0=>hQ g _ a w hR (he b (all b Af Hb hd h0)),λj hj=>?_⟩;obtain⟨k1,k2,k3⟩:=(Cj Hb).1 hj;have cc:b j=false:=by grind
  have Abz:∀ e∈BL ops j,b e=true:=λe qH=>by grind
  obtain⟨e,heE,rfl⟩:∃ e,e∈E/\e.1=j:=by
   have:j∈E.map (·.1):=by grind
   grind
  have hc:=hch e heE;have bp:=fM (hs b) heE;rw[aY (TS RN Abz _ [] (λ_ h=>by cases h) hc.1) (λn hn=>by
   rcases List.mem_cons.1 hn with rfl|hn
   ·omega
   grind[TR])]at bp
  have ho:ops[e.1]?=some ops[e.1]:=Array.getElem?_eq_getElem k1;simp[N3,ho,Bw]at bp;refine OZ hA hX ho (λg' st' a' w' WC um=>?_) (hN.1 _ (Array.getElem_mem k1)) bp hR;obtain⟨g2,pw⟩:=um A N g' a' w' hA WC;refine ih (LS b e.1) _ g2 a' w' (by grind) (by grind[Jh]) (λj' gF=>?_) (λj' gF N8 e' nT=>?_) pw
  ·rw[Ff (by omega)];grind[Jk,LS]
  ·simp[LS]at N8 ⊢;rcases N8 with N8|rfl
   ·exact .inl (RN j' gF N8 e' nT)
   grind
end
def qC{X:Env}{ops:Array Oper}{K:St->Prop}{st:St}(E:List (Nat × List Nat × List Nat))(S:(Nat->Bool)->St)(h0:AT X st (S λ_=>false))(hs:∀ b,Pf X ops S b E)(he:∀ b,K (S (OA b (List.range ops.size) [])))(hm:X.C.P.follows .mixedOrders=true)
 (CC:(J7 ops&&mF ops E)=true:=by kernel_rfl):Lj X ops K st:=by
 refine Ep h0 ?_;intro A N g a w hA hN hX hR id Q hQ;simp at CC;refine wp_region_any hm ?_;refine pk hA hX (N:=N) (K:=K) ⟨λo ho=>?_,λi hi e he=>?_⟩ hQ CC.2 hs (λb hb=>?_) ops.size (λ_=>false) (Array.replicate ops.size false) g a _ (by simp) (by simp[XU]) (λj hj=>by simp[ES,Array.getD,hj]) (λ_ _ h=>by cases h) hR.drew
 ·grind[KS]
 ·have:=CC.1;simp[J7]at this;grind
 ·have:=he b;grind[aY]
def selb(b:Nat->Bool):List (Nat × Nat × AV × List Nat)->List (Nat × AV)->List (Nat × AV)
 |[],base=>base
 |(i,t,x,ks)::l,base=>if b i then (t,if ks.any b then .undef else x)::selb b l base else selb b l base
def AV.kills:List (List Nat × List Nat)->AV->AV
 |[],x=>x
 |(r,m)::K,x=>AV.kills K (x.kill r m)
def LH:List (List Nat × List Nat)->List (Nat × AV)->List (Nat × AV)
 |[],l=>l
 |(r,m)::K,l=>LH K (ON r m l)
theorem Mj:∀ (K:List (List Nat × List Nat)) (k:Nat) (l:List (Nat × AV)),lk k (LH K l)=(lk k l).map (AV.kills K)
 |[],k,l=>by simp[LH];cases lk k l<;>rfl
 |(r,m)::K,k,l=>by
  simp only[LH,Mj K,WY];cases lk k l<;>rfl
@[go_sem] theorem xC(k:Nat)(b:Nat->Bool)(j t:Nat)(x:AV)(ks:List Nat)(l:List (Nat × Nat × AV × List Nat))(base:List (Nat × AV)):lk k (selb b ((j,t,x,ks)::l) base)=if t=k then (if b j then some (if ks.any b then .undef else x) else lk k (selb b l base)) else lk k (selb b l base):=by grind[selb,lk]
@[go_sem] theorem zk(k:Nat)(b:Nat->Bool)(base:List (Nat × AV)):lk k (selb b [] base)=lk k base:=rfl
@[go_sem] theorem AcK(b:Nat->Bool)(p:Nat)(ps ns:List Nat)(j:Nat):OA b (p::ps) ns j=if j=p then true else OA b ps ns j:=rfl
@[go_sem] theorem Aei(b:Nat->Bool)(ns:List Nat)(j:Nat):OA b [] ns j=dp b ns j:=rfl
@[go_sem] theorem AcL(b:Nat->Bool)(n:Nat)(ns:List Nat)(j:Nat):dp b (n::ns) j=if j=n then false else dp b ns j:=rfl
@[go_sem] theorem Aej(b:Nat->Bool)(j:Nat):dp b [] j=b j:=rfl
@[go_sem] theorem AdP{α:Type}(p:α->Bool):([]:List α).any p=false:=rfl
@[go_sem] theorem AcD{α:Type}(p:α->Bool)(a:α)(l:List α):(a::l).any p=(p a||l.any p):=rfl
attribute [go_sem] Pf
def fG(b:Nat->Bool)(i d:Nat)(y:AV)(K:List (List Nat × List Nat)):List (Nat × Nat × AV × List Nat)->Prop
 |[]=>True
 |(j,t,x,ks)::l=>(if j=i then t=d/\ks.any (LS b i)=false/\Ci y x else t≠d/\(b j=false\/i∈ks\/AV.kills K x=x))/\fG b i d y K l
def cR(K:List (List Nat × List Nat))(S:List (Nat × AV))(d:Nat)(y:AV):List (Nat × AV)->Prop
 |[]=>True
 |(k,x)::l=>(if d=k then Ci y x else ∃ z,lk k S=some z/\Ci (AV.kills K z) x)/\cR K S d y l
def ZP{b:Nat->Bool}{i d:Nat}{y:AV}{K:List (List Nat × List Nat)}{e:Nat × Nat × AV × List Nat}:∀ {l:List (Nat × Nat × AV × List Nat)},fG b i d y K l->e∈l->if e.1=i then e.2.1=d/\e.2.2.2.any (LS b i)=false/\Ci y e.2.2.1 else e.2.1≠d/\(b e.1=false\/i∈e.2.2.2\/AV.kills K e.2.2.1=e.2.2.1)
 |[],_,h=>by cases h
 |(j,t,x,ks)::l,h,hm=>by
  simp only[fG]at h;rcases List.mem_cons.1 hm with rfl|hm
  ·grind
  ·exact ZP h.2 hm
def bV{b:Nat->Bool}{base:List (Nat × AV)}{e:Nat × Nat × AV × List Nat}:∀ {l:List (Nat × Nat × AV × List Nat)},(l.map (·.2.1)).Nodup->e∈l->b e.1=true->lk e.2.1 (selb b l base)=some (if e.2.2.2.any b then .undef else e.2.2.1)
 |[],_,h,_=>by cases h
 |(j,t,x,ks)::l,hn,hm,hb=>by
  rw[xC];rw[List.map_cons,List.nodup_cons]at hn;rcases List.mem_cons.1 hm with rfl|hm
  ·simp[hb]
  ·have:t≠e.2.1:=λh=>hn.1 (List.mem_map.2 ⟨e,hm,h.symm⟩)
   rw[if_neg this];exact bV hn.2 hm hb
def Av{X:Env}{b:Nat->Bool}{i d:Nat}{y:AV}{IA:List (Nat × Nat × AV × List Nat)}{base VO:List (Nat × AV)}{o o':List (Nat × List AV)}{T:List (Nat × AV)}(K:List (List Nat × List Nat))(hT:T=LH K (selb b IA base))(hn:decide (IA.map (·.2.1)).Nodup=true)(GR:fG b i d y K IA)(hb:cR K (selb b IA base) d y VO)
 (ho:HI ⟨(d,y)::T,o⟩ o'):AT X ⟨(d,y)::T,o⟩ ⟨selb (LS b i) IA VO,o'⟩:=by
 subst hT;have hn:=of_decide_eq_true hn;refine AT.Aq ?_ ho;have rB:∀ {bs:List (Nat × AV)},cR K (selb b IA base) d y bs->IB ⟨(d,y)::LH K (selb b IA base),o⟩ bs:=by
  intro bs
  induction bs with
  | nil=>intro _;trivial
  | cons p bs ih =>
   obtain⟨k,x⟩:=p;intro h;simp[cR]at h;refine⟨?_,ih h.2⟩
   by_cases hk:d=k
   ·simp_all[lk]
   ·rw[if_neg hk]at h;obtain⟨⟨z,h3,h4⟩,_⟩:=h;simp_all[lk,Mj]
 suffices H:∀ l:List (Nat × Nat × AV × List Nat),(∀ e∈l,e∈IA)->IB ⟨(d,y)::LH K (selb b IA base),o⟩ (selb (LS b i) l VO) from H IA λ_ h=>h
 intro l
 induction l with
 | nil=>intro _;exact rB hb
 | cons e l ih =>
  intro hl;have hm:=hl e (by simp);have h1:=ZP GR hm;have h2:=ih λe' nT=>hl e' (by grind)
  obtain⟨j,t,x,ks⟩:=e;simp only[selb];split
  ·rename_i hj;refine⟨?_,h2⟩;simp only at h1
   by_cases gh:j=i
   ·rw[if_pos gh]at h1;obtain⟨rfl,h3,h4⟩:=h1;exact⟨y,by simp[lk],by grind⟩
   ·rw[if_neg gh]at h1;have Mo:b j=true:=by grind[LS]
    have yX:=bV (base:=base) hn hm Mo;simp only at yX;refine⟨AV.kills K (if ks.any b=true then .undef else x),by simp_all[lk,Ne.symm,Mj],?_⟩
    by_cases hk:ks.any (LS b i)=true
    ·rw[if_pos hk];exact .undef
    ·have XS:¬ ks.any b=true:=λh=>by
      grind[LS]
     rw[if_neg hk,if_neg XS];rcases h1.2 with h3|h3|h3
     ·grind
     ·grind[LS]
     ·rw[h3];exact .rfl
  omega
attribute [go_sem] fG cR AV.kills Bool.or_self Bool.or_false Bool.false_or ne_eq not_false_eq_true List.all_cons List.all_nil List.mem_cons List.not_mem_nil Bool.and_self or_false false_or or_true true_or
def fH(b:Nat->Bool)(i:Nat)(K:List (List Nat × List Nat)):List (Nat × Nat × AV × List Nat)->Prop
 |[]=>True
 |(j,_,x,ks)::l=>(j≠i/\(b j=false\/i∈ks\/AV.kills K x=x))/\fH b i K l
def cS(K:List (List Nat × List Nat))(S:List (Nat × AV)):List (Nat × AV)->Prop
 |[]=>True
 |(k,x)::l=>(∃ z,lk k S=some z/\Ci (AV.kills K z) x)/\cS K S l
def ZQ{b:Nat->Bool}{i:Nat}{K:List (List Nat × List Nat)}{e:Nat × Nat × AV × List Nat}:∀ {l:List (Nat × Nat × AV × List Nat)},fH b i K l->e∈l->e.1≠i/\(b e.1=false\/i∈e.2.2.2\/AV.kills K e.2.2.1=e.2.2.1)
 |[],_,h=>by cases h
 |(j,t,x,ks)::l,h,hm=>by
  simp only[fH]at h;rcases List.mem_cons.1 hm with rfl|hm
  ·grind
  ·exact ZQ h.2 hm
def Bz{X:Env}{b:Nat->Bool}{i:Nat}{IA:List (Nat × Nat × AV × List Nat)}{base VO:List (Nat × AV)}{o o':List (Nat × List AV)}{T:List (Nat × AV)}(K:List (List Nat × List Nat))(hT:T=LH K (selb b IA base))(hn:decide (IA.map (·.2.1)).Nodup=true)(GR:fH b i K IA)(hb:cS K (selb b IA base) VO)
 (ho:HI ⟨T,o⟩ o'):AT X ⟨T,o⟩ ⟨selb (LS b i) IA VO,o'⟩:=by
 subst hT;have hn:=of_decide_eq_true hn;refine AT.Aq ?_ ho;have rB:∀ {bs:List (Nat × AV)},cS K (selb b IA base) bs->IB ⟨LH K (selb b IA base),o⟩ bs:=by
  intro bs
  induction bs with
  | nil=>intro _;trivial
  | cons p bs ih =>
   obtain⟨k,x⟩:=p;intro h;simp[cS]at h;obtain⟨⟨z,h3,h4⟩,h5⟩:=h;exact⟨⟨AV.kills K z,by grind[Mj],h4⟩,ih h5⟩
 suffices H:∀ l:List (Nat × Nat × AV × List Nat),(∀ e∈l,e∈IA)->IB ⟨LH K (selb b IA base),o⟩ (selb (LS b i) l VO) from H IA λ_ h=>h
 intro l
 induction l with
 | nil=>intro _;exact rB hb
 | cons e l ih =>
  intro hl;have hm:=hl e (by simp);have h1:=ZQ GR hm;have h2:=ih λe' nT=>hl e' (by simp[nT])
  obtain⟨j,t,x,ks⟩:=e;simp only[selb];split
  ·rename_i hj;refine⟨?_,h2⟩;simp only at h1;have Mo:b j=true:=by grind[LS]
   have yX:=bV (base:=base) hn hm Mo;simp only at yX;refine⟨AV.kills K (if ks.any b=true then .undef else x),by grind[Mj],?_⟩
   by_cases hk:ks.any (LS b i)=true
   ·rw[if_pos hk];exact .undef
   ·have XS:¬ ks.any b=true:=λh=>by
     grind[LS]
    rw[if_neg hk,if_neg XS];rcases h1.2 with h3|h3|h3
    ·grind
    ·grind[LS]
    ·rw[h3];exact .rfl
  omega
attribute [go_sem] fH cS
theorem XF(base:List (Nat × AV)):∀ l,selb (λ_=>false) l base=base
 |[]=>rfl
 |(i,t,x,ks)::l=>by simp only[selb,Bool.false_eq_true,if_false,XF base l]
@[go_sem] theorem sr(l:List (Nat × AV)):l.map (λp=>(p.1,p.2.Cz (AV.C7 [])))=l:=by
 induction l with
 | nil=>rfl
 | cons p l ih=>rw[List.map_cons,ih];exact congrArg (λx=>(p.1,x)::l) (KL p.2)
def dv:List (Nat × Nat × AV × List Nat)->List (Nat × AV)->List (Nat × AV)
 |[],base=>base
 |(_,t,x,ks)::l,base=>(t,if ks.isEmpty then x else .undef)::dv l base
def ZI{b:Nat->Bool}{n:Nat}(hb:∀ j,j<n->b j=true)(base:List (Nat × AV)):∀ l:List (Nat × Nat × AV × List Nat),(l.all λe=>decide (e.1<n)&&e.2.2.2.all λk=>decide (k<n))=true->selb b l base=dv l base
 |[],_=>rfl
 |(i,t,x,ks)::l,h=>by
  simp only[List.all_cons,Bool.and_eq_true,decide_eq_true_eq]at h;simp only[selb,hb i h.1.1,if_true,dv,ZI hb base l h.2];cases ks<;>grind
@[go_sem] theorem AdK(b:Nat->Bool)(i j:Nat):LS b i j=(b j||decide (j=i)):=rfl
theorem F5{X:Env}{ops:Array Oper}{K:St->Prop}{st:St}(E:List (Nat × List Nat × List Nat))(F:List Nat)(IA:List (Nat × Nat × AV × List Nat))(base:(Nat->Bool)->List (Nat × AV))(o:(Nat->Bool)->List (Nat × List AV))(h0:AT X st ⟨base λ_=>false,o λ_=>false⟩)(hs:∀ b,Pf X ops (λb=>⟨selb b IA (base b),o b⟩) b E)(he:∀ b,K ⟨dv IA (base (OA b F [])),o (OA b F [])⟩)(hm:X.C.P.follows .mixedOrders=true)
 (CC:(J7 ops&&mF ops E&&F==List.range ops.size)=true:=by kernel_rfl) (AP:(IA.all λe=>decide (e.1<ops.size)&&e.2.2.2.all λk=>decide (k<ops.size))=true:=by rfl):Lj X ops K st:=by
 rw[Bool.and_eq_true,beq_iff_eq]at CC;refine qC E (λb=>⟨selb b IA (base b),o b⟩) (by grind[XF]) hs (λb=>?_) hm CC.1;have Ka:∀ (l:List Nat) (j:Nat),j∈l->OA b l [] j=true:=by
  intro l
  induction l<;>grind[OA]
 show K ⟨selb _ IA (base (OA b (List.range ops.size) [])),o (OA b (List.range ops.size) [])⟩;rw[ZI (n:=ops.size) (λj hj=>Ka _ j (List.mem_range.2 hj)) _ IA AP,<- CC.2];grind
attribute [go_sem] dv List.isEmpty_nil List.isEmpty_cons
end Go.Abs
namespace Go.Abs
open Go Go.ChangeShapes Go.WideShapes Go.RowKit
def D8(P:Program)(N:Nat)(t:TypeId){α:Type}(e:α->List AV):Prop :=
 ∀ (H:Type) (enc:TypeId × Value->H) (w:World) (fuel:Nat) (cs:List Value) (x:DataW H × List MemPlace),fuel<=N->DataW.trod enc P w 0 (λ_=>true) true fuel t cs=some x ->
  ∃ a,CR (λb=>b<w.heap.size) w (e a) cs
def pO(P:Program)(N b:Nat)(fs:List Field){α:Type}(e:α->List AV):Prop :=
 ∀ (H:Type) (enc:TypeId × Value->H) (w:World) (n:Nat) (cs:List Value) (ys:List (DataW H × List MemPlace)),n<=N->cs.length=b+(fs.map λf=>P.cellsOf f.type).sum->ys.length=fs.length ->
  (∀ (i:Nat) (f:Field),fs[i]?=some f->DataW.trod enc P w 0 (λ_=>true) true n f.type ((cs.drop f.offset).take (P.cellsOf f.type))=ys[i]?) ->
  ∃ a,CR (λb=>b<w.heap.size) w (e a) (cs.drop b)
variable {P:Program} {t:TypeId}
theorem D8.mono{N M:Nat}{α:Type}{e:α->List AV}(h:D8 P N t e)(hm:M<=N):D8 P M t e:=λH enc w fuel cs x hf hx=>h H enc w fuel cs x (Nat.le_trans hf hm) hx
def yt.toN{α:Type}{e:α->List AV}{m:α->Nat}{Q:α->Prop}(h:yt P t e m Q)(N:Nat):D8 P N t e:=λH enc w fuel cs x _ hx=>by
 obtain⟨a,_,_,h3⟩:=h H enc w fuel cs x hx;grind
def D8.zG{α:Type}{e:α->List AV}(h:∀ N,D8 P N t e):yt P t e (λ_=>0) (λ_=>True):=λH enc w fuel cs x hx=>by
 obtain⟨a,h3⟩:=h fuel H enc w fuel cs x (Nat.le_refl _) hx;grind
def D8.map{N:Nat}{α β:Type}{e:α->List AV}{e':β->List AV}(h:D8 P N t e)(hf:∀ a,∃ b,e' b=e a):D8 P N t e':=λH enc w fuel cs x hn hx=>by
 obtain⟨a,q⟩:=h H enc w fuel cs x hn hx;obtain⟨b,hb⟩:=hf a;grind
def nc{α:Type}{e:α->List AV}:D8 P 0 t e:=λH enc w fuel cs x hn hx=>by simp_all[DataW.trod]
def IQ{N:Nat}{el:TypeId}{α:Type}{e:α->List AV}{n:Nat}(he:D8 P N el e)(ht:P.underlying t=some (.slice el))(hc:P.cellsOf el=n)(hn:0<n) :
 D8 P (N+1) t (λxs:List α=>[.sl .no n (xs.map e)]):=by
 intro H enc w fuel cs x hf h;rcases DataW.trod_slice ht h with ⟨rfl,rfl⟩|⟨a,len,cap,elems,rest,k,rfl,rfl,rfl,_,hl,hm,hlen,nW,_,_⟩
 ·refine⟨[],?_,trivial⟩;simp only[List.map_nil,PR];grind
 ·subst hlen;obtain⟨xs,ea,zg⟩:=pick (α:=α) (q:=λ_ _=>True) (R:=λi x y=>∃ cs,w.cells? 0 (a.add (i*n)) n=some cs/\CR (λb=>b<w.heap.size) w (e x) cs) elems.length elems rfl (by
   intro i y hy;have hi:i<elems.length:=by grind
   have:=nW i hi;rw[hy,hc,Option.bind_eq_some_iff]at this;obtain⟨cs,h1,h2⟩:=this;obtain⟨x,q3⟩:=he H enc w k cs y (by omega) h2;grind)
  have S5:∀ i x,xs[i]?=some x->∃ y,elems[i]?=some y:=λi x hx=>by
   have:i<elems.length:=by
    rcases Nat.lt_or_ge i xs.length with h|h
    ·omega
    ·rw[List.getElem?_eq_none h]at hx;grind
   exact⟨_,List.getElem?_eq_getElem this⟩
  refine⟨xs,?_,trivial⟩;simp only[PR];refine⟨by simp,some a,cap,by grind,by grind,hm,by simp,hn,?_⟩;cases xs with
  | nil=>grind
  | cons x xs =>
   refine Or.inr ⟨a,rfl,?_,Ny λi x hx=>?_⟩
   ·obtain⟨y,hy⟩:=S5 0 x rfl;obtain⟨cs,h1,_⟩:=zg 0 x y rfl hy;obtain⟨_,hl,Ue⟩:=World.cells?_some h1;have h0:=Ue 0 hn;simp_all[Addr.add,GM]
   grind
def qo{N b:Nat}:pO P N b [] (λ_:Unit=>[]):=by
 intro H enc w n cs ys _ hl _ _;have:cs.drop b=[]:=List.drop_eq_nil_of_le (by grind);rw[this];exact⟨(),trivial⟩
def nb{N b:Nat}{f:Field}{fs:List Field}{α β:Type}{e:α->List AV}{e':β->List AV}(h:D8 P N f.type e)(hb:f.offset=b)(hs:pO P N (b+P.cellsOf f.type) fs e') :
 pO P N b (f::fs) (λx:α × β=>e x.1++e' x.2):=by
 intro H enc w n cs ys hn hl hy Su;cases ys with
 | nil=>grind
 | cons y ys =>
  have h0:=Su 0 f rfl;rw[hb]at h0;obtain⟨a,ha⟩:=h H enc w n _ y hn h0;obtain⟨c,hc⟩:=hs H enc w n cs ys hn (by grind) (by grind) λi g hg=>by simpa using Su (i+1) g (by grind)
  refine⟨(a,c),?_⟩;grind[CR.append,List.drop_drop,List.take_append_drop]
def cX{N:Nat}{fs:Array Field}{α:Type}{e:α->List AV}(ht:P.underlying t=some (.struct fs))(hc:P.cellsOf t=(fs.toList.map λf=>P.cellsOf f.type).sum)(h:pO P N 0 fs.toList e):D8 P (N+1) t e:=by
 intro H enc w fuel cs x hf hx;obtain⟨xs,n,rfl,rfl,hl,hlen,Su⟩:=DataW.trod_struct ht hx;obtain⟨a,ha⟩:=h H enc w n cs xs (by omega) (by omega) (by omega) λi f Vv=>Su i f (by grind)
 grind
def flds(P:Program)(t:TypeId):Option (List (TypeId × Nat)):=match P.underlying t with
 |some (.struct fs)=>some (fs.toList.map λf=>(f.type,f.offset))
 |_=>none
def uO(P:Program)(N b:Nat)(l:List (TypeId × Nat)){α:Type}(e:α->List AV):Prop:=∀ fs:List Field,(fs.map λf=>(f.type,f.offset))=l->pO P N b fs e
def Gz{N b:Nat}:uO P N b [] (λ_:Unit=>[]):=λfs h=>by simp_all[qo]
def Bm{N b sz:Nat}{ty:TypeId}{l:List (TypeId × Nat)}{α β:Type}{e:α->List AV}{e':β->List AV}(h:D8 P N ty e)(hz:P.cellsOf ty=sz)(hs:uO P N (b+sz) l e') :
 uO P N b ((ty,b)::l) (λx:α × β=>e x.1++e' x.2):=λfs Su=>by
 cases fs with
 | nil=>grind
 | cons f fs =>
  simp at Su;obtain⟨⟨h1,h2⟩,h3⟩:=Su;subst h1;exact nb h h2 (by rw[hz];exact hs fs h3)
def KC{N:Nat}{l:List (TypeId × Nat)}{α:Type}{e:α->List AV}(ht:flds P t=some l)(hc:P.cellsOf t=(l.map λx=>P.cellsOf x.1).sum)(h:uO P N 0 l e):D8 P (N+1) t e:=by
 unfold flds at ht;split at ht
 ·rename_i fs hu;simp at ht;refine cX hu ?_ (h fs.toList ht);rw[hc,<- ht,List.map_map];rfl
 grind
def AdT{l:List (TypeId × Nat)}{α:Type}{e:α->List AV}(he:∀ N,D8 P N t e)(ht:flds P t=some l):Arg P t (λa:α=>.agg (e a)) (λ_=>0) (λ_=>True):=by
 intro H enc w base v d ps hv hd;unfold flds at ht;split at ht
 ·rename_i fs hu;obtain⟨us,rfl,_⟩:=okWide_struct hu hv;obtain⟨fuel,hf⟩:=hd;obtain⟨a,hp⟩:=he fuel H enc w fuel _ _ (Nat.le_refl _) hf;refine⟨a,trivial,Nat.zero_le _,us,rfl,?_⟩;have gq:CR (CK (nJ w)) w (e a) us.toList:=by
   rw[WN];exact hp
  exact gq.Bf
 grind
theorem chunks{α:Type}(m:Nat):∀ (rows:List (List α)) (cs:List α),cs.length=rows.length*m->(∀ i r,rows[i]?=some r->(cs.drop (i*m)).take m=r)->cs=rows.flatten
 |[],cs,hl,_=>List.eq_nil_of_length_eq_zero (by grind)
 | r::rows,cs,hl,h=>by
  have h0:=h 0 r rfl;have:=chunks m rows (cs.drop m) (by grind[Nat.add_mul]) λi r' hr=>by
   have:=h (i+1) r' (by grind);grind[List.drop_drop]
  simp at h0;grind[List.take_append_drop]
def VM{H:Type}{enc:TypeId × Value->H}{w:World}{fuel n:Nat}{sp:Nat->Bool}{held:Bool}{base:Nat}{e:TypeId}{cs:List Value}{ds:List (DataW H)}{p:List MemPlace}{f:List (List Value)}
 (ht:P.underlying t=some (.array n e)) (M0:P.cellsOf t=n*P.cellsOf e) (h:DataW.trod enc P w base sp held fuel t cs=some (.agg ds,p)) (hl:ds.length=f.length)
 (hf:∀ (i:Nat) (d:DataW H) (c:List Value),ds[i]?=some d->f[i]?=some c->∀ fuel N7 p',DataW.trod enc P w base sp held fuel e N7=some (d,p')->N7=c):cs=f.flatten:=by
 obtain⟨xs,m,_,hx,RN,ea,nW⟩:=DataW.trod_array ht h;have Vt:ds=xs.map (·.1):=by grind
 grind[chunks]
theorem gH{H:Type}{enc:TypeId × Value->H}{w:World}{fuel:Nat}{sp:Nat->Bool}{held:Bool}{base:Nat}{cs:List Value}{b:Bool}{p:List MemPlace}(ht:P.underlying t=some .bool)
 (h:DataW.trod enc P w base sp held fuel t cs=some (.lit (.bool b),p)):cs=[.bool b]:=by
 obtain⟨n,rfl,h2⟩:=DataW.trod_bool ht h;grind
def AfF{H:Type}(r:List Bool):DataW H:=.agg (r.map λb=>.lit (.bool b))
def Acu{H:Type}(rows:List (List Bool)):DataW H:=.agg (rows.map AfF)
def pn{H:Type}{enc:TypeId × Value->H}{w:World}{fuel n m:Nat}{sp:Nat->Bool}{held:Bool}{base:Nat}{e b:TypeId}{cs:List Value}{rows:List (List Bool)}{p:List MemPlace}
 (ht:P.underlying t=some (.array n e)) (he:P.underlying e=some (.array m b)) (hb:P.underlying b=some .bool) (h1:P.cellsOf b=1) (h2:P.cellsOf e=m) (h3:P.cellsOf t=n*m)
 (h:DataW.trod enc P w base sp held fuel t cs=some (Acu rows,p)):cs=rows.flatten.map Value.bool:=by
 have key:∀ r:List Bool,∀ fuel N7 p',DataW.trod enc P w base sp held fuel e N7=some (AfF r,p')->N7=r.map Value.bool:=λr fuel N7 p' h'=>by
  have:=VM (f:=r.map λb=>[Value.bool b]) he (by grind) h' (by simp) λi d c hd hc fuel N7 p' hx=>by grind[gH]
  rw[this];clear h'  this
  induction r<;>grind
 have:=VM (f:=rows.map λr=>r.map Value.bool) ht (by grind) h (by simp) λi d c hd hc fuel N7 p' hx=>by grind
 grind
theorem Nn{C:Ctx}{f:Nat}{fn:Func}{s:ChangeSpec}(hs:s.vars=[]){apart fresh handsOn again:Bool}{α:Type}{e:α->List AV}{m:α->Nat}{Q:α->Prop}{tb:TypeId}{ts:List TypeId}
 (hp:fn.params.toList=ts) (ha:Args C.P ts e m Q) (hl:laidOutB C.P=true) (hr:(ts.all λt=>C.P.readableRec t&&decide (t<C.P.types.size))=true) (N2:fn.resultTypes = #[tb]) (VX:C.P.underlying tb=some .bool)
 {H:Type} (enc:TypeId × Value->H) (W:World) (hG:Glob C (nJ W) W) (base:Nat) (args:Array Value) (ds gs:List (DataW H)) (before:List MemPlace)
 (hval:∀ (j:Nat) t v,fn.params[j]?=some t->args[j]?=some v->Value.okWide C.P W .any base t v)
 (hW:DataW.Whole enc C.P fn.params.toList s.vars apart W args.toList ds gs before)
 (hfn:∀ ds:List (DataW H),ds.length=ts.length->(s.fn H ds).results=[.lit (.bool true)]/\(s.fn H ds).args=ds/\(s.fn H ds).vars=[])
 (CC:∀ a,Q a->m a<=b9 ds->Ad C f (e a) [] (.v (.bool true)) []) :
 Calls C.P f args W λr W'=>∃ v,r=.returned v/\s.post enc C.P fn apart fresh handsOn again W args v W':=by
 replace hr:∀ t∈ts,C.P.readableRec t=true/\t<C.P.types.size:=by grind
 have hW':=hW;obtain⟨p,q,hA,hV,rfl,hfz,UO⟩:=hW;rw[hs]at hV;obtain⟨rfl,rfl⟩:=trodVars_none hV;rw[hp]at hA;obtain⟨a,q1,q2,q3⟩:=ha H enc W base args.toList ds p (λj t v hj hv=>hval j t v (by rw[<- Array.getElem?_toList,hp];exact hj) (by simpa using hv)) hA;have hlen:∀ {ts:List TypeId} {vs:List Value} {ds:List (DataW H)} {ps:List MemPlace},DataW.TrodAll enc C.P W 0 (λ_=>true) true ts vs ds ps->ds.length=ts.length:=by
  intro ts
  induction ts with
  | nil=>intro vs ds ps h;obtain⟨_,rfl,_⟩:=trodAll_nil h;rfl
  | cons t ts ih =>
   intro vs ds ps h;obtain⟨v,vs,d,ds,p,q,rfl,rfl,rfl,h1,h2⟩:=trodAll_cons h;grind
 obtain⟨hf1,yS,gz⟩:=hfn ds (hlen hA);have key:=(CC a q1 q2).2 (nJ W) W args.toList hG q3 (λs cs h=>by cases h);rw[show args.toList.toArray=args by simp]at key;refine key.mono λr W' ⟨u,g',hr1,hF,hy,_⟩=>?_
 subst hr1;simp[VR]at hy;subst hy;have hb:Below W.heap.size W W':=⟨hF.os,hF.tape.1,hF.output,hF.size,λk hk=>(hF.FD k hk (Or.inl (by grind[nJ]))).1⟩;have AP:∀ x∈p++([]:List MemPlace),x.block<W.heap.size:=λx hx=>hW'.lt x hx
 refine⟨_,rfl,gB (pa:=p) (pv:=[]) hW' (λb sp hd=>?_) (λsp mb=>?_) (λ_ _=>?_) rfl hb (ok_one N2 rfl (okWide_bool_mk VX _))⟩
 ·simp[hf1];rw[N2];exact trodAll_mk1 (shut_bool VX _)
 ·simp[yS];rw[hp];exact Qj hl hr hA (λx hx=>hb.same (AP x (by grind))) (λx hx=>mb x (by grind))
 ·simp[gz];rw[hs];rfl
end Go.Abs
