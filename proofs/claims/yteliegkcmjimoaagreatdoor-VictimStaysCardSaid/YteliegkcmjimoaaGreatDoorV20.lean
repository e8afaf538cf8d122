/- part 20 of the proof -/
import Derived.Test.YteliegkcmjimoaaGreatDoorV19
set_option linter.all false
open Go Go.Abs Go.Proofs
set_option maxRecDepth 100000
namespace Go.Rd
set_option maxHeartbeats 8000000
open Tryz
def Na{l:List Cand}(h:NL l)(i j:Nat):NL (DM l i j):=by
 unfold DM;split
 ·rename_i a b ha hb;intro c hc;rcases List.mem_or_eq_of_mem_set hc with hc|hc
  ·rcases List.mem_or_eq_of_mem_set hc with hc|hc
   ·exact h c hc
   ·subst hc;exact h.get hb
  ·subst hc;exact h.get ha
 ·exact h
def qJ{α:Type}(lt:α->α->Bool):∀ (f g j:Nat) (l:List α),j<=f->j<=g->Yn lt f j l=Yn lt g j l:=by
 intro f
 induction f with
 | zero =>
  intro g j l h _;have:j=0:=by omega
  subst this;cases g<;>simp[Yn]
 | succ f ih =>
  intro g j l h hg;cases g with
  | zero =>
   have:j=0:=by omega
   subst this;simp[Yn]
  | succ g =>
   simp only[Yn];split
   ·rfl
   ·rename_i hc;simp only[not_or]at hc;exact ih g _ _ (by omega) (by omega)
@[go_sem] theorem Ab4:((2:Int)=0)=False:=by simp
theorem kv{k:Nat}(h0:k≠0)(h:k<=4294967296):IntKind.i64.wrap (((k:Int)-1).tdiv 2)=(((k-1) / 2:Nat):Int):=by
 rw[show ((k:Int)-1)=((k-1:Nat):Int) by omega];rw[show (((k-1:Nat):Int)).tdiv 2=(((k-1) / 2:Nat):Int) by rw[Int.tdiv_eq_ediv_of_nonneg (by omega)];omega];exact wrap64 _ (by omega) (by omega)
def qL{α:Type}{lt:α->α->Bool}{l:List α}{k:Nat}(h:F7 lt l k ((k-1) / 2)=false):Yn lt k k l=l:=by
 cases k with
 | zero=>rfl
 | succ k=>simp only[Yn];rw[if_pos (.inr h)]
def zg{α:Type}{lt:α->α->Bool}{l:List α}{k:Nat}(h0:k≠0)(h:F7 lt l k ((k-1) / 2)=true):Yn lt k k l=Yn lt ((k-1) / 2) ((k-1) / 2) (DM l ((k-1) / 2) k):=by
 cases k with
 | zero=>exact absurd rfl h0
 | succ k =>
  simp only[Yn];rw[if_neg (by simp only[not_or,Bool.not_eq_false];exact⟨by omega,h⟩)];exact qJ lt _ _ _ _ (by omega) (by omega)
def jj{X:Env}{d:Option Nat}{EG:Nat}{xs:List AV}{K:St->Prop}{st:St}(fn:Func)(h:Oi ⟨X.C,X.ext,[]⟩ (fn.body.getD .skip) (yZ X fn.results.toList λy os=>K (St.put d y ⟨M9 X.ext st.tmps,os⟩)) ⟨Ta 0 xs,st.Ah⟩)
 (hX:∀ s∈X.ext,s%32=31:=by simp) (hf:X.C.P.funcs[EG]?=some fn:=by kernel_rfl) (EY:(fn.name=="runtime.NumGoroutine")=false:=by kernel_rfl) (hb:fn.body=some (fn.body.getD .skip):=by kernel_rfl)
 (Ce:F9 fn.ntmps (fn.body.getD .skip)=true:=by kernel_rfl) (Fm:Nat.ble xs.length fn.ntmps=true:=by kernel_rfl):A8 X d EG xs K st :=
 jk [] hX hf EY hb Ce (Nat.le_of_ble_eq_true Fm) h
def K4{X:Env}{d:Option Nat}{K:St->Prop}{tm:List (Nat × AV)}(hX:∀ s∈X.ext,s%32=31)(hC:X.C=C0)(m:List Cand)(i j:Nat)(hi:i<m.length)(hj:j<m.length)(h:K (St.put d (.Bl []) ⟨M9 X.ext tm,[(63,L4 (DM m i j))]⟩)) :
 A8 X d 323 [.sl (.own 0 0) 2 (m.map Cand.c),I i,I j] K ⟨tm,[(63,L4 m)]⟩:=by
 obtain⟨C,ext,deep⟩:=X;simp only at hC hX h ⊢;subst hC;obtain⟨a,ha⟩:=get_some hi;obtain⟨b,hb⟩:=get_some hj;refine jj f323 ?_ hX;unfold f323;refine gO ?_;refine IW 12 [([],[0]),([],[1]),([],[0]),([],[2]),([],[0]),([],[2]),([4,5],[10,11]),([4,5,6],[12]),([],[0]),([],[1]),([8,9],[14,15]),([8,9,10],[16]),([0,1,4,5,6,7,8,9,10,11],[]),([0,1,4,5,6,7,8,9,10,11,12],[]),([0,1,2,3,4,5,6,7,8,9,10,11,12,13],[]),([0,1,2,3,4,5,6,7,8,9,10,11,12,13,14],[])] [2,3] [([],[6,7,13,17,0,2],let o0:OT:=.done;let o1:OT:=.pick [(15,o0)];let o2:OT:=.pick [(14,o1)];let o3:OT:=.pick [(13,o2)];let o4:OT:=.pick [(12,o3)];let o5:OT:=.pick [(3,o2)];let o6:OT:=.pick [(3,o3),(13,o5)];let o7:OT:=.pick [(3,o4),(12,o6)];let o8:OT:=.pick [(2,o2)];let o9:OT:=.pick [(2,o3),(13,o8)];let bb:OT:=.pick [(2,o4),(12,o9)];let ia:OT:=.pick [(2,o5),(3,o8)];let qk:OT:=.pick [(2,o6),(3,o9),(13,ia)];let lL:OT:=.pick [(2,o7),(3,bb),(12,qk)];lL),([3],[6,7,13,9,17,0,2],let o0:OT:=.done;let o1:OT:=.pick [(15,o0)];let o2:OT:=.pick [(14,o1)];let o3:OT:=.pick [(13,o2)];let o4:OT:=.pick [(12,o3)];let o5:OT:=.pick [(2,o2)];let o6:OT:=.pick [(2,o3),(13,o5)];let o7:OT:=.pick [(2,o4),(12,o6)];o7),([2],[6,7,13,8,17,0,2],let o0:OT:=.done;let o1:OT:=.pick [(15,o0)];let o2:OT:=.pick [(14,o1)];let o3:OT:=.pick [(13,o2)];let o4:OT:=.pick [(12,o3)];let o5:OT:=.pick [(3,o2)];let o6:OT:=.pick [(3,o3),(13,o5)];let o7:OT:=.pick [(3,o4),(12,o6)];o7),([2,3],[6,7,13,8,9,17,0,2],let o0:OT:=.done;let o1:OT:=.pick [(15,o0)];let o2:OT:=.pick [(14,o1)];let o3:OT:=.pick [(13,o2)];let o4:OT:=.pick [(12,o3)];o4)] B7 (by kernel_rfl) ?_;have rM:((m.map Cand.c).set i b.c).set j a.c=(DM m i j).map Cand.c:=by
  simp only[DM,ha,hb,List.map_set]
 simp only[Cand.c]at rM;have OE:((m.map Cand.c).set i [I b.cost,U b.set])[j]?=some [I b.cost,U b.set]:=by
  rw[List.getElem?_set];split
  ·rename_i e;subst e;simp[hi]
  ·simp[gm,hb,Cand.c]
 simp(disch:=omega)only[go_sem,List.length_map,List.length_set,OE,gm,ha,hb]
 repeat'(with_reducible refine And.intro ?_ ?_)
 all_goals(refine⟨[],rfl,?_⟩)
 all_goals(try rw[rM])
 all_goals exact h
def tD(l:List Cand)(j:Nat)(hj:j<l.length)(hn:l.length<=4294967296)(hs:NL l):Ac C0 97 [.Gc 92 (.ptr 63 0),I j] [(63,L4 l)] (.Bl []) [(63,L4 (Yn AK j j l))]:=by
 refine Ac.go f97 ?_;unfold f97;refine gO ?_;refine Ao (α:=Nat × List Cand) (λx=>⟨[(0,.Gc 92 (.ptr 63 0)),(1,I x.1)],[(63,L4 x.2)]⟩) (λx=>x.1<x.2.length/\x.2.length=l.length/\NL x.2/\Yn AK x.1 x.1 x.2=Yn AK j j l) (λx=>x.1) (j,l) ⟨hj,rfl,hs,rfl⟩ AS ?_;rintro⟨k,m⟩ ⟨h1,h2,h3,h4⟩ J hJ;simp only at h1 h2 h3 h4
 by_cases h0:k=0
 ·subst h0;have hz:IntKind.i64.wrap (Int.tdiv (-1) 2)=0:=by decide
  simp(disch:=omega)only[go_sem,hz];refine AZ ⟨[(0,0)],[(63,63)],[]⟩ [] rfl ⟨rfl,rfl⟩ (by simp[lk]) ?_ ?_
  ·exact gI
  ·simp(disch:=omega)only[go_sem];exact .sl (by rw[<- h4];rfl)
 ·have hq:=kv h0 (by omega);have Ca:((((k-1) / 2:Nat):Int)==(k:Int))=false:=by simp;omega
  simp(disch:=omega)only[go_sem,hq,Ca];refine Cb [0] (PA m k ((k-1) / 2) (by omega) (by omega) h3) gI rfl trivial ?_;refine gO ?_;refine⟨λh=>?_,λh=>?_⟩
  ·have h5:F7 AK m k ((k-1) / 2)=false:=by simpa using h
   rw[qL h5]at h4;refine AZ ⟨[(0,0)],[(63,63)],[]⟩ [] rfl ⟨rfl,rfl⟩ (by simp[lk]) ?_ ?_
   ·exact gI
   ·simp(disch:=omega)only[go_sem];exact .sl (by rw[<- h4])
  ·have h5:F7 AK m k ((k-1) / 2)=true:=by simpa using h
   rw[zg h0 h5]at h4;refine K4 (by simp) rfl m ((k-1) / 2) k (by omega) h1 ?_;refine gO ?_;refine hJ _ ((k-1) / 2,DM m ((k-1) / 2) k) ⟨by rw[DD];omega,by rw[DD];exact h2,Na h3 _ _,h4⟩ (by simp only;omega) AS
def fT{α:Type}(lt:α->α->Bool):∀ (f g i n:Nat) (l:List α),n<=i+f->n<=i+g->Eu lt f i n l=Eu lt g i n l:=by
 intro f
 induction f with
 | zero =>
  intro g i n l h _;cases g with
  | zero=>rfl
  | succ g=>simp only[Eu];rw[if_pos (.inl (by omega))]
 | succ f ih =>
  intro g i n l h hg;cases g with
  | zero=>simp only[Eu];rw[if_pos (.inl (by omega))]
  | succ g =>
   simp only[Eu];split
   ·rfl
   ·rename_i hc;simp only[not_or]at hc;have:=(PV (lt:=lt) (l:=l) hc.1).1;exact ih g _ _ _ (by omega) (by omega)
def Ng{α:Type}{lt:α->α->Bool}{l:List α}{i n:Nat}(h:n<=2*i+1\/F7 lt l (Jx lt l i n) i=false):Eu lt (n-i) i n l=l:=by
 cases hf:n-i with
 | zero=>rfl
 | succ f=>simp only[Eu];rw[if_pos h]
def Xk{α:Type}{lt:α->α->Bool}{l:List α}{i n:Nat}(h1:¬ n<=2*i+1)(h2:F7 lt l (Jx lt l i n) i=true):Eu lt (n-i) i n l=Eu lt (n-Jx lt l i n) (Jx lt l i n) n (DM l i (Jx lt l i n)):=by
 have:=(PV (lt:=lt) (l:=l) h1);cases hf:n-i with
 | zero=>omega
 | succ f =>
  simp only[Eu];rw[if_neg (by simp only[not_or,Bool.not_eq_false];exact⟨h1,h2⟩)];exact fT lt _ _ _ _ _ (by omega) (by omega)
def tA(l:List Cand)(i n:Nat)(hi:i<=n)(HT:n<=l.length)(hn:l.length<=4294967296)(hs:NL l):Ac C0 95 [.Gc 92 (.ptr 63 0),I i,I n] [(63,L4 l)] .undef [(63,L4 (Eu AK (n-i) i n l))]:=by
 refine Ac.go f95 ?_;unfold f95;refine gO ?_;refine Ao (α:=Nat × List Cand) (λx=>⟨[(0,.Gc 92 (.ptr 63 0)),(1,I i),(2,I n),(7,I x.1)],[(63,L4 x.2)]⟩) (λx=>x.1<=n/\x.2.length=l.length/\NL x.2/\Eu AK (n-x.1) x.1 n x.2=Eu AK (n-i) i n l) (λx=>n-x.1) (i,l) ⟨hi,rfl,hs,rfl⟩ AS ?_;rintro⟨k,m⟩ ⟨h1,h2,h3,h4⟩ J hJ;simp only at h1 h2 h3 h4;obtain⟨a,ha⟩:∃ a:Nat,a=2*k+1:=⟨_,rfl⟩;obtain⟨b,hb⟩:∃ b:Nat,b=2*k+2:=⟨_,rfl⟩;have e1:2*(k:Int)+1=(a:Int):=by omega
 have e2:(a:Int)+1=(b:Int):=by omega
 have fin:∀ st',Eu AK (n-k) k n m=m->st'.Ah=[(63,L4 m)]->Cr C0 st' [ResultVar.tmp 6]=some [B (decide ((i:Int)<k))]->UD ⟨C0,[63],[]⟩ [ResultVar.tmp 6] .undef [(63,L4 (Eu AK (n-i) i n l))] .ret st':=by
  rintro⟨tm,ob⟩ hd ho hr;simp only at ho;subst ho;refine AZ ⟨[(0,0)],[(63,63)],[]⟩ _ hr ⟨rfl,rfl⟩ (by simp[lk]) ?_ ?_
  ·exact gI
  ·simp(disch:=omega)only[go_sem];exact .sl (by rw[<- h4,hd])
 by_cases hle:n<=a
 ·simp(disch:=omega)only[go_sem,e1,e2,eq_true (show (n:Int)<=(a:Int) by omega)];exact fin _ (Ng (.inl (by omega))) rfl (by simp(disch:=omega)only[go_sem,Cr,GH])
 have Qr:((a:Int)<0)=False:=by simp
 have bV:=PV (lt:=AK) (l:=m) (i:=k) (n:=n) (by omega);simp(disch:=omega)only[go_sem,e1,e2,eq_false (show ¬ (n:Int)<=(a:Int) by omega),Qr]
 by_cases hbn:b<n
 ·simp(disch:=omega)only[go_sem,eq_true (show (b:Int)<(n:Int) by omega)];refine Cb [0] (PA m b a (by omega) (by omega) h3) gI rfl trivial ?_;refine gO ?_;refine⟨λh=>?_,λh=>?_⟩
  ·have hj:b=Jx AK m k n:=by unfold Jx;rw[if_pos ⟨by omega,by rw[<- hb,<- ha];exact h⟩];exact hb
   refine Cb [0] (PA m b k (by omega) (by omega) h3) gI rfl trivial ?_;refine gO ?_;refine⟨λh=>?_,λh=>?_⟩
   ·have h5:F7 AK m b k=false:=by simpa using h
    exact fin _ (Ng (.inr (by rw[<- hj];exact h5))) rfl (by simp(disch:=omega)only[go_sem,Cr,GH])
   ·have h5:F7 AK m b k=true:=by simpa using h
    have h6:=Xk (lt:=AK) (l:=m) (i:=k) (n:=n) (by omega) (by rw[<- hj];exact h5);rw[<- hj]at h6;rw[h6]at h4;refine K4 (by simp) rfl m k b (by omega) (by omega) ?_;refine gO ?_;exact hJ _ (b,DM m k b) ⟨by simp only;omega,by simp only;rw[DD];exact h2,Na h3 _ _,h4⟩ (by simp only;omega) AS
  ·have hj:a=Jx AK m k n:=by unfold Jx;rw[if_neg (by rw[<- hb,<- ha,h];simp)];exact ha
   refine Cb [0] (PA m a k (by omega) (by omega) h3) gI rfl trivial ?_;refine gO ?_;refine⟨λh=>?_,λh=>?_⟩
   ·have h5:F7 AK m a k=false:=by simpa using h
    exact fin _ (Ng (.inr (by rw[<- hj];exact h5))) rfl (by simp(disch:=omega)only[go_sem,Cr,GH])
   ·have h5:F7 AK m a k=true:=by simpa using h
    have h6:=Xk (lt:=AK) (l:=m) (i:=k) (n:=n) (by omega) (by rw[<- hj];exact h5);rw[<- hj]at h6;rw[h6]at h4;refine K4 (by simp) rfl m k a (by omega) (by omega) ?_;refine gO ?_;exact hJ _ (a,DM m k a) ⟨by simp only;omega,by simp only;rw[DD];exact h2,Na h3 _ _,h4⟩ (by simp only;omega) AS
 ·simp(disch:=omega)only[go_sem,eq_false (show ¬ (b:Int)<(n:Int) by omega)];have hj:a=Jx AK m k n:=by unfold Jx;rw[if_neg (by omega)];exact ha
  refine Cb [0] (PA m a k (by omega) (by omega) h3) gI rfl trivial ?_;refine gO ?_;refine⟨λh=>?_,λh=>?_⟩
  ·have h5:F7 AK m a k=false:=by simpa using h
   exact fin _ (Ng (.inr (by rw[<- hj];exact h5))) rfl (by simp(disch:=omega)only[go_sem,Cr,GH])
  ·have h5:F7 AK m a k=true:=by simpa using h
   have h6:=Xk (lt:=AK) (l:=m) (i:=k) (n:=n) (by omega) (by rw[<- hj];exact h5);rw[<- hj]at h6;rw[h6]at h4;refine K4 (by simp) rfl m k a (by omega) (by omega) ?_;refine gO ?_;exact hJ _ (a,DM m k a) ⟨by simp only;omega,by simp only;rw[DD];exact h2,Na h3 _ _,h4⟩ (by simp only;omega) AS
def tf(l:List Cand)(x:Cand)(hn:l.length+1<=4294967296)(hs:NL l)(hx:x.set<18446744073709551616):Ac C0 52 [.Gc 92 (.ptr 63 0),.Gc 95 (.agg x.c)] [(63,L4 l)] (.Bl []) [(63,L4 (Uw AK l x))]:=by
 have NZ:NL (l++[x]):=λc hc=>by
  rcases List.mem_append.1 hc with h|h
  ·exact hs c h
  ·simp at h;subst h;exact hx
 refine Ac.go f52 ?_;unfold f52;refine gO ?_;refine call2 ⟨⟨[(0,0)],[(63,63)],[]⟩,[],[]⟩ (pd l x hn) ?_;refine gO ?_;refine Cb [0] (bF (l++[x])) gI rfl trivial ?_;refine gO ?_;refine call2 ⟨⟨[(0,0)],[(63,63)],[]⟩,[],[]⟩ (tD (l++[x]) l.length (by simp) (by simp;omega) NZ) ?_ (hx:=by(try simp(disch:=omega)only[go_sem]);exact .int (by omega));refine gO ?_;refine AZ ⟨[(0,0)],[(63,63)],[]⟩ _ rfl ⟨rfl,rfl⟩ (by simp[lk]) ?_ ?_
 ·exact gI
 ·simp(disch:=omega)only[go_sem,Uw]
def tc(l:List Cand)(x:Cand)(hx:(IP AK l)[l.length-1]?=some x)(h0:l≠[])(hn:l.length<=4294967296)(hs:NL l):Ac C0 48 [.Gc 92 (.ptr 63 0)] [(63,L4 l)] (.Gc 95 (.agg x.c)) [(63,L4 ((IP AK l).take (l.length-1)))]:=by
 have hl:0<l.length:=List.length_pos_iff.2 h0;have hw:IntKind.i64.wrap ((l.length:Int)-1)=((l.length-1:Nat):Int):=by rw[wrap64 _ (by omega) (by omega)];omega
 have mP:(IP AK l).length=l.length:=by unfold IP;rw[Tu,DD]
 refine Ac.go f48 ?_;unfold f48;refine gO ?_;refine Cb [0] (bF l) gI rfl trivial ?_;simp(disch:=omega)only[go_sem,hw];refine K4 (by simp) rfl l 0 (l.length-1) (by omega) (by omega) ?_;refine gO ?_;refine call2 ⟨⟨[(0,0)],[(63,63)],[]⟩,[],[]⟩ (tA (DM l 0 (l.length-1)) 0 (l.length-1) (by omega) (by rw[DD];omega) (by rw[DD];exact hn) (Na hs _ _)) ?_;have e:Eu AK (l.length-1-0) 0 (l.length-1) (DM l 0 (l.length-1))=IP AK l:=rfl;rw[e];refine gO ?_;refine call2 ⟨⟨[(0,0)],[(63,63)],[]⟩,[],[]⟩ (pc (IP AK l) x (by rw[mP];exact hx) (by omega)) ?_;refine gO ?_;refine AZ ⟨[(0,0)],[(63,63)],[]⟩ _ rfl ⟨rfl,rfl⟩ (by simp[lk]) ?_ ?_
 ·exact gI
 ·simp(disch:=omega)only[go_sem];exact .sl (by rw[mP])
def uN(i:Nat):List AV:=[I i]
@[reducible] def NQ(S:List Nat):AV:=.sl .no 1 (S.map uN)
attribute [go_sem] uN
def jt{i:Nat}{s:List Nat}:code (i::s)≠0:=λe=>by
 have:=Ku (i::s) i;rw[e]at this;simp at this
def td(cost:Int)(S:List Nat)(hS:S.Pairwise (· < ·))(hn:∀ i∈S,i<64):Ac C0 49 [.agg (Cand.mk cost (code S)).c] [] (NQ S) []:=by
 have hlen:S.length<=64:=by
  have:=bk hS hn;rw[<- this];exact Nat.le_trans (List.length_filter_le _ _) (by simp)
 refine Ac.go f49 ?_;unfold f49;refine gO ?_;refine Ao (α:=List Nat × List Nat) (λx=>⟨[(1,.ptr 64 0),(3,.sl (.own 0 0) 1 (x.1.map uN)),(4,U (code x.2))],[(64,(Cand.mk cost (code S)).c)]⟩) (λx=>x.1++x.2=S) (λx=>x.2.length) ([],S) rfl AS ?_;rintro⟨pre,s⟩ Vf J hJ;simp only at Vf;cases s with
 | nil =>
  have pH:pre=S:=by simpa using Vf
  subst pH;simp(disch:=omega)only[go_sem,code];refine CK ⟨[],[],[0]⟩ _ ?_;simp(disch:=omega)only[go_sem]
 | cons i s =>
  have hs:(i::s).Pairwise (· < ·):=hS.sublist (by rw[<- Vf];exact List.sublist_append_right _ _);have gG:∀ j∈i::s,j<64:=λj hj=>hn j (by rw[<- Vf];simp[List.mem_cons.1 hj])
  have Au:code (i::s)<18446744073709551616:=Pf (n:=64) gG;obtain⟨k1,k2⟩:=jv hs gG;have Ca:=jt (i:=i) (s:=s);have hb:(((code (i::s):Nat):Int) !=0)=true:=by simpa using Ca
  have ED:IntKind.u64.wrap (((code (i::s):Nat):Int)-1)=((code (i::s)-1:Nat):Int):=by rw[fw _ (by omega) (by omega)];omega
  have hand:bits BinOp.and IntKind.u64 ((code (i::s):Nat):Int) ((code (i::s)-1:Nat):Int)=((code s:Nat):Int):=by rw[bits_and_u64_nat _ _ Au (by omega),k2]
  have NP:pre.length<=64:=by have:=congrArg List.length Vf;simp at this;omega
  simp(disch:=omega)only[go_sem,hb,ED,hand];refine Ab (tB (code (i::s)) Au) ?_;rw[k1];simp(disch:=omega)only[go_sem,ED,hand];refine hJ _ (pre++[i],s) (by simp only[List.append_assoc,List.singleton_append];exact Vf) (by simp) (AQ.BS ⟨[(1088,0)],[(64,64)],[]⟩ ⟨rfl,rfl⟩ (by simp[lk]) ?_ ?_)
  ·simp(disch:=omega)only[go_sem,List.map_append,List.map_cons,List.map_nil]
  ·exact gI
def FW(l:List Ad)(p:Ad):Nat:=match l.findIdx? (λq=>decide (Bw p q=0)) with
 |some i=>2 ^ i
 |none=>0
def bG(l:List Ad)(p:Ad)(hl:l.length<=62):Ac C0 50 [AA l,.agg p.c] [] (I (FW l p)) []:=by
 refine Ac.go f50 ?_;unfold f50;refine gO ?_;refine AH (l) (λi=>⟨[(3,.ptr 192 0),(7,AA l),(8,I l.length),(9,I i)],[(192,p.c)]⟩) (λi=>(∀ k q,k<i->l[k]?=some q->¬ Bw p q=0)) ((λ_ _ h=>by omega)) ?_ ?_
 ·exact B9
 rintro i ⟨hi,hP⟩ J hJ;refine gO ?_;refine Bp hi (λAu b hb Cc AR=>?_) λBf=>?_
 simp(disch:=omega)only[go_sem,gm,hb]
 ·refine Ab (J7 p b) ?_;refine gO ?_;refine⟨λh=>?_,λh=>?_⟩
  ·have h0:Bw p b=0:=by rw[show p=b by simpa using h];exact DN _
   have hf:l.findIdx? (λq=>decide (Bw p q=0))=some i:=by
    rw[List.findIdx?_eq_some_iff_getElem];have AR:i<l.length:=by omega
    rw[gE AR]at hb;injection hb with hb
    refine⟨AR,by rw[hb];simpa using h0,λk hk=>?_⟩;have:=hP k (l[k]'(by omega)) hk (gE (by omega));simpa using this
   have Aa1:i<62:=by omega
   have h4:(2:Nat) ^ i<4611686018427387904:=Nat.lt_of_lt_of_le (Nat.pow_lt_pow_right (by omega) Aa1) (by decide);have h5:((2:Int) ^ min i 64)=((2 ^ i:Nat):Int):=by rw[show min i 64=i by omega,Int.natCast_pow];rfl
   have QT:FW l p=2 ^ i:=by simp only[FW,hf]
   rw[QT];generalize 2 ^ i=z at h4 h5 ⊢;refine Aj _ ?_;exact .int (by rw[Int.one_mul];exact h5)
  ·have h0:¬ Bw p b=0:=λe=>(show ¬p=b by simpa using h) (FX e)
   have hP':∀ k q,k<i+1->l[k]?=some q->¬ Bw p q=0:=λk q hk hq=>by
    by_cases kD:k=i
    ·subst kD;rw[hb]at hq;injection hq with hq;subst hq;exact h0
    ·exact hP k q (by omega) hq
   refine hJ _ (i+1) ⟨by omega,hP'⟩ (by omega) AS
 ·subst Bf;have hf:l.findIdx? (λq=>decide (Bw p q=0))=none:=by
   rw[List.findIdx?_eq_none_iff];intro q hq;obtain⟨k,hk⟩:=List.mem_iff_getElem?.1 hq;have:=hP k q (List.getElem?_eq_some_iff.1 hk).1 hk;simpa using this
  refine Aj _ ?_;exact .int (by simp[FW,hf])
def wH(n D:Nat)(c:Cand):Nat:=(n-Hb (YX c.set)+1) ^ (D-(YX c.set).length)
def pX{P:Srch}{S:List Nat}(hS:isSet P S):Hb S<=P.n:=by
 unfold Hb;cases h:S.getLast? with
 |none=>simp[Option.elim]
 |some k =>
  obtain⟨T,rfl⟩:=List.getLast?_eq_some_iff.1 h;have:=hS.2.1 k (by simp);simp only[Option.elim];omega
def ag(h:List Cand)(l:List Cand)(hh:Heap AK h):(Hh h l).length=l.length+h.length:=by
 have:=(IQ l h hh).2.length_eq;simpa using this
def OI(x:Nat):Nat:=if x=0 then 0 else x.log2+1
def PZ(x k:Nat):OI x<=k↔x<2 ^ k:=by
 unfold OI;split
 ·rename_i h;subst h;have:0<2 ^ k:=Nat.pow_pos (by omega);omega
 ·rename_i h;rw[<- Nat.log2_lt h];omega
def GF{x k j:Nat}(hj:2 ^ k=j)(h:j<=x):OI x=k+OI (x / j):=by
 subst hj;have key:∀ i,OI x<=i↔k+OI (x / 2 ^ k)<=i:=λi=>by
  rw[PZ]
  by_cases hi:i<k
  ·have:2 ^ i<2 ^ k:=Nat.pow_lt_pow_right (by omega) hi;constructor<;>intro h'<;>omega
  ·have e:=PZ (x / 2 ^ k) (i-k);have e2:2 ^ i=2 ^ (i-k)*2 ^ k:=by rw[<- Nat.pow_add];congr 1;omega
   rw[Nat.div_lt_iff_lt_mul (Nat.pow_pos (by omega)),<- e2]at e;omega
 have h1:=(key (OI x)).1 (Nat.le_refl _);have h2:=(key (k+OI (x / 2 ^ k))).2 (Nat.le_refl _);omega
def gT:∀ {S:List Nat},S.Pairwise (· < ·)->OI (code S)=Hb S:=by
 intro S hS;have h1:OI (code S)<=Hb S:=(PZ _ _).2 (Pf λi hi=>ln hS i hi);cases hl:S.getLast? with
 |none =>
  have:Hb S=0:=by simp[Hb,hl]
  omega
 |some k =>
  have e:Hb S=k+1:=by simp[Hb,hl]
  have hk:k∈S:=List.mem_of_getLast? hl;rcases Nat.lt_or_ge k (OI (code S)) with h|h
  ·omega
  ·have h2:=(PZ _ _).1 h;have h3:=Ku S k;rw[Nat.testBit_lt_two_pow h2]at h3;simp[hk]at h3
theorem y8(x:Nat):(x:Int).fdiv (2 ^ min 32 64)=((x / 4294967296:Nat):Int):=HV x 32 4294967296 rfl
theorem y7(x:Nat):(x:Int).fdiv (2 ^ min 16 64)=((x / 65536:Nat):Int):=HV x 16 65536 rfl
theorem AbX(x:Nat):(x:Int).fdiv (2 ^ min 8 64)=((x / 256:Nat):Int):=HV x 8 256 rfl
def Sb{n:Nat}(h:n<256):IntKind.u8.wrap (n:Int)=(n:Int):=by rw[IntKind.wrap_u8];omega
def JW{d:Option Nat}{K:St->Prop}{T:ByteArray}{st:St}{y:Nat}(hy:y<256)(hT:(List.range 256).all (λk=>T[k]?.map (λc=>c.toNat)==some (OI k))=true)(h:Hm d K (some (.v (.int .u8 (OI y)))) st):Hm d K (Option.map (λc=>AV.v (.int .u8 (c.toNat:Int))) T[(y:Int).toNat]?) st:=by
 have h1:=List.all_eq_true.1 hT y (List.mem_range.2 hy);simp only[beq_iff_eq]at h1;rw[Int.toNat_natCast];cases hc:T[y]? with
 |none=>rw[hc]at h1;cases h1
 |some c =>
  rw[hc]at h1;simp only[Option.map_some,Option.some.injEq]at h1;rw[<- h1]at h;exact h
def te(x:Nat)(hx:x<18446744073709551616):Ac C0 51 [U x] [] (I (OI x)) []:=by
 have hb:OI x<=64:=(PZ x 64).2 (by simpa using hx);refine Ac.go f51 ?_;unfold f51;simp(disch:=omega)only[go_sem,y8,y7,AbX];refine⟨λh1=>?_,λh1=>?_⟩
 ·have e1:=GF (k:=32) (j:=4294967296) (x:=x) (by decide) (by simp at h1;omega);refine⟨λh2=>?_,λh2=>?_⟩
  ·have e2:=GF (k:=16) (j:=65536) (x:=x / 4294967296) (by decide) (by simp at h2;omega);refine⟨λh3=>?_,λh3=>?_⟩
   ·have e3:=GF (k:=8) (j:=256) (x:=x / 4294967296 / 65536) (by decide) (by simp at h3;omega);have k1:x / 4294967296 / 65536 / 256<256:=by omega
    rw[Sb k1];refine JW k1 (by kernel_rfl) ?_;refine gO ?_;refine Aj _ ?_;exact .int (by omega)
   ·have k1:x / 4294967296 / 65536<256:=by simp at h3;omega
    rw[Sb k1];refine JW k1 (by kernel_rfl) ?_;refine gO ?_;refine Aj _ ?_;exact .int (by omega)
  ·refine⟨λh3=>?_,λh3=>?_⟩
   ·have e3:=GF (k:=8) (j:=256) (x:=x / 4294967296) (by decide) (by simp at h3;omega);have k1:x / 4294967296 / 256<256:=by simp at h2;omega
    rw[Sb k1];refine JW k1 (by kernel_rfl) ?_;refine gO ?_;refine Aj _ ?_;exact .int (by omega)
   ·have k1:x / 4294967296<256:=by simp at h3;omega
    rw[Sb k1];refine JW k1 (by kernel_rfl) ?_;refine gO ?_;refine Aj _ ?_;exact .int (by omega)
 ·refine⟨λh2=>?_,λh2=>?_⟩
  ·have e2:=GF (k:=16) (j:=65536) (x:=x) (by decide) (by simp at h2;omega);refine⟨λh3=>?_,λh3=>?_⟩
   ·have e3:=GF (k:=8) (j:=256) (x:=x / 65536) (by decide) (by simp at h3;omega);have k1:x / 65536 / 256<256:=by simp at h1;omega
    rw[Sb k1];refine JW k1 (by kernel_rfl) ?_;refine gO ?_;refine Aj _ ?_;exact .int (by omega)
   ·have k1:x / 65536<256:=by simp at h3;omega
    rw[Sb k1];refine JW k1 (by kernel_rfl) ?_;refine gO ?_;refine Aj _ ?_;exact .int (by omega)
  ·refine⟨λh3=>?_,λh3=>?_⟩
   ·have e3:=GF (k:=8) (j:=256) (x:=x) (by decide) (by simp at h3;omega);have k1:x / 256<256:=by simp at h2;omega
    rw[Sb k1];refine JW k1 (by kernel_rfl) ?_;refine gO ?_;refine Aj _ ?_;exact .int (by omega)
   ·have k1:x<256:=by simp at h3;omega
    rw[Sb k1];refine JW k1 (by kernel_rfl) ?_;refine gO ?_;refine Aj _ ?_;exact .int (by omega)
end Go.Rd
namespace Go.Abs
def Kn(b:Nat->Bool)(i:Nat):Nat->Bool:=λj=>b j||decide (j=i)
def Zj(b:Nat->Bool):List Nat->Nat->Bool
 |[]=>b
 | n::ns=>λj=>if j=n then false else Zj b ns j
def Mw(b:Nat->Bool):List Nat->List Nat->Nat->Bool
 |[],ns=>Zj b ns
 | p::ps,ns=>λj=>if j=p then true else Mw b ps ns j
def clos(ops:Array Oper)(b:Nat->Bool):Prop:=∀ j,j<ops.size->b j=true->∀ e∈Bq ops j,b e=true
def rT(ops:Array Oper):Bool:=(List.range ops.size).all λi=>(Bq ops i).all λe=>decide (e<i)
def Xd(ops:Array Oper)(i:Nat):List Nat->List Nat->Bool
 |_,[]=>true
 | seen,p::ps=>((Bq ops i).contains p||seen.any λq=>decide (q<ops.size)&&(Bq ops q).contains p)&&Xd ops i (p::seen) ps
def Xc(ops:Array Oper)(i:Nat):List Nat->List Nat->Bool
 |_,[]=>true
 | seen,n::ns=>decide (n<ops.size)&&((Bq ops n).contains i||seen.any λq=>(Bq ops n).contains q)&&Xc ops i (n::seen) ns
def zX(ops:Array Oper)(E:List (Nat × List Nat × List Nat)):Bool:=rT ops&&(E.map (·.1)==List.range ops.size)&&E.all λe=>Xd ops e.1 [] e.2.1&&Xc ops e.1 [] e.2.2
def Ym(X:Env)(ops:Array Oper)(S:(Nat->Bool)->St)(b:Nat->Bool):List (Nat × List Nat × List Nat)->Prop
 |[]=>True
 |(i,ps,ns)::l=>Bg X ops (L6 ops i) (λst'=>AQ X st' (S (Kn (Mw b ps (i::ns)) i))) (S (Mw b ps (i::ns)))/\Ym X ops S b l
section
variable {X:Env} {A:A0} {N:Nat} {ops:Array Oper}
def eu{b:Nat->Bool}:∀ {ns:List Nat},(∀ n∈ns,b n=false)->Zj b ns=b
 |[],_=>rfl
 | n::ns,hn=>by
  funext j;simp only[Zj];split
  ·rename_i h;subst h;exact(hn j (by simp)).symm
  ·rw[eu λm hm=>hn m (by simp[hm])]
def XJ{b:Nat->Bool}:∀ {ps ns:List Nat},(∀ p∈ps,b p=true)->(∀ n∈ns,b n=false)->Mw b ps ns=b
 |[],ns,_,hn=>eu hn
 | p::ps,ns,hp,hn=>by
  funext j;simp only[Mw];split
  ·rename_i h;subst h;exact(hp j (by simp)).symm
  ·rw[XJ (λm hm=>hp m (by simp[hm])) hn]
def RB{b:Nat->Bool}(hc:clos ops b){i:Nat}(hi:∀ e∈Bq ops i,b e=true):∀ (ps seen:List Nat),(∀ q∈seen,b q=true)->Xd ops i seen ps=true->∀ p∈ps,b p=true
 |[],_,_,_,p,hp=>by cases hp
 | p::ps,seen,hs,h,p',V5=>by
  simp only[Xd,Bool.and_eq_true,Bool.or_eq_true,List.any_eq_true,decide_eq_true_eq,List.contains_iff_mem]at h;have h1:b p=true:=by
   rcases h.1 with h1|⟨q,hq,h2,h3⟩
   ·exact hi p h1
   ·exact hc q h2 (hs q hq) p h3
  rcases List.mem_cons.1 V5 with rfl|V5
  ·exact h1
  ·exact RB hc hi ps (p::seen) (λq hq=>by rcases List.mem_cons.1 hq with rfl|hq;exact h1;exact hs q hq) h.2 p' V5
def RA{b:Nat->Bool}(hc:clos ops b){i:Nat}(hi:b i=false):∀ (ns seen:List Nat),(∀ q∈seen,b q=false)->Xc ops i seen ns=true->∀ n∈ns,b n=false
 |[],_,_,_,p,hp=>by cases hp
 | n::ns,seen,hs,h,n',gG=>by
  simp only[Xc,Bool.and_eq_true,Bool.or_eq_true,List.any_eq_true,decide_eq_true_eq,List.contains_iff_mem]at h;have h1:b n=false:=by
   cases hb:b n with
   | false=>rfl
   | true =>
    rcases h.1.2 with h2|⟨q,hq,h2⟩
    ·have:=hc n h.1.1 hb i h2;rw[hi]at this;cases this
    ·have:=hc n h.1.1 hb q h2;rw[hs q hq]at this;cases this
  rcases List.mem_cons.1 gG with rfl|gG
  ·exact h1
  ·exact RA hc hi ns (n::seen) (λq hq=>by rcases List.mem_cons.1 hq with rfl|hq;exact h1;exact hs q hq) h.2 n' gG
def aO{S:(Nat->Bool)->St}{b:Nat->Bool}{e:Nat × List Nat × List Nat}:∀ {E:List (Nat × List Nat × List Nat)},Ym X ops S b E->e∈E->Bg X ops (L6 ops e.1) (λst'=>AQ X st' (S (Kn (Mw b e.2.1 (e.1::e.2.2)) e.1))) (S (Mw b e.2.1 (e.1::e.2.2)))
 |[],_,h=>by cases h
 |(i,ps,ns)::l,h,hm=>by
  simp only[Ym]at h;rcases List.mem_cons.1 hm with rfl|hm
  ·exact h.1
  ·exact aO h.2 hm
def iF(hA:A.ext=X.ext)(hX:∀ s∈X.ext,s%32=31)(hN:bf N ops){Q:Exit->Act->World->Prop}{K:St->Prop}(hQ:∀ g st a w,R X.C A N g st a w->K st->Q .normal a w)
 {E:List (Nat × List Nat × List Nat)} {S:(Nat->Bool)->St} (Ce:zX ops E=true) (hs:∀ b,Ym X ops S b E) (he:∀ b,(∀ j,j<ops.size->b j=true)->K (S b)) :
 ∀ (fuel:Nat) (b:Nat->Bool) (Ae:Array Bool) (g:Gh) (a:Act) (w:World),Ae.size=ops.size->UR Ae<=fuel->(∀ j,j<ops.size->DE Ae j=b j)->clos ops b->R X.C A N g (S b) a w ->
  wpAny X.C.P .any ops Q fuel Ae a w:=by
 simp only[zX,Bool.and_eq_true,List.all_eq_true,beq_iff_eq]at Ce;obtain⟨⟨tZ,hE⟩,hch⟩:=Ce;simp only[rT,List.all_eq_true,List.mem_range,decide_eq_true_eq]at tZ
 -- nothing ready: all is done
 have all:∀ (b:Nat->Bool) (Ae:Array Bool),Ae.size=ops.size->(∀ j,j<ops.size->DE Ae j=b j)->Region.ready .any ops Ae=[]->∀ j,j<ops.size->b j=true:=by
  intro b Ae Ec hd h0 j
  induction j using Nat.strongRecOn with
  |_ j ih =>
   intro hj;cases hb:b j with
   | true=>rfl
   | false =>
    have HG:j∈Region.ready .any ops Ae:=(BI Ec).2 ⟨hj,by rw[hd j hj];exact hb,λe gB=>by
     have Au:=tZ j hj e gB;rw[hd e (by omega)];exact ih e Au (by omega)⟩
    rw[h0]at HG;cases HG
 intro fuel
 induction fuel with
 | zero =>
  intro b Ae g a w Ec hu hd NN hR;have h0:Region.ready .any ops Ae=[]:=by
   cases pJ:Region.ready .any ops Ae with
   | nil=>rfl
   | cons j l' =>
    have hj:j∈Region.ready .any ops Ae:=by rw[pJ];simp
    obtain⟨k1,k2,_⟩:=(BI Ec).1 hj;rw[Ho (by omega) (by omega:j<Ae.size)]at k2;cases k2
  exact⟨h0,hQ g _ a w hR (he b (all b Ae Ec hd h0))⟩
 | succ fuel ih =>
  intro b Ae g a w Ec hu hd NN hR;refine⟨λh0=>hQ g _ a w hR (he b (all b Ae Ec hd h0)),λj hj=>?_⟩;obtain⟨k1,k2,k3⟩:=(BI Ec).1 hj;have iT:b j=false:=by rw[<- hd j k1];exact k2
  have pH:∀ e∈Bq ops j,b e=true:=λe gB=>by
   have h5:=k3 e gB;have Au:=tZ j k1 e gB;rw[hd e (by omega)]at h5;exact h5
  obtain⟨e,heE,rfl⟩:∃ e,e∈E/\e.1=j:=by
   have:j∈E.map (·.1):=by rw[hE];exact List.mem_range.2 k1
   obtain⟨e,h1,h2⟩:=List.mem_map.1 this;exact⟨e,h1,h2⟩
  have hc:=hch e heE;have ZA:=aO (hs b) heE;rw[XJ (RB NN pH _ [] (λ_ h=>by cases h) hc.1) (λn hn=>by
   rcases List.mem_cons.1 hn with rfl|hn
   ·exact iT
   ·exact RA NN iT _ [] (λ_ h=>by cases h) hc.2 n hn)]at ZA
  have ho:ops[e.1]?=some ops[e.1]:=Array.getElem?_eq_getElem k1;simp only[L6,ho,Bg]at ZA;refine MT hA hX ho (λg' st' a' w' SP mL=>?_) (hN.1 _ (Array.getElem_mem k1)) ZA hR;obtain⟨g2,hR2⟩:=mL A N g' a' w' hA SP;refine ih (Kn b e.1) _ g2 a' w' (by simp[Ec]) (by have:=HY (by omega:e.1<Ae.size) k2;omega) (λj' V3=>?_) (λj' V3 LU e' SR=>?_) hR2
  ·rw[En (by omega)];simp only[H3,Kn]
   by_cases vS:j'=e.1
   ·subst vS;simp
   ·simp[vS,hd j' V3]
  ·simp only[Kn,Bool.or_eq_true,decide_eq_true_eq]at LU ⊢;rcases LU with LU|rfl
   ·exact .inl (NN j' V3 LU e' SR)
   ·exact .inl (pH e' SR)
end
def jF{X:Env}{ops:Array Oper}{K:St->Prop}{st:St}(E:List (Nat × List Nat × List Nat))(S:(Nat->Bool)->St)(h0:AQ X st (S λ_=>false))(hs:∀ b,Ym X ops S b E)(he:∀ b,K (S (Mw b (List.range ops.size) [])))(hm:X.C.P.follows .mixedOrders=true)
 (Ce:(IJ ops&&zX ops E)=true:=by kernel_rfl):JG X ops K st:=by
 refine D4 h0 ?_;intro A N g a w hA hN hX hR id Q hQ;simp only[Bool.and_eq_true]at Ce;refine wp_region_any hm ?_;refine iF hA hX (N:=N) (K:=K) ⟨λo ho=>?_,λi hi e he=>?_⟩ hQ Ce.2 hs (λb hb=>?_) ops.size (λ_=>false) (Array.replicate ops.size false) g a _ (by simp) (by simp[UR]) (λj hj=>by simp[DE,Array.getD,hj]) (λ_ _ h=>by cases h) hR.drew
 ·unfold Jn;cases hd:o.dst with
  |none=>rfl
  |some d=>simp;exact hN o ho d hd
 ·have:=Ce.1;simp only[IJ,List.all_eq_true,List.mem_range,decide_eq_true_eq]at this;exact this i hi e he
 ·have:=he b;rw[XJ (λp hp=>hb p (List.mem_range.1 hp)) (λ_ h=>by cases h)]at this;exact this
def selb(b:Nat->Bool):List (Nat × Nat × AV × List Nat)->List (Nat × AV)->List (Nat × AV)
 |[],base=>base
 |(i,t,x,ks)::l,base=>if b i then (t,if ks.any b then .undef else x)::selb b l base else selb b l base
def AV.kills:List (List Nat × List Nat)->AV->AV
 |[],x=>x
 |(r,m)::K,x=>AV.kills K (x.kill r m)
def Kd:List (List Nat × List Nat)->List (Nat × AV)->List (Nat × AV)
 |[],l=>l
 |(r,m)::K,l=>Kd K (MH r m l)
theorem KG:∀ (K:List (List Nat × List Nat)) (k:Nat) (l:List (Nat × AV)),lk k (Kd K l)=(lk k l).map (AV.kills K)
 |[],k,l=>by simp only[Kd];cases lk k l<;>rfl
 |(r,m)::K,k,l=>by
  simp only[Kd,KG K,Ud];cases lk k l<;>rfl
@[go_sem] theorem qa(k:Nat)(b:Nat->Bool)(j t:Nat)(x:AV)(ks:List Nat)(l:List (Nat × Nat × AV × List Nat))(base:List (Nat × AV)):lk k (selb b ((j,t,x,ks)::l) base)=if t=k then (if b j then some (if ks.any b then .undef else x) else lk k (selb b l base)) else lk k (selb b l base):=by
 simp only[selb];split
 ·simp only[lk]
 ·split<;>rfl
@[go_sem] theorem rS(k:Nat)(b:Nat->Bool)(base:List (Nat × AV)):lk k (selb b [] base)=lk k base:=rfl
@[go_sem] theorem vH(b:Nat->Bool)(p:Nat)(ps ns:List Nat)(j:Nat):Mw b (p::ps) ns j=if j=p then true else Mw b ps ns j:=rfl
@[go_sem] theorem xn(b:Nat->Bool)(ns:List Nat)(j:Nat):Mw b [] ns j=Zj b ns j:=rfl
@[go_sem] theorem vI(b:Nat->Bool)(n:Nat)(ns:List Nat)(j:Nat):Zj b (n::ns) j=if j=n then false else Zj b ns j:=rfl
@[go_sem] theorem xo(b:Nat->Bool)(j:Nat):Zj b [] j=b j:=rfl
@[go_sem] theorem wT{α:Type}(p:α->Bool):([]:List α).any p=false:=rfl
@[go_sem] theorem vw{α:Type}(p:α->Bool)(a:α)(l:List α):(a::l).any p=(p a||l.any p):=rfl
attribute [go_sem] Ym
def aI(b:Nat->Bool)(i d:Nat)(y:AV)(K:List (List Nat × List Nat)):List (Nat × Nat × AV × List Nat)->Prop
 |[]=>True
 |(j,t,x,ks)::l=>(if j=i then t=d/\ks.any (Kn b i)=false/\B8 y x else t≠d/\(b j=false\/i∈ks\/AV.kills K x=x))/\aI b i d y K l
def YV(K:List (List Nat × List Nat))(S:List (Nat × AV))(d:Nat)(y:AV):List (Nat × AV)->Prop
 |[]=>True
 |(k,x)::l=>(if d=k then B8 y x else ∃ z,lk k S=some z/\B8 (AV.kills K z) x)/\YV K S d y l
def WO{b:Nat->Bool}{i d:Nat}{y:AV}{K:List (List Nat × List Nat)}{e:Nat × Nat × AV × List Nat}:∀ {l:List (Nat × Nat × AV × List Nat)},aI b i d y K l->e∈l->if e.1=i then e.2.1=d/\e.2.2.2.any (Kn b i)=false/\B8 y e.2.2.1 else e.2.1≠d/\(b e.1=false\/i∈e.2.2.2\/AV.kills K e.2.2.1=e.2.2.1)
 |[],_,h=>by cases h
 |(j,t,x,ks)::l,h,hm=>by
  simp only[aI]at h;rcases List.mem_cons.1 hm with rfl|hm
  ·exact h.1
  ·exact WO h.2 hm
def Yj{b:Nat->Bool}{base:List (Nat × AV)}{e:Nat × Nat × AV × List Nat}:∀ {l:List (Nat × Nat × AV × List Nat)},(l.map (·.2.1)).Nodup->e∈l->b e.1=true->lk e.2.1 (selb b l base)=some (if e.2.2.2.any b then .undef else e.2.2.1)
 |[],_,h,_=>by cases h
 |(j,t,x,ks)::l,hn,hm,hb=>by
  rw[qa];rw[List.map_cons,List.nodup_cons]at hn;rcases List.mem_cons.1 hm with rfl|hm
  ·simp[hb]
  ·have:t≠e.2.1:=λh=>hn.1 (List.mem_map.2 ⟨e,hm,h.symm⟩)
   rw[if_neg this];exact Yj hn.2 hm hb
def Ch{X:Env}{b:Nat->Bool}{i d:Nat}{y:AV}{Hr:List (Nat × Nat × AV × List Nat)}{base Td:List (Nat × AV)}{o o':List (Nat × List AV)}{T:List (Nat × AV)}(K:List (List Nat × List Nat))(hT:T=Kd K (selb b Hr base))(hn:decide (Hr.map (·.2.1)).Nodup=true)(HH:aI b i d y K Hr)(hb:YV K (selb b Hr base) d y Td)
 (ho:GZ ⟨(d,y)::T,o⟩ o'):AQ X ⟨(d,y)::T,o⟩ ⟨selb (Kn b i) Hr Td,o'⟩:=by
 subst hT;have hn:=of_decide_eq_true hn;refine AQ.An ?_ ho;have kx:∀ {bs:List (Nat × AV)},YV K (selb b Hr base) d y bs->H2 ⟨(d,y)::Kd K (selb b Hr base),o⟩ bs:=by
  intro bs
  induction bs with
  | nil=>intro _;trivial
  | cons p bs ih =>
   obtain⟨k,x⟩:=p;intro h;simp only[YV]at h;refine⟨?_,ih h.2⟩
   by_cases hk:d=k
   ·rw[if_pos hk]at h;exact⟨y,by simp only[lk,if_pos hk],h.1⟩
   ·rw[if_neg hk]at h;obtain⟨⟨z,h3,h4⟩,_⟩:=h;exact⟨AV.kills K z,by simp only[lk,if_neg hk,KG,h3,Option.map_some],h4⟩
 suffices H:∀ l:List (Nat × Nat × AV × List Nat),(∀ e∈l,e∈Hr)->H2 ⟨(d,y)::Kd K (selb b Hr base),o⟩ (selb (Kn b i) l Td) from H Hr λ_ h=>h
 intro l
 induction l with
 | nil=>intro _;exact kx hb
 | cons e l ih =>
  intro hl;have hm:=hl e (by simp);have h1:=WO HH hm;have h2:=ih λe' SR=>hl e' (by simp[SR])
  obtain⟨j,t,x,ks⟩:=e;simp only[selb];split
  ·rename_i hj;refine⟨?_,h2⟩;simp only at h1
   by_cases Vb:j=i
   ·rw[if_pos Vb]at h1;obtain⟨rfl,h3,h4⟩:=h1;exact⟨y,by simp only[lk,if_true],by rw[h3];exact h4⟩
   ·rw[if_neg Vb]at h1;have pt:b j=true:=by simpa [Kn,Vb]using hj
    have x5:=Yj (base:=base) hn hm pt;simp only at x5;refine⟨AV.kills K (if ks.any b=true then .undef else x),by simp only[lk,Ne.symm h1.1,if_false,KG,x5,Option.map_some],?_⟩
    by_cases hk:ks.any (Kn b i)=true
    ·rw[if_pos hk];exact .undef
    ·have Sh:¬ ks.any b=true:=λh=>by
      obtain⟨q,hq,vQ⟩:=List.any_eq_true.1 h;exact hk (List.any_eq_true.2 ⟨q,hq,by simp[Kn,vQ]⟩)
     rw[if_neg hk,if_neg Sh];rcases h1.2 with h3|h3|h3
     ·rw[pt]at h3;cases h3
     ·exact absurd (List.any_eq_true.2 ⟨i,h3,by simp[Kn]⟩) hk
     ·rw[h3];exact .rfl
  ·exact h2
attribute [go_sem] aI YV AV.kills Bool.or_self Bool.or_false Bool.false_or ne_eq not_false_eq_true List.all_cons List.all_nil List.mem_cons List.not_mem_nil Bool.and_self or_false false_or or_true true_or
def aJ(b:Nat->Bool)(i:Nat)(K:List (List Nat × List Nat)):List (Nat × Nat × AV × List Nat)->Prop
 |[]=>True
 |(j,_,x,ks)::l=>(j≠i/\(b j=false\/i∈ks\/AV.kills K x=x))/\aJ b i K l
def YW(K:List (List Nat × List Nat))(S:List (Nat × AV)):List (Nat × AV)->Prop
 |[]=>True
 |(k,x)::l=>(∃ z,lk k S=some z/\B8 (AV.kills K z) x)/\YW K S l
def WQ{b:Nat->Bool}{i:Nat}{K:List (List Nat × List Nat)}{e:Nat × Nat × AV × List Nat}:∀ {l:List (Nat × Nat × AV × List Nat)},aJ b i K l->e∈l->e.1≠i/\(b e.1=false\/i∈e.2.2.2\/AV.kills K e.2.2.1=e.2.2.1)
 |[],_,h=>by cases h
 |(j,t,x,ks)::l,h,hm=>by
  simp only[aJ]at h;rcases List.mem_cons.1 hm with rfl|hm
  ·exact h.1
  ·exact WQ h.2 hm
def E5{X:Env}{b:Nat->Bool}{i:Nat}{Hr:List (Nat × Nat × AV × List Nat)}{base Td:List (Nat × AV)}{o o':List (Nat × List AV)}{T:List (Nat × AV)}(K:List (List Nat × List Nat))(hT:T=Kd K (selb b Hr base))(hn:decide (Hr.map (·.2.1)).Nodup=true)(HH:aJ b i K Hr)(hb:YW K (selb b Hr base) Td)
 (ho:GZ ⟨T,o⟩ o'):AQ X ⟨T,o⟩ ⟨selb (Kn b i) Hr Td,o'⟩:=by
 subst hT;have hn:=of_decide_eq_true hn;refine AQ.An ?_ ho;have kx:∀ {bs:List (Nat × AV)},YW K (selb b Hr base) bs->H2 ⟨Kd K (selb b Hr base),o⟩ bs:=by
  intro bs
  induction bs with
  | nil=>intro _;trivial
  | cons p bs ih =>
   obtain⟨k,x⟩:=p;intro h;simp only[YW]at h;obtain⟨⟨z,h3,h4⟩,h5⟩:=h;exact⟨⟨AV.kills K z,by simp only[KG,h3,Option.map_some],h4⟩,ih h5⟩
 suffices H:∀ l:List (Nat × Nat × AV × List Nat),(∀ e∈l,e∈Hr)->H2 ⟨Kd K (selb b Hr base),o⟩ (selb (Kn b i) l Td) from H Hr λ_ h=>h
 intro l
 induction l with
 | nil=>intro _;exact kx hb
 | cons e l ih =>
  intro hl;have hm:=hl e (by simp);have h1:=WQ HH hm;have h2:=ih λe' SR=>hl e' (by simp[SR])
  obtain⟨j,t,x,ks⟩:=e;simp only[selb];split
  ·rename_i hj;refine⟨?_,h2⟩;simp only at h1;have pt:b j=true:=by simpa [Kn,h1.1]using hj
   have x5:=Yj (base:=base) hn hm pt;simp only at x5;refine⟨AV.kills K (if ks.any b=true then .undef else x),by simp only[KG,x5,Option.map_some],?_⟩
   by_cases hk:ks.any (Kn b i)=true
   ·rw[if_pos hk];exact .undef
   ·have Sh:¬ ks.any b=true:=λh=>by
     obtain⟨q,hq,vQ⟩:=List.any_eq_true.1 h;exact hk (List.any_eq_true.2 ⟨q,hq,by simp[Kn,vQ]⟩)
    rw[if_neg hk,if_neg Sh];rcases h1.2 with h3|h3|h3
    ·rw[pt]at h3;cases h3
    ·exact absurd (List.any_eq_true.2 ⟨i,h3,by simp[Kn]⟩) hk
    ·rw[h3];exact .rfl
  ·exact h2
attribute [go_sem] aJ YW
def UH(base:List (Nat × AV)):∀ l,selb (λ_=>false) l base=base
 |[]=>rfl
 |(i,t,x,ks)::l=>by simp only[selb,Bool.false_eq_true,if_false,UH base l]
@[go_sem] theorem lq(l:List (Nat × AV)):l.map (λp=>(p.1,p.2.freeze []))=l:=by
 induction l with
 | nil=>rfl
 | cons p l ih=>rw[List.map_cons,ih,GB]
def Zp:List (Nat × Nat × AV × List Nat)->List (Nat × AV)->List (Nat × AV)
 |[],base=>base
 |(_,t,x,ks)::l,base=>(t,if ks.isEmpty then x else .undef)::Zp l base
def WD{b:Nat->Bool}{n:Nat}(hb:∀ j,j<n->b j=true)(base:List (Nat × AV)):∀ l:List (Nat × Nat × AV × List Nat),(l.all λe=>decide (e.1<n)&&e.2.2.2.all λk=>decide (k<n))=true->selb b l base=Zp l base
 |[],_=>rfl
 |(i,t,x,ks)::l,h=>by
  simp only[List.all_cons,Bool.and_eq_true,decide_eq_true_eq]at h;simp only[selb,hb i h.1.1,if_true,Zp,WD hb base l h.2];cases ks with
  | nil=>rfl
  | cons k ks =>
   have:=h.1.2;simp only[List.all_cons,Bool.and_eq_true,decide_eq_true_eq]at this;simp[hb k this.1]
@[go_sem] theorem wO(b:Nat->Bool)(i j:Nat):Kn b i j=(b j||decide (j=i)):=rfl
theorem VF{X:Env}{ops:Array Oper}{K:St->Prop}{st:St}(E:List (Nat × List Nat × List Nat))(F:List Nat)(Hr:List (Nat × Nat × AV × List Nat))(base:(Nat->Bool)->List (Nat × AV))(o:(Nat->Bool)->List (Nat × List AV))(h0:AQ X st ⟨base λ_=>false,o λ_=>false⟩)(hs:∀ b,Ym X ops (λb=>⟨selb b Hr (base b),o b⟩) b E)(he:∀ b,K ⟨Zp Hr (base (Mw b F [])),o (Mw b F [])⟩)(hm:X.C.P.follows .mixedOrders=true)
 (Ce:(IJ ops&&zX ops E&&F==List.range ops.size)=true:=by kernel_rfl) (Au:(Hr.all λe=>decide (e.1<ops.size)&&e.2.2.2.all λk=>decide (k<ops.size))=true:=by rfl):JG X ops K st:=by
 rw[Bool.and_eq_true,beq_iff_eq]at Ce;refine jF E (λb=>⟨selb b Hr (base b),o b⟩) (by simp only[UH];exact h0) hs (λb=>?_) hm Ce.1;have Fw:∀ (l:List Nat) (j:Nat),j∈l->Mw b l [] j=true:=by
  intro l
  induction l with
  | nil=>intro j h;cases h
  | cons p l ih =>
   intro j h;simp only[Mw];split
   ·rfl
   ·rcases List.mem_cons.1 h with h|h
    ·contradiction
    ·exact ih j h
 show K ⟨selb _ Hr (base (Mw b (List.range ops.size) [])),o (Mw b (List.range ops.size) [])⟩;rw[WD (n:=ops.size) (λj hj=>Fw _ j (List.mem_range.2 hj)) _ Hr Au,<- Ce.2];exact he b
attribute [go_sem] Zp List.isEmpty_nil List.isEmpty_cons
end Go.Abs
namespace Go.Abs
open Go Go.ChangeShapes Go.WideShapes Go.RowKit
def L3(P:Program)(N:Nat)(t:TypeId){α:Type}(e:α->List AV):Prop :=
 ∀ (H:Type) (enc:TypeId × Value->H) (w:World) (fuel:Nat) (cs:List Value) (x:DataW H × List MemPlace),fuel<=N->DataW.trod enc P w 0 (λ_=>true) true fuel t cs=some x ->
  ∃ a,B3 (λb=>b<w.heap.size) w (e a) cs
def iY(P:Program)(N b:Nat)(fs:List Field){α:Type}(e:α->List AV):Prop :=
 ∀ (H:Type) (enc:TypeId × Value->H) (w:World) (n:Nat) (cs:List Value) (ys:List (DataW H × List MemPlace)),n<=N->cs.length=b+(fs.map λf=>P.cellsOf f.type).sum->ys.length=fs.length ->
  (∀ (i:Nat) (f:Field),fs[i]?=some f->DataW.trod enc P w 0 (λ_=>true) true n f.type ((cs.drop f.offset).take (P.cellsOf f.type))=ys[i]?) ->
  ∃ a,B3 (λb=>b<w.heap.size) w (e a) (cs.drop b)
variable {P:Program} {t:TypeId}
def L3.mono{N M:Nat}{α:Type}{e:α->List AV}(h:L3 P N t e)(hm:M<=N):L3 P M t e:=λH enc w fuel cs x hf hx=>h H enc w fuel cs x (Nat.le_trans hf hm) hx
def Cod.toN{α:Type}{e:α->List AV}{m:α->Nat}{Q:α->Prop}(h:Cod P t e m Q)(N:Nat):L3 P N t e:=λH enc w fuel cs x _ hx=>by
 obtain⟨a,_,_,h3⟩:=h H enc w fuel cs x hx;exact⟨a,h3⟩
def L3.AdC{α:Type}{e:α->List AV}(h:∀ N,L3 P N t e):Cod P t e (λ_=>0) (λ_=>True):=λH enc w fuel cs x hx=>by
 obtain⟨a,h3⟩:=h fuel H enc w fuel cs x (Nat.le_refl _) hx;exact⟨a,trivial,Nat.zero_le _,h3⟩
def L3.map{N:Nat}{α β:Type}{e:α->List AV}{e':β->List AV}(h:L3 P N t e)(hf:∀ a,∃ b,e' b=e a):L3 P N t e':=λH enc w fuel cs x hn hx=>by
 obtain⟨a,q⟩:=h H enc w fuel cs x hn hx;obtain⟨b,hb⟩:=hf a;exact⟨b,hb▸q⟩
def vB{α:Type}{e:α->List AV}:L3 P 0 t e:=λH enc w fuel cs x hn hx=>by
 obtain rfl:fuel=0:=by omega
 simp[DataW.trod]at hx
def sA{N:Nat}{el:TypeId}{α:Type}{e:α->List AV}{n:Nat}(he:L3 P N el e)(ht:P.underlying t=some (.slice el))(hc:P.cellsOf el=n)(hn:0<n) :
 L3 P (N+1) t (λxs:List α=>[.sl .no n (xs.map e)]):=by
 intro H enc w fuel cs x hf h;rcases DataW.trod_slice ht h with ⟨rfl,rfl⟩|⟨a,len,cap,elems,rest,k,rfl,rfl,rfl,_,hl,hm,hlen,a6,_,_⟩
 ·refine⟨[],?_,trivial⟩;simp only[List.map_nil,PR];exact⟨by simp,none,0,rfl,by simp,by simp,by simp,hn,Or.inl trivial⟩
 ·subst hlen;obtain⟨xs,iU,mT⟩:=pick (α:=α) (q:=λ_ _=>True) (R:=λi x y=>∃ cs,w.cells? 0 (a.add (i*n)) n=some cs/\B3 (λb=>b<w.heap.size) w (e x) cs) elems.length elems rfl (by
   intro i y hy;have hi:i<elems.length:=by
    rcases Nat.lt_or_ge i elems.length with h|h
    ·exact h
    ·rw[List.getElem?_eq_none h]at hy;cases hy
   have:=a6 i hi;rw[hy,hc,Option.bind_eq_some_iff]at this;obtain⟨cs,h1,h2⟩:=this;obtain⟨x,q3⟩:=he H enc w k cs y (by omega) h2;exact⟨x,cs,h1,q3⟩)
  have Jw:∀ i x,xs[i]?=some x->∃ y,elems[i]?=some y:=λi x hx=>by
   have:i<elems.length:=by
    rcases Nat.lt_or_ge i xs.length with h|h
    ·omega
    ·rw[List.getElem?_eq_none h]at hx;cases hx
   exact⟨_,List.getElem?_eq_getElem this⟩
  refine⟨xs,?_,trivial⟩;simp only[PR];refine⟨by simp,some a,cap,by simp[iU],by simp[iU,hl],hm,by simp,hn,?_⟩;cases xs with
  | nil=>exact Or.inl rfl
  | cons x xs =>
   refine Or.inr ⟨a,rfl,?_,P8 λi x hx=>?_⟩
   ·obtain⟨y,hy⟩:=Jw 0 x rfl;obtain⟨cs,h1,_⟩:=mT 0 x y rfl hy;obtain⟨_,hl,Hu⟩:=World.cells?_some h1;have h0:=Hu 0 hn;cases cs with
    | nil=>simp at hl;omega
    | cons c cs=>exact(show (a.add (0*n+0)).block=a.block by simp[Addr.add])▸FK (by rw[YC]at h0;simpa using h0)
   ·obtain⟨y,hy⟩:=Jw i x hx;obtain⟨cs,h1,h2⟩:=mT i x y hx hy;exact⟨cs,by simpa using h1,h2⟩
def ju{N b:Nat}:iY P N b [] (λ_:Unit=>[]):=by
 intro H enc w n cs ys _ hl _ _;have:cs.drop b=[]:=List.drop_eq_nil_of_le (by simpa using Nat.le_of_eq hl);rw[this];exact⟨(),trivial⟩
def fO{N b:Nat}{f:Field}{fs:List Field}{α β:Type}{e:α->List AV}{e':β->List AV}(h:L3 P N f.type e)(hb:f.offset=b)(hs:iY P N (b+P.cellsOf f.type) fs e') :
 iY P N b (f::fs) (λx:α × β=>e x.1++e' x.2):=by
 intro H enc w n cs ys hn hl hy NX;cases ys with
 | nil=>simp at hy
 | cons y ys =>
  have h0:=NX 0 f rfl;rw[hb]at h0;obtain⟨a,ha⟩:=h H enc w n _ y hn h0;obtain⟨c,hc⟩:=hs H enc w n cs ys hn (by simp only[List.map_cons,List.sum_cons]at hl;omega) (by simpa using hy) λi g hg=>by simpa using NX (i+1) g (by simpa using hg)
  refine⟨(a,c),?_⟩;have:=B3.append ha hc;have e:(cs.drop b).take (P.cellsOf f.type)++cs.drop (b+P.cellsOf f.type)=cs.drop b:=by
   rw[<- List.drop_drop,List.take_append_drop]
  rw[e]at this;exact this
def Y3{N:Nat}{fs:Array Field}{α:Type}{e:α->List AV}(ht:P.underlying t=some (.struct fs))(hc:P.cellsOf t=(fs.toList.map λf=>P.cellsOf f.type).sum)(h:iY P N 0 fs.toList e):L3 P (N+1) t e:=by
 intro H enc w fuel cs x hf hx;obtain⟨xs,n,rfl,rfl,hl,hlen,NX⟩:=DataW.trod_struct ht hx;obtain⟨a,ha⟩:=h H enc w n cs xs (by omega) (by rw[hl,hc];simp) (by simpa using hlen) λi f eL=>NX i f (by simpa using eL)
 exact⟨a,by simpa using ha⟩
def flds(P:Program)(t:TypeId):Option (List (TypeId × Nat)):=match P.underlying t with
 |some (.struct fs)=>some (fs.toList.map λf=>(f.type,f.offset))
 |_=>none
def mZ(P:Program)(N b:Nat)(l:List (TypeId × Nat)){α:Type}(e:α->List AV):Prop:=∀ fs:List Field,(fs.map λf=>(f.type,f.offset))=l->iY P N b fs e
def xa{N b:Nat}:mZ P N b [] (λ_:Unit=>[]):=λfs h=>by
 obtain rfl:fs=[]:=by simpa using h
 exact ju
def vA{N b sz:Nat}{ty:TypeId}{l:List (TypeId × Nat)}{α β:Type}{e:α->List AV}{e':β->List AV}(h:L3 P N ty e)(hz:P.cellsOf ty=sz)(hs:mZ P N (b+sz) l e') :
 mZ P N b ((ty,b)::l) (λx:α × β=>e x.1++e' x.2):=λfs NX=>by
 cases fs with
 | nil=>simp at NX
 | cons f fs =>
  simp only[List.map_cons,List.cons.injEq,Prod.mk.injEq]at NX;obtain⟨⟨h1,h2⟩,h3⟩:=NX;subst h1;exact fO h h2 (by rw[hz];exact hs fs h3)
def Aas{N:Nat}{l:List (TypeId × Nat)}{α:Type}{e:α->List AV}(ht:flds P t=some l)(hc:P.cellsOf t=(l.map λx=>P.cellsOf x.1).sum)(h:mZ P N 0 l e):L3 P (N+1) t e:=by
 unfold flds at ht;split at ht
 ·rename_i fs hu;simp only[Option.some.injEq]at ht;refine Y3 hu ?_ (h fs.toList ht);rw[hc,<- ht,List.map_map];rfl
 ·cases ht
def Aca{l:List (TypeId × Nat)}{α:Type}{e:α->List AV}(he:∀ N,L3 P N t e)(ht:flds P t=some l):Arg P t (λa:α=>.agg (e a)) (λ_=>0) (λ_=>True):=by
 intro H enc w base v d ps hv hd;unfold flds at ht;split at ht
 ·rename_i fs hu;obtain⟨us,rfl,_⟩:=okWide_struct hu hv;obtain⟨fuel,hf⟩:=hd;obtain⟨a,hp⟩:=he fuel H enc w fuel _ _ (Nat.le_refl _) hf;refine⟨a,trivial,Nat.zero_le _,us,rfl,?_⟩;have V5:B3 (BX (kr w)) w (e a) us.toList:=by
   rw[T5];exact hp
  exact V5.Az
 ·cases ht
def chunks{α:Type}(m:Nat):∀ (rows:List (List α)) (cs:List α),cs.length=rows.length*m->(∀ i r,rows[i]?=some r->(cs.drop (i*m)).take m=r)->cs=rows.flatten
 |[],cs,hl,_=>List.eq_nil_of_length_eq_zero (by simpa using hl)
 | r::rows,cs,hl,h=>by
  have h0:=h 0 r rfl;have:=chunks m rows (cs.drop m) (by simp only[List.length_cons,Nat.add_mul]at hl;rw[List.length_drop,hl];omega) λi r' hr=>by
   have:=h (i+1) r' (by simpa using hr);rw[List.drop_drop]
   rwa [show m+i*m=(i+1)*m by rw[Nat.add_mul];omega]
  simp only[Nat.zero_mul,List.drop_zero]at h0;rw[List.flatten_cons,<- this,<- h0,List.take_append_drop]
theorem YK{H:Type}{enc:TypeId × Value->H}{w:World}{fuel n:Nat}{sp:Nat->Bool}{held:Bool}{base:Nat}{e:TypeId}{cs:List Value}{ds:List (DataW H)}{p:List MemPlace}{f:List (List Value)}
 (ht:P.underlying t=some (.array n e)) (mM:P.cellsOf t=n*P.cellsOf e) (h:DataW.trod enc P w base sp held fuel t cs=some (.agg ds,p)) (hl:ds.length=f.length)
 (hf:∀ (i:Nat) (d:DataW H) (c:List Value),ds[i]?=some d->f[i]?=some c->∀ fuel Mp p',DataW.trod enc P w base sp held fuel e Mp=some (d,p')->Mp=c):cs=f.flatten:=by
 obtain⟨xs,m,_,hx,NN,iU,a6⟩:=DataW.trod_array ht h;have UQ:ds=xs.map (·.1):=by
  have:=congrArg Prod.fst hx;simpa using this
 have hn:f.length=n:=by rw[<- hl,UQ];simpa using iU
 refine chunks _ f cs (by rw[NN,mM,hn]) λi c hc=>?_
 have hi:i<f.length:=by
  rcases Nat.lt_or_ge i f.length with h|h
  ·exact h
  ·rw[List.getElem?_eq_none h]at hc;cases hc
 have hxi:xs[i]?=some xs[i]:=List.getElem?_eq_getElem (by omega);have h1:=a6 i (by omega);rw[hxi]at h1;refine hf i xs[i].1 c ?_ hc m _ xs[i].2 h1;rw[UQ,List.getElem?_map,hxi];rfl
def bn{H:Type}{enc:TypeId × Value->H}{w:World}{fuel:Nat}{sp:Nat->Bool}{held:Bool}{base:Nat}{cs:List Value}{b:Bool}{p:List MemPlace}(ht:P.underlying t=some .bool)
 (h:DataW.trod enc P w base sp held fuel t cs=some (.lit (.bool b),p)):cs=[.bool b]:=by
 obtain⟨n,rfl,h2⟩:=DataW.trod_bool ht h;simp at h2;rw[h2.1]
def y0{H:Type}(r:List Bool):DataW H:=.agg (r.map λb=>.lit (.bool b))
def ze{H:Type}(rows:List (List Bool)):DataW H:=.agg (rows.map y0)
def iG{H:Type}{enc:TypeId × Value->H}{w:World}{fuel n m:Nat}{sp:Nat->Bool}{held:Bool}{base:Nat}{e b:TypeId}{cs:List Value}{rows:List (List Bool)}{p:List MemPlace}
 (ht:P.underlying t=some (.array n e)) (he:P.underlying e=some (.array m b)) (hb:P.underlying b=some .bool) (h1:P.cellsOf b=1) (h2:P.cellsOf e=m) (h3:P.cellsOf t=n*m)
 (h:DataW.trod enc P w base sp held fuel t cs=some (ze rows,p)):cs=rows.flatten.map Value.bool:=by
 have key:∀ r:List Bool,∀ fuel Mp p',DataW.trod enc P w base sp held fuel e Mp=some (y0 r,p')->Mp=r.map Value.bool:=λr fuel Mp p' h'=>by
  have:=YK (f:=r.map λb=>[Value.bool b]) he (by rw[h1,h2,Nat.mul_one]) h' (by simp) λi d c hd hc fuel Mp p' hx=>by
   rw[List.getElem?_map]at hd hc;cases hr:r[i]? with
   |none=>rw[hr]at hd;cases hd
   |some v =>
    rw[hr]at hd hc;simp at hd hc;subst hd;subst hc;exact bn hb hx
  rw[this];clear h'  this
  induction r with
  | nil=>rfl
  | cons x r ih=>simp only[List.map_cons,List.flatten_cons,List.singleton_append,ih]
 have:=YK (f:=rows.map λr=>r.map Value.bool) ht (by rw[h2,h3]) h (by simp) λi d c hd hc fuel Mp p' hx=>by
  rw[List.getElem?_map]at hd hc;cases hr:rows[i]? with
  |none=>rw[hr]at hd;cases hd
  |some v =>
   rw[hr]at hd hc;simp at hd hc;subst hd;subst hc;exact key v _ _ _ hx
 rw[this,List.map_flatten]
theorem uO{C:Ctx}{f:Nat}{fn:Func}{s:ChangeSpec}(hs:s.vars=[]){apart fresh handsOn again:Bool}{α:Type}{e:α->List AV}{m:α->Nat}{Q:α->Prop}{tb:TypeId}{ts:List TypeId}
 (hp:fn.params.toList=ts) (ha:Args C.P ts e m Q) (hl:laidOutB C.P=true) (hr:(ts.all λt=>C.P.readableRec t&&decide (t<C.P.types.size))=true) (PL:fn.resultTypes = #[tb]) (v7:C.P.underlying tb=some .bool)
 {H:Type} (enc:TypeId × Value->H) (W:World) (hG:Glob C (kr W) W) (base:Nat) (args:Array Value) (ds gs:List (DataW H)) (before:List MemPlace)
 (hval:∀ (j:Nat) t v,fn.params[j]?=some t->args[j]?=some v->Value.okWide C.P W .any base t v)
 (hW:DataW.Whole enc C.P fn.params.toList s.vars apart W args.toList ds gs before)
 (hfn:∀ ds:List (DataW H),ds.length=ts.length->(s.fn H ds).results=[.lit (.bool true)]/\(s.fn H ds).args=ds/\(s.fn H ds).vars=[])
 (Ce:∀ a,Q a->m a<=iM ds->Ac C f (e a) [] (.v (.bool true)) []) :
 Calls C.P f args W λr W'=>∃ v,r=.returned v/\s.post enc C.P fn apart fresh handsOn again W args v W':=by
 replace hr:∀ t∈ts,C.P.readableRec t=true/\t<C.P.types.size:=by simpa using hr
 have hW':=hW;obtain⟨p,q,hA,hV,rfl,hfz,El⟩:=hW;rw[hs]at hV;obtain⟨rfl,rfl⟩:=trodVars_none hV;rw[hp]at hA;obtain⟨a,q1,q2,q3⟩:=ha H enc W base args.toList ds p (λj t v hj hv=>hval j t v (by rw[<- Array.getElem?_toList,hp];exact hj) (by simpa using hv)) hA;have hlen:∀ {ts:List TypeId} {vs:List Value} {ds:List (DataW H)} {ps:List MemPlace},DataW.TrodAll enc C.P W 0 (λ_=>true) true ts vs ds ps->ds.length=ts.length:=by
  intro ts
  induction ts with
  | nil=>intro vs ds ps h;obtain⟨_,rfl,_⟩:=trodAll_nil h;rfl
  | cons t ts ih =>
   intro vs ds ps h;obtain⟨v,vs,d,ds,p,q,rfl,rfl,rfl,h1,h2⟩:=trodAll_cons h;simp[ih h2]
 obtain⟨hf1,eJ,zD⟩:=hfn ds (hlen hA);have key:=(Ce a q1 q2).2 (kr W) W args.toList hG q3 (λs cs h=>by cases h);rw[show args.toList.toArray=args by simp]at key;refine key.mono λr W' ⟨u,g',hr1,hF,hy,_⟩=>?_
 subst hr1;simp only[VR]at hy;subst hy;have hb:Below W.heap.size W W':=⟨hF.os,hF.tape.1,hF.output,hF.size,λk hk=>(hF.EE k hk (Or.inl (by show (kr W).own k=.ro;simp[kr,hk]))).1⟩;have Au:∀ x∈p++([]:List MemPlace),x.block<W.heap.size:=λx hx=>hW'.lt x hx
 refine⟨_,rfl,bg (pa:=p) (pv:=[]) hW' (λb sp hd=>?_) (λsp zL=>?_) (λ_ _=>?_) rfl hb (ok_one PL rfl (okWide_bool_mk v7 _))⟩
 ·simp only[List.append_nil,hf1];rw[PL];exact trodAll_mk1 (shut_bool v7 _)
 ·simp only[List.append_nil,eJ];rw[hp];exact Og hl hr hA (λx hx=>hb.same (Au x (by simpa using hx))) (λx hx=>zL x (by simpa using hx))
 ·simp only[List.append_nil,zD];rw[hs];rfl
end Go.Abs
open Go Go.Abs Go.Proofs
set_option maxRecDepth 100000
namespace Go.Rd
set_option maxHeartbeats 8000000
structure Entry where
 name:Bs
 before:BO
 after:BO
structure Save where
 label:Int
 pos:Int
structure Ledger where
 entries:List Entry
 Bn:List Save
structure aY where
 expr:Expr
 prio:Int
 DK:Int
structure Cd where
 proc:Ad
 cost:Int
 By:Ledger
 waiting:Bool
 BQ:aY
 since:Int
 gen:Int
structure Qt where
 now:Int
 Aa:List Queue
 procs:List Cd
structure NT where
 kind:Int
 proc:Ad
 BQ:aY
 name:Bs
 n:Int
structure Ev where
 kind:Int
 proc:Ad
 name:Bs
 AN:BO
structure Aw where
 now:Int
 Aa:List Queue
 procs:List Cd
 Dk:List Ev
def Entry.c(e:Entry):List AV:=[.v (.string (str e.name)),.v (.int .i64 e.before.mode),.v (.int .i64 e.before.Ax),.v (.int .i64 e.after.mode),.v (.int .i64 e.after.Ax)]
def Save.c(s:Save):List AV:=[.v (.int .i64 s.label),.v (.int .i64 s.pos)]
@[reducible] def Ew(l:List Entry):AV:=.sl .no 5 (l.map Entry.c)
@[reducible] def OS(l:List Save):AV:=.sl .no 2 (l.map Save.c)
def Ledger.c(l:Ledger):List AV:=[Ew l.entries,OS l.Bn]
def aY.c(r:aY):List AV:=[.v (.int .i64 r.expr.k),.v (.string (str r.expr.atom.name)),.v (.int .i64 r.expr.atom.AN.mode),.v (.int .i64 r.expr.atom.AN.Ax),It r.expr.kids,.v (.int .i64 r.prio),.v (.int .i64 r.DK)]
def Cd.c(p:Cd):List AV:=[.v (.int .i64 p.proc.site),.v (.int .i64 p.proc.inc),.v (.int .i64 p.proc.num),.v (.int .i64 p.cost),Ew p.By.entries,OS p.By.Bn,.v (.bool p.waiting),
 .v (.int .i64 p.BQ.expr.k),.v (.string (str p.BQ.expr.atom.name)),.v (.int .i64 p.BQ.expr.atom.AN.mode),.v (.int .i64 p.BQ.expr.atom.AN.Ax),It p.BQ.expr.kids,.v (.int .i64 p.BQ.prio),.v (.int .i64 p.BQ.DK),.v (.int .i64 p.since),.v (.int .i64 p.gen)]
@[reducible] def qx(l:List Cd):AV:=.sl .no 16 (l.map Cd.c)
def Qt.c(c:Qt):List AV:=[.v (.int .i64 c.now),AW c.Aa,qx c.procs]
def NT.c(k:NT):List AV:=[.v (.int .i64 k.kind),.v (.int .i64 k.proc.site),.v (.int .i64 k.proc.inc),.v (.int .i64 k.proc.num),.v (.int .i64 k.BQ.expr.k),.v (.string (str k.BQ.expr.atom.name)),.v (.int .i64 k.BQ.expr.atom.AN.mode),.v (.int .i64 k.BQ.expr.atom.AN.Ax),It k.BQ.expr.kids,.v (.int .i64 k.BQ.prio),.v (.int .i64 k.BQ.DK),.v (.string (str k.name)),.v (.int .i64 k.n)]
def Ev.c(e:Ev):List AV:=[.v (.int .i64 e.kind),.v (.int .i64 e.proc.site),.v (.int .i64 e.proc.inc),.v (.int .i64 e.proc.num),.v (.string (str e.name)),.v (.int .i64 e.AN.mode),.v (.int .i64 e.AN.Ax)]
@[reducible] def Zf(l:List Ev):AV:=.sl .no 7 (l.map Ev.c)
def Aw.c(w:Aw):List AV:=[.v (.int .i64 w.now),AW w.Aa,.sl (.own 0 0) 16 (w.procs.map Cd.c),.sl (.own 1 0) 7 (w.Dk.map Ev.c)]
attribute [go_sem] Entry.c Save.c Ledger.c aY.c Cd.c Qt.c NT.c Ev.c Aw.c
@[go_sem] theorem q8{α:Type}(a:α):(∃ x,some a=some x)=True:=by simp
@[go_sem] theorem wF{α β:Type}(f:α->β)(l:List α)(i:Nat):(l.map f).take i=(l.take i).map f:=by simp
@[go_sem] theorem vE{α β:Type}(f:α->β)(l:List α)(i:Nat):(l.map f).drop i=(l.drop i).map f:=by simp
end Go.Rd
