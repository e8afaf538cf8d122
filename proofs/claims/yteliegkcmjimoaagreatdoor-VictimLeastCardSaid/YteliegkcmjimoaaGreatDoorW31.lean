/- part 31 of the proof -/
import Derived.Test.YteliegkcmjimoaaGreatDoorW29
import Derived.Test.YteliegkcmjimoaaGreatDoorW30
set_option linter.all false
open Go Go.Abs Go.Proofs
set_option maxRecDepth 100000
namespace Go.Rd
set_option maxHeartbeats 8000000
open List (filter_cons getElem_mem length_take mem_append mem_cons mem_filter mem_map mem_singleton nodup_cons pairwise_iff_getElem take_add_one take_length)
open Bool (and_eq_true or_eq_true)
open Option (toList_some)
open Nat (le_trans min_eq_left)
def Lr:∀ a b:Bs,a≠b->BD a b=true\/BD b a=true
 |[],[],h=>absurd rfl h
 |[],_::_,_=>.inl (by simp[BD,Op.bytesLess])
 |_::_,[],_=>.inr (by simp[BD,Op.bytesLess])
 | a::x,b::y,h=>by
  rw[No,No]
  by_cases e:a=b
  ·subst e;rcases Lr x y (λe=>h (by rw[e])) with h1|h1
   ·left;simp[h1]
   ·right;simp[h1]
  ·have:a<b\/b<a:=by
    rcases Nat.lt_or_gt_of_ne (λh1=>e (UInt8.toNat_inj.1 h1):a.toNat≠b.toNat) with h1|h1
    ·exact .inl (UInt8.lt_iff_toNat_lt.2 h1)
    ·exact .inr (UInt8.lt_iff_toNat_lt.2 h1)
   rcases this with h1|h1
   ·left;simp[h1]
   ·right;simp[h1]
theorem OP{a b:Bs}(h:BD a b=true):¬ BD b a=true:=λh'=>Hk a (GL h h')
def mL(l:List Bs):Prop:=l.Pairwise λa b=>BD a b=true
def sc{l:List Bs}(h:mL l)(n:Bs):mL (UR l n):=by
 unfold UR;split
 ·exact h
 rename_i hn;have key:∀ k,k<=l.length->(∀ y∈l.drop k,BD n y=true)->(∀ y∈l.take (K5 l n k),BD y n=true)/\∀ y∈l.drop (K5 l n k),BD n y=true:=by
  intro k
  induction k with
  | zero=>intro _ hd;exact⟨λy hy=>by simp[K5]at hy,by simpa [K5]using hd⟩
  | succ k ih =>
   intro hk hd;have hg:l.getD k []=l[k]:=by simp[List.getD,gE (show k<l.length by omega)]
   simp only[K5,hg];split
   ·rename_i hc;refine ih (by omega) λy hy=>?_
    rw[List.drop_eq_getElem_cons (by omega)]at hy;rcases mem_cons.1 hy with rfl|hy
    ·exact hc
    ·exact hd y hy
   ·rename_i hc;refine⟨λy hy=>?_,hd⟩;have X8:BD l[k] n=true:=by
     rcases Lr n l[k] (λe=>hn (e▸getElem_mem _)) with h1|h1
     ·exact absurd h1 hc
     ·exact h1
    rw[List.take_succ_eq_append_getElem (by omega)]at hy;rcases mem_append.1 hy with hy|hy
    ·obtain⟨j,hj,rfl⟩:=List.mem_iff_getElem.1 hy;simp only[length_take]at hj;rw[List.getElem_take];exact GL (pairwise_iff_getElem.1 h j k (by omega) (by omega) (by omega)) X8
    ·rw[mem_singleton.1 hy];exact X8
 obtain⟨h1,h2⟩:=key l.length (Nat.le_refl _) (by simp);unfold UT mL;rw[List.pairwise_append];refine⟨h.sublist (List.take_sublist _ _),List.pairwise_cons.2 ⟨h2,h.sublist (List.drop_sublist _ _)⟩,λa ha b hb=>?_⟩;rcases mem_cons.1 hb with rfl|hb
 ·exact h1 a ha
 ·exact GL (h1 a ha) (h2 b hb)
def YS:∀ (ns l:List Bs),mL l->mL (ns.foldl UR l)
 |[],_,h=>h
 | n::ns,_,h=>YS ns _ (sc h n)
def Xd(l:List Entry):mL (Dc l):=YS _ _ List.Pairwise.nil
theorem Nv(l:List Entry):(Dc l).Nodup:=List.Pairwise.imp (R:=λa b=>BD a b=true) (S:=λa b=>a≠b) (λ{a b} h e=>Hk b (by rw[e]at h;exact h)) (Xd l)
def nX(l:List Entry)(e:Entry)(n:Bs):An (l++[e]) n=if e.name==n then e.after else An l n:=by simp[An,List.foldl_append]
def jw(a:BR):Nat:=if a.mode=0 then a.AG.toNat else if a.mode=5 then 4 else if a.mode=4 then 3 else if a.mode=1 then 1 else 2
def x9{a b:Int}(h:BI b a=true)(hn:b≠a):∀ u v:Int,jw ⟨a,u⟩<jw ⟨b,v⟩:=by
 have ha:BK a=true:=by simp only[BI,and_eq_true]at h;exact h.1.2
 have hb:BK b=true:=by simp only[BI,and_eq_true]at h;exact h.1.1
 intro u v;revert h hn;rcases Bc ha with rfl|rfl|rfl|rfl|rfl<;>rcases Bc hb with rfl|rfl|rfl|rfl|rfl<;>simp[jw]<;>decide
def ZV{a:BR}(h:usable a=true):1<=jw a/\jw a<=8:=by
 rcases Ej h with ⟨h1,h2⟩|⟨h1,h2,h3⟩
 ·obtain⟨m,u⟩:=a;simp only at h1;rcases Bc h1 with rfl|rfl|rfl|rfl|rfl<;>simp[jw]
 ·simp only[jw,h1,if_true];omega
def iB{a b:BR}(h:EL a b=true):jw a<jw b/\jw b<=8:=by
 have hu:=(OG h).1;refine⟨?_,(ZV hu).2⟩;have CZ:a≠b:=by
  intro e;subst e;simp[EL]at h
 rcases(OG h).2 with rfl|⟨ua,ub,h1⟩
 ·have:=(ZV hu).1;have e:jw ⟨0,0⟩=0:=rfl;omega
 ·rcases h1 with ⟨h1,h2⟩|⟨h1,h2,h3⟩
  ·obtain⟨m,u⟩:=a;obtain⟨n,v⟩:=b;refine x9 h2 (λe=>CZ ?_) u v;simp only at e h1 h2;rcases Ej ua with ⟨_,k1⟩|⟨k1,_⟩
   ·rcases Ej ub with ⟨_,k2⟩|⟨k2,_⟩
    ·simp only at k1 k2;rw[e,k1,k2]
    ·simp only at k2;omega
   ·exact absurd k1 h1
  ·have:a.AG≠b.AG:=λe=>CZ (by
    obtain⟨m,u⟩:=a;obtain⟨n,v⟩:=b;simp only at h1 h2 e;rw[h1,h2,e])
   rcases Ej ua with ⟨k,_⟩|⟨_,k,_⟩
   ·exact absurd h1 (Nu k)
   ·simp only[jw,h1,h2,if_true];omega
structure Gx(l:Ledger):Prop where
 PN:∀ (i:Nat) (e:Entry),l.entries[i]?=some e->B9 e.name=true/\e.before=An (l.entries.take i) e.name/\EL e.before e.after=true
 uI:(Dc l.entries).length<=8
 n4:l.AA.length<=4
 IW:∀ s∈l.AA,1<=s.label/\s.label<=99/\0<=s.pos/\s.pos<=(l.entries.length:Int)
 zL:l.AA.Pairwise λa b=>a.pos<=b.pos
 q8:l.AA.Pairwise λa b=>a.label≠b.label
def Zh:∀ (ns:List Bs) (l:List Entry),(∀ e∈l,e.name∈ns)->(∀ n,l.countP (λe=>e.name==n)<=8)->l.length<=8*ns.length
 |[],l,h,_=>by
  cases l with
  | nil=>simp
  | cons e l=>exact absurd (h e (by simp)) (by simp)
 | n::ns,l,h,hc=>by
  have h1:=hc n;rw[List.countP_eq_length_filter]at h1;have h2:∀ l:List Entry,l.length=(l.filter λe=>e.name==n).length+(l.filter λe=>!(e.name==n)).length:=λl=>by
   induction l with
   | nil=>rfl
   | cons e l ih =>
    simp only[filter_cons];cases e.name==n<;>simp<;>omega
  have h2:=h2 l;have h3:=Zh ns (l.filter λe=>!(e.name==n)) (λe he=>by
   rw[mem_filter]at he;rcases mem_cons.1 (h e he.1) with h4|h4
   ·rw[h4]at he;simp at he
   ·exact h4) λm=>le_trans (List.Sublist.countP_le List.filter_sublist) (hc m)
  simp only[List.length_cons];omega
def YD{l:List Entry}(h:∀ i e,l[i]?=some e->B9 e.name=true/\e.before=An (l.take i) e.name/\EL e.before e.after=true)(n:Bs):∀ i,i<=l.length->(l.take i).countP (λe=>e.name==n)<=jw (An (l.take i) n)/\jw (An (l.take i) n)<=8
 | 0,_=>⟨by simp,by simp[An,jw]⟩
 | i+1,hi=>by
  obtain⟨e,he⟩:∃ e,l[i]?=some e:=⟨_,gE (by omega)⟩;obtain⟨h1,h2⟩:=YD h n i (by omega);obtain⟨_,g2,g3⟩:=h i e he;rw[IU he,take_add_one,he,List.countP_append];simp only[toList_some,List.countP_cons,List.countP_nil];cases hn:e.name==n
  ·simp only[Bool.false_eq_true,if_false];exact⟨by omega,h2⟩
  ·simp only[if_true];have hn:e.name=n:=by simpa using hn
   rw[hn]at g2;rw[g2]at g3;have:=iB g3;exact⟨by omega,this.2⟩
def Gx.len{l:Ledger}(h:Gx l):l.entries.length<=72:=by
 have:=Zh (Dc l.entries) l.entries (λe he=>(E5 _ _).2 ⟨e,he,rfl⟩) λn=>by
  obtain⟨h1,h2⟩:=YD h.PN n l.entries.length (Nat.le_refl _);rw[take_length]at h1 h2;omega
 have:=h.uI;omega
def jS{l:List Save}(h:∀ i s,l[i]?=some s->i=0\/(l.getD (i-1) s0).pos<=s.pos):∀ d i a b,l[i]?=some a->l[i+d+1]?=some b->a.pos<=b.pos
 | 0,i,a,b,ha,hb=>by
  have:=h (i+1) b hb;rw[show l.getD (i+1-1) s0=a by simp[List.getD,ha]]at this;omega
 | d+1,i,a,b,ha,hb=>by
  have AP:=Au hb;obtain⟨c,hc⟩:∃ c,l[i+d+1]?=some c:=⟨_,gE (by omega)⟩;have h1:=jS h d i a c ha hc;have h2:=h (i+(d+1)+1) b hb;rw[show l.getD (i+(d+1)+1-1) s0=c by simp[List.getD,show i+(d+1)+1-1=i+d+1 by omega,hc]]at h2;omega
theorem EB(l:Ledger):Bx l=true↔Gx l:=by
 constructor
 ·intro h;simp only[Bx,and_eq_true,decide_eq_true_eq,CY,FV,FQ,or_eq_true]at h;obtain⟨⟨⟨⟨h1,h2⟩,h3⟩,h4⟩,h5⟩:=h;refine⟨λi e he=>⟨(h3 i e he).1.1,(h3 i e he).1.2,(h3 i e he).2⟩,h4,h2,λs hs=>?_,?_,?_⟩
  ·obtain⟨i,hi⟩:=List.getElem?_of_mem hs;have:=h5 i s hi;exact⟨this.1.1.1.1.1,this.1.1.1.1.2,this.1.1.1.2,this.1.1.2⟩
  ·rw[pairwise_iff_getElem];intro i j hi hj UN;obtain⟨d,rfl⟩:∃ d,j=i+d+1:=⟨j-i-1,by omega⟩;exact jS (λi s hs=>(h5 i s hs).1.2) d i _ _ (gE hi) (gE hj)
  ·rw[pairwise_iff_getElem];intro i j hi hj UN e;have a:=(h5 i _ (gE hi)).2;have b:=(h5 j _ (gE hj)).2;rw[e,b]at a;omega
 ·intro h;simp only[Bx,and_eq_true,decide_eq_true_eq,CY,FV,FQ,or_eq_true];refine⟨⟨⟨⟨h.len,h.n4⟩,λi e he=>?_⟩,h.uI⟩,λi s hs=>?_⟩
  ·obtain⟨a,b,c⟩:=h.PN i e he;exact⟨⟨a,b⟩,c⟩
  ·obtain⟨a,b,c,d⟩:=h.IW s (mG hs);have AP:=Au hs;refine⟨⟨⟨⟨⟨a,b⟩,c⟩,d⟩,?_⟩,?_⟩
   ·cases i with
    | zero=>exact .inl rfl
    | succ i =>
     right;have hg:l.AA[i]?=some (l.AA[i]):=gE (by omega);have:=pairwise_iff_getElem.1 h.zL i (i+1) (by omega) AP (by omega);rw[get_eq hs]at this;rw[Nat.add_sub_cancel,show l.AA.getD i s0=l.AA[i] by simp[List.getD,hg]];exact this
   ·unfold L5;have:l.AA.findIdx? (λx=>x.label==s.label)=some i:=by
     rw[List.findIdx?_eq_some_iff_getElem];refine⟨AP,by simp[get_eq hs],λj hj=>?_⟩;have:=pairwise_iff_getElem.1 h.q8 j i (by omega) AP hj;rw[get_eq hs]at this;simpa using this
    rw[this]
def Gx.snoc{l:Ledger}(h:Gx l){e:Entry}(hn:B9 e.name=true)(hb:e.before=An l.entries e.name)(hg:EL e.before e.after=true)(h8:(Dc (l.entries++[e])).length<=8):Gx ⟨l.entries++[e],l.AA⟩ where
 PN:=λi b yQ=>by
  simp only at yQ ⊢;rw[List.getElem?_append]at yQ;split at yQ
  ·rename_i AP;obtain⟨h1,h2,h3⟩:=h.PN i b yQ;rw[List.take_append_of_le_length (by omega)];exact⟨h1,h2,h3⟩
  ·rename_i JX;have hi:i-l.entries.length=0:=by
    have:=Au yQ;simp at this;omega
   rw[hi]at yQ;simp at yQ;subst yQ;have:i=l.entries.length:=by omega
   subst this;rw[List.take_left']
   ·exact⟨hn,hb,hg⟩
   ·rfl
 uI:=h8
 n4:=h.n4
 IW:=λs hs=>by
  obtain⟨a,b,c,d⟩:=h.IW s hs;refine⟨a,b,c,?_⟩;simp only[List.length_append,List.length_singleton];omega
 zL:=h.zL
 q8:=h.q8
def Xe{l m:List Entry}(h:∀ e∈l,∃ b∈m,b.name=e.name):(Dc l).length<=(Dc m).length :=
 BP _ _ (Nv l) λx hx=>by
  rw[E5]at hx ⊢;obtain⟨e,he,rfl⟩:=hx;exact h e he
theorem Gx.cut{l:Ledger}(h:Gx l){label:Int}{a n:Nat}(hb:Oj l label=some (a,n)):Gx (PZ l a n):=by
 have key:∀ s∈l.AA.take n,s.pos<=(min a l.entries.length:Nat):=by
  unfold Oj at hb;split at hb
  ·cases hb;intro s hs;simp at hs
  ·cases hf:l.AA.findIdx? (λs=>s.label==label) with
   |none=>rw[hf]at hb;cases hb
   |some i =>
    rw[hf]at hb;simp only[Option.some.injEq,Prod.mk.injEq]at hb;obtain⟨hi,_,_⟩:=List.findIdx?_eq_some_iff_getElem.1 hf;have hg:l.AA.getD i s0=l.AA[i]:=by simp[List.getD,gE hi]
    rw[hg]at hb;intro s hs;obtain⟨j,hj,rfl⟩:=List.mem_iff_getElem.1 hs;simp only[length_take]at hj;rw[List.getElem_take];have h1:=(h.IW l.AA[i] (getElem_mem hi)).2.2;have h2:l.AA[j].pos<=l.AA[i].pos:=by
     rcases Nat.lt_or_ge j i with gh|gh
     ·exact pairwise_iff_getElem.1 h.zL j i (by omega) hi gh
     ·have:j=i:=by omega
      subst this;exact Int.le_refl _
    omega
 refine⟨λi e he=>?_,le_trans (Xe λe he=>⟨e,List.mem_of_mem_take he,rfl⟩) h.uI,by(show (l.AA.take n).length<=4);rw[length_take];have:=h.n4;omega,λs hs=>?_,h.zL.sublist (List.take_sublist _ _),h.q8.sublist (List.take_sublist _ _)⟩
 ·simp only[PZ]at he ⊢;rw[List.getElem?_take]at he;split at he
  ·rename_i AP;rw[List.take_take,min_eq_left (by omega)];exact h.PN i e he
  ·cases he
 ·have h1:=key s hs;obtain⟨p,q,r,_⟩:=h.IW s (List.mem_of_mem_take hs);refine⟨p,q,r,?_⟩;simp only[PZ,length_take];exact h1
def Gx.save{l:Ledger}{IW:Int}(h:Gx l)(h0:(E9 l IW).2=0):Gx (E9 l IW).1/\(E9 l IW).1.entries=l.entries:=by
 have hv:=(EB l).2 h;revert h0;unfold E9;rw[if_neg (by simp[hv])];split
 ·intro h0;simp at h0
 rename_i h1;split
 ·intro h0;simp at h0
 rename_i h2;split
 ·intro h0;simp at h0
 rename_i h3;intro _;simp only[or_eq_true,decide_eq_true_eq,not_or]at h1;refine⟨⟨h.PN,h.uI,?_,λs hs=>?_,?_,?_⟩,rfl⟩
 ·have:=h.n4;simp only[List.length_append,List.length_singleton];omega
 ·rcases mem_append.1 hs with hs|hs
  ·exact h.IW s hs
  ·rw[mem_singleton.1 hs];exact⟨by show 1<=IW;omega,by show IW<=99;omega,by simp,by simp⟩
 ·rw[List.pairwise_append];refine⟨h.zL,List.pairwise_singleton _ _,λa ha b hb=>?_⟩;rw[mem_singleton.1 hb];exact(h.IW a ha).2.2.2
 ·rw[List.pairwise_append];refine⟨h.q8,List.pairwise_singleton _ _,λa ha b hb e=>h2 ?_⟩;rw[mem_singleton.1 hb]at e;unfold L5;cases hf:l.AA.findIdx? (λs=>s.label==IW) with
  |none =>
   rw[List.findIdx?_eq_none_iff]at hf;have:=hf a ha;simp only at e;simp[e]at this
  |some i=>simp
def QH{name n:Bs}(h:n≠name)(l:List Entry):An (l.filter (CV name)) n=An l n:=by
 unfold An;generalize (⟨0,0⟩:BR)=a
 induction l generalizing a with
 | nil=>rfl
 | cons e l ih =>
  rw[filter_cons];cases hk:CV name e
  ·have he:e.name=name:=by simpa [CV]using hk
   simp only[Bool.false_eq_true,if_false,List.foldl_cons];rw[ih,if_neg (by rw[he];simpa using Ne.symm h)]
  ·simp only[if_true,List.foldl_cons];rw[ih]
def iD(name:Bs)(l:List Entry):An (l.filter (CV name)) name=⟨0,0⟩:=Mc fun⟨e,he,hn⟩=>by
 rw[mem_filter]at he;simp[CV,hn]at he
def df{l:List Entry}(h:∀ i e,l[i]?=some e->B9 e.name=true/\e.before=An (l.take i) e.name/\EL e.before e.after=true)(name:Bs):∀ k,k<=l.length ->
 ∀ i e,((l.take k).filter (CV name))[i]?=some e->B9 e.name=true/\e.before=An (((l.take k).filter (CV name)).take i) e.name/\EL e.before e.after=true
 | 0,_,i,e,he=>by simp at he
 | k+1,hk,i,e,he=>by
  obtain⟨b,hb⟩:∃ b,l[k]?=some b:=⟨_,gE (by omega)⟩;have ih:=df h name k (by omega);have e1:(l.take (k+1)).filter (CV name)=(l.take k).filter (CV name)++[b].filter (CV name):=by rw[take_add_one,hb,List.filter_append];rfl
  rw[e1]at he ⊢;rw[List.getElem?_append]at he;split at he
  ·rename_i AP;rw[List.take_append_of_le_length (by omega)];exact ih i e he
  ·rename_i JX;cases hkb:CV name b
   ·rw[filter_cons,hkb]at he;simp at he
   ·rw[filter_cons,hkb]at he;simp only[if_true,List.filter_nil]at he;have h0:i-((l.take k).filter (CV name)).length=0:=by have:=Au he;simp at this;omega
    rw[h0]at he;simp at he;subst he;have hi:i=((l.take k).filter (CV name)).length:=by omega
    rw[List.take_left' hi.symm];obtain⟨g1,g2,g3⟩:=h k b hb;refine⟨g1,?_,g3⟩;rw[QH (by simpa [CV]using hkb)];exact g2
def V7(l:List Entry)(name:Bs)(pos:Nat):∀ i,i<=l.length->Ot l name pos i=(((l.take (min i pos)).countP λe=>e.name==name:Nat):Int)
 | 0,_=>by simp[Ot]
 | i+1,hi=>by
  obtain⟨b,hb⟩:∃ b,l[i]?=some b:=⟨_,gE (by omega)⟩;have hg:l.getD i ⟨[],⟨0,0⟩,⟨0,0⟩⟩=b:=by simp[List.getD,hb]
  simp only[Ot,V7 l name pos i (by omega),hg]
  by_cases hp:i<pos
  ·rw[min_eq_left (by omega),min_eq_left (by omega),take_add_one,hb,List.countP_append];simp only[toList_some,List.countP_cons,List.countP_nil];cases hn:b.name==name<;>simp<;>omega
  ·rw[Nat.min_eq_right (by omega),Nat.min_eq_right (by omega),if_neg (by omega)];omega
def pb(l:List Entry)(name:Bs){pos:Nat}(h:pos<=l.length):(pos:Int)-Ot l name pos l.length=(((l.take pos).filter (CV name)).length:Nat):=by
 rw[V7 l name pos l.length (Nat.le_refl _),Nat.min_eq_right h];have h1:=List.length_eq_countP_add_countP (λe:Entry=>e.name==name) (l:=l.take pos);rw[length_take,min_eq_left h]at h1;have h2:(l.take pos).countP (λe=>decide ¬(e.name==name)=true)=((l.take pos).filter (CV name)).length:=by
  rw[List.countP_eq_length_filter];congr 1;refine List.filter_congr λx _=>?_
  rw[Bool.eq_iff_iff];simp[CV]
 omega
theorem Gx.drop{l:Ledger}{name:Bs}(h:Gx l)(hn:∃ e∈l.entries,e.name=name):(G6 l name).1.entries=l.entries.filter (CV name)/\Gx (G6 l name).1:=by
 have AP:(l.entries.filter (CV name)).length≠l.entries.length:=λe=>by
  obtain⟨b,hb,nR⟩:=hn;have:=List.length_filter_eq_length_iff.1 e b hb;simp[CV,nR]at this
 have e1:(G6 l name).1=⟨l.entries.filter (CV name),l.AA.map (EA l.entries name l.entries.length)⟩:=by
  unfold G6;rw[if_neg (by simp[(EB l).2 h]),if_neg AP]
 rw[e1];have S7:∀ s∈l.AA,∃ k:Nat,s.pos=k/\k<=l.entries.length/\(EA l.entries name l.entries.length s).pos=(((l.entries.take k).filter (CV name)).length:Nat):=λs hs=>by
  obtain⟨_,_,h3,h4⟩:=h.IW s hs;obtain⟨k,hk⟩:=Int.eq_ofNat_of_zero_le h3;refine⟨k,hk,by omega,?_⟩;simp only[EA,hk];exact pb _ _ (by omega)
 have yZ:∀ j k:Nat,j<=k->((l.entries.take j).filter (CV name)).length<=((l.entries.take k).filter (CV name)).length:=λj k gl=>by
  refine(List.Sublist.filter _ ?_).length_le;rw[<- min_eq_left gl,<- List.take_take];exact List.take_sublist _ _
 refine⟨rfl,⟨?_,le_trans (Xe λe he=>⟨e,(mem_filter.1 he).1,rfl⟩) h.uI,by simpa using h.n4,λs hs=>?_,?_,?_⟩⟩
 ·have:=df h.PN name l.entries.length (Nat.le_refl _);rw[take_length]at this;exact this
 ·simp only[mem_map]at hs;obtain⟨s',br,rfl⟩:=hs;obtain⟨k,_,hk,h3⟩:=S7 s' br;obtain⟨a,b,_,_⟩:=h.IW s' br;refine⟨a,b,by rw[h3];omega,?_⟩;rw[h3];have:=yZ k l.entries.length hk;rw[take_length]at this;simp only;omega
 ·simp only;rw[List.pairwise_map];refine h.zL.imp_of_mem λ{a b} ha hb LP=>?_
  obtain⟨j,hj,_,h3⟩:=S7 a ha;obtain⟨k,hk,_,h4⟩:=S7 b hb;rw[h3,h4];have:=yZ j k (by omega);omega
 ·simp only;rw[List.pairwise_map];exact h.q8
def Tr{q q':Queue}{x:Bu}(hr:q'.res=q.res)(hs:HH x.proc q q'):∀ {az:List Atom},DE q x az=true->DE q' x az=true
 |[],h=>by
  simp only[DE,and_eq_true,decide_eq_true_eq,Bool.not_eq_true']at h ⊢;rw[hr];rcases hs with ⟨h1,h2,_⟩|⟨b,h1,_⟩<;>grind
 | a::az,h=>by
  unfold DE at h ⊢;rw[hr];split at h
  ·rename_i hn;rw[if_pos hn];exact Tr hr hs h
  rename_i hn;rw[if_neg hn];split at h
  ·rename_i hc;rw[if_pos hc];exact Tr hr hs h
  rename_i hc;rw[if_neg hc];rcases hs with ⟨h1,h2,h3⟩|⟨b,h1,h2,h3⟩<;>grind
def KF.same{q q':Queue}{p:Ac}{l:BR}(h:KF q p l)(hs:HH p q q'):KF q' p l:=by
 rcases hs with ⟨h1,h2,_⟩|⟨b,h1,_⟩
 ·exact⟨h1.trans h.1,h2.trans h.2⟩
 ·rw[h.1]at h1;grind
structure Ds(p:Ac)(t t':List Queue):Prop where
 len:t'.length=t.length
 each:∀ (k:Nat) (q:Queue),t[k]?=some q->∃ q',t'[k]?=some q'/\G4 p q q'
def Ds.refl{p:Ac}{t:List Queue}(h:DI t):Ds p t t:=⟨rfl,λ_ q hq=>⟨q,hq,.refl (h.val q (mG hq))⟩⟩
def Ds.trans{p:Ac}{a b c:List Queue}(h:Ds p a b)(h':Ds p b c):Ds p a c:=⟨h'.len.trans h.len,λk q hq=>by
 obtain⟨q1,h1,h2⟩:=h.each k q hq;obtain⟨q2,h3,h4⟩:=h'.each k q1 h1;exact⟨q2,h3,h2.trans h4⟩⟩
def I5{p:Ac}{t:List Queue}{k:Nat}{q q1:Queue}(h:DI t)(hq:t[k]?=some q)(hs:G4 p q q1):Ds p t (t.set k q1):=⟨by simp,λj r hr=>by
 by_cases e:k=j
 ·grind
 ·exact⟨r,by grind,.refl (h.val r (mG hr))⟩⟩
def Ds.mem{p:Ac}{t t':List Queue}(h:Ds p t t'){q':Queue}(hq:q'∈t'):∃ q∈t,G4 p q q':=by
 obtain⟨k,hk⟩:=List.getElem?_of_mem hq;have AP:=Au hk;rw[h.len]at AP;obtain⟨q2,h1,h2⟩:=h.each k t[k] (gE AP);rw[hk]at h1;have:=Option.some.inj h1;subst this;exact⟨t[k],getElem_mem AP,h2⟩
def Ds.res{p:Ac}{t t':List Queue}(h:Ds p t t'):t'.map (·.res)=t.map (·.res):=by
 refine List.ext_getElem? λk=>?_
 rw[gm,gm];cases hk:t[k]? with
 |none =>
  have:t'.length<=k:=by rw[h.len];grind
  rw[List.getElem?_eq_none_iff.2 this]
 |some q =>
  obtain⟨q',h1,h2⟩:=h.each k q hk;rw[h1];simp[h2.res]
structure Fine(now:Int)(t:List Queue)(x:Bu):Prop where
 head:E2 x=true
 fits:Kt t x
 wait:x.waiting=true->Hm x.Bk=true/\C6 (FB t) x.Bk.expr=0/\0<=x.since/\x.since<=now/\∀ q∈t,DE q x (Ah x.Bk.expr)=true
 idle:x.waiting=false->Yh x.Bk=true/\x.since=0/\Idle t x
def Fine.AB{now:Int}{t:List Queue}{x:Bu}(h:Fine now t x):Gx x.AB:=by
 have:=h.head;simp only[E2,and_eq_true]at this;exact(EB _).1 this.1.1.2
def Fine.step{now:Int}{t t':List Queue}{x:Bu}{p:Ac}(h:Fine now t x)(hs:Ds p t t')(hp:x.proc≠p):Fine now t' x where
 head:=h.head
 fits:=h.fits.res hs.res
 wait:=λhw=>by
  obtain⟨a,b,c,d,e⟩:=h.wait hw;refine⟨a,by unfold FB;rw[hs.res];exact b,c,d,λq' FI=>?_⟩;obtain⟨q,hq,hx⟩:=hs.mem FI;exact Tr hx.res (hx.same _ hp) (e q hq)
 idle:=λhw=>by
  obtain⟨a,b,c⟩:=h.idle hw;refine⟨a,b,λq' FI=>?_⟩;obtain⟨q,hq,hx⟩:=hs.mem FI;rw[hx.res];exact(c q hq).same (hx.same _ hp)
def Fine.K{now:Int}{t:List Queue}{x:Bu}(ht:DI t)(h:Fine now t x):KX t x:=λq hq=>by
 cases hw:x.waiting
 ·exact((h.idle hw).2.2 q hq).k
 ·obtain⟨a,b,c,d,e⟩:=h.wait hw;refine bN (SQ ht h.fits hq) _ (λa ha hn=>?_) (e q hq);grind[DF,List.getElem?_of_mem,F1]
structure VE(e:Option Nat)(w:Ap):Prop where
 je:JE e w
 ord:(w.procs.map (·.proc)).Pairwise λa b=>BF a b<0
 known:∀ q∈w.Aa,∀ p,JY q p->p∈w.procs.map (·.proc)
 now:0<=w.now/\w.now<=1073741824
 Lc:∀ (j:Nat) (x:Bu),w.procs[j]?=some x->some j≠e->Fine w.now w.Aa x
def VE.gb{w:Ap}(h:VE none w)(i:Nat):VE (some i) w:=⟨h.je.gb i,h.ord,h.known,h.now,λj x hj _=>h.Lc j x hj (by simp)⟩
def VE.step{i:Nat}{w w':Ap}{z:Bu}(h:VE (some i) w)(hz:w.procs[i]?=some z)(hp:w'.procs=w.procs)(hn:w'.now=w.now)(hs:Gi z.proc w.Aa w'.Aa)(hx:Ds z.proc w.Aa w'.Aa):VE (some i) w' where
 je:=h.je.step hz hp hs
 ord:=by rw[hp];exact h.ord
 known:=λq' FI p hi=>by
  rw[hp];obtain⟨q,hq,hs⟩:=hx.mem FI;rcases hs.sa p hi with hi|rfl
  ·exact h.known q hq p hi
  grind
 now:=by rw[hn];exact h.now
 Lc:=λj x hj CZ=>by
  rw[hp]at hj;rw[hn];refine(h.Lc j x hj CZ).step hx λe=>CZ ?_
  rw[h.je.uq j i x z hj hz e]
def Kd{l:List Bu}{i:Nat}{x y:Bu}(hx:l[i]?=some x)(h:y.proc=x.proc):(l.set i y).map (·.proc)=l.map (·.proc):=by grind[List.map_set,PX]
def VE.set{i:Nat}{w:Ap}{z y:Bu}(h:VE (some i) w)(hz:w.procs[i]?=some z)(hy:y.proc=z.proc)(hf:Fine w.now w.Aa y):VE none (AW w i y) where
 je:=h.je.set hz hy λhw=>⟨by
  have:=(hf.wait hw).1;simp only[Hm,and_eq_true]at this;exact this.1.1.1.1,λa ha=>by
  obtain⟨k,_,hk,_⟩:=DF h.je.tab (hf.wait hw).2.1 ha;grind,hf.K h.je.tab⟩
 ord:=by simp only[AW];rw[Kd hz hy];exact h.ord
 known:=by simp only[AW];rw[Kd hz hy];exact h.known
 now:=h.now
 Lc:=λj x hj _=>by
  simp[AW]at hj;rw[List.getElem?_set]at hj;split at hj
  ·split at hj
   ·have:=Option.some.inj hj;subst this;exact hf
   grind
  ·rename_i CZ;exact h.Lc j x hj λe=>CZ (Option.some.inj e).symm
def VE.set'{i:Nat}{w:Ap}{z y:Bu}(h:VE (some i) w)(hz:w.procs[i]?=some z)(hy:y.proc=z.proc):VE (some i) (AW w i y) where
 je:=h.je.set' hz hy
 ord:=by simp only[AW];rw[Kd hz hy];exact h.ord
 known:=by simp only[AW];rw[Kd hz hy];exact h.known
 now:=h.now
 Lc:=λj x hj CZ=>by
  simp[AW]at hj;rw[List.getElem?_set]at hj;split at hj
  ·grind
  ·exact h.Lc j x hj CZ
def VE.note{e:Option Nat}{w:Ap}(h:VE e w)(k:Int)(p:Ac):VE e (CL w k p):=⟨h.je.note k p,h.ord,h.known,h.now,h.Lc⟩
theorem gK{t:List Queue}{p:Ac}{name:Bs}{k:Nat}{q:Queue}(h:DI t)(hf:CG t name=some k)(hq:t[k]?=some q)(hw:(Ar q p).isSome=true):(Du t p name).1=t.set k (Bd q p).1:=by
 have hg:t.getD k q0=q:=by grind
 have h0:=(H6 (h.val q (mG hq)) hw).1;simp only[Du,(EO t).2 h,hf,hg,h0];rfl
theorem Tk{t:List Queue}{p:Ac}{a:Atom}{k:Nat}{q:Queue}(h:DI t)(hf:CG t a.name=some k)(hq:t[k]?=some q)(hw:Ar q p=none)(hz:(Am q.holds p).zero=false)(hc:q.res.covers (Am q.holds p) a.AH=true):(BH t p a).1=t.set k (AD q p a.AH).1:=by
 have hg:t.getD k q0=q:=by grind
 have h0:=(HQ (h.val q (mG hq)) hz hw hc).1;simp only[BH,(EO t).2 h,hf,hg,h0];rfl
theorem SK(w:Ap)(x:Bu)(name:Bs):(Ed w x name).now=w.now:=by
 unfold Ed;split
 ·rfl
 ·unfold LZ EH;split<;>split<;>rfl
def Aeb{w:Ap}{x:Bu}{name:Bs}{k:Nat}{q:Queue}(h:DI w.Aa)(hf:CG w.Aa name=some k)(hq:w.Aa[k]?=some q)(T9:Kq q x.proc (An x.AB.entries name)) :
 ∃ q1,(Ed w x name).Aa=w.Aa.set k q1/\G4 x.proc q q1/\KF q1 x.proc (An x.AB.entries name):=by
 have AP:=Au hq;have hg:w.Aa.getD k q0=q:=by grind
 have hv:=h.val q (mG hq);cases hw:(Ar q x.proc).isSome
 ·have eA:EH w x name k=w:=by grind[EH]
  have Ui:=F4 hw;have eK:Ed w x name=LZ w x name k:=by grind[Ed]
  rw[eK];unfold LZ;rw[hg]
  by_cases hl:Am q.holds x.proc=An x.AB.entries name
  ·simp[hl];exact⟨q,(PX hq).symm,.refl hv,Ui,hl⟩
  ·simp[hl];obtain⟨hz,hc⟩:=T9.2.resolve_left hl;have yY:=HQ (a:=An x.AB.entries name) hv hz Ui hc;exact⟨_,Tk (a:=⟨name,An x.AB.entries name⟩) h hf hq Ui hz hc,bJ hv hz Ui hc,yY.2.2.1,yY.2.2.2⟩
 ·have bc:=H6 hv hw;have hl:=T9.1 hw;have e1:=gK h hf hq hw;have eA:EH w x name k=Da w (w.Aa.set k (Bd q x.proc).1) (Du w.Aa x.proc name).2.1:=by simp_all[EH]
  have eK:Ed w x name=EH w x name k:=by grind[Ed,LZ,Da]
  rw[eK,eA];exact⟨_,rfl,jU hv hw,bc.2.2.1,bc.2.2.2.trans hl⟩
def jY{i:Nat}{w:Ap}{x z:Bu}{name:Bs}{k:Nat}{q:Queue}(h:VE (some i) w)(hz:w.procs[i]?=some z)(hp:z.proc=x.proc)(hK:KX w.Aa x)(hf:CG w.Aa name=some k)(hq:w.Aa[k]?=some q)(hn:q.res.name=name) :
 ∃ q1,(Ed w x name).Aa=w.Aa.set k q1/\G4 x.proc q q1/\KF q1 x.proc (An x.AB.entries name)/\VE (some i) (Ed w x name):=by
 obtain⟨q1,h1,h2,h3⟩:=Aeb h.je.tab hf hq (hn▸hK q (mG hq));refine⟨q1,h1,h2,h3,h.step hz (GB _ _ _) (SK _ _ _) (hp▸(KD h.je.tab hK ⟨k,hf⟩).2.1) ?_⟩;rw[hp,h1];exact I5 h.je.tab hq h2
def mh(e:Expr):∀ (k:Nat) (o:List Bool) (i:Nat),(pM e k o).getD i false=true->o.getD i false=true
 | 0,_,_,h=>h
 | k+1,o,i,h=>by
  have h1:=mh e k _ i h;split at h1
  ·rename_i hk
   by_cases e1:i=k
   ·rw[e1];exact hk
   ·simp[List.getD]at h1 ⊢;rw[List.getElem?_set_ne (Ne.symm e1)]at h1;exact h1
  ·exact h1
def oS{e:Expr}{set:List Bool}{i:Nat}(h:(Df e set)[i]?=some true):set.getD i false=true:=by
 have hd:(Df e set).getD i false=true:=by grind
 unfold Df at hd;split at hd
 ·have:=mh e _ _ i hd;simp at this;cases hr:(List.range (Ah e).length)[i]? with
  |none=>rw[hr]at this;simp at this
  |some j =>
   rw[hr]at this;have hj:j=i:=by grind
   subst hj;simpa using this
 ·simp[List.getElem?_replicate]at hd;split at hd<;>simp at hd
def me{q:Queue}{x:Bu}{a:Atom}(hn:a.name=q.res.name):∀ {az:List Atom},Ly az->a∈az->DE q x az=true ->
 (q.res.covers (An x.AB.entries q.res.name) a.AH=true->KF q x.proc (An x.AB.entries q.res.name)) /\
 (q.res.covers (An x.AB.entries q.res.name) a.AH=false->(Ar q x.proc=none/\Am q.holds x.proc=D4 q.res (An x.AB.entries q.res.name) a.AH)\/Am q.holds x.proc=An x.AB.entries q.res.name)
 | b::az,hu,ha,h=>by
  have iM:=nodup_cons.1 hu;unfold DE at h
  by_cases e:b.name=q.res.name
  ·have dL:b=a:=by
    grind
   subst dL;rw[if_neg (by grind)]at h;refine⟨λhc=>?_,λhc=>?_⟩
   ·rw[if_pos hc]at h;grind[Tq]
   ·rw[if_neg (by grind)]at h;split at h<;>simp_all
  ·rw[if_pos (by grind)]at h;rcases mem_cons.1 ha with rfl|ha
   ·exact absurd hn e
   ·exact me hn iM.2 ha h
def iS{r:BE}{l a:BR}(hl:l=⟨0,0⟩\/r.fits l=true)(ha:r.fits a=true)(hc:r.covers l a=false):EL l (D4 r l a)=true/\r.fits (D4 r l a)=true:=by
 rcases hl with rfl|hl
 ·grind[Tc,usable,Jr,MO,EL]
 ·obtain⟨j1,j2,j3,_⟩:=QL hl ha hc;refine⟨?_,j1⟩;have hu1:usable l=true:=Jr hl;have uH:usable (D4 r l a)=true:=Jr j1;have hz:=MO hu1;rw[ER j1 hl]at j2;generalize D4 r l a=j at j1 j2 j3 uH;unfold EL;rw[if_neg (by grind),if_neg ?_,if_neg (by grind)]
  ·rcases(Db hl).2 with ⟨k,m,u⟩|⟨k,m,u,_⟩
   ·rw[if_pos (by grind[Nu])];rw[if_pos k]at j2;exact j2
   ·rw[if_neg (by simp[m])];rw[if_neg k]at j2;rcases(Db j1).2 with ⟨k2,_⟩|⟨_,m2,_⟩
    ·exact absurd k2 k
    ·have:l.AG≠j.AG:=λe=>j3 (by
      obtain⟨x,y⟩:=l;obtain⟨x2,y2⟩:=j;grind)
     simp at j2 ⊢;omega
  ·intro h;apply hz;obtain⟨x,y⟩:=l;grind
def jK{q:Queue}(h:valid q=true):B9 q.res.name=true:=by
 have:=((BN q).1 h).1.res;simp[Is]at this;exact this.1.1
def eJ{t:List Queue}(h:DI t){l:List Entry}(hl:∀ e∈l,∃ q∈t,q.res.name=e.name):(Dc l).length<=8:=by
 have:=BP _ (t.map λq=>q.res.name) (Nv l) λx hx=>by
  obtain⟨e,he,rfl⟩:=(E5 _ _).1 hx;grind
 rw[List.length_map]at this;have:=h.n;omega
structure Z9(t0:List Queue)(i:Nat)(x z:Bu)(w:Ap)(kl:List (Bool × Atom)):Prop where
 ve:VE (some i) w
 at_:w.procs[i]?=some z
 eq:∃ l,z = { x with AB:=l }
 AB:Gx z.AB
 fits:Kt w.Aa z
 yq:Kt w.Aa x
 zD:C6 (FB w.Aa) x.Bk.expr=0
 kx:KX w.Aa x
 sub:∀ p∈kl,p.2∈Ah x.Bk.expr
 uq:(kl.map λp=>p.2.name).Nodup
 todo:∀ q∈w.Aa,(∃ p∈kl,p.2.name=q.res.name)->An z.AB.entries q.res.name=An x.AB.entries q.res.name/\DE q x (Ah x.Bk.expr)=true
 done:∀ q∈w.Aa,(¬ ∃ p∈kl,p.2.name=q.res.name)->KF q x.proc (An z.AB.entries q.res.name)
 lG:∀ p∈kl,p.1=true->∀ q∈w.Aa,q.res.name=p.2.name->q.res.covers (Am q.holds x.proc) p.2.AH=true
 tr:Ds x.proc t0 w.Aa
def Z9.step{t0:List Queue}{i:Nat}{x z:Bu}{w:Ap}{kp:Bool}{a:Atom}{kl:List (Bool × Atom)}(h:Z9 t0 i x z w ((kp,a)::kl)):∃ z',Z9 t0 i x z' (GK w i x kp a.name) kl:=by
 have ht:=h.ve.je.tab;have ha:=h.sub (kp,a) (by simp);obtain⟨k,q,f1,f2,f3,f4⟩:=DF ht h.zD ha;simp only at f1 f3 f4;have UQ:=mG f2;have hu:=nodup_cons.1 (show (a.name::kl.map λp=>p.2.name).Nodup from h.uq);have hnk:∀ n,n=a.name->¬ ∃ p∈kl,p.2.name=n:=λn e ⟨p,hp,hn⟩=>hu.1 (mem_map.2 ⟨p,hp,hn.trans e⟩)
 obtain⟨t1,t2⟩:=h.todo q UQ ⟨(kp,a),by simp,f3.symm⟩;obtain⟨l,hl⟩:=h.eq;have zi:z.proc=x.proc:=by rw[hl]
 have hg:w.Aa.getD k q0=q:=by grind
 have xl:w.procs.getD i x0=z:=by simp[List.getD,h.at_]
 have QK:∀ q'∈w.Aa,q'.res.name≠a.name->∀ p:Bool × Atom,(∃ p∈(kp,a)::kl,p.2.name=q'.res.name)↔∃ p∈kl,p.2.name=q'.res.name:=λq' _ CZ _=>by grind
 cases kp
 ·obtain⟨q1,e1,e2,e3,e4⟩:=jY h.ve h.at_ zi h.kx f1 f2 f3;have hk:GK w i x false a.name=Ed w x a.name:=rfl;have GR:=I5 ht f2 e2;have N2:(w.Aa.set k q1).map (·.res)=w.Aa.map (·.res):=GR.res;have Ha:∀ q'∈w.Aa.set k q1,q'=q1\/(q'∈w.Aa/\q'.res.name≠a.name):=λq' FI=>by
   rcases D6 (q:=q) FI with rfl|⟨j,hj,hjq⟩
   ·grind
   grind[F1]
  have dD:q1.res.name=a.name:=by rw[e2.res];omega
  refine⟨z,?_⟩;rw[hk];refine⟨e4,by rw[GB];exact h.at_,h.eq,h.AB,?_,?_,?_,(KD ht h.kx ⟨k,f1⟩).2.2.1,λp hp=>h.sub p (by grind),hu.2,?_,?_,?_,?_⟩<;>rw[e1]
  ·exact h.fits.res N2
  ·exact h.yq.res N2
  ·unfold FB;rw[N2];exact h.zD
  ·intro q' FI hx;rcases Ha q' FI with rfl|⟨h1,h2⟩
   ·grind
   ·exact h.todo q' h1 ((QK q' h1 h2 (false,a)).2 hx)
  ·intro q' FI hx;rcases Ha q' FI with rfl|⟨h1,h2⟩
   ·grind
   ·exact h.done q' h1 λxp=>hx ((QK q' h1 h2 (false,a)).1 xp)
  ·intro p hp h1 q' FI hn;rcases Ha q' FI with rfl|⟨h2,h3⟩
   ·grind
   ·exact h.lG p (by grind) h1 q' h2 hn
  ·exact h.tr.trans GR
 ·have pE:=h.lG (true,a) (by simp) rfl q UQ f3;simp only at pE;obtain⟨p1,p2⟩:=me f3.symm (Jl _) ha t2;have hk:GK w i x true a.name=if decide (Am q.holds x.proc=An z.AB.entries a.name) then w else AW w i { z with AB:=(G2 z.AB ⟨a.name,An z.AB.entries a.name,Am q.holds x.proc⟩).1 }:=by grind[GK]
  have Gj:∀ q'∈w.Aa,q'.res.name=a.name->q'=q:=λq' FI e=>by grind[List.getElem?_of_mem,F1]
  have hlz:An z.AB.entries a.name=An x.AB.entries a.name:=by grind
  rw[f3]at p1 p2;cases hc:q.res.covers (An x.AB.entries a.name) a.AH
  ·rcases p2 hc with ⟨g1,g2⟩|g1
   ·have hlf:An x.AB.entries a.name=⟨0,0⟩\/q.res.fits (An x.AB.entries a.name)=true:=by
     have:=SQ ht h.yq UQ;rw[f3]at this;exact this
    obtain⟨gg,gf⟩:=iS hlf f4 hc;have CZ:Am q.holds x.proc≠An z.AB.entries a.name:=by grind
    rw[if_neg (by grind)]at hk;have uG:Gx ⟨z.AB.entries++[⟨a.name,An z.AB.entries a.name,Am q.holds x.proc⟩],z.AB.AA⟩:=by
     refine h.AB.snoc (by rw[<- f3];exact jK (ht.val q UQ)) rfl (by grind) (eJ ht λe he=>?_);rcases mem_append.1 he with he|he
     ·obtain⟨k',q',_,h2,h3,_⟩:=h.fits e.name ⟨e,he,rfl⟩;grind
     grind
    have Ah5:(G2 z.AB ⟨a.name,An z.AB.entries a.name,Am q.holds x.proc⟩).1=⟨z.AB.entries++[⟨a.name,An z.AB.entries a.name,Am q.holds x.proc⟩],z.AB.AA⟩:=by
     unfold G2;rw[if_neg (by simp[(EB _).2 h.AB]),if_neg (by grind[EB])]
    rw[Ah5]at hk;have hh:∀ n,An (z.AB.entries++[⟨a.name,An z.AB.entries a.name,Am q.holds x.proc⟩]) n=if a.name==n then Am q.holds x.proc else An z.AB.entries n:=λn=>nX _ _ _
    refine⟨{ z with AB:=⟨z.AB.entries++[⟨a.name,An z.AB.entries a.name,Am q.holds x.proc⟩],z.AB.AA⟩ },?_⟩;rw[hk];refine⟨h.ve.set' h.at_ rfl,List.getElem?_set_self (Au h.at_),⟨_,by rw[hl]⟩,uG,?_,h.yq,h.zD,h.kx,λp hp=>h.sub p (by grind),hu.2,?_,?_,λp hp=>h.lG p (by grind),h.tr⟩
    ·intro n hn;simp only[hh]
     by_cases e:a.name=n
     ·subst e;exact⟨k,q,f1,f2,f3,by grind⟩
     ·obtain⟨b,hb,nR⟩:=hn;have N8:∃ e∈z.AB.entries,e.name=n:=by grind
      rw[if_neg (by grind)];exact h.fits n N8
    ·intro q' FI hx;have Abp:q'.res.name≠a.name:=λe=>hnk _ e hx
     simp only[hh];rw[if_neg (by grind)];exact h.todo q' FI ((QK q' FI Abp (true,a)).2 hx)
    ·intro q' FI hx;simp only[hh]
     by_cases e:q'.res.name=a.name
     ·have:=Gj q' FI e;subst this;rw[if_pos (by grind)];exact⟨g1,rfl⟩
     ·rw[if_neg (by grind)];exact h.done q' FI λxp=>hx ((QK q' FI e (true,a)).1 xp)
   ·rw[g1,hc]at pE;cases pE
  ·have Uf:=p1 hc;rw[if_pos (by simpa [hlz]using Uf.2)]at hk;refine⟨z,?_⟩;rw[hk];refine⟨h.ve,h.at_,h.eq,h.AB,h.fits,h.yq,h.zD,h.kx,λp hp=>h.sub p (by grind),hu.2,λq' FI hx=>?_,λq' FI hx=>?_,λp hp=>h.lG p (by grind),h.tr⟩
   ·exact h.todo q' FI ((QK q' FI (λe=>hnk _ e hx) (true,a)).2 hx)
   ·by_cases e:q'.res.name=a.name
    ·grind
    ·exact h.done q' FI λxp=>hx ((QK q' FI e (true,a)).1 xp)
def Z9.all{t0:List Queue}{i:Nat}{x:Bu}:∀ (kl:List (Bool × Atom)) {z:Bu} {w:Ap},Z9 t0 i x z w kl->∃ z',Z9 t0 i x z' (Eb w i x kl) []
 |[],z,_,h=>⟨z,h⟩
 |(kp,a)::kl,_,_,h=>by
  obtain⟨z',h'⟩:=h.step;exact Z9.all kl h'
def Z3{f:Atom->Bs}:∀ (l:List Bool) (m:List Atom),(m.map f).Nodup->((l.zip m).map λp=>f p.2).Nodup
 |[],_,_=>by simp
 |_::_,[],_=>by simp
 | b::l,a::m,h=>by
  have h':=nodup_cons.1 (show (f a::m.map f).Nodup from h);simp only[List.zip_cons_cons,List.map_cons];refine nodup_cons.2 ⟨λhm=>h'.1 ?_,Z3 l m h'.2⟩;obtain⟨p,hp,e⟩:=mem_map.1 hm;rw[<- e];exact mem_map.2 ⟨p.2,(List.of_mem_zip hp).2,rfl⟩
theorem WQ(i:Nat)(x:Bu):∀ (kl:List (Bool × Atom)) (w:Ap),(Eb w i x kl).now=w.now
 |[],_=>rfl
 |(kp,a)::kl,w=>by
  show (Eb (GK w i x kp a.name) i x kl).now=w.now;rw[WQ i x kl];unfold GK;split
  ·exact SK _ _ _
  ·split
   ·rfl
   ·split<;>rfl
theorem HC(x:Bu):E2 x=true↔x.proc.ok=true/\1<=x.cost/\x.cost<=1000/\Bx x.AB=true/\0<=x.gen/\x.gen<=1073741824:=by
 simp[E2];grind
def L6{now:Int}{t:List Queue}{x y:Bu}(hx:E2 x=true)(hp:y.proc=x.proc)(hc:y.cost=x.cost)(hl:Gx y.AB)(hg:0<=y.gen/\y.gen<=1073741824)(hf:Kt t y)(hw:y.waiting=false)(hr:Yh y.Bk=true)(hs:y.since=0)(hi:Idle t y):Fine now t y where
 head:=by grind[HC,EB]
 fits:=hf
 wait:=λh=>by grind
 idle:=λ_=>⟨hr,hs,hi⟩
theorem bR:Yh Fc=true:=by kernel_rfl
theorem QY{w:Ap}{i:Nat}{x:Bu}(h:VE none w)(hx:w.procs[i]?=some x)(hw:x.waiting=true):VE none (C9 w i x)/\Ds x.proc w.Aa (C9 w i x).Aa/\(C9 w i x).now=w.now:=by
 have hf:=h.Lc i x hx (by simp);obtain⟨r1,r2,r3,r4,r5⟩:=hf.wait hw;have ht:=h.je.tab;have h0:Z9 w.Aa i x x (CL w 2 x.proc) ((Df x.Bk.expr (BY w.Aa x.proc x.Bk.expr)).zip (Ah x.Bk.expr)):=by
  refine⟨(h.gb i).note 2 x.proc,hx,⟨x.AB,rfl⟩,hf.AB,hf.fits,hf.fits,r2,hf.K ht,λp hp=>(List.of_mem_zip hp).2,Z3 _ _ (Jl _),λq hq _=>⟨rfl,r5 q hq⟩,λq hq hn=>?_,λp hp iJ q hq hn=>?_,.refl ht⟩
  ·refine Tq _ (λa ha e=>hn ?_) (r5 q hq);obtain⟨j,hj⟩:=List.getElem?_of_mem ha;have AP:=Au hj;have hl:j<(Df x.Bk.expr (BY w.Aa x.proc x.Bk.expr)).length:=by grind[Xq]
   refine⟨((Df x.Bk.expr (BY w.Aa x.proc x.Bk.expr))[j],a),?_,e.symm⟩;have:((Df x.Bk.expr (BY w.Aa x.proc x.Bk.expr)).zip (Ah x.Bk.expr))[j]?=some ((Df x.Bk.expr (BY w.Aa x.proc x.Bk.expr))[j],a):=by grind
   exact mG this
  ·obtain⟨j,hj⟩:=List.getElem?_of_mem hp;rw[List.getElem?_zip_eq_some]at hj;rw[iJ]at hj;have:=oS hj.1;simp only[BY,List.getD,gm,hj.2]at this;simp at this;unfold QF at this;obtain⟨k,hk⟩:=List.getElem?_of_mem hq;have hfq:=Wr ht hk;rw[hn]at hfq;rw[hfq]at this;have pG:w.Aa[k]?=some q:=hk;simp only[show w.Aa.getD k q0=q by grind]at this;exact this
 obtain⟨z,hz⟩:=Z9.all _ h0;have rM:=WQ i x ((Df x.Bk.expr (BY w.Aa x.proc x.Bk.expr)).zip (Ah x.Bk.expr)) (CL w 2 x.proc);simp only[C9];generalize Eb (CL w 2 x.proc) i x ((Df x.Bk.expr (BY w.Aa x.proc x.Bk.expr)).zip (Ah x.Bk.expr))=w1 at hz rM ⊢;obtain⟨l,hl⟩:=hz.eq;have e1:w1.procs.getD i x0=z:=by simp[List.getD,hz.at_]
 have hi:=Au hz.at_;have e2:(AW w1 i (CH z)).procs.getD i x0=CH z:=by simp[AW,List.getD,hi]
 rw[e1,e2];have e3:(AW w1 i (CH z)).procs[i]?=some (CH z):=by simp[AW,hi]
 refine⟨VE.set (hz.ve.set' hz.at_ rfl) e3 rfl (L6 hf.head (by rw[hl];rfl) (by rw[hl];rfl) hz.AB (KQ _) (λn hn=>hz.fits n hn) rfl bR rfl λq hq=>?_),hz.tr,rM⟩;have:=hz.done q hq (by simp);rw[show (CA (CH z)).proc=x.proc by rw[hl];rfl];exact this
def FX(ms:List Ac)(q:Queue):Queue:=ms.foldl Cd q
def gV{q q':Queue}(hv:valid q=true)(Vs:valid q'=true)(h:er q'=er q)(p:Ac):er (Cd q' p)=er (Cd q p):=by rw[Ko hv,Ko Vs,<- Qx _ _ (Nat.le_refl _),<- Qx _ _ (Nat.le_refl _),qG,qG,h]
def GG:∀ (ms:List Ac) {q:Queue},valid q=true->valid (FX ms q)=true
 |[],_,h=>h
 | m::ms,_,h=>GG ms (I6 h m)
def RL:∀ (ms:List Ac) {q q':Queue},valid q=true->valid q'=true->er q'=er q->er (FX ms q')=er (FX ms q)
 |[],_,_,_,_,h=>h
 | m::ms,_,_,hv,Vs,h=>RL ms (I6 hv m) (I6 Vs m) (gV hv Vs h m)
def YT(p:Ac):∀ (ms:List Ac) {q:Queue},valid q=true->FX ms (Cd q p)=Cd (FX ms q) p
 |[],_,_=>rfl
 | m::ms,q,h=>by
  show FX ms (Cd (Cd q p) m)=Cd (FX ms (Cd q m)) p;rw[Xv h,YT p ms (I6 h m)]
def PC(a b:List Ac)(q:Queue):FX (a++b) q=FX b (FX a q):=by simp[FX,List.foldl_append]
def QE:∀ (a b:List Ac) {q:Queue},valid q=true->FX a (FX b q)=FX b (FX a q)
 |[],_,_,_=>rfl
 | m::a,b,q,h=>by
  show FX a (Cd (FX b q) m)=FX b (FX a (Cd q m));rw[<- YT m b h,QE a b (I6 h m)]
structure UI(ms:List Ac)(t t':List Queue):Prop where
 len:t'.length=t.length
 each:∀ (k:Nat) (q:Queue),t[k]?=some q->∃ q',t'[k]?=some q'/\valid q'=true/\q'.res=q.res/\(∀ y,y∉ms->HH y q q')/\er (FX ms q')=er (FX ms q)
def Ds.off{p:Ac}{t t':List Queue}(h:Ds p t t'):UI [p] t t':=⟨h.len,λk q hq=>by
 obtain⟨q',h1,h2⟩:=h.each k q hq;exact⟨q',h1,h2.val,h2.res,λy hy=>h2.same y (by grind),h2.cut⟩⟩
def UI.refl{t:List Queue}(ht:DI t):UI [] t t:=⟨rfl,λ_ q hq=>⟨q,hq,ht.val q (mG hq),rfl,λ_ _=>.refl q,rfl⟩⟩
def UI.trans{ms oF:List Ac}{a b c:List Queue}(ha:∀ q∈a,valid q=true)(h:UI ms a b)(h':UI oF b c):UI (ms++oF) a c:=⟨h'.len.trans h.len,λk q hq=>by
 obtain⟨q1,h1,v1,r1,s1,c1⟩:=h.each k q hq;obtain⟨q2,h2,v2,r2,s2,c2⟩:=h'.each k q1 h1;have v0:=ha q (mG hq);refine⟨q2,h2,v2,r2.trans r1,λy hy=>?_,?_⟩
 ·simp at hy;exact(s1 y hy.1).trans (s2 y hy.2)
 ·rw[PC,PC,QE oF ms v2,RL ms (GG oF v1) (GG oF v2) c2,QE ms oF v1,RL oF (GG ms v0) (GG ms v1) c1]⟩
structure pz(ms:List Ac)(w w':Ap):Prop where
 off:UI ms w.Aa w'.Aa
 same:∀ x∈w.procs,x.proc∉ms->x∈w'.procs
 back:∀ x∈w'.procs,x.proc∉ms->x∈w.procs
def pz.refl{w:Ap}(ht:DI w.Aa):pz [] w w:=⟨.refl ht,λ_ h _=>h,λ_ h _=>h⟩
def pz.trans{ms oF:List Ac}{a b c:Ap}(ht:DI a.Aa)(h:pz ms a b)(h':pz oF b c):pz (ms++oF) a c where
 off:=h.off.trans ht.val h'.off
 same:=λx hx hn=>by
  simp at hn;exact h'.same x (h.same x hx hn.1) hn.2
 back:=λx hx hn=>by
  simp at hn;exact h.back x (h'.back x hx hn.2) hn.1
theorem run_set{w w':Ap}{i:Nat}{x y:Bu}(hx:w.procs[i]?=some x)(hy:y.proc=x.proc)(hp:w'.procs=w.procs.set i y)(hs:Ds x.proc w.Aa w'.Aa):pz [x.proc] w w' where
 off:=hs.off
 same:=λz hz hn=>by
  rw[hp];obtain⟨j,hj⟩:=List.getElem?_of_mem hz;have CZ:i≠j:=λe=>by grind
  exact mG (i:=j) (by grind)
 back:=λz hz hn=>by grind
def fw{w:Ap}{i:Nat}{x:Bu}(h:VE none w)(hx:w.procs[i]?=some x)(hw:x.waiting=true):pz [x.proc] w (C9 w i x):=by grind[Je,run_set,QY]
theorem Ty{w:Ap}{x:Bu}(h:Lf w x=true):x.waiting=true:=by simp_all[Lf]
def XG:∀ (n:Nat) (w:Ap),VE none w->VE none (Ei n w)/\(Ei n w).now=w.now
 | 0,_,h=>⟨h,rfl⟩
 | n+1,w,h=>by
  simp only[Ei];cases hs:Ho w with
  |none=>grind
  |some i =>
   obtain⟨x,hx,RQ⟩:=HT hs;simp only[show w.procs.getD i x0=x by simp[List.getD,hx]];obtain⟨h1,_,h3⟩:=QY h hx (Ty RQ);obtain⟨g1,g2⟩:=XG n _ h1;exact⟨g1,g2.trans h3⟩
def NB{w:Ap}(h:VE none w):VE none (B3 w)/\(B3 w).now=w.now:=XG _ w h
def Qf:∀ (n:Nat) (w:Ap),wcount w<=n->Ho (Ei n w)=none
 | 0,w,h=>by
  show Ho w=none;grind[Ho,wcount,Ty]
 | n+1,w,h=>by
  simp only[Ei];cases hs:Ho w with
  |none=>exact hs
  |some i =>
   obtain⟨x,hx,RQ⟩:=HT hs;simp only[show w.procs.getD i x0=x by simp[List.getD,hx]];have:=(Lv hs hx RQ).2;exact Qf n _ (by omega)
def Qg(w:Ap):Ho (B3 w)=none:=Qf _ w (Nat.le_refl _)
def Uw:∀ (n:Nat) (w:Ap),VE none w->∃ ms,pz ms w (Ei n w)/\(∀ m∈ms,∃ x∈w.procs,x.proc=m/\x.waiting=true)/\∀ x∈(Ei n w).procs,x.proc∈ms->x.waiting=false
 | 0,w,h=>⟨[],.refl h.je.tab,λ_ hm=>by(cases hm),λ_ _ hm=>by(cases hm)⟩
 | n+1,w,h=>by
  simp only[Ei];cases hs:Ho w with
  |none=>exact⟨[],.refl h.je.tab,λ_ hm=>by(cases hm),λ_ _ hm=>by(cases hm)⟩
  |some i =>
   obtain⟨x,hx,RQ⟩:=HT hs;have XT:=Ty RQ;simp only[show w.procs.getD i x0=x by grind];have h1:=(QY h hx XT).1;have h2:=fw h hx XT;obtain⟨ms,g1,g2,g3⟩:=Uw n _ h1;obtain⟨y,p1,p2,p3⟩:=Je hx;have hyi:(C9 w i x).procs[i]?=some y:=by grind
   have key:∀ z∈(C9 w i x).procs,z.proc=x.proc->z=y:=λz hz e=>by
    obtain⟨j,hj⟩:=List.getElem?_of_mem hz;have:=h1.je.uq j i z y hj hyi (e.trans p3.symm);subst this;rw[hyi]at hj;exact(Option.some.inj hj).symm
   have Uq:x.proc∉ms:=λhm=>by grind
   refine⟨[x.proc]++ms,h2.trans h.je.tab g1,λm hm=>?_,λz hz hm=>?_⟩
   ·grind
   ·rcases mem_append.1 hm with hm|hm
    ·have:=g1.back z hz (by grind);rw[key z this (mem_singleton.1 hm)];exact p2
    grind
def Ux{w:Ap}(h:VE none w):∃ ms,pz ms w (B3 w)/\(∀ m∈ms,∃ x∈w.procs,x.proc=m/\x.waiting=true)/\∀ x∈(B3 w).procs,x.proc∈ms->x.waiting=false:=Uw _ w h
def YC{i:Nat}{x z:Bu}:∀ (az:List Atom) (w:Ap),VE (some i) w->w.procs[i]?=some z->z.proc=x.proc->KX w.Aa x->(∀ a∈az,∃ k,CG w.Aa a.name=some k) ->
 VE (some i) (EZ w x az)/\Ds x.proc w.Aa (EZ w x az).Aa/\(EZ w x az).now=w.now
 |[],w,h,_,_,_,_=>⟨h,.refl h.je.tab,rfl⟩
 | a::az,w,h,hz,hp,hk,hf=>by
  obtain⟨k,UM⟩:=hf a (by simp);obtain⟨_,q,hq,hn⟩:=D2 UM;obtain⟨q1,e1,e2,_,e4⟩:=jY h hz hp hk UM hq hn;have GR:Ds x.proc w.Aa (Ed w x a.name).Aa:=by rw[e1];exact I5 h.je.tab hq e2
  obtain⟨g1,g2,g3⟩:=YC az (Ed w x a.name) e4 (by rw[GB];exact hz) hp (KD h.je.tab hk ⟨k,UM⟩).2.2.1 λb hb=>by rw[Kj GR.res];exact hf b (by simp[hb])
  exact⟨g1,GR.trans g2,g3.trans (SK _ _ _)⟩
def JL{w:Ap}{i:Nat}{x:Bu}(h:VE none w)(hx:w.procs[i]?=some x)(hw:x.waiting=true):VE none (Bb w i x)/\Ds x.proc w.Aa (Bb w i x).Aa/\(Bb w i x).now=w.now/\Idle (Bb w i x).Aa x:=by
 have hf:=h.Lc i x hx (by simp);obtain⟨r1,r2,r3,r4,r5⟩:=hf.wait hw;obtain⟨g1,g2,g3⟩:=YC (Ah x.Bk.expr) w (h.gb i) hx rfl (hf.K h.je.tab) λa ha=>by
  obtain⟨k,_,hk,_⟩:=DF h.je.tab r2 ha;grind
 have hid:Idle (Bb w i x).Aa x:=λq hq=>by rcases(E8 h.je hx hw).2.2 q hq with hk|⟨hm,hn⟩<;>grind[Tq]
 have hxx:(EZ w x (Ah x.Bk.expr)).procs[i]?=some x:=by grind[Ia]
 refine⟨VE.set g1 hxx rfl (L6 hf.head rfl rfl hf.AB ?_ (λn hn=>hf.fits.res g2.res n hn) rfl bR rfl hid),g2,g3,hid⟩;obtain⟨_,_,_,_,a,b⟩:=(HC x).1 hf.head;exact⟨a,b⟩
def Xk{q:Queue}{x y:Bu}(h1:y.proc=x.proc)(h2:y.AB=x.AB)(h3:y.Bk=x.Bk):∀ az,DE q y az=DE q x az
 |[]=>by grind[DE]
 | a::az=>by simp only[DE,h1,h2,h3,Xk h1 h2 h3 az]
def Fine.next{now:Int}{t:List Queue}{x:Bu}(h:Fine now t x):Fine now t (CA x) where
 head:=by
  obtain⟨a,b,c,d,_⟩:=(HC x).1 h.head;exact(HC _).2 ⟨a,b,c,d,KQ _⟩
 fits:=h.fits
 wait:=λhw=>by
  obtain⟨a,b,c,d,e⟩:=h.wait hw;exact⟨a,b,c,d,λq hq=>(Xk (x:=x) (y:=CA x) rfl rfl rfl _).trans (e q hq)⟩
 idle:=h.idle
def VE.next{w:Ap}{i:Nat}{x:Bu}(h:VE none w)(hx:w.procs[i]?=some x):VE none (AW w i (CA x)):=(h.gb i).set hx rfl (h.Lc i x hx (by simp)).next
def dU{w:Ap}{i:Nat}{x:Bu}(h:VE none w)(hx:w.procs[i]?=some x)(hw:x.waiting=true):VE none (EU w i x)/\(EU w i x).now=w.now:=by
 obtain⟨g1,_,g3,_⟩:=JL (h.note 4 x.proc) (i:=i) (x:=x) hx hw;have hi:=Au hx;have hp:(Bb (CL w 4 x.proc) i x).procs[i]?=some (CH x):=by rw[Ch];exact List.getElem?_set_self hi
 simp only[EU];rw[show (Bb (CL w 4 x.proc) i x).procs.getD i x0=CH x by grind];exact⟨g1.next hp,g3⟩
def dV:∀ (n:Nat) (w:Ap),VE none w->Ho w=none->VE none (J1 n w)/\Ho (J1 n w)=none/\(J1 n w).now=w.now/\(wcount w<=n->Rr (J1 n w) = -1)
 | 0,w,h,hq=>⟨h,hq,rfl,λhn=>Ph (w:=w) (by omega)⟩
 | n+1,w,h,hq=>by
  rcases Ki w with he|⟨k,x,he,hx,XT⟩
  ·rw[HD he];exact⟨h,hq,rfl,λ_=>he⟩
  ·rw[KO he hx];obtain⟨g1,g2⟩:=dU h hx XT;obtain⟨s1,s2⟩:=NB g1;obtain⟨r1,r2,r3,r4⟩:=dV n _ s1 (Qg _);have h3:=Nl w hx XT;have h4:=Jj (EU w k x);exact⟨r1,r2,r3.trans (s2.trans g2),λhn=>r4 (by omega)⟩
end Go.Rd
