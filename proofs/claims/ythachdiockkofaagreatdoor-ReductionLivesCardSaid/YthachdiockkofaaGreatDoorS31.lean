/- part 31 of the proof -/
import Derived.Test.YthachdiockkofaaGreatDoorS29
import Derived.Test.YthachdiockkofaaGreatDoorS30
set_option linter.all false
open Go Go.Abs Go.Proofs
set_option maxRecDepth 100000
namespace Go.Rd
set_option maxHeartbeats 8000000
open List (filter_cons getElem_mem length_take mem_append mem_cons mem_filter mem_map mem_singleton nodup_cons pairwise_iff_getElem take_add_one take_length)
open Bool (and_eq_true false_eq_true or_eq_true)
open Option (getD_some map_some toList_some)
open Nat (le_trans min_eq_left)
theorem OR:∀ a b:Bs,a≠b→BF a b=true∨BF b a=true
 |[],[],h=>absurd rfl h
 |[],_::_,_=>.inl (by simp[BF,Op.bytesLess])
 |_::_,[],_=>.inr (by simp[BF,Op.bytesLess])
 | a::x,b::y,h=>by
  rw[JS,JS]
  by_cases e:a=b
  ·subst e;rcases OR x y (fun e=>h (by rw[e])) with h1|h1
   ·left;simp[h1]
   ·right;simp[h1]
  ·have:a<b∨b<a:=by
    rcases Nat.lt_or_gt_of_ne (fun h1=>e (UInt8.toNat_inj.1 h1):a.toNat≠b.toNat) with h1|h1
    ·exact .inl (UInt8.lt_iff_toNat_lt.2 h1)
    ·exact .inr (UInt8.lt_iff_toNat_lt.2 h1)
   rcases this with h1|h1
   ·left;simp[h1]
   ·right;simp[h1]
theorem Uy{a b:Bs}(h:BF a b=true):¬ BF b a=true:=fun h'=>GP a (G3 h h')
def Xn(l:List Bs):Prop:=l.Pairwise fun a b=>BF a b=true
theorem Zm{l:List Bs}(h:Xn l)(n:Bs):Xn (O6 l n):=by
 unfold O6;split
 ·exact h
 rename_i hn;have key:∀ k,k≤l.length→(∀ y∈l.drop k,BF n y=true)→(∀ y∈l.take (Il l n k),BF y n=true)∧∀ y∈l.drop (Il l n k),BF n y=true:=by
  intro k
  induction k with
  | zero=>intro _ hd;exact⟨fun y hy=>by simp[Il]at hy,by simpa [Il]using hd⟩
  | succ k ih =>
   intro hk hd;have hg:l.getD k []=l[k]:=by simp[List.getD,gE (show k<l.length by omega)]
   simp only[Il,hg];split
   ·rename_i hc;refine ih (by omega) fun y hy=>?_
    rw[List.drop_eq_getElem_cons (by omega)]at hy;rcases mem_cons.1 hy with rfl|hy
    ·exact hc
    ·exact hd y hy
   ·rename_i hc;refine⟨fun y hy=>?_,hd⟩;have hkn:BF l[k] n=true:=by
     rcases OR n l[k] (fun e=>hn (e▸getElem_mem _)) with h1|h1
     ·exact absurd h1 hc
     ·exact h1
    rw[List.take_succ_eq_append_getElem (by omega)]at hy;rcases mem_append.1 hy with hy|hy
    ·obtain⟨j,hj,rfl⟩:=List.mem_iff_getElem.1 hy;simp only[length_take]at hj;rw[List.getElem_take];exact G3 (pairwise_iff_getElem.1 h j k (by omega) (by omega) (by omega)) hkn
    ·rw[mem_singleton.1 hy];exact hkn
 obtain⟨h1,h2⟩:=key l.length (Nat.le_refl _) (by simp);unfold mid Xn;rw[List.pairwise_append];refine⟨h.sublist (List.take_sublist _ _),List.pairwise_cons.2 ⟨h2,h.sublist (List.drop_sublist _ _)⟩,fun a ha b hb=>?_⟩;rcases mem_cons.1 hb with rfl|hb
 ·exact h1 a ha
 ·exact G3 (h1 a ha) (h2 b hb)
theorem RI:∀ (ns l:List Bs),Xn l→Xn (ns.foldl O6 l)
 |[],_,h=>h
 | n::ns,_,h=>RI ns _ (Zm h n)
theorem Qq(l:List Entry):Xn (BH l):=RI _ _ List.Pairwise.nil
theorem JW(l:List Entry):(BH l).Nodup:=List.Pairwise.imp (R:=fun a b=>BF a b=true) (S:=fun a b=>a≠b) (fun {a b} h e=>GP b (by rw[e]at h;exact h)) (Qq l)
theorem XV(l:List Entry)(e:Entry)(n:Bs):Ai (l++[e]) n=if e.name==n then e.after else Ai l n:=by
 simp[Ai,List.foldl_append]
def rkA(a:Amt):Nat:=if a.mode=0 then a.units.toNat else if a.mode=5 then 4 else if a.mode=4 then 3 else if a.mode=1 then 1 else 2
theorem bD{a b:Int}(h:AL b a=true)(hn:b≠a):∀ u v:Int,rkA ⟨a,u⟩<rkA ⟨b,v⟩:=by
 have ha:AX a=true:=by simp only[AL,and_eq_true]at h;exact h.1.2
 have hb:AX b=true:=by simp only[AL,and_eq_true]at h;exact h.1.1
 intro u v;revert h hn;rcases Ax ha with rfl|rfl|rfl|rfl|rfl<;>rcases Ax hb with rfl|rfl|rfl|rfl|rfl<;>simp[rkA]<;>decide
theorem Sm{a:Amt}(h:usable a=true):1≤rkA a∧rkA a≤8:=by
 rcases CF h with ⟨h1,h2⟩|⟨h1,h2,h3⟩
 ·obtain⟨m,u⟩:=a;simp only at h1;rcases Ax h1 with rfl|rfl|rfl|rfl|rfl<;>simp[rkA]
 ·simp only[rkA,h1,if_true];omega
theorem VY{a b:Amt}(h:Da a b=true):rkA a<rkA b∧rkA b≤8:=by
 have hu:=(KI h).1;refine⟨?_,(Sm hu).2⟩;have hne:a≠b:=by
  intro e;subst e;simp[Da]at h
 rcases(KI h).2 with rfl|⟨ua,ub,h1⟩
 ·have:=(Sm hu).1;have e:rkA ⟨0,0⟩=0:=rfl;omega
 ·rcases h1 with ⟨h1,h2⟩|⟨h1,h2,h3⟩
  ·obtain⟨m,u⟩:=a;obtain⟨n,v⟩:=b;refine bD h2 (fun e=>hne ?_) u v;simp only at e h1 h2;rcases CF ua with ⟨_,k1⟩|⟨k1,_⟩
   ·rcases CF ub with ⟨_,k2⟩|⟨k2,_⟩
    ·simp only at k1 k2;rw[e,k1,k2]
    ·simp only at k2;omega
   ·exact absurd k1 h1
  ·have:a.units≠b.units:=fun e=>hne (by
    obtain⟨m,u⟩:=a;obtain⟨n,v⟩:=b;simp only at h1 h2 e;rw[h1,h2,e])
   rcases CF ua with ⟨k,_⟩|⟨_,k,_⟩
   ·exact absurd h1 (Hz k)
   ·simp only[rkA,h1,h2,if_true];omega
structure Fu(l:Ledger):Prop where
 ent:∀ (i:Nat) (e:Entry),l.entries[i]?=some e→Bp e.name=true∧e.before=Ai (l.entries.take i) e.name∧Da e.before e.after=true
 nam:(BH l.entries).length≤8
 n4:l.saves.length≤4
 lab:∀ s∈l.saves,1≤s.label∧s.label≤99∧0≤s.pos∧s.pos≤(l.entries.length:Int)
 asc:l.saves.Pairwise fun a b=>a.pos≤b.pos
 uni:l.saves.Pairwise fun a b=>a.label≠b.label
theorem RT:∀ (ns:List Bs) (l:List Entry),(∀ e∈l,e.name∈ns)→(∀ n,l.countP (fun e=>e.name==n)≤8)→l.length≤8*ns.length
 |[],l,h,_=>by
  cases l with
  | nil=>simp
  | cons e l=>exact absurd (h e (by simp)) (by simp)
 | n::ns,l,h,hc=>by
  have h1:=hc n;rw[List.countP_eq_length_filter]at h1;have h2:∀ l:List Entry,l.length=(l.filter fun e=>e.name==n).length+(l.filter fun e=>!(e.name==n)).length:=fun l=>by
   induction l with
   | nil=>rfl
   | cons e l ih =>
    simp only[filter_cons];cases e.name==n<;>simp<;>omega
  have h2:=h2 l;have h3:=RT ns (l.filter fun e=>!(e.name==n)) (fun e he=>by
   rw[mem_filter]at he;rcases mem_cons.1 (h e he.1) with h4|h4
   ·rw[h4]at he;simp at he
   ·exact h4) fun m=>le_trans (List.Sublist.countP_le List.filter_sublist) (hc m)
  simp only[List.length_cons];omega
theorem Ru{l:List Entry}(h:∀ i e,l[i]?=some e→Bp e.name=true∧e.before=Ai (l.take i) e.name∧Da e.before e.after=true)(n:Bs):∀ i,i≤l.length→(l.take i).countP (fun e=>e.name==n)≤rkA (Ai (l.take i) n)∧rkA (Ai (l.take i) n)≤8
 | 0,_=>⟨by simp,by simp[Ai,rkA]⟩
 | i+1,hi=>by
  obtain⟨e,he⟩:∃ e,l[i]?=some e:=⟨_,gE (by omega)⟩;obtain⟨h1,h2⟩:=Ru h n i (by omega);obtain⟨_,g2,g3⟩:=h i e he;rw[DG he,take_add_one,he,List.countP_append];simp only[toList_some,List.countP_cons,List.countP_nil];cases hn:e.name==n
  ·simp only[false_eq_true,if_false];exact⟨by omega,h2⟩
  ·simp only[if_true];have hn:e.name=n:=by simpa using hn
   rw[hn]at g2;rw[g2]at g3;have:=VY g3;exact⟨by omega,this.2⟩
theorem Fu.len{l:Ledger}(h:Fu l):l.entries.length≤72:=by
 have:=RT (BH l.entries) l.entries (fun e he=>(DI _ _).2 ⟨e,he,rfl⟩) fun n=>by
  obtain⟨h1,h2⟩:=Ru h.ent n l.entries.length (Nat.le_refl _);rw[take_length]at h1 h2;omega
 have:=h.nam;omega
theorem WH{l:List Save}(h:∀ i s,l[i]?=some s→i=0∨(l.getD (i-1) s0).pos≤s.pos):∀ d i a b,l[i]?=some a→l[i+d+1]?=some b→a.pos≤b.pos
 | 0,i,a,b,ha,hb=>by
  have:=h (i+1) b hb;rw[show l.getD (i+1-1) s0=a by simp[List.getD,ha]]at this;omega
 | d+1,i,a,b,ha,hb=>by
  have hlt:=Ae hb;obtain⟨c,hc⟩:∃ c,l[i+d+1]?=some c:=⟨_,gE (by omega)⟩;have h1:=WH h d i a c ha hc;have h2:=h (i+(d+1)+1) b hb;rw[show l.getD (i+(d+1)+1-1) s0=c by simp[List.getD,show i+(d+1)+1-1=i+d+1 by omega,hc]]at h2;omega
theorem Eh(l:Ledger):AP l=true↔Fu l:=by
 constructor
 ·intro h;simp only[AP,and_eq_true,decide_eq_true_eq,Cx,Em,Ee,or_eq_true]at h;obtain⟨⟨⟨⟨h1,h2⟩,h3⟩,h4⟩,h5⟩:=h;refine⟨fun i e he=>⟨(h3 i e he).1.1,(h3 i e he).1.2,(h3 i e he).2⟩,h4,h2,fun s hs=>?_,?_,?_⟩
  ·obtain⟨i,hi⟩:=List.getElem?_of_mem hs;have:=h5 i s hi;exact⟨this.1.1.1.1.1,this.1.1.1.1.2,this.1.1.1.2,this.1.1.2⟩
  ·rw[pairwise_iff_getElem];intro i j hi hj hij;obtain⟨d,rfl⟩:∃ d,j=i+d+1:=⟨j-i-1,by omega⟩;exact WH (fun i s hs=>(h5 i s hs).1.2) d i _ _ (gE hi) (gE hj)
  ·rw[pairwise_iff_getElem];intro i j hi hj hij e;have a:=(h5 i _ (gE hi)).2;have b:=(h5 j _ (gE hj)).2;rw[e,b]at a;omega
 ·intro h;simp only[AP,and_eq_true,decide_eq_true_eq,Cx,Em,Ee,or_eq_true];refine⟨⟨⟨⟨h.len,h.n4⟩,fun i e he=>?_⟩,h.nam⟩,fun i s hs=>?_⟩
  ·obtain⟨a,b,c⟩:=h.ent i e he;exact⟨⟨a,b⟩,c⟩
  ·obtain⟨a,b,c,d⟩:=h.lab s (mG hs);have hlt:=Ae hs;refine⟨⟨⟨⟨⟨a,b⟩,c⟩,d⟩,?_⟩,?_⟩
   ·cases i with
    | zero=>exact .inl rfl
    | succ i =>
     right;have hg:l.saves[i]?=some (l.saves[i]):=gE (by omega);have:=pairwise_iff_getElem.1 h.asc i (i+1) (by omega) hlt (by omega);rw[get_eq hs]at this;rw[Nat.add_sub_cancel,show l.saves.getD i s0=l.saves[i] by simp[List.getD,hg]];exact this
   ·unfold I7;have:l.saves.findIdx? (fun x=>x.label==s.label)=some i:=by
     rw[List.findIdx?_eq_some_iff_getElem];refine⟨hlt,by simp[get_eq hs],fun j hj=>?_⟩;have:=pairwise_iff_getElem.1 h.uni j i (by omega) hlt hj;rw[get_eq hs]at this;simpa using this
    rw[this]
theorem Fu.snoc{l:Ledger}(h:Fu l){e:Entry}(hn:Bp e.name=true)(hb:e.before=Ai l.entries e.name)(hg:Da e.before e.after=true)(h8:(BH (l.entries++[e])).length≤8):Fu ⟨l.entries++[e],l.saves⟩ where
 ent:=fun i b hbi=>by
  simp only at hbi ⊢;rw[List.getElem?_append]at hbi;split at hbi
  ·rename_i hlt;obtain⟨h1,h2,h3⟩:=h.ent i b hbi;rw[List.take_append_of_le_length (by omega)];exact⟨h1,h2,h3⟩
  ·rename_i hge;have hi:i-l.entries.length=0:=by
    have:=Ae hbi;simp at this;omega
   rw[hi]at hbi;simp at hbi;subst hbi;have:i=l.entries.length:=by omega
   subst this;rw[List.take_left']
   ·exact⟨hn,hb,hg⟩
   ·rfl
 nam:=h8
 n4:=h.n4
 lab:=fun s hs=>by
  obtain⟨a,b,c,d⟩:=h.lab s hs;refine⟨a,b,c,?_⟩;simp only[List.length_append,List.length_singleton];omega
 asc:=h.asc
 uni:=h.uni
theorem Qr{l m:List Entry}(h:∀ e∈l,∃ b∈m,b.name=e.name):(BH l).length≤(BH m).length :=
 CE _ _ (JW l) fun x hx=>by
  rw[DI]at hx ⊢;obtain⟨e,he,rfl⟩:=hx;exact h e he
theorem Fu.cut{l:Ledger}(h:Fu l){label:Int}{a n:Nat}(hb:Ka l label=some (a,n)):Fu (MI l a n):=by
 have key:∀ s∈l.saves.take n,s.pos≤(min a l.entries.length:Nat):=by
  unfold Ka at hb;split at hb
  ·cases hb;intro s hs;simp at hs
  ·cases hf:l.saves.findIdx? (fun s=>s.label==label) with
   |none=>rw[hf]at hb;cases hb
   |some i =>
    rw[hf]at hb;simp only[Option.some.injEq,Prod.mk.injEq]at hb;obtain⟨hi,_,_⟩:=List.findIdx?_eq_some_iff_getElem.1 hf;have hg:l.saves.getD i s0=l.saves[i]:=by simp[List.getD,gE hi]
    rw[hg]at hb;intro s hs;obtain⟨j,hj,rfl⟩:=List.mem_iff_getElem.1 hs;simp only[length_take]at hj;rw[List.getElem_take];have h1:=(h.lab l.saves[i] (getElem_mem hi)).2.2;have h2:l.saves[j].pos≤l.saves[i].pos:=by
     rcases Nat.lt_or_ge j i with hji|hji
     ·exact pairwise_iff_getElem.1 h.asc j i (by omega) hi hji
     ·have:j=i:=by omega
      subst this;exact Int.le_refl _
    omega
 refine⟨fun i e he=>?_,le_trans (Qr fun e he=>⟨e,List.mem_of_mem_take he,rfl⟩) h.nam,by(show (l.saves.take n).length≤4);rw[length_take];have:=h.n4;omega,fun s hs=>?_,h.asc.sublist (List.take_sublist _ _),h.uni.sublist (List.take_sublist _ _)⟩
 ·simp only[MI]at he ⊢;rw[List.getElem?_take]at he;split at he
  ·rename_i hlt;rw[List.take_take,min_eq_left (by omega)];exact h.ent i e he
  ·cases he
 ·have h1:=key s hs;obtain⟨p,q,r,_⟩:=h.lab s (List.mem_of_mem_take hs);refine⟨p,q,r,?_⟩;simp only[MI,length_take];exact h1
theorem Fu.save{l:Ledger}{lab:Int}(h:Fu l)(h0:(DM l lab).2=0):Fu (DM l lab).1∧(DM l lab).1.entries=l.entries:=by
 have hv:=(Eh l).2 h;revert h0;unfold DM;rw[if_neg (by simp[hv])];split
 ·intro h0;simp at h0
 rename_i h1;split
 ·intro h0;simp at h0
 rename_i h2;split
 ·intro h0;simp at h0
 rename_i h3;intro _;simp only[or_eq_true,decide_eq_true_eq,not_or]at h1;refine⟨⟨h.ent,h.nam,?_,fun s hs=>?_,?_,?_⟩,rfl⟩
 ·have:=h.n4;simp only[List.length_append,List.length_singleton];omega
 ·rcases mem_append.1 hs with hs|hs
  ·exact h.lab s hs
  ·rw[mem_singleton.1 hs];exact⟨by show 1≤lab;omega,by show lab≤99;omega,by simp,by simp⟩
 ·rw[List.pairwise_append];refine⟨h.asc,List.pairwise_singleton _ _,fun a ha b hb=>?_⟩;rw[mem_singleton.1 hb];exact(h.lab a ha).2.2.2
 ·rw[List.pairwise_append];refine⟨h.uni,List.pairwise_singleton _ _,fun a ha b hb e=>h2 ?_⟩;rw[mem_singleton.1 hb]at e;unfold I7;cases hf:l.saves.findIdx? (fun s=>s.label==lab) with
  |none =>
   rw[List.findIdx?_eq_none_iff]at hf;have:=hf a ha;simp only at e;simp[e]at this
  |some i=>simp
theorem Me{name n:Bs}(h:n≠name)(l:List Entry):Ai (l.filter (BP name)) n=Ai l n:=by
 unfold Ai;generalize (⟨0,0⟩:Amt)=a
 induction l generalizing a with
 | nil=>rfl
 | cons e l ih =>
  rw[filter_cons];cases hk:BP name e
  ·have he:e.name=name:=by simpa [BP]using hk
   simp only[false_eq_true,if_false,List.foldl_cons];rw[ih,if_neg (by rw[he];simpa using Ne.symm h)]
  ·simp only[if_true,List.foldl_cons];rw[ih]
theorem VZ(name:Bs)(l:List Entry):Ai (l.filter (BP name)) name=⟨0,0⟩:=Lr fun⟨e,he,hn⟩=>by
 rw[mem_filter]at he;simp[BP,hn]at he
theorem T6{l:List Entry}(h:∀ i e,l[i]?=some e→Bp e.name=true∧e.before=Ai (l.take i) e.name∧Da e.before e.after=true)(name:Bs):∀ k,k≤l.length →
 ∀ i e,((l.take k).filter (BP name))[i]?=some e→Bp e.name=true∧e.before=Ai (((l.take k).filter (BP name)).take i) e.name∧Da e.before e.after=true
 | 0,_,i,e,he=>by simp at he
 | k+1,hk,i,e,he=>by
  obtain⟨b,hb⟩:∃ b,l[k]?=some b:=⟨_,gE (by omega)⟩;have ih:=T6 h name k (by omega);have e1:(l.take (k+1)).filter (BP name)=(l.take k).filter (BP name)++[b].filter (BP name):=by
   rw[take_add_one,hb,List.filter_append];rfl
  rw[e1]at he ⊢;rw[List.getElem?_append]at he;split at he
  ·rename_i hlt;rw[List.take_append_of_le_length (by omega)];exact ih i e he
  ·rename_i hge;cases hkb:BP name b
   ·rw[filter_cons,hkb]at he;simp at he
   ·rw[filter_cons,hkb]at he;simp only[if_true,List.filter_nil]at he;have h0:i-((l.take k).filter (BP name)).length=0:=by have:=Ae he;simp at this;omega
    rw[h0]at he;simp at he;subst he;have hi:i=((l.take k).filter (BP name)).length:=by omega
    rw[List.take_left' hi.symm];obtain⟨g1,g2,g3⟩:=h k b hb;refine⟨g1,?_,g3⟩;rw[Me (by simpa [BP]using hkb)];exact g2
theorem PN(l:List Entry)(name:Bs)(pos:Nat):∀ i,i≤l.length→Kw l name pos i=(((l.take (min i pos)).countP fun e=>e.name==name:Nat):Int)
 | 0,_=>by simp[Kw]
 | i+1,hi=>by
  obtain⟨b,hb⟩:∃ b,l[i]?=some b:=⟨_,gE (by omega)⟩;have hg:l.getD i ⟨[],⟨0,0⟩,⟨0,0⟩⟩=b:=by simp[List.getD,hb]
  simp only[Kw,PN l name pos i (by omega),hg]
  by_cases hp:i<pos
  ·rw[min_eq_left (by omega),min_eq_left (by omega),take_add_one,hb,List.countP_append];simp only[toList_some,List.countP_cons,List.countP_nil];cases hn:b.name==name<;>simp<;>omega
  ·rw[Nat.min_eq_right (by omega),Nat.min_eq_right (by omega),if_neg (by omega)];omega
theorem Yn(l:List Entry)(name:Bs){pos:Nat}(h:pos≤l.length):(pos:Int)-Kw l name pos l.length=(((l.take pos).filter (BP name)).length:Nat):=by
 rw[PN l name pos l.length (Nat.le_refl _),Nat.min_eq_right h];have h1:=List.length_eq_countP_add_countP (fun e:Entry=>e.name==name) (l:=l.take pos);rw[length_take,min_eq_left h]at h1;have h2:(l.take pos).countP (fun e=>decide ¬(e.name==name)=true)=((l.take pos).filter (BP name)).length:=by
  rw[List.countP_eq_length_filter];congr 1;refine List.filter_congr fun x _=>?_
  rw[Bool.eq_iff_iff];simp[BP]
 omega
theorem Fu.drop{l:Ledger}{name:Bs}(h:Fu l)(hn:∃ e∈l.entries,e.name=name):(Fx l name).1.entries=l.entries.filter (BP name)∧Fu (Fx l name).1:=by
 have hlt:(l.entries.filter (BP name)).length≠l.entries.length:=fun e=>by
  obtain⟨b,hb,hbn⟩:=hn;have:=List.length_filter_eq_length_iff.1 e b hb;simp[BP,hbn]at this
 have e1:(Fx l name).1=⟨l.entries.filter (BP name),l.saves.map (De l.entries name l.entries.length)⟩:=by
  unfold Fx;rw[if_neg (by simp[(Eh l).2 h]),if_neg hlt]
 rw[e1];have hpos:∀ s∈l.saves,∃ k:Nat,s.pos=k∧k≤l.entries.length∧(De l.entries name l.entries.length s).pos=(((l.entries.take k).filter (BP name)).length:Nat):=fun s hs=>by
  obtain⟨_,_,h3,h4⟩:=h.lab s hs;obtain⟨k,hk⟩:=Int.eq_ofNat_of_zero_le h3;refine⟨k,hk,by omega,?_⟩;simp only[De,hk];exact Yn _ _ (by omega)
 have hmono:∀ j k:Nat,j≤k→((l.entries.take j).filter (BP name)).length≤((l.entries.take k).filter (BP name)).length:=fun j k hjk=>by
  refine(List.Sublist.filter _ ?_).length_le;rw[← min_eq_left hjk,← List.take_take];exact List.take_sublist _ _
 refine⟨rfl,⟨?_,le_trans (Qr fun e he=>⟨e,(mem_filter.1 he).1,rfl⟩) h.nam,by simpa using h.n4,fun s hs=>?_,?_,?_⟩⟩
 ·have:=T6 h.ent name l.entries.length (Nat.le_refl _);rw[take_length]at this;exact this
 ·simp only[mem_map]at hs;obtain⟨s',hs',rfl⟩:=hs;obtain⟨k,_,hk,h3⟩:=hpos s' hs';obtain⟨a,b,_,_⟩:=h.lab s' hs';refine⟨a,b,by rw[h3];omega,?_⟩;rw[h3];have:=hmono k l.entries.length hk;rw[take_length]at this;simp only;omega
 ·simp only;rw[List.pairwise_map];refine h.asc.imp_of_mem fun {a b} ha hb hab=>?_
  obtain⟨j,hj,_,h3⟩:=hpos a ha;obtain⟨k,hk,_,h4⟩:=hpos b hb;rw[h3,h4];have:=hmono j k (by omega);omega
 ·simp only;rw[List.pairwise_map];exact h.uni
theorem N9{q q':Queue}{x:Pcs}(hr:q'.res=q.res)(hs:FT x.proc q q'):∀ {az:List Atom},Cc q x az=true→Cc q' x az=true
 |[],h=>by
  simp only[Cc,and_eq_true,decide_eq_true_eq,Bool.not_eq_true']at h ⊢;rw[hr];rcases hs with ⟨h1,h2,_⟩|⟨b,h1,_⟩
  ·rw[h1,h2];exact h
  ·rw[h1]at h;simp at h
 | a::az,h=>by
  unfold Cc at h ⊢;rw[hr];split at h
  ·rename_i hn;rw[if_pos hn];exact N9 hr hs h
  rename_i hn;rw[if_neg hn];split at h
  ·rename_i hc;rw[if_pos hc];exact N9 hr hs h
  rename_i hc;rw[if_neg hc];rcases hs with ⟨h1,h2,h3⟩|⟨b,h1,h2,h3⟩
  ·rw[h1,h2];split at h
   ·rename_i hw;rw[if_pos hw];exact h
   rename_i hw;rw[if_neg hw];split at h
   ·cases h
   rename_i ha;rw[if_neg ?_]
   ·exact h
   intro ha';apply ha;rw[List.any_eq_true]at ha' ⊢;obtain⟨w,hw1,hw2⟩:=ha';rw[and_eq_true,decide_eq_true_eq]at hw2;obtain⟨v,v1,v2,v3⟩:=h3 w hw1 hw2.1;exact⟨v,v1,by rw[v2,v3,hw2.2];simp⟩
  ·rw[h1]at h;rw[h2,h3];simp only[Option.isSome_some,Bool.not_true,false_eq_true,if_false,getD_some]at h;split at h
   ·cases h
   simp only[and_eq_true,decide_eq_true_eq]at h;simp[h.2]
theorem KF.same{q q':Queue}{p:Proc}{l:Amt}(h:KF q p l)(hs:FT p q q'):KF q' p l:=by
 rcases hs with ⟨h1,h2,_⟩|⟨b,h1,_⟩
 ·exact⟨h1.trans h.1,h2.trans h.2⟩
 ·rw[h.1]at h1;cases h1
structure Cj(p:Proc)(t t':List Queue):Prop where
 len:t'.length=t.length
 each:∀ (k:Nat) (q:Queue),t[k]?=some q→∃ q',t'[k]?=some q'∧Hq p q q'
theorem Cj.refl{p:Proc}{t:List Queue}(h:Ck t):Cj p t t:=⟨rfl,fun _ q hq=>⟨q,hq,.refl (h.val q (mG hq))⟩⟩
theorem Cj.trans{p:Proc}{a b c:List Queue}(h:Cj p a b)(h':Cj p b c):Cj p a c:=⟨h'.len.trans h.len,fun k q hq=>by
 obtain⟨q1,h1,h2⟩:=h.each k q hq;obtain⟨q2,h3,h4⟩:=h'.each k q1 h1;exact⟨q2,h3,h2.trans h4⟩⟩
theorem GK{p:Proc}{t:List Queue}{k:Nat}{q q1:Queue}(h:Ck t)(hq:t[k]?=some q)(hs:Hq p q q1):Cj p t (t.set k q1):=⟨by simp,fun j r hr=>by
 by_cases e:k=j
 ·subst e;rw[hq]at hr;have:=Option.some.inj hr;subst this;exact⟨q1,List.getElem?_set_self (Ae hq),hs⟩
 ·exact⟨r,by rw[List.getElem?_set_ne e];exact hr,.refl (h.val r (mG hr))⟩⟩
theorem Cj.mem{p:Proc}{t t':List Queue}(h:Cj p t t'){q':Queue}(hq:q'∈t'):∃ q∈t,Hq p q q':=by
 obtain⟨k,hk⟩:=List.getElem?_of_mem hq;have hlt:=Ae hk;rw[h.len]at hlt;obtain⟨q2,h1,h2⟩:=h.each k t[k] (gE hlt);rw[hk]at h1;have:=Option.some.inj h1;subst this;exact⟨t[k],getElem_mem hlt,h2⟩
theorem Cj.res{p:Proc}{t t':List Queue}(h:Cj p t t'):t'.map (·.res)=t.map (·.res):=by
 refine List.ext_getElem? fun k=>?_
 rw[gm,gm];cases hk:t[k]? with
 |none =>
  have:t'.length≤k:=by rw[h.len];exact List.getElem?_eq_none_iff.1 hk
  rw[List.getElem?_eq_none_iff.2 this]
 |some q =>
  obtain⟨q',h1,h2⟩:=h.each k q hk;rw[h1];simp only[map_some,h2.res]
structure Fine(now:Int)(t:List Queue)(x:Pcs):Prop where
 head:Ea x=true
 fits:HP t x
 wait:x.waiting=true→Gd x.req=true∧BY (B6 t) x.req.expr=0∧0≤x.since∧x.since≤now∧∀ q∈t,Cc q x (Ad x.req.expr)=true
 idle:x.waiting=false→Ra x.req=true∧x.since=0∧Idle t x
theorem Fine.led{now:Int}{t:List Queue}{x:Pcs}(h:Fine now t x):Fu x.led:=by
 have:=h.head;simp only[Ea,and_eq_true]at this;exact(Eh _).1 this.1.1.2
theorem Fine.step{now:Int}{t t':List Queue}{x:Pcs}{p:Proc}(h:Fine now t x)(hs:Cj p t t')(hp:x.proc≠p):Fine now t' x where
 head:=h.head
 fits:=h.fits.res hs.res
 wait:=fun hw=>by
  obtain⟨a,b,c,d,e⟩:=h.wait hw;refine⟨a,by unfold B6;rw[hs.res];exact b,c,d,fun q' hq'=>?_⟩;obtain⟨q,hq,hx⟩:=hs.mem hq';exact N9 hx.res (hx.same _ hp) (e q hq)
 idle:=fun hw=>by
  obtain⟨a,b,c⟩:=h.idle hw;refine⟨a,b,fun q' hq'=>?_⟩;obtain⟨q,hq,hx⟩:=hs.mem hq';rw[hx.res];exact(c q hq).same (hx.same _ hp)
theorem Fine.K{now:Int}{t:List Queue}{x:Pcs}(ht:Ck t)(h:Fine now t x):KX t x:=fun q hq=>by
 cases hw:x.waiting
 ·exact((h.idle hw).2.2 q hq).k
 ·obtain⟨a,b,c,d,e⟩:=h.wait hw;refine Tf (Ln ht h.fits hq) _ (fun a ha hn=>?_) (e q hq);obtain⟨k,q',k1,k2,k3,k4⟩:=Cq ht b ha;obtain⟨i,hi⟩:=List.getElem?_of_mem hq;have:=DZ ht k2 hi (k3.trans hn);subst this;rw[k2]at hi;have:=Option.some.inj hi;subst this;exact k4
structure VE(e:Option Nat)(w:Work):Prop where
 je:JE e w
 ord:(w.procs.map (·.proc)).Pairwise fun a b=>AT a b<0
 known:∀ q∈w.queues,∀ p,inQ q p→p∈w.procs.map (·.proc)
 now:0≤w.now∧w.now≤1073741824
 fine:∀ (j:Nat) (x:Pcs),w.procs[j]?=some x→some j≠e→Fine w.now w.queues x
theorem VE.but{w:Work}(h:VE none w)(i:Nat):VE (some i) w:=⟨h.je.but i,h.ord,h.known,h.now,fun j x hj _=>h.fine j x hj (by simp)⟩
theorem VE.step{i:Nat}{w w':Work}{z:Pcs}(h:VE (some i) w)(hz:w.procs[i]?=some z)(hp:w'.procs=w.procs)(hn:w'.now=w.now)(hs:EO z.proc w.queues w'.queues)(hx:Cj z.proc w.queues w'.queues):VE (some i) w' where
 je:=h.je.step hz hp hs
 ord:=by rw[hp];exact h.ord
 known:=fun q' hq' p hi=>by
  rw[hp];obtain⟨q,hq,hs⟩:=hx.mem hq';rcases hs.inp p hi with hi|rfl
  ·exact h.known q hq p hi
  ·exact mem_map.2 ⟨z,mG hz,rfl⟩
 now:=by rw[hn];exact h.now
 fine:=fun j x hj hne=>by
  rw[hp]at hj;rw[hn];refine(h.fine j x hj hne).step hx fun e=>hne ?_
  rw[h.je.uq j i x z hj hz e]
theorem Ga{l:List Pcs}{i:Nat}{x y:Pcs}(hx:l[i]?=some x)(h:y.proc=x.proc):(l.set i y).map (·.proc)=l.map (·.proc):=by
 rw[List.map_set,h];exact LC (by simp[hx])
theorem VE.set{i:Nat}{w:Work}{z y:Pcs}(h:VE (some i) w)(hz:w.procs[i]?=some z)(hy:y.proc=z.proc)(hf:Fine w.now w.queues y):VE none (At w i y) where
 je:=h.je.set hz hy fun hw=>⟨by
  have:=(hf.wait hw).1;simp only[Gd,and_eq_true]at this;exact this.1.1.1.1,fun a ha=>by
  obtain⟨k,_,hk,_⟩:=Cq h.je.tab (hf.wait hw).2.1 ha;exact⟨k,hk⟩,hf.K h.je.tab⟩
 ord:=by simp only[At];rw[Ga hz hy];exact h.ord
 known:=by simp only[At];rw[Ga hz hy];exact h.known
 now:=h.now
 fine:=fun j x hj _=>by
  simp only[At]at hj;rw[List.getElem?_set]at hj;split at hj
  ·split at hj
   ·have:=Option.some.inj hj;subst this;exact hf
   ·cases hj
  ·rename_i hne;exact h.fine j x hj fun e=>hne (Option.some.inj e).symm
theorem VE.set'{i:Nat}{w:Work}{z y:Pcs}(h:VE (some i) w)(hz:w.procs[i]?=some z)(hy:y.proc=z.proc):VE (some i) (At w i y) where
 je:=h.je.set' hz hy
 ord:=by simp only[At];rw[Ga hz hy];exact h.ord
 known:=by simp only[At];rw[Ga hz hy];exact h.known
 now:=h.now
 fine:=fun j x hj hne=>by
  simp only[At]at hj;rw[List.getElem?_set]at hj;split at hj
  ·rename_i e;subst e;exact absurd rfl hne
  ·exact h.fine j x hj hne
theorem VE.note{e:Option Nat}{w:Work}(h:VE e w)(k:Int)(p:Proc):VE e (Bv w k p):=⟨h.je.note k p,h.ord,h.known,h.now,h.fine⟩
theorem VD{t:List Queue}{p:Proc}{name:Bs}{k:Nat}{q:Queue}(h:Ck t)(hf:By t name=some k)(hq:t[k]?=some q)(hw:(Aj q p).isSome=true):(BZ t p name).1=t.set k (A3 q p).1:=by
 have hg:t.getD k q0=q:=by simp[List.getD,hq]
 have h0:=(JF (h.val q (mG hq)) hw).1;simp only[BZ,(Dx t).2 h,hf,hg,h0];rfl
theorem N5{t:List Queue}{p:Proc}{a:Atom}{k:Nat}{q:Queue}(h:Ck t)(hf:By t a.name=some k)(hq:t[k]?=some q)(hw:Aj q p=none)(hz:(Ak q.holds p).zero=false)(hc:q.res.covers (Ak q.holds p) a.amt=true):(AO t p a).1=t.set k (AN q p a.amt).1:=by
 have hg:t.getD k q0=q:=by simp[List.getD,hq]
 have h0:=(G5 (h.val q (mG hq)) hz hw hc).1;simp only[AO,(Dx t).2 h,hf,hg,h0];rfl
theorem NH(w:Work)(x:Pcs)(name:Bs):(CV w x name).now=w.now:=by
 unfold CV;split
 ·rfl
 ·unfold I1 Dj;split<;>split<;>rfl
theorem eH{w:Work}{x:Pcs}{name:Bs}{k:Nat}{q:Queue}(h:Ck w.queues)(hf:By w.queues name=some k)(hq:w.queues[k]?=some q)(hkq:Kq q x.proc (Ai x.led.entries name)) :
 ∃ q1,(CV w x name).queues=w.queues.set k q1∧Hq x.proc q q1∧KF q1 x.proc (Ai x.led.entries name):=by
 have hlt:=Ae hq;have hg:w.queues.getD k q0=q:=by simp[List.getD,hq]
 have hv:=h.val q (mG hq);cases hw:(Aj q x.proc).isSome
 ·have eA:Dj w x name k=w:=by simp only[Dj,hg,hw];rfl
  have hwn:=Ey hw;have eK:CV w x name=I1 w x name k:=by unfold CV;rw[hf];simp only[eA]
  rw[eK];unfold I1;rw[hg]
  by_cases hl:Ak q.holds x.proc=Ai x.led.entries name
  ·simp only[hl,decide_true,if_true];exact⟨q,(LC hq).symm,.refl hv,hwn,hl⟩
  ·simp only[hl,decide_false,false_eq_true,if_false];obtain⟨hz,hc⟩:=hkq.2.resolve_left hl;have hls:=G5 (a:=Ai x.led.entries name) hv hz hwn hc;exact⟨_,N5 (a:=⟨name,Ai x.led.entries name⟩) h hf hq hwn hz hc,Wb hv hz hwn hc,hls.2.2.1,hls.2.2.2⟩
 ·have hcs:=JF hv hw;have hl:=hkq.1 hw;have e1:=VD h hf hq hw;have eA:Dj w x name k=BS w (w.queues.set k (A3 q x.proc).1) (BZ w.queues x.proc name).2.1:=by simp only[Dj,hg,hw,if_true,e1]
  have eK:CV w x name=Dj w x name k:=by
   unfold CV;rw[hf];simp only;unfold I1;rw[eA];have:(BS w (w.queues.set k (A3 q x.proc).1) (BZ w.queues x.proc name).2.1).queues.getD k q0=(A3 q x.proc).1:=by simp[BS,List.getD,hlt]
   rw[this,hcs.2.2.2,hl];simp
  rw[eK,eA];exact⟨_,rfl,au hv hw,hcs.2.2.1,hcs.2.2.2.trans hl⟩
theorem WL{i:Nat}{w:Work}{x z:Pcs}{name:Bs}{k:Nat}{q:Queue}(h:VE (some i) w)(hz:w.procs[i]?=some z)(hp:z.proc=x.proc)(hK:KX w.queues x)(hf:By w.queues name=some k)(hq:w.queues[k]?=some q)(hn:q.res.name=name) :
 ∃ q1,(CV w x name).queues=w.queues.set k q1∧Hq x.proc q q1∧KF q1 x.proc (Ai x.led.entries name)∧VE (some i) (CV w x name):=by
 obtain⟨q1,h1,h2,h3⟩:=eH h.je.tab hf hq (hn▸hK q (mG hq));refine⟨q1,h1,h2,h3,h.step hz (E0 _ _ _) (NH _ _ _) (hp▸(HY h.je.tab hK ⟨k,hf⟩).2.1) ?_⟩;rw[hp,h1];exact GK h.je.tab hq h2
theorem W5(e:Expr):∀ (k:Nat) (o:List Bool) (i:Nat),(prN e k o).getD i false=true→o.getD i false=true
 | 0,_,_,h=>h
 | k+1,o,i,h=>by
  have h1:=W5 e k _ i h;split at h1
  ·rename_i hk
   by_cases e1:i=k
   ·rw[e1];exact hk
   ·simp only[List.getD]at h1 ⊢;rw[List.getElem?_set_ne (Ne.symm e1)]at h1;exact h1
  ·exact h1
theorem Yd{e:Expr}{set:List Bool}{i:Nat}(h:(B9 e set)[i]?=some true):set.getD i false=true:=by
 have hd:(B9 e set).getD i false=true:=by simp[List.getD,h]
 unfold B9 at hd;split at hd
 ·have:=W5 e _ _ i hd;simp only[List.getD,gm]at this;cases hr:(List.range (Ad e).length)[i]? with
  |none=>rw[hr]at this;simp at this
  |some j =>
   rw[hr]at this;have hj:j=i:=by
    have hlt:=Ae hr;rw[List.getElem?_range (by simpa using hlt)]at hr;exact(Option.some.inj hr).symm
   subst hj;simpa using this
 ·simp only[List.getD,List.getElem?_replicate]at hd;split at hd<;>simp at hd
theorem Pq{q:Queue}{x:Pcs}{a:Atom}(hn:a.name=q.res.name):∀ {az:List Atom},Im az→a∈az→Cc q x az=true →
 (q.res.covers (Ai x.led.entries q.res.name) a.amt=true→KF q x.proc (Ai x.led.entries q.res.name)) ∧
 (q.res.covers (Ai x.led.entries q.res.name) a.amt=false→(Aj q x.proc=none∧Ak q.holds x.proc=CC q.res (Ai x.led.entries q.res.name) a.amt)∨Ak q.holds x.proc=Ai x.led.entries q.res.name)
 | b::az,hu,ha,h=>by
  have hu':=nodup_cons.1 hu;unfold Cc at h
  by_cases e:b.name=q.res.name
  ·have hba:b=a:=by
    rcases mem_cons.1 ha with ha|ha
    ·exact ha.symm
    ·exact absurd (mem_map.2 ⟨a,ha,hn.trans e.symm⟩) hu'.1
   subst hba;rw[if_neg (by simpa using e)]at h;refine⟨fun hc=>?_,fun hc=>?_⟩
   ·rw[if_pos hc]at h;exact Qt az (fun c hc' e'=>hu'.1 (mem_map.2 ⟨c,hc',e'.symm.trans e.symm⟩)) h
   ·rw[if_neg (by simp[hc])]at h;split at h
    ·rename_i hw;exact .inl ⟨Ey (by simpa using hw),by simpa using h⟩
    ·split at h
     ·cases h
     ·simp only[and_eq_true,decide_eq_true_eq]at h;exact .inr h.1
  ·rw[if_pos (by simpa using e)]at h;rcases mem_cons.1 ha with rfl|ha
   ·exact absurd hn e
   ·exact Pq hn hu'.2 ha h
theorem V4{r:Res}{l a:Amt}(hl:l=⟨0,0⟩∨r.fits l=true)(ha:r.fits a=true)(hc:r.covers l a=false):Da l (CC r l a)=true∧r.fits (CC r l a)=true:=by
 rcases hl with rfl|hl
 ·rw[Lu ha hc];refine⟨?_,ha⟩;have hu:usable a=true:=GY ha;have hne:(⟨0,0⟩:Amt)≠a:=fun e=>Jt hu e.symm
  simp[Da,hu,hne]
 ·obtain⟨j1,j2,j3,_⟩:=JN hl ha hc;refine⟨?_,j1⟩;have hu1:usable l=true:=GY hl;have hu2:usable (CC r l a)=true:=GY j1;have hz:=Jt hu1;rw[C2 j1 hl]at j2;generalize CC r l a=j at j1 j2 j3 hu2;unfold Da;rw[if_neg (by simp[hu2];exact Ne.symm j3),if_neg ?_,if_neg (by simp[hu1])]
  ·rcases(BE hl).2 with ⟨k,m,u⟩|⟨k,m,u,_⟩
   ·rw[if_pos (by simpa using Hz m)];rw[if_pos k]at j2;exact j2
   ·rw[if_neg (by simp[m])];rw[if_neg k]at j2;rcases(BE j1).2 with ⟨k2,_⟩|⟨_,m2,_⟩
    ·exact absurd k2 k
    ·have:l.units≠j.units:=fun e=>j3 (by
      obtain⟨x,y⟩:=l;obtain⟨x2,y2⟩:=j;simp only at m m2 e;rw[m,m2,e])
     simp at j2 ⊢;omega
  ·intro h;apply hz;obtain⟨x,y⟩:=l;simp at h;simp[h]
theorem WC{q:Queue}(h:valid q=true):Bp q.res.name=true:=by
 have:=((Bm q).1 h).1.res;simp only[Gq,and_eq_true]at this;exact this.1.1
theorem UK{t:List Queue}(h:Ck t){l:List Entry}(hl:∀ e∈l,∃ q∈t,q.res.name=e.name):(BH l).length≤8:=by
 have:=CE _ (t.map fun q=>q.res.name) (JW l) fun x hx=>by
  obtain⟨e,he,rfl⟩:=(DI _ _).1 hx;obtain⟨q,hq,hn⟩:=hl e he;exact mem_map.2 ⟨q,hq,hn⟩
 rw[List.length_map]at this;have:=h.n;omega
structure SC(t0:List Queue)(i:Nat)(x z:Pcs)(w:Work)(kl:List (Bool × Atom)):Prop where
 ve:VE (some i) w
 at_:w.procs[i]?=some z
 eq:∃ l,z = { x with led:=l }
 led:Fu z.led
 fits:HP w.queues z
 xfit:HP w.queues x
 rsv:BY (B6 w.queues) x.req.expr=0
 kx:KX w.queues x
 sub:∀ p∈kl,p.2∈Ad x.req.expr
 uq:(kl.map fun p=>p.2.name).Nodup
 todo:∀ q∈w.queues,(∃ p∈kl,p.2.name=q.res.name)→Ai z.led.entries q.res.name=Ai x.led.entries q.res.name∧Cc q x (Ad x.req.expr)=true
 done:∀ q∈w.queues,(¬ ∃ p∈kl,p.2.name=q.res.name)→KF q x.proc (Ai z.led.entries q.res.name)
 grant:∀ p∈kl,p.1=true→∀ q∈w.queues,q.res.name=p.2.name→q.res.covers (Ak q.holds x.proc) p.2.amt=true
 tr:Cj x.proc t0 w.queues
theorem SC.step{t0:List Queue}{i:Nat}{x z:Pcs}{w:Work}{kp:Bool}{a:Atom}{kl:List (Bool × Atom)}(h:SC t0 i x z w ((kp,a)::kl)):∃ z',SC t0 i x z' (E5 w i x kp a.name) kl:=by
 have ht:=h.ve.je.tab;have ha:=h.sub (kp,a) (by simp);obtain⟨k,q,f1,f2,f3,f4⟩:=Cq ht h.rsv ha;simp only at f1 f3 f4;have hqm:=mG f2;have hu:=nodup_cons.1 (show (a.name::kl.map fun p=>p.2.name).Nodup from h.uq);have hnk:∀ n,n=a.name→¬ ∃ p∈kl,p.2.name=n:=fun n e ⟨p,hp,hn⟩=>hu.1 (mem_map.2 ⟨p,hp,hn.trans e⟩)
 obtain⟨t1,t2⟩:=h.todo q hqm ⟨(kp,a),by simp,f3.symm⟩;obtain⟨l,hl⟩:=h.eq;have hzp:z.proc=x.proc:=by rw[hl]
 have hg:w.queues.getD k q0=q:=by simp[List.getD,f2]
 have hpd:w.procs.getD i x0=z:=by simp[List.getD,h.at_]
 have hother:∀ q'∈w.queues,q'.res.name≠a.name→∀ p:Bool × Atom,(∃ p∈(kp,a)::kl,p.2.name=q'.res.name)↔∃ p∈kl,p.2.name=q'.res.name:=fun q' _ hne _=>by
  constructor
  ·rintro⟨p,hp,hn⟩;rcases mem_cons.1 hp with rfl|hp
   ·exact absurd hn.symm hne
   ·exact⟨p,hp,hn⟩
  ·rintro⟨p,hp,hn⟩;exact⟨p,by simp[hp],hn⟩
 cases kp
 ·obtain⟨q1,e1,e2,e3,e4⟩:=WL h.ve h.at_ hzp h.kx f1 f2 f3;have hk:E5 w i x false a.name=CV w x a.name:=rfl;have hst:=GK ht f2 e2;have hres:(w.queues.set k q1).map (·.res)=w.queues.map (·.res):=hst.res;have hmem:∀ q'∈w.queues.set k q1,q'=q1∨(q'∈w.queues∧q'.res.name≠a.name):=fun q' hq'=>by
   rcases Ct (q:=q) hq' with rfl|⟨j,hj,hjq⟩
   ·exact .inl rfl
   ·exact .inr ⟨mG hjq,fun e=>hj (DZ ht hjq f2 (e.trans f3.symm))⟩
  have hn1:q1.res.name=a.name:=by rw[e2.res];exact f3
  refine⟨z,?_⟩;rw[hk];refine⟨e4,by rw[E0];exact h.at_,h.eq,h.led,?_,?_,?_,(HY ht h.kx ⟨k,f1⟩).2.2.1,fun p hp=>h.sub p (by simp[hp]),hu.2,?_,?_,?_,?_⟩<;>rw[e1]
  ·exact h.fits.res hres
  ·exact h.xfit.res hres
  ·unfold B6;rw[hres];exact h.rsv
  ·intro q' hq' hx;rcases hmem q' hq' with rfl|⟨h1,h2⟩
   ·exact absurd hx (hnk _ hn1)
   ·exact h.todo q' h1 ((hother q' h1 h2 (false,a)).2 hx)
  ·intro q' hq' hx;rcases hmem q' hq' with rfl|⟨h1,h2⟩
   ·rw[hn1];have:=t1;rw[f3]at this;rw[this];exact e3
   ·exact h.done q' h1 fun hx'=>hx ((hother q' h1 h2 (false,a)).1 hx')
  ·intro p hp h1 q' hq' hn;rcases hmem q' hq' with rfl|⟨h2,h3⟩
   ·exact absurd ⟨p,hp,hn.symm⟩ (hnk _ hn1)
   ·exact h.grant p (by simp[hp]) h1 q' h2 hn
  ·exact h.tr.trans hst
 ·have hgr:=h.grant (true,a) (by simp) rfl q hqm f3;simp only at hgr;obtain⟨p1,p2⟩:=Pq f3.symm (EY _) ha t2;have hk:E5 w i x true a.name=if decide (Ak q.holds x.proc=Ai z.led.entries a.name) then w else At w i { z with led:=(Fo z.led ⟨a.name,Ai z.led.entries a.name,Ak q.holds x.proc⟩).1 }:=by
   unfold E5;simp only[f1,hg,hpd];rfl
  have hname:∀ q'∈w.queues,q'.res.name=a.name→q'=q:=fun q' hq' e=>by
   obtain⟨j,hj⟩:=List.getElem?_of_mem hq';have:=DZ ht hj f2 (e.trans f3.symm);subst this;rw[f2]at hj;exact(Option.some.inj hj).symm
  have hlz:Ai z.led.entries a.name=Ai x.led.entries a.name:=by rw[f3]at t1;exact t1
  rw[f3]at p1 p2;cases hc:q.res.covers (Ai x.led.entries a.name) a.amt
  ·rcases p2 hc with ⟨g1,g2⟩|g1
   ·have hlf:Ai x.led.entries a.name=⟨0,0⟩∨q.res.fits (Ai x.led.entries a.name)=true:=by
     have:=Ln ht h.xfit hqm;rw[f3]at this;exact this
    obtain⟨gg,gf⟩:=V4 hlf f4 hc;have hne:Ak q.holds x.proc≠Ai z.led.entries a.name:=by
     rw[g2,hlz];intro e;rw[e]at gg;simp[Da]at gg
    rw[if_neg (by simpa using hne)]at hk;have hsn:Fu ⟨z.led.entries++[⟨a.name,Ai z.led.entries a.name,Ak q.holds x.proc⟩],z.led.saves⟩:=by
     refine h.led.snoc (by rw[← f3];exact WC (ht.val q hqm)) rfl (by rw[hlz,g2];exact gg) (UK ht fun e he=>?_);rcases mem_append.1 he with he|he
     ·obtain⟨k',q',_,h2,h3,_⟩:=h.fits e.name ⟨e,he,rfl⟩;exact⟨q',mG h2,h3⟩
     ·rw[mem_singleton.1 he];exact⟨q,hqm,f3⟩
    have hrec:(Fo z.led ⟨a.name,Ai z.led.entries a.name,Ak q.holds x.proc⟩).1=⟨z.led.entries++[⟨a.name,Ai z.led.entries a.name,Ak q.holds x.proc⟩],z.led.saves⟩:=by
     unfold Fo;rw[if_neg (by simp[(Eh _).2 h.led]),if_neg (by simp[(Eh _).2 hsn])]
    rw[hrec]at hk;have hh:∀ n,Ai (z.led.entries++[⟨a.name,Ai z.led.entries a.name,Ak q.holds x.proc⟩]) n=if a.name==n then Ak q.holds x.proc else Ai z.led.entries n:=fun n=>XV _ _ _
    refine⟨{ z with led:=⟨z.led.entries++[⟨a.name,Ai z.led.entries a.name,Ak q.holds x.proc⟩],z.led.saves⟩ },?_⟩;rw[hk];refine⟨h.ve.set' h.at_ rfl,List.getElem?_set_self (Ae h.at_),⟨_,by rw[hl]⟩,hsn,?_,h.xfit,h.rsv,h.kx,fun p hp=>h.sub p (by simp[hp]),hu.2,?_,?_,fun p hp=>h.grant p (by simp[hp]),h.tr⟩
    ·intro n hn;simp only[hh]
     by_cases e:a.name=n
     ·subst e;exact⟨k,q,f1,f2,f3,by simp only[beq_self_eq_true,if_true];rw[g2];exact gf⟩
     ·obtain⟨b,hb,hbn⟩:=hn;have hb':∃ e∈z.led.entries,e.name=n:=by
       rcases mem_append.1 hb with hb|hb
       ·exact⟨b,hb,hbn⟩
       ·rw[mem_singleton.1 hb]at hbn;exact absurd hbn e
      rw[if_neg (by simpa using e)];exact h.fits n hb'
    ·intro q' hq' hx;have hne':q'.res.name≠a.name:=fun e=>hnk _ e hx
     simp only[hh];rw[if_neg (by simpa using Ne.symm hne')];exact h.todo q' hq' ((hother q' hq' hne' (true,a)).2 hx)
    ·intro q' hq' hx;simp only[hh]
     by_cases e:q'.res.name=a.name
     ·have:=hname q' hq' e;subst this;rw[if_pos (by simpa using e.symm)];exact⟨g1,rfl⟩
     ·rw[if_neg (by simpa using Ne.symm e)];exact h.done q' hq' fun hx'=>hx ((hother q' hq' e (true,a)).1 hx')
   ·rw[g1,hc]at hgr;cases hgr
  ·have hkf:=p1 hc;rw[if_pos (by simpa [hlz]using hkf.2)]at hk;refine⟨z,?_⟩;rw[hk];refine⟨h.ve,h.at_,h.eq,h.led,h.fits,h.xfit,h.rsv,h.kx,fun p hp=>h.sub p (by simp[hp]),hu.2,fun q' hq' hx=>?_,fun q' hq' hx=>?_,fun p hp=>h.grant p (by simp[hp]),h.tr⟩
   ·exact h.todo q' hq' ((hother q' hq' (fun e=>hnk _ e hx) (true,a)).2 hx)
   ·by_cases e:q'.res.name=a.name
    ·have:=hname q' hq' e;subst this;rw[e,hlz];exact hkf
    ·exact h.done q' hq' fun hx'=>hx ((hother q' hq' e (true,a)).1 hx')
theorem SC.all{t0:List Queue}{i:Nat}{x:Pcs}:∀ (kl:List (Bool × Atom)) {z:Pcs} {w:Work},SC t0 i x z w kl→∃ z',SC t0 i x z' (CA w i x kl) []
 |[],z,_,h=>⟨z,h⟩
 |(kp,a)::kl,_,_,h=>by
  obtain⟨z',h'⟩:=h.step;exact SC.all kl h'
theorem Sv{f:Atom→Bs}:∀ (l:List Bool) (m:List Atom),(m.map f).Nodup→((l.zip m).map fun p=>f p.2).Nodup
 |[],_,_=>by simp
 |_::_,[],_=>by simp
 | b::l,a::m,h=>by
  have h':=nodup_cons.1 (show (f a::m.map f).Nodup from h);simp only[List.zip_cons_cons,List.map_cons];refine nodup_cons.2 ⟨fun hm=>h'.1 ?_,Sv l m h'.2⟩;obtain⟨p,hp,e⟩:=mem_map.1 hm;rw[← e];exact mem_map.2 ⟨p.2,(List.of_mem_zip hp).2,rfl⟩
theorem Qb(i:Nat)(x:Pcs):∀ (kl:List (Bool × Atom)) (w:Work),(CA w i x kl).now=w.now
 |[],_=>rfl
 |(kp,a)::kl,w=>by
  show (CA (E5 w i x kp a.name) i x kl).now=w.now;rw[Qb i x kl];unfold E5;split
  ·exact NH _ _ _
  ·split
   ·rfl
   ·split<;>rfl
theorem Eb(x:Pcs):Ea x=true↔x.proc.ok=true∧1≤x.cost∧x.cost≤1000∧AP x.led=true∧0≤x.gen∧x.gen≤1073741824:=by
 simp only[Ea,and_eq_true,decide_eq_true_eq];exact⟨fun⟨⟨⟨⟨⟨a,b⟩,c⟩,d⟩,e⟩,f⟩=>⟨a,b,c,d,e,f⟩,fun⟨a,b,c,d,e,f⟩=>⟨⟨⟨⟨⟨a,b⟩,c⟩,d⟩,e⟩,f⟩⟩
theorem I8{now:Int}{t:List Queue}{x y:Pcs}(hx:Ea x=true)(hp:y.proc=x.proc)(hc:y.cost=x.cost)(hl:Fu y.led)(hg:0≤y.gen∧y.gen≤1073741824)(hf:HP t y)(hw:y.waiting=false)(hr:Ra y.req=true)(hs:y.since=0)(hi:Idle t y):Fine now t y where
 head:=by
  obtain⟨a,b,c,_⟩:=(Eb x).1 hx;exact(Eb y).2 ⟨hp▸a,hc▸b,hc▸c,(Eh _).2 hl,hg⟩
 fits:=hf
 wait:=fun h=>by rw[hw]at h;cases h
 idle:=fun _=>⟨hr,hs,hi⟩
theorem Tm:Ra C6=true:=by kernel_rfl
theorem J1{w:Work}{i:Nat}{x:Pcs}(h:VE none w)(hx:w.procs[i]?=some x)(hw:x.waiting=true):VE none (B2 w i x)∧Cj x.proc w.queues (B2 w i x).queues∧(B2 w i x).now=w.now:=by
 have hf:=h.fine i x hx (by simp);obtain⟨r1,r2,r3,r4,r5⟩:=hf.wait hw;have ht:=h.je.tab;have h0:SC w.queues i x x (Bv w 2 x.proc) ((B9 x.req.expr (AU w.queues x.proc x.req.expr)).zip (Ad x.req.expr)):=by
  refine⟨(h.but i).note 2 x.proc,hx,⟨x.led,rfl⟩,hf.led,hf.fits,hf.fits,r2,hf.K ht,fun p hp=>(List.of_mem_zip hp).2,Sv _ _ (EY _),fun q hq _=>⟨rfl,r5 q hq⟩,fun q hq hn=>?_,fun p hp hp1 q hq hn=>?_,.refl ht⟩
  ·refine Qt _ (fun a ha e=>hn ?_) (r5 q hq);obtain⟨j,hj⟩:=List.getElem?_of_mem ha;have hlt:=Ae hj;have hl:j<(B9 x.req.expr (AU w.queues x.proc x.req.expr)).length:=by rw[Qz];exact hlt
   refine⟨((B9 x.req.expr (AU w.queues x.proc x.req.expr))[j],a),?_,e.symm⟩;have:((B9 x.req.expr (AU w.queues x.proc x.req.expr)).zip (Ad x.req.expr))[j]?=some ((B9 x.req.expr (AU w.queues x.proc x.req.expr))[j],a):=by
    rw[List.getElem?_zip_eq_some];exact⟨gE hl,hj⟩
   exact mG this
  ·obtain⟨j,hj⟩:=List.getElem?_of_mem hp;rw[List.getElem?_zip_eq_some]at hj;rw[hp1]at hj;have:=Yd hj.1;simp only[AU,List.getD,gm,hj.2]at this;simp only[map_some,getD_some]at this;unfold GA at this;obtain⟨k,hk⟩:=List.getElem?_of_mem hq;have hfq:=MO ht hk;rw[hn]at hfq;rw[hfq]at this;have hk':w.queues[k]?=some q:=hk;simp only[show w.queues.getD k q0=q by simp[List.getD,hk']]at this;exact this
 obtain⟨z,hz⟩:=SC.all _ h0;have hnow:=Qb i x ((B9 x.req.expr (AU w.queues x.proc x.req.expr)).zip (Ad x.req.expr)) (Bv w 2 x.proc);simp only[B2];generalize CA (Bv w 2 x.proc) i x ((B9 x.req.expr (AU w.queues x.proc x.req.expr)).zip (Ad x.req.expr))=w1 at hz hnow ⊢;obtain⟨l,hl⟩:=hz.eq;have e1:w1.procs.getD i x0=z:=by simp[List.getD,hz.at_]
 have hi:=Ae hz.at_;have e2:(At w1 i (A7 z)).procs.getD i x0=A7 z:=by simp[At,List.getD,hi]
 rw[e1,e2];have e3:(At w1 i (A7 z)).procs[i]?=some (A7 z):=by simp[At,hi]
 refine⟨VE.set (hz.ve.set' hz.at_ rfl) e3 rfl (I8 hf.head (by rw[hl];rfl) (by rw[hl];rfl) hz.led (H7 _) (fun n hn=>hz.fits n hn) rfl Tm rfl fun q hq=>?_),hz.tr,hnow⟩;have:=hz.done q hq (by simp);rw[show (Bf (A7 z)).proc=x.proc by rw[hl];rfl];exact this
def Dk(ms:List Proc)(q:Queue):Queue:=ms.foldl BG q
theorem cH{q q':Queue}(hv:valid q=true)(hv':valid q'=true)(h:er q'=er q)(p:Proc):er (BG q' p)=er (BG q p):=by
 rw[Fp hv,Fp hv',← L8 _ _ (Nat.le_refl _),← L8 _ _ (Nat.le_refl _),Y1,Y1,h]
theorem E3:∀ (ms:List Proc) {q:Queue},valid q=true→valid (Dk ms q)=true
 |[],_,h=>h
 | m::ms,_,h=>E3 ms (Ft h m)
theorem MS:∀ (ms:List Proc) {q q':Queue},valid q=true→valid q'=true→er q'=er q→er (Dk ms q')=er (Dk ms q)
 |[],_,_,_,_,h=>h
 | m::ms,_,_,hv,hv',h=>MS ms (Ft hv m) (Ft hv' m) (cH hv hv' h m)
theorem RJ(p:Proc):∀ (ms:List Proc) {q:Queue},valid q=true→Dk ms (BG q p)=BG (Dk ms q) p
 |[],_,_=>rfl
 | m::ms,q,h=>by
  show Dk ms (BG (BG q p) m)=BG (Dk ms (BG q m)) p;rw[QD h,RJ p ms (Ft h m)]
theorem Lo(a b:List Proc)(q:Queue):Dk (a++b) q=Dk b (Dk a q):=by simp[Dk,List.foldl_append]
theorem Mc:∀ (a b:List Proc) {q:Queue},valid q=true→Dk a (Dk b q)=Dk b (Dk a q)
 |[],_,_,_=>rfl
 | m::a,b,q,h=>by
  show Dk a (BG (Dk b q) m)=Dk b (Dk a (BG q m));rw[← RJ m b h,Mc a b (Ft h m)]
structure QU(ms:List Proc)(t t':List Queue):Prop where
 len:t'.length=t.length
 each:∀ (k:Nat) (q:Queue),t[k]?=some q→∃ q',t'[k]?=some q'∧valid q'=true∧q'.res=q.res∧(∀ y,y∉ms→FT y q q')∧er (Dk ms q')=er (Dk ms q)
theorem Cj.off{p:Proc}{t t':List Queue}(h:Cj p t t'):QU [p] t t':=⟨h.len,fun k q hq=>by
 obtain⟨q',h1,h2⟩:=h.each k q hq;exact⟨q',h1,h2.val,h2.res,fun y hy=>h2.same y (by simpa using hy),h2.cut⟩⟩
theorem QU.refl{t:List Queue}(ht:Ck t):QU [] t t:=⟨rfl,fun _ q hq=>⟨q,hq,ht.val q (mG hq),rfl,fun _ _=>.refl q,rfl⟩⟩
theorem QU.trans{ms ms':List Proc}{a b c:List Queue}(ha:∀ q∈a,valid q=true)(h:QU ms a b)(h':QU ms' b c):QU (ms++ms') a c:=⟨h'.len.trans h.len,fun k q hq=>by
 obtain⟨q1,h1,v1,r1,s1,c1⟩:=h.each k q hq;obtain⟨q2,h2,v2,r2,s2,c2⟩:=h'.each k q1 h1;have v0:=ha q (mG hq);refine⟨q2,h2,v2,r2.trans r1,fun y hy=>?_,?_⟩
 ·simp only[mem_append,not_or]at hy;exact(s1 y hy.1).trans (s2 y hy.2)
 ·rw[Lo,Lo,Mc ms' ms v2,MS ms (E3 ms' v1) (E3 ms' v2) c2,Mc ms ms' v1,MS ms' (E3 ms v0) (E3 ms v1) c1]⟩
structure Run(ms:List Proc)(w w':Work):Prop where
 off:QU ms w.queues w'.queues
 same:∀ x∈w.procs,x.proc∉ms→x∈w'.procs
 back:∀ x∈w'.procs,x.proc∉ms→x∈w.procs
theorem Run.refl{w:Work}(ht:Ck w.queues):Run [] w w:=⟨.refl ht,fun _ h _=>h,fun _ h _=>h⟩
theorem Run.trans{ms ms':List Proc}{a b c:Work}(ht:Ck a.queues)(h:Run ms a b)(h':Run ms' b c):Run (ms++ms') a c where
 off:=h.off.trans ht.val h'.off
 same:=fun x hx hn=>by
  simp only[mem_append,not_or]at hn;exact h'.same x (h.same x hx hn.1) hn.2
 back:=fun x hx hn=>by
  simp only[mem_append,not_or]at hn;exact h.back x (h'.back x hx hn.2) hn.1
theorem run_set{w w':Work}{i:Nat}{x y:Pcs}(hx:w.procs[i]?=some x)(hy:y.proc=x.proc)(hp:w'.procs=w.procs.set i y)(hs:Cj x.proc w.queues w'.queues):Run [x.proc] w w' where
 off:=hs.off
 same:=fun z hz hn=>by
  rw[hp];obtain⟨j,hj⟩:=List.getElem?_of_mem hz;have hne:i≠j:=fun e=>by
   subst e;rw[hx]at hj;rw[← Option.some.inj hj]at hn;simp at hn
  exact mG (i:=j) (by rw[List.getElem?_set_ne hne];exact hj)
 back:=fun z hz hn=>by
  rw[hp]at hz;rcases List.mem_or_eq_of_mem_set hz with hz|rfl
  ·exact hz
  ·simp[hy]at hn
theorem OZ{w:Work}{i:Nat}{x:Pcs}(h:VE none w)(hx:w.procs[i]?=some x)(hw:x.waiting=true):Run [x.proc] w (B2 w i x):=by
 obtain⟨y,h1,_,h3⟩:=FL hx;exact run_set hx h3 h1 (J1 h hx hw).2.1
theorem Jj{w:Work}{x:Pcs}(h:GG w x=true):x.waiting=true:=by
 simp only[GG,and_eq_true]at h;exact h.1
theorem QJ:∀ (n:Nat) (w:Work),VE none w→VE none (Cr n w)∧(Cr n w).now=w.now
 | 0,_,h=>⟨h,rfl⟩
 | n+1,w,h=>by
  simp only[Cr];cases hs:Fq w with
  |none=>exact⟨h,rfl⟩
  |some i =>
   obtain⟨x,hx,hsat⟩:=EE hs;simp only[show w.procs.getD i x0=x by simp[List.getD,hx]];obtain⟨h1,_,h3⟩:=J1 h hx (Jj hsat);obtain⟨g1,g2⟩:=QJ n _ h1;exact⟨g1,g2.trans h3⟩
theorem Ii{w:Work}(h:VE none w):VE none (AQ w)∧(AQ w).now=w.now:=QJ _ w h
theorem LR:∀ (n:Nat) (w:Work),wcount w≤n→Fq (Cr n w)=none
 | 0,w,h=>by
  show Fq w=none;unfold Fq;rw[List.findIdx?_eq_none_iff];intro x hx;cases hs:GG w x
  ·rfl
  ·have hc:wcount w=0:=by omega
   unfold wcount at hc;rw[List.countP_eq_zero]at hc;exact absurd (Jj hs) (hc x hx)
 | n+1,w,h=>by
  simp only[Cr];cases hs:Fq w with
  |none=>exact hs
  |some i =>
   obtain⟨x,hx,hsat⟩:=EE hs;simp only[show w.procs.getD i x0=x by simp[List.getD,hx]];have:=(IH hs hx hsat).2;exact LR n _ (by omega)
theorem LS(w:Work):Fq (AQ w)=none:=LR _ w (Nat.le_refl _)
theorem O2:∀ (n:Nat) (w:Work),VE none w→∃ ms,Run ms w (Cr n w)∧(∀ m∈ms,∃ x∈w.procs,x.proc=m∧x.waiting=true)∧∀ x∈(Cr n w).procs,x.proc∈ms→x.waiting=false
 | 0,w,h=>⟨[],.refl h.je.tab,fun _ hm=>by(cases hm),fun _ _ hm=>by(cases hm)⟩
 | n+1,w,h=>by
  simp only[Cr];cases hs:Fq w with
  |none=>exact⟨[],.refl h.je.tab,fun _ hm=>by(cases hm),fun _ _ hm=>by(cases hm)⟩
  |some i =>
   obtain⟨x,hx,hsat⟩:=EE hs;have hwt:=Jj hsat;simp only[show w.procs.getD i x0=x by simp[List.getD,hx]];have h1:=(J1 h hx hwt).1;have h2:=OZ h hx hwt;obtain⟨ms,g1,g2,g3⟩:=O2 n _ h1;obtain⟨y,p1,p2,p3⟩:=FL hx;have hyi:(B2 w i x).procs[i]?=some y:=by rw[p1];exact List.getElem?_set_self (Ae hx)
   have key:∀ z∈(B2 w i x).procs,z.proc=x.proc→z=y:=fun z hz e=>by
    obtain⟨j,hj⟩:=List.getElem?_of_mem hz;have:=h1.je.uq j i z y hj hyi (e.trans p3.symm);subst this;rw[hyi]at hj;exact(Option.some.inj hj).symm
   have hnm:x.proc∉ms:=fun hm=>by
    obtain⟨z,z1,z2,z3⟩:=g2 _ hm;rw[key z z1 z2,p2]at z3;cases z3
   refine⟨[x.proc]++ms,h2.trans h.je.tab g1,fun m hm=>?_,fun z hz hm=>?_⟩
   ·rcases mem_append.1 hm with hm|hm
    ·exact⟨x,mG hx,(mem_singleton.1 hm).symm,hwt⟩
    ·obtain⟨z,z1,z2,z3⟩:=g2 m hm;have hne:z.proc∉[x.proc]:=fun e=>hnm (by rw[← mem_singleton.1 e,z2];exact hm)
     exact⟨z,h2.back z z1 hne,z2,z3⟩
   ·rcases mem_append.1 hm with hm|hm
    ·have:=g1.back z hz (by rw[mem_singleton.1 hm];exact hnm);rw[key z this (mem_singleton.1 hm)];exact p2
    ·exact g3 z hz hm
theorem K8{w:Work}(h:VE none w):∃ ms,Run ms w (AQ w)∧(∀ m∈ms,∃ x∈w.procs,x.proc=m∧x.waiting=true)∧∀ x∈(AQ w).procs,x.proc∈ms→x.waiting=false:=O2 _ w h
theorem O1{D:List Proc}{w0:Work}(ht:Ck w0.queues)(H:∀ (ms:List Proc) (w:Work),VE none w→Run ms w0 w→(∀ m∈ms,m∉D)→∀ x∈w.procs,GG w x=true→x.proc∉D):∀ (n:Nat) (ms:List Proc) (w:Work),VE none w→Run ms w0 w→(∀ m∈ms,m∉D)→∃ ms',Run ms' w0 (Cr n w)∧∀ m∈ms',m∉D
 | 0,ms,_,_,hr,hm=>⟨ms,hr,hm⟩
 | n+1,ms,w,h,hr,hm=>by
  simp only[Cr];cases hs:Fq w with
  |none=>exact⟨ms,hr,hm⟩
  |some i =>
   obtain⟨x,hx,hsat⟩:=EE hs;have hwt:=Jj hsat;simp only[show w.procs.getD i x0=x by simp[List.getD,hx]];have hxD:=H ms w h hr hm x (mG hx) hsat;exact O1 ht H n (ms++[x.proc]) _ (J1 h hx hwt).1 (hr.trans ht (OZ h hx hwt)) fun m hm'=>by
    rcases mem_append.1 hm' with hm'|hm'
    ·exact hm m hm'
    ·rw[mem_singleton.1 hm'];exact hxD
theorem Rt{i:Nat}{x z:Pcs}:∀ (az:List Atom) (w:Work),VE (some i) w→w.procs[i]?=some z→z.proc=x.proc→KX w.queues x→(∀ a∈az,∃ k,By w.queues a.name=some k) →
 VE (some i) (C9 w x az)∧Cj x.proc w.queues (C9 w x az).queues∧(C9 w x az).now=w.now
 |[],w,h,_,_,_,_=>⟨h,.refl h.je.tab,rfl⟩
 | a::az,w,h,hz,hp,hk,hf=>by
  obtain⟨k,hfk⟩:=hf a (by simp);obtain⟨_,q,hq,hn⟩:=CH hfk;obtain⟨q1,e1,e2,_,e4⟩:=WL h hz hp hk hfk hq hn;have hst:Cj x.proc w.queues (CV w x a.name).queues:=by rw[e1];exact GK h.je.tab hq e2
  obtain⟨g1,g2,g3⟩:=Rt az (CV w x a.name) e4 (by rw[E0];exact hz) hp (HY h.je.tab hk ⟨k,hfk⟩).2.2.1 fun b hb=>by
   rw[HE hst.res];exact hf b (by simp[hb])
  exact⟨g1,hst.trans g2,g3.trans (NH _ _ _)⟩
theorem F0{w:Work}{i:Nat}{x:Pcs}(h:VE none w)(hx:w.procs[i]?=some x)(hw:x.waiting=true):VE none (Au w i x)∧Cj x.proc w.queues (Au w i x).queues∧(Au w i x).now=w.now∧Idle (Au w i x).queues x:=by
 have hf:=h.fine i x hx (by simp);obtain⟨r1,r2,r3,r4,r5⟩:=hf.wait hw;obtain⟨g1,g2,g3⟩:=Rt (Ad x.req.expr) w (h.but i) hx rfl (hf.K h.je.tab) fun a ha=>by
  obtain⟨k,_,hk,_⟩:=Cq h.je.tab r2 ha;exact⟨k,hk⟩
 have hid:Idle (Au w i x).queues x:=fun q hq=>by
  rcases(DK h.je hx hw).2.2 q hq with hk|⟨hm,hn⟩
  ·exact hk
  ·exact Qt _ hn (r5 q hm)
 have hxx:(C9 w x (Ad x.req.expr)).procs[i]?=some x:=by rw[F5];exact hx
 refine⟨VE.set g1 hxx rfl (I8 hf.head rfl rfl hf.led ?_ (fun n hn=>hf.fits.res g2.res n hn) rfl Tm rfl hid),g2,g3,hid⟩;obtain⟨_,_,_,_,a,b⟩:=(Eb x).1 hf.head;exact⟨a,b⟩
theorem Qu{q:Queue}{x y:Pcs}(h1:y.proc=x.proc)(h2:y.led=x.led)(h3:y.req=x.req):∀ az,Cc q y az=Cc q x az
 |[]=>by simp only[Cc,h1,h2]
 | a::az=>by simp only[Cc,h1,h2,h3,Qu h1 h2 h3 az]
theorem Fine.next{now:Int}{t:List Queue}{x:Pcs}(h:Fine now t x):Fine now t (Bf x) where
 head:=by
  obtain⟨a,b,c,d,_⟩:=(Eb x).1 h.head;exact(Eb _).2 ⟨a,b,c,d,H7 _⟩
 fits:=h.fits
 wait:=fun hw=>by
  obtain⟨a,b,c,d,e⟩:=h.wait hw;exact⟨a,b,c,d,fun q hq=>(Qu (x:=x) (y:=Bf x) rfl rfl rfl _).trans (e q hq)⟩
 idle:=h.idle
theorem VE.next{w:Work}{i:Nat}{x:Pcs}(h:VE none w)(hx:w.procs[i]?=some x):VE none (At w i (Bf x)):=(h.but i).set hx rfl (h.fine i x hx (by simp)).next
theorem Ur{w:Work}{i:Nat}{x:Pcs}(h:VE none w)(hx:w.procs[i]?=some x)(hw:x.waiting=true):VE none (Dl w i x)∧(Dl w i x).now=w.now:=by
 obtain⟨g1,_,g3,_⟩:=F0 (h.note 4 x.proc) (i:=i) (x:=x) hx hw;have hi:=Ae hx;have hp:(Au (Bv w 4 x.proc) i x).procs[i]?=some (A7 x):=by rw[AZ];exact List.getElem?_set_self hi
 simp only[Dl];rw[show (Au (Bv w 4 x.proc) i x).procs.getD i x0=A7 x by simp[List.getD,hp]];exact⟨g1.next hp,g3⟩
theorem Ut:∀ (n:Nat) (w:Work),VE none w→Fq w=none→VE none (Hs n w)∧Fq (Hs n w)=none∧(Hs n w).now=w.now∧(wcount w≤n→ML (Hs n w) = -1)
 | 0,w,h,hq=>⟨h,hq,rfl,fun hn=>Hi (w:=w) (by omega)⟩
 | n+1,w,h,hq=>by
  rcases HD w with he|⟨k,x,he,hx,hwt⟩
  ·rw[Ec he];exact⟨h,hq,rfl,fun _=>he⟩
  ·rw[H2 he hx];obtain⟨g1,g2⟩:=Ur h hx hwt;obtain⟨s1,s2⟩:=Ii g1;obtain⟨r1,r2,r3,r4⟩:=Ut n _ s1 (LS _);have h3:=JR w hx hwt;have h4:=GS (Dl w k x);exact⟨r1,r2,r3.trans (s2.trans g2),fun hn=>r4 (by omega)⟩
end Go.Rd
