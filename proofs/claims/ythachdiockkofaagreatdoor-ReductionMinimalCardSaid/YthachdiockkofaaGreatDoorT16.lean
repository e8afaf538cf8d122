/- part 16 of the proof -/
import Derived.Test.YthachdiockkofaaGreatDoorT15
set_option linter.all false
open Go Go.Abs Go.Proofs
set_option maxRecDepth 100000
namespace Go.Rd
set_option maxHeartbeats 8000000
open List (length_map map_nil map_set mem_append mem_cons mem_singleton pairwise_append take_add_one take_length)
open Nat (lt_succ_self)
open Tryz
theorem TF{lv:Int}(h1:0≤lv)(h4:lv≤4):∀ (l:List Expr) (n m:Int),n≤24→n≤(Eg l lv n m).1
 |[],n,m,_=>by simp[Eg]
 | e::l,n,m,hn=>by
  have b:=Iv _ e (lt_succ_self _) (lv+1) (by omega) (by omega)
  simp only[Eg]
  split
  ·simp only;omega
  ·have:=TF h1 h4 l (n+(C3 e (lv+1)).1) (max m (C3 e (lv+1)).2) (by omega)
   have:=b.1
   omega
def msC(e:Expr)(lv:Int):Prop:=∀ n:Int,0≤n→n≤24→((meas e lv n).1≠0→C3 e lv=((meas e lv n).2-n,(meas e lv n).1))∧((meas e lv n).1=0→24<n+(C3 e lv).1)
theorem Pb{lv:Int}(h1:1≤lv)(h4:lv≤4):∀ (l:List Expr) (n0 n m:Int),(∀ e∈l,msC e (lv+1))→1≤n→0≤n0→n0+n≤24→0≤m →
 ((Ee l lv (n0+n) m).1≠0→Eg l lv n m=((Ee l lv (n0+n) m).2-n0,(Ee l lv (n0+n) m).1))∧((Ee l lv (n0+n) m).1=0→24<n0+(Eg l lv n m).1)
 |[],n0,n,m,_,_,_,_,hm=>by
  simp only[Ee,Eg]
  exact⟨fun _=>by rw[show n0+n-n0=n by omega],fun h=>by omega⟩
 | e::l,n0,n,m,hk,a1,a2,a3,hm=>by
  obtain⟨k1,k2⟩:=hk e (by simp) (n0+n) (by omega) a3
  have b:=Kt _ e (lt_succ_self _) (lv+1) (n0+n) (by omega) (by omega) (by omega) a3
  simp only[Ee,Eg]
  by_cases hz:(meas e (lv+1) (n0+n)).1=0
  ·have h24:=k2 hz
   rw[if_pos hz]
   refine⟨fun h=>absurd rfl h,fun _=>?_⟩
   split
   ·simp only;omega
   ·have:=TF (by omega) h4 l (n+(C3 e (lv+1)).1) (max m (C3 e (lv+1)).2) (by omega)
    omega
  ·have hs:=k1 hz
   have hb:=b.2.2.2.2 hz
   have hb0:=b.1
   have hge:=N8 _ e (lt_succ_self _) (lv+1) (n0+n)
   rw[if_neg hz,hs]
   simp only
   have e1:n+((meas e (lv+1) (n0+n)).2-(n0+n))=(meas e (lv+1) (n0+n)).2-n0:=by omega
   rw[e1,if_neg (by omega)]
   have ih:=Pb h1 h4 l n0 ((meas e (lv+1) (n0+n)).2-n0) (max m (meas e (lv+1) (n0+n)).1) (fun e' he=>hk e' (by simp[he])) (by omega) a2 (by omega) (by omega)
   have e2:n0+((meas e (lv+1) (n0+n)).2-n0)=(meas e (lv+1) (n0+n)).2:=by omega
   rw[e2]at ih
   exact ih
theorem QJ:∀ (N:Nat) (e:Expr),SizeOf.sizeOf e<N→∀ lv:Int,1≤lv→lv≤5→msC e lv
 | 0,_,h,_,_,_=>by omega
 | N+1,e,h,lv,h1,h5=>by
  intro n hn0 hn
  have sb:=Iv _ e (lt_succ_self _) lv h1 h5
  rw[Ij]
  by_cases hc:4<lv∨24<n+1
  ·rw[if_pos hc]
   refine⟨fun h=>absurd rfl h,fun _=>?_⟩
   by_cases h4:4<lv
   ·rw[FY,if_pos (.inl h4)];simp only;omega
   ·have:=sb.1;omega
  ·rw[if_neg hc]
   have hL:=Pb h1 (by omega) e.kids n 1 0 (fun e' he=>QJ N e' (by have:=C4 he;omega) _ (by omega) (by omega)) (by omega) hn0 (by omega) (by omega)
   by_cases h24:24<e.kids.length
   ·rw[FY,if_pos (.inr h24)]
    refine⟨fun h=>?_,fun _=>by simp only;omega⟩
    have:=Pa e.kids (n+1) 0 h (by omega) (by omega) fun e' _ n' k1 k2 k3=>⟨N8 _ e' (lt_succ_self _) _ _,(Kt _ e' (lt_succ_self _) (lv+1) n' (by omega) (by omega) k1 k2).2.2.2.2 k3⟩
    omega
   ·rw[FY,if_neg (by omega)]
    exact hL
theorem JY(e:Expr):Fs e=0↔depth e=0:=by
 have h:=QJ _ e (lt_succ_self _) 1 (by omega) (by omega) 0 (by omega) (by omega)
 have b:=Kt _ e (lt_succ_self _) 1 0 (by omega) (by omega) (by omega) (by omega)
 have sb:=(Iv _ e (lt_succ_self _) 1 (by omega) (by omega)).1
 unfold Fs depth
 by_cases hz:(meas e 1 0).1=0
 ·have:=h.2 hz
  rw[if_pos (by omega)]
  simp[hz]
 ·have h1:=h.1 hz
  have h2:=b.2.2.2.2 hz
  have h3:(C3 e 1).1=(meas e 1 0).2:=by rw[h1];simp
  rw[if_neg (by omega)]
  constructor
  ·intro h;omega
  ·intro h;exact absurd h hz
theorem Q1{lv:Int}:∀ (l:List Expr) (n m:Int),(∀ e∈l,(C3 e (lv+1)).1≤24→(cnt e:Int)=(C3 e (lv+1)).1)→1≤lv→lv≤4→0≤n→n≤24→(Eg l lv n m).1≤24→n+(Oy l:Int)=(Eg l lv n m).1
 |[],n,m,_,_,_,_,_,_=>by simp[Eg,Oy]
 | e::l,n,m,hk,h1,h4,hn,hn2,h=>by
  have b:=Iv _ e (lt_succ_self _) (lv+1) (by omega) (by omega)
  simp only[Eg,Oy]at h ⊢
  split at h
  ·simp at h
  ·rename_i hlt
   rw[if_neg hlt]
   have b1:=b.1
   have:=hk e (by simp) (by omega)
   have ih:=Q1 l _ _ (fun e' he=>hk e' (by simp[he])) h1 h4 (by omega) (by omega) h
   rw[← ih]
   omega
theorem Q0:∀ (N:Nat) (e:Expr),SizeOf.sizeOf e<N→∀ lv:Int,1≤lv→lv≤5→(C3 e lv).1≤24→(cnt e:Int)=(C3 e lv).1
 | 0,_,h,_,_,_,_=>by omega
 | N+1,e,h,lv,h1,h5,hs=>by
  rw[FY]at hs ⊢
  split at hs
  ·simp at hs
  ·rename_i hc
   rw[if_neg hc,Rr]
   have:=Q1 e.kids 1 0 (fun e' he hs'=>Q0 N e' (by have:=C4 he;omega) _ (by omega) (by omega) hs') h1 (by omega) (by omega) (by omega) hs
   rw[← this]
   omega
theorem Wd{e:Expr}(h:Fs e≠0):cnt e≤24:=by
 unfold Fs at h
 by_cases h24:24<(C3 e 1).1
 ·simp[h24]at h
 ·have:=Q0 _ e (lt_succ_self _) 1 (by omega) (by omega) (by omega)
  omega
def Ie(l:List Atom):Prop:=l.length≤8∧l.Pairwise fun a b=>a.name≠b.name
theorem SN{l m:List Atom}(h:l <+: m)(hg:Ie m):Ie l:=⟨Nat.le_trans h.length_le hg.1,hg.2.sublist h.sublist⟩
theorem Lz(l:List Atom)(a:Atom):l <+: Dq l a:=by
 unfold Dq
 split
 ·exact List.prefix_refl l
 ·exact List.prefix_append l [a]
theorem Jp:∀ (es:List Expr) (l:List Atom),(∀ e∈es,∀ l,(Fz e l).2=true→l <+: (Fz e l).1)→(GD es l).2=true→l <+: (GD es l).1
 |[],l,_,_=>by simp[GD]
 | e::es,l,hk,h=>by
  simp only[GD]at h ⊢
  split at h
  ·rename_i ht
   rw[if_pos ht]
   exact List.IsPrefix.trans (hk e (by simp) l ht) (Jp es _ (fun e' he=>hk e' (by simp[he])) h)
  ·simp at h
theorem Nb:∀ (N:Nat) (e:Expr),SizeOf.sizeOf e<N→∀ l,(Fz e l).2=true→l <+: (Fz e l).1
 | 0,_,h,_,_=>by omega
 | N+1,e,h,l,ht=>by
  rw[G2]at ht ⊢
  split at ht
  ·rename_i h0
   rw[if_pos h0]
   split at ht
   ·rename_i h1
    rw[if_pos h1]
    exact Lz _ _
   ·simp at ht
  ·rename_i h0
   rw[if_neg h0]
   split at ht
   ·simp at ht
   ·rename_i h1
    rw[if_neg h1]
    exact Jp _ _ (fun e' he l'=>Nb N e' (by have:=C4 he;omega) l') ht
def paC(e:Expr):Prop:=∀ l,Ie l→((prop e l).1=true→Fz e l=((prop e l).2,true)∧Ie (prop e l).2)∧((prop e l).1=false→(Fz e l).2=true→¬ Ie (Fz e l).1)
theorem QS:∀ (es:List Expr),(∀ e∈es,paC e)→∀ l,Ie l→((BS es l).1=true→GD es l=((BS es l).2,true)∧Ie (BS es l).2)∧((BS es l).1=false→(GD es l).2=true→¬ Ie (GD es l).1)
 |[],_,l,hg=>by simp[BS,GD,hg]
 | e::es,hk,l,hg=>by
  obtain⟨k1,k2⟩:=hk e (by simp) l hg
  simp only[BS,GD]
  cases hp:(prop e l).1
  ·simp only[Bool.false_eq_true,if_false,false_implies,true_and,true_implies]
   cases ha:(Fz e l).2
   ·simp
   ·intro ht hgo
    simp only[if_true]at ht hgo
    have h1:=k2 hp ha
    exact h1 (SN (Jp es _ (fun e' he l'=>Nb _ e' (lt_succ_self _) l') ht) hgo)
  ·obtain⟨h1,h2⟩:=k1 hp
   rw[h1]
   simp only[if_true]
   exact QS es (fun e' he=>hk e' (by simp[he])) _ h2
theorem YR{l:List Atom}(h:l.Pairwise fun a b=>a.name≠b.name){a b:Atom}(ha:a∈l)(hb:b∈l)(hn:a.name=b.name):a=b:=by
 induction l with
 | nil=>simp at ha
 | cons x l ih =>
  rw[List.pairwise_cons]at h
  rcases mem_cons.1 ha with e1|ha
  ·rcases mem_cons.1 hb with e2|hb
   ·rw[e1,e2]
   ·exact absurd hn (e1▸h.1 b hb)
  ·rcases mem_cons.1 hb with e2|hb
   ·exact absurd hn.symm (e2▸h.1 a ha)
   ·exact ih h.2 ha hb
theorem Po:∀ (N:Nat) (e:Expr),SizeOf.sizeOf e<N→paC e
 | 0,_,h=>by omega
 | N+1,e,h=>by
  intro l hg
  rw[Db,G2]
  by_cases h0:e.kids.length=0
  ·rw[if_pos h0,if_pos h0]
   by_cases h1:e.k=0∧IG e.atom=true
   ·rw[if_pos h1,if_pos h1]
    simp only
    unfold Ef
    cases hf:l.find? (hit e.atom) with
    |some b =>
     have hb:=List.mem_of_find?_eq_some hf
     have hh:=List.find?_some hf
     by_cases hab:e.atom=b
     ·have:Dq l e.atom=l:=by unfold Dq;rw[if_pos (hab▸hb)]
      rw[this]
      simp[hab,hg]
     ·simp[hab]
      have hname:e.atom.name=b.name:=by
       unfold hit at hh
       simpa [hab]using hh
      intro hgo
      have hb':b∈Dq l e.atom:=(Lz l e.atom).subset hb
      have ha':e.atom∈Dq l e.atom:=by unfold Dq;split<;>simp_all
      exact hab (YR hgo.2 ha' hb' hname)
    |none =>
     have hno:∀ x∈l,e.atom≠x∧e.atom.name≠x.name:=by
      intro x hx
      rw[List.find?_eq_none]at hf
      have:=hf x hx
      unfold hit at this
      simpa using this
     have hm:e.atom∉l:=fun hx=>(hno _ hx).1 rfl
     have hE:Dq l e.atom=l++[e.atom]:=by unfold Dq;rw[if_neg hm]
     rw[hE]
     by_cases h8:l.length=8
     ·simp[h8]
      intro hgo
      have:=hgo.1
      simp at this
      omega
     ·simp[h8]
      refine⟨by have:=hg.1;simp;omega,?_⟩
      rw[pairwise_append]
      refine⟨hg.2,by simp,fun a ha b hb=>?_⟩
      rw[mem_singleton.1 hb]
      exact fun hx=>(hno a ha).2 hx.symm
   ·rw[if_neg h1,if_neg h1]
    simp
  ·rw[if_neg h0,if_neg h0]
   by_cases h1:e.k<1∨(e.kids.length:Int)<e.k∨e.atom≠a0
   ·rw[if_pos h1,if_pos h1]
    simp
   ·rw[if_neg h1,if_neg h1]
    exact QS e.kids (fun e' he=>Po N e' (by have:=C4 he;omega)) l hg
theorem ZX{e:Expr}(h:AQ e=true):Fs e≠0∧Fz e []=(Ag e,true)∧Ie (Ag e):=by
 have hp:=En h
 have hk:=(Po _ e (lt_succ_self _) [] ⟨by simp,by simp⟩).1 hp
 have hc:=Hj _ e (lt_succ_self _) [] hp
 have ha:Ag e=(prop e []).2:=by unfold Ag;rw[if_pos h,hc]
 rw[ha]
 refine⟨?_,hk⟩
 rw[Ne,JY]
 simp[AQ]at h
 exact h.1
theorem YU{e:Expr}(h:AQ e=false)(hn:Fs e≠0)(ha:(Fz e []).2=true):¬ Ie (Fz e []).1:=by
 have hk:=(Po _ e (lt_succ_self _) [] ⟨by simp,by simp⟩).2
 rw[Ne,JY]at hn
 refine hk ?_ ha
 simp[AQ,hn]at h
 exact h
theorem f150_ok(e:Expr):Ac C0 150 [.agg e.c] [] (.tup [Be (Ag e),B (AQ e)]) []:=by
 refine Ac.go f150 ?_
 unfold f150
 refine gO ?_
 refine Aa (f232_ok e) ?_
 have bad:AQ e=false→Ag e=[]:=fun h=>by simp[Ag,h]
 by_cases hn:Fs e=0
 ·have e0:(Fs e==0)=true:=by simp[hn]
  have hx:AQ e=false:=by simp[AQ,(JY e).1 hn]
  simp(disch:=omega)only[go_sem,e0,hx,bad hx]
  exact DR _
 have e0:(Fs e==0)=false:=by simp[hn]
 have hc:=Wd hn
 have hl:=Oh _ e (lt_succ_self _) []
 have hcall:=f233_ok _ e (lt_succ_self _) [] (by simp;omega)
 have hok:=@ZX e
 have hbad:=@YU e
 simp(disch:=omega)only[go_sem,e0]
 generalize Fz e []=x at hl hcall hok hbad
 obtain⟨m,ok⟩:=x
 cases ok
 ·have hx:AQ e=false:=by
   cases h:AQ e
   ·rfl
   ·have:=(hok h).2.1;simp at this
  refine A7 ⟨⟨[],[],[]⟩,[(1,832)],[]⟩ (show Ac C0 233 [Cr 0 [],.agg e.c] [] (.tup [.undef,B false]) [] from hcall) (by simp(disch:=omega)only[go_sem,map_nil];exact .AA (by omega)) rfl (by simp(disch:=omega)only[go_sem]) (.inl rfl) ?_
  simp(disch:=omega)only[go_sem,hx,bad hx]
  exact DR _
 simp only[List.length_nil]at hl
 refine A7 ⟨⟨[],[],[]⟩,[(1,832)],[]⟩ (show Ac C0 233 [Cr 0 [],.agg e.c] [] (.tup [Cr 1 m,B true]) [] from hcall) (by simp(disch:=omega)only[go_sem,map_nil];exact .AA (by omega)) rfl (by simp(disch:=omega)only[go_sem]) (.inl rfl) ?_
 have hb2:AQ e=false→¬ Ie m:=fun h=>hbad h hn rfl
 have hng:¬ Ie m→AQ e=false:=fun h=>by
  cases hx:AQ e
  ·rfl
  ·have h2:=hok hx
   have:m=Ag e:=by have:=h2.2.1;simp at this;exact this
   exact absurd (this▸h2.2.2) h
 by_cases h8:8<m.length
 ·have d8:(8<(m.length:Int))=True:=by simp;omega
  have hx:AQ e=false:=hng fun h=>by have:=h.1;omega
  simp(disch:=omega)only[go_sem,d8,hx,bad hx]
  exact DR _
 have d8:(8<(m.length:Int))=False:=by simp;omega
 simp(disch:=omega)only[go_sem,d8,decide_false]
 refine Ab (α:=Nat) (fun i=>⟨[(6,I i),(4,Cr 832 m)],[]⟩) (fun i=>i≤m.length∧(m.take i).Pairwise fun a b=>a.name≠b.name) (fun i=>m.length-i) 0 ⟨by omega,by simp⟩ ?_ ?_
 ·refine Imp.weak ?_ ?_
  ·exact gI
  ·exact gI
 rintro i ⟨hi,hP⟩ J hJ
 refine gO ?_
 refine ⟨fun hlt=>?_,fun hge=>?_⟩
 rotate_left
 ·have hil:i=m.length:=by simp at hge;omega
  subst hil
  rw[take_length]at hP
  have hg:Ie m:=⟨by omega,hP⟩
  have hx:AQ e=true:=by
   cases h:AQ e
   ·exact absurd hg (hb2 h)
   ·rfl
  have hm:m=Ag e:=by have:=(hok hx).2.1;simp at this;exact this
  simp(disch:=omega)only[go_sem,hx,← hm]
  refine B3 ⟨[],[],[832]⟩ _ ?_
  simp(disch:=omega)only[go_sem,hm]
 obtain⟨b,hb⟩:∃ b,m[i]?=some b:=⟨_,gE (by simp at hlt;omega)⟩
 have hlt2:i<m.length:=by simp at hlt;omega
 refine Ab (α:=Nat) (fun j=>⟨[(7,I j),(6,I i),(4,Cr 832 m)],[]⟩) (fun j=>j≤i∧∀ x∈m.take j,x.name≠b.name) (fun j=>i-j) 0 ⟨by omega,by simp⟩ ?_ ?_
 ·refine Imp.weak ?_ ?_
  ·exact gI
  ·exact gI
 rintro j ⟨hj,hQ⟩ K hK
 refine gO ?_
 refine And.intro (fun hlt'=>?_) (fun hge'=>?_)
 rotate_left
 ·have hji:j=i:=by simp at hge';omega
  subst hji
  refine hJ _ (j+1) ⟨by omega,?_⟩ (by omega) (Imp.weak ?_ ?_)
  ·rw[take_add_one,hb,pairwise_append]
   exact⟨hP,by simp,fun a ha c hc=>by simp at hc;rw[hc];exact hQ a ha⟩
  ·exact gI
  ·exact gI
 ·have hjl:j<i:=by simp at hlt';omega
  obtain⟨c,hc'⟩:∃ c,m[j]?=some c:=⟨_,gE (by omega)⟩
  refine Aj 10 [([],[4]),([],[6]),([],[34,35]),([],[36]),([],[37]),([],[4]),([],[7]),([],[39,40]),([],[41]),([],[42])] fol ?_
  simp(disch:=omega)only[go_sem,gm,hb,hc']
  by_cases hne:b.name=c.name
  ·have e9:(b.name==c.name)=true:=by simp[hne]
   have hx:AQ e=false:=hng fun h=>by
    have:=List.pairwise_iff_getElem.1 h.2 j i (by omega) hlt2 hjl
    rw[gE (by omega)]at hb hc'
    simp at hb hc'
    rw[hb,hc']at this
    exact this hne.symm
   simp(disch:=omega)only[go_sem,e9,hx,bad hx]
   exact DR _
  ·have e9:(b.name==c.name)=false:=by simp[hne]
   simp(disch:=omega)only[go_sem,e9]
   refine hK _ (j+1) ⟨by omega,?_⟩ (by omega) AE
   intro x hx
   rw[take_add_one,hc']at hx
   simp only[Option.toList,mem_append,mem_singleton]at hx
   rcases hx with hx|hx
   ·exact hQ x hx
   ·rw[hx];exact fun h=>hne h.symm
theorem f106_ok(e:Expr):Ac C0 106 [.agg e.c] [] (B (AQ e)) []:=by
 refine Ac.go f106 ?_
 unfold f106
 refine gO ?_
 refine Aa (f150_ok e) ?_
 refine gO ?_
 exact Av _
theorem f93_ok(e:Expr):Ac C0 93 [.agg e.c] [] (Be (Ag e)) []:=by
 refine Ac.go f93 ?_
 unfold f93
 refine gO ?_
 refine Aa (f150_ok e) ?_
 refine gO ?_
 exact Av _
theorem Yr(l:List Proc)(hl:l.length≤1000000):Ac C0 76 [Aq l] [] (J0 0 (Jk l)) []:=by
 refine Ac.go f76 ?_
 unfold f76
 refine gO ?_
 refine Ab (α:=Nat × List Proc) (fun x=>⟨[(4,I x.1),(3,.sl (.own 1728 0) 3 (x.2.map Proc.c)),(0,Aq l)],[]⟩) (fun x=>x.1≤l.length∧x.2.length≤x.1∧Hn x.2∧∀ p,p∈x.2↔p∈l.take x.1) (fun x=>l.length-x.1) (0,[]) ⟨by simp,by simp,by simp[Hn],by simp⟩ ?_ ?_
 ·refine Imp.weak ?_ ?_
  ·simp(disch:=omega)only[go_sem,map_nil]
  ·exact gI
 rintro⟨i,out⟩ ⟨hi,hol,hasc,hmem⟩ J hJ
 replace hi:i≤l.length:=hi
 replace hol:out.length≤i:=hol
 replace hasc:Hn out:=hasc
 replace hmem:∀ p,p∈out↔p∈l.take i:=hmem
 refine gO ?_
 refine ⟨fun hlt=>?_,fun hge=>?_⟩
 ·have hlt':i<l.length:=by simp at hlt;omega
  obtain⟨p,hp⟩:∃ p,l[i]?=some p:=⟨_,gE hlt'⟩
  have ht:=Gk hp
  simp(disch:=omega)only[go_sem,gm,hp]
  refine Dr [1728] (f29_ok out p (by omega)) (by simp(disch:=omega)only[go_sem]) rfl trivial ?_
  cases hh:AK out p
  rotate_left
  ·have hin:p∈out:=by simpa [AK]using hh
   refine gO ?_
   refine hJ _ (i+1,out) ⟨by simp;omega,by simp;omega,hasc,fun x=>?_⟩ (by simp;omega) AE
   rw[ht,mem_append,← hmem x]
   simp only[mem_singleton]
   exact⟨.inl,fun h=>h.elim id fun e=>by rw[e];exact hin⟩
  have hnin:p∉out:=by simpa [AK]using hh
  have hbd:out.length+1≤4294967296:=by omega
  simp(disch:=omega)only[go_sem,gm,hp]
  refine Ab (α:=Nat) (fun k=>⟨[(5,I k),(4,I i),(3,.sl (.own 1728 0) 3 ((Fq out k p).map Proc.c)),(0,Aq l)],[]⟩) (fun k=>k≤out.length∧∀ x∈out.drop k,A2 p x<0) (fun k=>k) out.length ⟨by omega,by simp⟩ ?_ ?_
  ·refine Imp.weak ?_ ?_
   ·simp(disch:=omega)only[go_sem]
    exact .sl (by simp[Fq,Proc.c])
   ·exact gI
  rintro k ⟨hk,hgt⟩ J2 hJ2
  have stop:(∀ x∈out.take k,A2 x p<0)→∀ st',Imp ⟨C0,[],[]⟩ st' ⟨[(4,I (i+1:Nat)),(3,.sl (.own 1728 0) 3 ((Fq out k p).map Proc.c)),(0,Aq l)],[]⟩→J st':=fun hlt2 st' him=>by
   refine hJ st' (i+1,Fq out k p) ⟨by simp;omega,by simp[L2 out k p hk];omega,?_,fun x=>?_⟩ (by simp;omega) him
   ·have h0:=hasc
    unfold Hn at h0 ⊢
    rw[← List.take_append_drop k out]at h0
    rw[pairwise_append]at h0
    show (Fq out k p).Pairwise _
    unfold Fq
    rw[pairwise_append]
    refine⟨h0.1,List.pairwise_cons.2 ⟨hgt,h0.2.1⟩,fun a ha b hb=>?_⟩
    rcases mem_cons.1 hb with e|e
    ·rw[e];exact hlt2 a ha
    ·exact h0.2.2 a ha b e
   ·show x∈Fq out k p↔x∈l.take (i+1)
    rw[Tb,ht,mem_append,← hmem x]
    simp
  refine Aj 12 [([],[5]),([],[28]),([],[29]),([],[3,30]),([],[5,30]),([],[32,30]),([],[31,33,30]),([],[34,30]),([],[3,30]),([],[5,30]),([],[36,37,30]),([],[38,30])] fol ?_
  cases k with
  | zero =>
   have e0:(0<((0:Nat):Int))=False:=by simp
   simp(disch:=omega)only[go_sem,e0,decide_false]
   exact stop (by simp) _ AE
  | succ k =>
   have e0:(0<(((k+1:Nat)):Int))=True:=eq_true (by omega)
   have e1:(0<(k:Int)+1)=True:=eq_true (by omega)
   have e2:((k:Int)+1-1)=(k:Int):=by omega
   obtain⟨x,hx⟩:∃ x,out[k]?=some x:=⟨_,gE (by omega)⟩
   have g1:=Ta out (k+1) p hk
   have g2:=QM out k p hk
   rw[hx]at g2
   have hml:=L2 out (k+1) p hk
   have z1:k<(Fq out (k+1) p).length:=by omega
   have z2:k+1<(Fq out (k+1) p).length:=by omega
   simp(disch:=omega)only[go_sem,e0,e1,e2,gm,g1,g2,length_map,hml]
   refine Aa (f107_ok x p) ?_
   refine gO ?_
   by_cases hc:0<A2 x p
   ·have e3:(0<A2 x p)=True:=eq_true hc
    have e4:(k=k+1)=False:=eq_false (by omega)
    simp(disch:=omega)only[go_sem,e2,e3,gm,g1,g2,length_map,hml,List.length_set,List.getElem?_set,e4]
    refine hJ2 _ k ⟨by omega,fun y hy=>?_⟩ (by omega) (Imp.weak ?_ (by simp(disch:=omega)only[go_sem]))
    ·rw[List.drop_eq_getElem_cons (by omega),get_eq hx]at hy
     rcases mem_cons.1 hy with e|e
     ·subst e;have:=Cx y p;omega
     ·exact hgt y e
    ·simp(disch:=omega)only[go_sem]
     refine .sl ?_
     rw[← QN hx,map_set,map_set]
     rfl
   ·have e3:(0<A2 x p)=False:=eq_false hc
    simp(disch:=omega)only[go_sem,e3,decide_false]
    refine stop (fun y hy=>?_) _ AE
    have hxm:x∈out:=mG hx
    have hxp:A2 x p<0:=by
     have:A2 x p≠0:=fun e=>hnin (by rw[← Fi e];exact hxm)
     omega
    rw[Gk hx]at hy
    rcases mem_append.1 hy with e|e
    ·have h0:=hasc
     unfold Hn at h0
     rw[← List.take_append_drop k out,pairwise_append]at h0
     have hd:out.drop k=x::out.drop (k+1):=by rw[List.drop_eq_getElem_cons (by omega),get_eq hx]
     exact CR (h0.2.2 y e x (by rw[hd];simp)) hxp
    ·rw[mem_singleton.1 e];exact hxp
 ·have hil:i=l.length:=by simp at hge;omega
  subst hil
  rw[take_length]at hmem
  have e:out=Jk l:=Ly hasc (Dp l) fun x=>by rw[hmem,GV]
  refine B3 ⟨[(1728,0)],[],[]⟩ _ ?_
  simp(disch:=omega)only[go_sem,e]
theorem f75_ok(l:List Queue)(h1:l.length≤100)(h2:∀ q∈l,Br q≤100):Ac C0 75 [At l] [] (J0 0 (Aw l)) []:=by
 refine Ac.go f75 ?_
 unfold f75
 refine gO ?_
 refine Ab (α:=Nat) (fun i=>⟨[(4,I i),(0,At l),(3,.sl (.own 1088 0) 3 (((l.take i).flatMap Bm).map Proc.c))],[]⟩) (fun i=>i≤(l).length∧True) (fun i=>(l).length-i) 0 ⟨by omega,trivial⟩ ?_ ?_
 ·exact Bu
 rintro i ⟨hi,hP⟩ J hJ
 refine gO ?_
 refine ⟨fun hlt=>?_,fun hge=>?_⟩
 rotate_left
 have hil:i=(l).length:=by simp at hge;omega
 rotate_left
 obtain⟨b,hb⟩:∃ b,(l)[i]?=some b:=⟨_,gE (by simp at hlt;omega)⟩
 have hbm:=mG hb
 have hlt2:i<(l).length:=by simp at hlt;omega
 simp(disch:=omega)only[go_sem,gm,hb]
 ·have hfl:=JL (l:=l.take i) fun q hq=>h2 q (List.mem_of_mem_take hq)
  have hq:=Hi b
  have hb2:=h2 b hbm
  have hbd:((l.take i).flatMap Bm).length+(Bm b).length≤4294967296:=by simp only[List.length_take]at hfl;omega
  refine Aa (f134_ok b (by omega)) ?_
  refine gO ?_
  refine hJ _ (i+1) ⟨by simp at hlt;omega,trivial⟩ (by simp at hlt;omega) (Imp.weak ?_ ?_)
  all_goals(try simp(disch:=omega)only[go_sem])
  all_goals(try(repeat'(with_reducible apply And.intro)))
  all_goals(first|exact .AA (by omega)|exact .Au (by omega)|exact .sl (by simp[take_add_one,hb])|exact .int (by simp[take_add_one,hb])|exact .eq (by simp[take_add_one,hb]))
 ·subst hil
  have hfl:=JL h2
  refine Oq [1088] ⟨⟨[],[],[]⟩,[(0,1216)],[]⟩ (Yr (l.flatMap Bm) (by omega)) (by simp(disch:=omega)only[go_sem,take_length]) rfl trivial (.inl rfl) ?_
  refine gO ?_
  refine B3 ⟨[(1216,0)],[],[]⟩ _ ?_
  simp(disch:=omega)only[go_sem,Aw]
theorem f34_ok(s:WS)(h:Few s):Ac C0 34 [.agg s.c] [] (Aq (Ah s)) []:=by
 have hq:=J1 h.aq
 have h1:=h.nq
 have h2:=h.nn
 have hbd:(Aw s.queues).length≤4294967296:=by omega
 refine Ac.go f34 ?_
 unfold f34
 refine gO ?_
 refine A7 ⟨⟨[],[],[]⟩,[(0,448)],[]⟩ (f75_ok s.queues h.nq h.aq) (by simp(disch:=omega)only[go_sem]) rfl trivial (.inl rfl) ?_
 refine gO ?_
 refine Ab (α:=Nat) (fun i=>⟨[(4,I i),(1,.ptr 64 0),(3,.sl (.own 1472 0) 3 ((Aw s.queues++B2 (s.needs.take i)).map Proc.c))],[(64,s.c)]⟩) (fun i=>i≤(s.needs).length∧True) (fun i=>(s.needs).length-i) 0 ⟨by omega,trivial⟩ ?_ ?_
 ·refine Imp.ren ⟨[(448,1472)],[(64,64)],[]⟩ ⟨rfl,rfl⟩ (by simp[lk]) ?_ ?_
  all_goals(try simp(disch:=omega)only[go_sem])
  all_goals(try(repeat'(with_reducible apply And.intro)))
  all_goals(first|exact .AA (by omega)|exact .Au (by omega)|exact .sl (by simp[B2])|exact .int (by simp[B2])|exact .eq (by simp[B2]))
 rintro i ⟨hi,hP⟩ J hJ
 refine gO ?_
 refine ⟨fun hlt=>?_,fun hge=>?_⟩
 rotate_left
 have hil:i=(s.needs).length:=by simp at hge;omega
 rotate_left
 obtain⟨b,hb⟩:∃ b,(s.needs)[i]?=some b:=⟨_,gE (by simp at hlt;omega)⟩
 have hbm:=mG hb
 have hlt2:i<(s.needs).length:=by simp at hlt;omega
 simp(disch:=omega)only[go_sem,gm,hb]
 ·have hbd2:(Aw s.queues).length+(B2 (s.needs.take i)).length+1≤4294967296:=by simp[B2];omega
  simp(disch:=omega)only[go_sem,B2]
  refine hJ _ (i+1) ⟨by simp at hlt;omega,trivial⟩ (by simp at hlt;omega) (Imp.weak ?_ ?_)
  all_goals(try simp(disch:=omega)only[go_sem])
  all_goals(try(repeat'(with_reducible apply And.intro)))
  all_goals(first|exact .AA (by omega)|exact .Au (by omega)|exact .sl (by simp[B2,take_add_one,hb,Proc.c])|exact .int (by simp[B2,take_add_one,hb,Proc.c])|exact .eq (by simp[B2,take_add_one,hb,Proc.c]))
 ·subst hil
  refine EU [1472] (f76_ok (Aw s.queues++B2 s.needs) (by simp[B2];omega)) (by simp(disch:=omega)only[go_sem,take_length]) rfl ?_
  refine gO ?_
  refine BP _ ?_
  simp(disch:=omega)only[go_sem,Ah]
theorem f97_ok(l:List Queue)(name:Bs)(hl:l.length≤1000000):Ac C0 97 [At l,.v (.string (str name))] [] (I (match l.findIdx? (fun q=>q.res.name==name) with|some i=>i|none=>-1)) []:=by
 refine Ac.go f97 ?_
 unfold f97
 refine gO ?_
 refine Ab (α:=Nat) (fun i=>⟨[(5,I i),(0,At l),(1,.v (.string (str name)))],[]⟩) (fun i=>i≤(l).length∧(l.take i).find? (fun q=>q.res.name==name)=none) (fun i=>(l).length-i) 0 ⟨by omega,rfl⟩ ?_ ?_
 ·exact Bu
 rintro i ⟨hi,hP⟩ J hJ
 refine gO ?_
 refine ⟨fun hlt=>?_,fun hge=>?_⟩
 rotate_left
 have hil:i=(l).length:=by simp at hge;omega
 rotate_left
 obtain⟨b,hb⟩:∃ b,(l)[i]?=some b:=⟨_,gE (by simp at hlt;omega)⟩
 have hbm:=mG hb
 have hlt2:i<(l).length:=by simp at hlt;omega
 simp(disch:=omega)only[go_sem,gm,hb]
 ·refine⟨fun h=>?_,fun h=>?_⟩
  ·have e:=Fp hP b hb (by simpa using h)
   simp(disch:=omega)only[go_sem,e]
   exact Av _
  ·refine hJ _ (i+1) ⟨by simp at hlt;omega,(by rw[BA hP hb];simp at h;simp[h])⟩ (by simp at hlt;omega) AE
 ·subst hil
  rw[take_length]at hP
  have e:l.findIdx? (fun q=>q.res.name==name)=none:=by
   rw[List.findIdx?_eq_none_iff]
   rw[List.find?_eq_none]at hP
   intro x hx
   simpa using hP x hx
  simp(disch:=omega)only[go_sem,e]
  exact Av _
def Gx(l:List Queue)(p:Proc)(name:Bs):Bool:=match l.find? (fun q=>q.res.name==name) with
 |some q=>(Ao q p).isSome
 |none=>false
theorem f92_ok(s:WS)(p:Proc)(h:Few s):Ac C0 92 [.agg s.c,.agg p.c] [] (.tup [.agg ((s.needs.find? fun n=>decide (n.proc=p)).getD n0).c,B (s.needs.find? fun n=>decide (n.proc=p)).isSome]) []:=by
 have hn:=h.nn
 refine Ac.go f92 ?_
 unfold f92
 refine gO ?_
 refine Ab (α:=Nat) (fun i=>⟨[(6,I i),(2,.ptr 128 0),(3,.ptr 192 0),(4,.ptr 256 0)],[(128,s.c),(192,p.c),(256,n0.c)]⟩) (fun i=>i≤(s.needs).length∧(s.needs.take i).find? (fun n=>decide (n.proc=p))=none) (fun i=>(s.needs).length-i) 0 ⟨by omega,rfl⟩ ?_ ?_
 ·refine Imp.weak ?_ ?_
  all_goals(try simp(disch:=omega)only[go_sem,n0,Expr.Cb,Expr.k,Expr.atom,Expr.kids,a0,p0])
  all_goals(try(repeat'(with_reducible apply And.intro)))
  all_goals(first|exact .AA (by omega)|exact .Au (by omega)|exact .sl (by simp[n0])|exact .int (by simp[n0])|exact .eq (by simp[n0]))
 rintro i ⟨hi,hP⟩ J hJ
 refine gO ?_
 refine ⟨fun hlt=>?_,fun hge=>?_⟩
 rotate_left
 have hil:i=(s.needs).length:=by simp at hge;omega
 rotate_left
 obtain⟨b,hb⟩:∃ b,(s.needs)[i]?=some b:=⟨_,gE (by simp at hlt;omega)⟩
 have hbm:=mG hb
 have hlt2:i<(s.needs).length:=by simp at hlt;omega
 refine Aj 7 [([],[2]),([],[14]),([],[6]),([],[15,16]),([],[17]),([],[18]),([],[3])] fol ?_
 simp(disch:=omega)only[go_sem,gm,hb]
 ·refine⟨fun h=>?_,fun h=>?_⟩
  ·have e:(s.needs.find? fun n=>decide (n.proc=p))=some b:=GK hP hb (by simpa using h)
   simp(disch:=omega)only[go_sem,e,gm,hb,Option.isSome_some,Option.getD_some]
   exact Av _
  ·refine hJ _ (i+1) ⟨by simp at hlt;omega,(by rw[BA hP hb];simp at h;simp[h])⟩ (by simp at hlt;omega) AE
 ·subst hil
  rw[take_length]at hP
  simp(disch:=omega)only[go_sem,hP,Option.isSome_none,Option.getD_none,n0,Expr.k,Expr.atom,Expr.kids,a0,p0]
  refine Ak _ ?_
  refine .tup (Af.AD ?_)
  simp(disch:=omega)only[go_sem]
  repeat'(with_reducible apply And.intro)
  all_goals(first|exact .Au (by omega)|exact .agg (Af.AD (by simp(disch:=omega)only[go_sem])))
theorem f104_ok(l:List Queue)(ha:∀ q∈l,Br q≤100):Ac C0 104 [At l] [] (B (BT l)) []:=by
 refine Ac.go f104 ?_
 unfold f104
 by_cases hq:8<l.length
 ·have e1:(8<(l.length:Int))=True:=eq_true (by omega)
  have e:BT l=false:=by simp[BT];omega
  simp(disch:=omega)only[go_sem,e1]
  refine Ak _ ?_
  exact wb (by simp[e])
 have e1:(8<(l.length:Int))=False:=eq_false (by omega)
 simp(disch:=omega)only[go_sem,e1,decide_false]
 refine Ab (α:=Nat) (fun i=>⟨[(3,I i),(0,At l)],[]⟩) (fun i=>i≤(l).length∧BE (BH l) (l.take i)=true) (fun i=>(l).length-i) 0 ⟨by omega,rfl⟩ ?_ ?_
 ·exact Bu
 rintro i ⟨hi,hP⟩ J hJ
 refine gO ?_
 refine ⟨fun hlt=>?_,fun hge=>?_⟩
 rotate_left
 have hil:i=(l).length:=by simp at hge;omega
 rotate_left
 obtain⟨b,hb⟩:∃ b,(l)[i]?=some b:=⟨_,gE (by simp at hlt;omega)⟩
 have hbm:=mG hb
 have hlt2:i<(l).length:=by simp at hlt;omega
 refine Aj 23 [([],[0]),([],[3]),([],[13,14]),([],[15]),([],[16]),([4],[17]),([4],[18]),([4],[3,19]),([4],[20,19]),([4],[21,19]),([4],[0,22]),([4],[3,22]),([4],[24,22]),([4],[23,25,22]),([4],[26,22]),([4],[27,22]),([4],[28,22]),([4],[0,22]),([4],[3,22]),([4],[30,31,22]),([4],[32,22]),([4],[33,22]),([4],[34,22])] fol ?_
 simp(disch:=omega)only[go_sem,gm,hb]
 ·have hab:=A5 (ha b hbm)
  have bad:BH l i b=false→BT l=false:=fun h=>by simp only[BT,Ba hb h,Bool.and_false]
  have good:BH l i b=true→BE (BH l) (l.take (i+1))=true:=fun h=>by rw[BI hb,hP,h];rfl
  first|(refine Aa (f158_ok b hab.1 hab.2.2) ?_)|(refine Ai (f158_ok b hab.1 hab.2.2) ?_)
  cases hv:valid b
  ·simp(disch:=omega)only[go_sem]
   refine Ak _ ?_
   exact wb (by rw[bad (by simp[BH,hv])])
  by_cases hi0:i=0
  ·subst hi0
   refine gO ?_
   refine hJ _ 1 ⟨by simp at hlt;omega,good (by simp[BH,hv])⟩ (by simp at hlt;omega) AE
  ·have hi1:(0<(i:Int))=True:=eq_true (by omega)
   have hi2:((i:Int)-1)=((i-1:Nat):Int):=by omega
   obtain⟨a,ha'⟩:∃ a,l[i-1]?=some a:=⟨_,gE (by simp at hlt;omega)⟩
   have had:l.getD (i-1) q0=a:=by simp[List.getD,ha']
   simp(disch:=omega)only[go_sem,hi1,hi2,gm,ha',hb]
   refine And.intro (fun hh=>?_) (fun hh=>?_)
   ·refine Ak _ ?_
    exact wb (by rw[bad (by simp only[BH,had,hv];simp[hi0];simpa [Dg]using hh)])
   ·refine hJ _ (i+1) ⟨by simp at hlt;omega,good (by simp only[BH,had,hv];simp[hi0];simpa [Dg]using hh)⟩ (by simp at hlt;omega) AE
 subst hil
 rw[take_length]at hP
 have hqs:BT l=true:=by simp[BT,hP];omega
 refine Ak _ ?_
 exact wb (by rw[hqs])
theorem f56_ok(s:WS)(h:Few s):Ac C0 56 [.agg s.c] [] (B (AB s)) []:=by
 refine Ac.go f56 ?_
 unfold f56
 refine gO ?_
 refine Aa (f104_ok s.queues h.aq) ?_
 cases hqs:BT s.queues
 ·simp(disch:=omega)only[go_sem]
  refine Ak _ ?_
  exact wb (by simp[AB,hqs])
 by_cases hn:8<s.needs.length
 ·have e2:(8<(s.needs.length:Int))=True:=eq_true (by omega)
  have e:AB s=false:=by simp[AB,EI];omega
  simp(disch:=omega)only[go_sem,e2,decide_true]
  refine Ak _ ?_
  exact wb (by simp[e])
 have e2:(8<(s.needs.length:Int))=False:=eq_false (by omega)
 simp(disch:=omega)only[go_sem,e2,decide_false]
 refine Ab (α:=Nat) (fun i=>⟨[(3,I i),(1,.ptr 64 0)],[(64,s.c)]⟩) (fun i=>i≤(s.needs).length∧BE (BB s.needs) (s.needs.take i)=true) (fun i=>(s.needs).length-i) 0 ⟨by omega,rfl⟩ ?_ ?_
 ·exact Bu
 rintro i ⟨hi,hP⟩ J hJ
 refine gO ?_
 refine ⟨fun hlt=>?_,fun hge=>?_⟩
 rotate_left
 have hil:i=(s.needs).length:=by simp at hge;omega
 rotate_left
 obtain⟨b,hb⟩:∃ b,(s.needs)[i]?=some b:=⟨_,gE (by simp at hlt;omega)⟩
 have hbm:=mG hb
 have hlt2:i<(s.needs).length:=by simp at hlt;omega
 simp(disch:=omega)only[go_sem,gm,hb]
 ·have bad:BB s.needs i b=false→AB s=false:=fun h=>by simp only[AB,EI,Ba hb h,Bool.and_false,Bool.false_and]
  have good:BB s.needs i b=true→BE (BB s.needs) (s.needs.take (i+1))=true:=fun h=>by rw[BI hb,hP,h];rfl
  refine Aj 33 [([],[4]),([],[27]),([],[28]),([2],[29]),([2],[30]),([2],[4,31]),([2],[32,31]),([2],[33,31]),([2,7],[34,31]),([2,7],[31,35]),([2,7],[36]),([2,7],[4,37]),([2,7],[38,37]),([2,7],[39,37]),([2,7],[37,40]),([2,7],[41]),([2,7],[4,42]),([2,7],[43,42]),([2,7],[44,42]),([2,7],[42,45]),([2,7],[46]),([2,7],[3,47]),([2,7],[48,47]),([2,7],[49,47]),([2,7],[1,50]),([2,7],[51,50]),([2,7],[3,50]),([2,7],[53,50]),([2,7],[52,54,50]),([2,7],[55,50]),([2,7],[56,50]),([2,7],[4,50]),([2,7],[58,50])] fol ?_
  refine gO ?_
  first|(refine Aa (f105_ok b.proc) ?_)|(refine Ai (f105_ok b.proc) ?_)
  cases hp:b.proc.ok
  ·simp(disch:=omega)only[go_sem]
   refine Ak _ ?_
   exact wb (by rw[bad (by simp[BB,hp])])
  refine gO ?_
  first
   |(refine Ae (f106_ok b.expr) (by simp(disch:=omega)only[go_sem,Expr.Cb]) rfl ?_)
   |(refine An ⟨⟨[],[],[]⟩,[],[]⟩ (f106_ok b.expr) (by simp(disch:=omega)only[go_sem,Expr.Cb]) rfl rfl trivial (.inl rfl) ?_)
  cases he:AQ b.expr
  ·simp(disch:=omega)only[go_sem]
   refine Ak _ ?_
   exact wb (by rw[bad (by simp[BB,he])])
  by_cases hg1:b.gen<0
  ·have k1:(b.gen<0)=True:=eq_true hg1
   simp(disch:=omega)only[go_sem,k1]
   refine Ak _ ?_
   exact wb (by rw[bad (by simp[BB];omega)])
  have k1:(b.gen<0)=False:=eq_false hg1
  by_cases hg2:1073741824<b.gen
  ·have k2:(1073741824<b.gen)=True:=eq_true hg2
   simp(disch:=omega)only[go_sem,k1,k2,decide_false]
   refine Ak _ ?_
   exact wb (by rw[bad (by simp[BB];omega)])
  have k2:(1073741824<b.gen)=False:=eq_false hg2
  have g1:decide (0≤b.gen)=true:=by simp;omega
  have g2:decide (b.gen≤1073741824)=true:=by simp;omega
  by_cases hi0:i=0
  ·subst hi0
   simp(disch:=omega)only[go_sem,k1,k2,decide_false]
   refine hJ _ 1 ⟨by simp at hlt;omega,good (by simp only[BB,hp,g1,g2,he];rfl)⟩ (by simp at hlt;omega) AE
  ·have hi1:(0<(i:Int))=True:=eq_true (by omega)
   have hi2:((i:Int)-1)=((i-1:Nat):Int):=by omega
   obtain⟨a,ha'⟩:∃ a,s.needs[i-1]?=some a:=⟨_,gE (by simp at hlt;omega)⟩
   have had:s.needs.getD (i-1) n0=a:=by simp[List.getD,ha']
   simp(disch:=omega)only[go_sem,k1,k2,decide_false,hi1,hi2,gm,ha',hb]
   first|(refine Aa (f107_ok a.proc b.proc) ?_)|(refine Ai (f107_ok a.proc b.proc) ?_)
   refine gO ?_
   by_cases hc:0≤A2 a.proc b.proc
   ·simp(disch:=omega)only[go_sem,hc]
    refine Ak _ ?_
    exact wb (by rw[bad (by simp only[BB,had];simp[hi0];omega)])
   ·simp(disch:=omega)only[go_sem,hc,decide_false]
    refine hJ _ (i+1) ⟨by simp at hlt;omega,good (by simp only[BB,had,hp,g1,g2,he];simp;omega)⟩ (by simp at hlt;omega) AE
 ·subst hil
  rw[take_length]at hP
  have hns:EI s.needs=true:=by simp[EI,hP];omega
  refine Aa (f34_ok s h) ?_
  refine gO ?_
  refine Ak _ ?_
  exact wb (by simp only[AB,hqs,hns];simp;omega)
theorem QU:∀ (es:List Expr) (l:List Atom),(BS es l).1=true→∀ e∈es,∃ l',(prop e l').1=true
 |[],_,_,_,he=>by simp at he
 | e::es,l,h,e',he=>by
  simp only[BS]at h
  split at h
  ·rename_i h1
   rcases mem_cons.1 he with rfl|he
   ·exact⟨l,h1⟩
   ·exact QU es _ h e' he
  ·simp at h
theorem f151_ok(l:List Atom)(set:List Bool)(hl:l.length≤1000000):∀ (N:Nat) (e:Expr),SizeOf.sizeOf e<N→∀ la,(prop e la).1=true →
 Ac C0 151 [.agg e.c,Be l,G5 set] [] (B (DO (Dc l set) e)) []
 | 0,_,h,_,_=>by omega
 | N+1,e,h,la,hp=>by
  refine Ac.lens f151 fun hlen=>?_
  simp only[Ec,lens,Expr.Cb,length_map,length_map,and_true,true_and]at hlen
  rw[Db]at hp
  refine Ac.go f151 ?_
  unfold f151
  by_cases hk:e.kids.length=0
  ·rw[if_pos hk]at hp
   have h0:e.k=0:=by
    by_cases h0:e.k=0
    ·exact h0
    ·rw[if_neg (by simp[h0])]at hp;simp at hp
   have e1:(e.k==0)=true:=by simp[h0]
   have ev:DO (Dc l set) e=Dc l set e.atom:=by rw[H8,if_pos hk]
   rw[ev]
   simp(disch:=omega)only[go_sem,e1]
   refine Ab (α:=Nat) (fun i=>⟨[(7,I i),(1,Be l),(2,G5 set),(3,.ptr 192 0)],[(192,e.c)]⟩) (fun i=>i≤(l).length∧(l.take i).find? (fun x=>decide (x=e.atom))=none) (fun i=>(l).length-i) 0 ⟨by omega,rfl⟩ ?_ ?_
   ·exact Bu
   rintro i ⟨hi,hP⟩ J hJ
   refine gO ?_
   refine ⟨fun hlt=>?_,fun hge=>?_⟩
   rotate_left
   have hil:i=(l).length:=by simp at hge;omega
   rotate_left
   obtain⟨b,hb⟩:∃ b,(l)[i]?=some b:=⟨_,gE (by simp at hlt;omega)⟩
   have hbm:=mG hb
   have hlt2:i<(l).length:=by simp at hlt;omega
   refine Aj 6 [([],[1]),([],[7]),([],[19,20]),([],[21]),([],[3]),([],[23])] fol ?_
   simp(disch:=omega)only[go_sem,gm,hb]
   ·refine And.intro (fun hh=>?_) (fun hh=>?_)
    ·have hi2:l.findIdx? (fun x=>decide (x=e.atom))=some i:=Fp hP b hb (by simpa using hh)
     by_cases hs:i<set.length
     ·have e3:((i:Int)<set.length)=True:=eq_true (by omega)
      have e4:set[i]?=some (set.getD i false):=by rw[gE hs];simp[List.getD,hs]
      have e2:Dc l set e.atom=set.getD i false:=by simp[Dc,hi2]
      simp(disch:=omega)only[go_sem,e3,gm,e4]
      refine Ak _ ?_
      exact wb (by rw[e2])
     ·have e3:((i:Int)<set.length)=False:=eq_false (by omega)
      have e2:Dc l set e.atom=false:=by simp[Dc,hi2,List.getD,hs]
      simp(disch:=omega)only[go_sem,e3,decide_false]
      refine Ak _ ?_
      exact wb (by simp[e2])
    ·refine hJ _ (i+1) ⟨by simp at hlt;omega,(by rw[BA hP hb];simp at hh;simp[hh])⟩ (by simp at hlt;omega) AE
   ·subst hil
    rw[take_length]at hP
    have hi2:l.findIdx? (fun x=>decide (x=e.atom))=none:=by
     rw[List.findIdx?_eq_none_iff]
     rw[List.find?_eq_none]at hP
     intro x hx
     simpa using hP x hx
    have e2:Dc l set e.atom=false:=by simp[Dc,hi2]
    refine Ak _ ?_
    exact wb (by rw[e2])
  ·rw[if_neg hk]at hp
   have hb:¬ (e.k<1∨(e.kids.length:Int)<e.k∨e.atom≠a0):=by
    intro hb;rw[if_pos hb]at hp;simp at hp
   rw[if_neg hb]at hp
   have hkid:=QU _ _ hp
   have e1:(e.k==0)=false:=by simp;omega
   have ev:DO (Dc l set) e=decide (e.k≤Cd (Dc l set) e.kids):=by rw[H8,if_neg hk]
   have hbd:=Mx (Dc l set)
   rw[ev]
   simp(disch:=omega)only[go_sem,e1]
   refine Ab (α:=Nat) (fun i=>⟨[(9,I i),(8,I (Cd (Dc l set) (e.kids.take i))),(1,Be l),(2,G5 set),(3,.ptr 192 0)],[(192,e.c)]⟩) (fun i=>i≤(e.kids).length∧True) (fun i=>(e.kids).length-i) 0 ⟨by omega,trivial⟩ ?_ ?_
   ·refine Imp.weak ?_ ?_
    all_goals(try simp(disch:=omega)only[go_sem])
    all_goals(try(repeat'(with_reducible apply And.intro)))
    all_goals(first|exact .AA (by omega)|exact .Au (by omega)|exact .sl (by simp[Cd])|exact .int (by simp[Cd])|exact .eq (by simp[Cd]))
   rintro i ⟨hi,hP⟩ J hJ
   refine gO ?_
   refine ⟨fun hlt=>?_,fun hge=>?_⟩
   rotate_left
   have hil:i=(e.kids).length:=by simp at hge;omega
   rotate_left
   obtain⟨b,hb⟩:∃ b,(e.kids)[i]?=some b:=⟨_,gE (by simp at hlt;omega)⟩
   have hbm:=mG hb
   have hlt2:i<(e.kids).length:=by simp at hlt;omega
   simp(disch:=omega)only[go_sem,gm,hb]
   ·obtain⟨la',hla⟩:=hkid b hbm
    have hsz:=C4 hbm
    have hct:=Jy (Dc l set) e.kids i b hb
    have hb1:=hbd (e.kids.take i)
    simp only[List.length_take]at hb1
    refine Aa (f151_ok l set hl N b (by omega) la' hla) ?_
    cases hev:DO (Dc l set) b
    ·rw[hev]at hct
     refine gO ?_
     refine hJ _ (i+1) ⟨by simp at hlt;omega,trivial⟩ (by simp at hlt;omega) (Imp.weak ?_ (by simp(disch:=omega)only[go_sem]))
     simp(disch:=omega)only[go_sem,hct]
     exact .int (by simp)
    ·rw[hev]at hct
     refine gO ?_
     refine hJ _ (i+1) ⟨by simp at hlt;omega,trivial⟩ (by simp at hlt;omega) (Imp.weak ?_ (by simp(disch:=omega)only[go_sem]))
     simp(disch:=omega)only[go_sem,hct]
   ·subst hil
    simp(disch:=omega)only[go_sem,take_length]
    exact Av _
theorem To:∀ (es:List Expr) (l:List Atom),(∀ e∈es,∀ l,(prop e l).1=true→(prop e l).2≠[])→(BS es l).1=true→es≠[]∨l≠[]→(BS es l).2≠[]
 |[],l,_,_,h=>by simpa [BS]using h
 | e::es,l,hk,hp,_=>by
  simp only[BS]at hp ⊢
  split at hp
  ·rename_i h1
   rw[if_pos h1]
   exact To es _ (fun e' he=>hk e' (by simp[he])) hp (.inr (hk e (by simp) l h1))
  ·simp at hp
theorem U9:∀ (N:Nat) (e:Expr),SizeOf.sizeOf e<N→∀ l,(prop e l).1=true→(prop e l).2≠[]
 | 0,_,h,_,_=>by omega
 | N+1,e,h,l,hp=>by
  rw[Db]at hp ⊢
  by_cases h0:e.kids.length=0
  ·rw[if_pos h0]at hp ⊢
   by_cases h1:e.k=0∧IG e.atom=true
   ·rw[if_pos h1]at hp ⊢
    simp only at hp ⊢
    rw[U7 hp]
    unfold Dq
    split
    ·rename_i hm;exact fun h=>by rw[h]at hm;simp at hm
    ·simp
   ·rw[if_neg h1]at hp;simp at hp
  ·rw[if_neg h0]at hp ⊢
   split at hp
   ·simp at hp
   ·rename_i h1
    rw[if_neg h1]
    exact To _ _ (fun e' he l'=>U9 N e' (by have:=C4 he;omega) l') hp (.inl fun h=>h0 (by rw[h];rfl))
theorem f160_ok(e:Expr)(set:List Bool)(he:AQ e=true):Ac C0 160 [.agg e.c,G5 set] [] (B (D2 e set)) []:=by
 have hl:=Ci e
 have hne:(Ag e).length≠0:=by
  have hp:=En he
  have h1:=U9 _ e (lt_succ_self _) [] hp
  have hc:=Hj _ e (lt_succ_self _) [] hp
  have ha:Ag e=(prop e []).2:=by unfold Ag;rw[if_pos he,hc]
  rw[ha]
  simpa using h1
 refine Ac.go f160 ?_
 unfold f160
 refine gO ?_
 refine Aa (f150_ok e) ?_
 simp(disch:=omega)only[go_sem,he]
 refine Aa (f151_ok (Ag e) set (by omega) _ e (lt_succ_self _) [] (En he)) ?_
 refine gO ?_
 refine Ak _ ?_
 exact wb (by simp[D2,hne])
end Go.Rd
namespace Go.Abs
def sel(m:Nat):List (Nat × Nat × AV)→List (Nat × AV)
 |[]=>[]
 |(w,t,x)::l=>if m / w%2=1 then (t,x)::sel m l else sel m l
def OB(X:Env)(ops:Array Oper)(S:Nat→St)(m:Nat):List (Nat × Nat)→Prop
 |[]=>True
 |(i,m')::l=>AR X ops (Ll ops i) (fun st'=>Imp X st' (S m')) (S m)∧OB X ops S m l
def Ru(X:Env)(ops:Array Oper)(S:Nat→St):List (Nat × List (Nat × Nat))→Prop
 |[]=>True
 |(m,l)::t=>OB X ops S m l∧Ru X ops S t
def okD(ops:Array Oper)(full:Nat)(tab:List (Nat × List (Nat × Nat))):Bool :=
 (tab.any fun p=>p.1==0)&&((List.range ops.size).all fun i=>full.testBit i)&&tab.all fun p =>
  (p.1==full||(List.range ops.size).any (fun i=>!p.1.testBit i&&(Bb ops i).all fun e=>p.1.testBit e)) &&
  ((List.range ops.size).all fun i=>p.1.testBit i||!((Bb ops i).all fun e=>p.1.testBit e)||p.2.any (fun q=>q.1==i)) &&
  p.2.all fun q=>q.2==(p.1 ||| 2 ^ q.1)&&tab.any (fun p'=>p'.1==q.2)
section
variable {X:Env} {A:A0} {N:Nat} {ops:Array Oper}
theorem SB{S:Nat→St}{m:Nat}{q:Nat × Nat}:∀ {l:List (Nat × Nat)},OB X ops S m l→q∈l→AR X ops (Ll ops q.1) (fun st'=>Imp X st' (S q.2)) (S m)
 |[],_,h=>by cases h
 |(i,m')::l,h,hm=>by
  simp only[OB]at h
  rcases List.mem_cons.1 hm with rfl|hm
  ·exact h.1
  ·exact SB h.2 hm
theorem SD{S:Nat→St}{p:Nat × List (Nat × Nat)}:∀ {tab:List (Nat × List (Nat × Nat))},Ru X ops S tab→p∈tab→OB X ops S p.1 p.2
 |[],_,h=>by cases h
 |(i,m')::l,h,hm=>by
  simp only[Ru]at h
  rcases List.mem_cons.1 hm with rfl|hm
  ·exact h.1
  ·exact SD h.2 hm
theorem VF(hA:A.ext=X.ext)(hX:∀ s∈X.ext,s%64=63)(hN:Vl N ops){Q:Exit→Act→World→Prop}{K:St→Prop}(hQ:∀ g st a w,R X.C A N g st a w→K st→Q .normal a w)
 {full:Nat} {tab:List (Nat × List (Nat × Nat))} {S:Nat→St} (hok:okD ops full tab=true) (hs:Ru X ops S tab) (he:K (S full)) :
 ∀ (fuel:Nat) (m:Nat) (l:List (Nat × Nat)) (listed:Array Bool) (g:Gh) (a:Act) (w:World),listed.size=ops.size→unl listed≤fuel→(∀ j,j<ops.size→dOf listed j=m.testBit j)→(m,l)∈tab→R X.C A N g (S m) a w →
  wpAny X.C.P .any ops Q fuel listed a w:=by
 have hok':=hok
 simp only[okD,Bool.and_eq_true,List.all_eq_true,List.mem_range]at hok'
 obtain⟨⟨_,hfull⟩,htab⟩:=hok'
 intro fuel
 induction fuel with
 | zero =>
  intro m l listed g a w hsz hu hd hm hR
  obtain⟨⟨h1,h2⟩,h3⟩:=htab (m,l) hm
  simp only[Bool.or_eq_true,beq_iff_eq,List.any_eq_true,List.mem_range,Bool.and_eq_true]at h1
  rcases h1 with rfl|⟨i,hi,hi1,hi2⟩
  ·refine⟨?_,hQ g _ a w hR he⟩
   cases hrd:Region.ready .any ops listed with
   | nil=>rfl
   | cons j l' =>
    have hj:j∈Region.ready .any ops listed:=by rw[hrd];simp
    have:=(Bd hsz).1 hj
    rw[hd j this.1,hfull j this.1]at this
    simp at this
  ·have hmem:i∈Region.ready .any ops listed:=(Bd hsz).2 ⟨hi,by rw[hd i hi];simpa using hi1,fun e hee=>by
    have h4:=List.all_eq_true.1 hi2 e hee
    have hlt:=LM hN e hee hi
    rw[hd e hlt];exact h4⟩
   obtain⟨k1,k2,_⟩:=(Bd hsz).1 hmem
   rw[Gl (by omega) (by omega:i<listed.size)]at k2
   cases k2
 | succ fuel ih =>
  intro m l listed g a w hsz hu hd hm hR
  obtain⟨⟨h1,h2⟩,h3⟩:=htab (m,l) hm
  simp only[Bool.or_eq_true,beq_iff_eq,List.any_eq_true,List.mem_range,Bool.and_eq_true]at h1
  refine⟨fun h0=>?_,fun j hj=>?_⟩
  ·rcases h1 with rfl|⟨i,hi,hi1,hi2⟩
   ·exact hQ g _ a w hR he
   ·have hmem:i∈Region.ready .any ops listed:=(Bd hsz).2 ⟨hi,by rw[hd i hi];simpa using hi1,fun e hee=>by
     have h4:=List.all_eq_true.1 hi2 e hee
     have hlt:=LM hN e hee hi
     rw[hd e hlt];exact h4⟩
    rw[h0]at hmem;cases hmem
  ·obtain⟨k1,k2,k3⟩:=(Bd hsz).1 hj
   have hnb:m.testBit j=false:=by rw[← hd j k1];exact k2
   have h4:=h2 j k1
   have he':(Bb ops j).all (fun e=>m.testBit e)=true:=List.all_eq_true.2 fun e hee=>by
    have h5:=k3 e hee
    have hlt:=LM hN e hee k1
    rw[hd e hlt]at h5;exact h5
   simp only[hnb,he',Bool.not_true,Bool.or_false,Bool.false_or,List.any_eq_true,beq_iff_eq]at h4
   obtain⟨q,hq,rfl⟩:=h4
   have h5:=h3 q hq
   simp only[beq_iff_eq,List.any_eq_true]at h5
   obtain⟨h6,p',hp',h7⟩:=h5
   have ho:ops[q.1]?=some ops[q.1]:=Array.getElem?_eq_getElem k1
   have hop:=SB (SD hs hm) hq
   simp only[Ll,ho,AR]at hop
   refine L5 hA hX ho (fun g' st' a' w' hR' hK'=>?_) (hN.1 _ (Array.getElem_mem k1)) hop hR
   obtain⟨g2,hR2⟩:=hK' A N g' a' w' hA hR'
   refine ih q.2 p'.2 _ g2 a' w' (by simp[hsz]) (by have:=GP (by omega:q.1<listed.size) k2;omega) (fun j' hj'=>?_) (by rw[← h7];exact hp') hR2
   rw[DG (by omega)]
   simp only[Gp]
   rw[h6,Nat.testBit_or,Nat.testBit_two_pow]
   by_cases hjj:j'=q.1
   ·subst hjj;simp
   ·simp[hjj,Ne.symm hjj,hd j' hj']
end
theorem WT{X:Env}{ops:Array Oper}{K:St→Prop}{st:St}(full:Nat)(tab:List (Nat × List (Nat × Nat)))(S:Nat→St)(hm:X.C.P.follows .mixedOrders=true)(hok:(Kj ops&&okD ops full tab)=true)
 (h0:Imp X st (S 0)) (hs:Ru X ops S tab) (he:K (S full)):JB X ops K st:=by
 refine CP h0 ?_
 intro A N g a w hA hN hX hR id Q hQ
 simp only[Bool.and_eq_true]at hok
 refine wp_region_any hm ?_
 have h0:∃ l,(0,l)∈tab:=by
  have:=hok.2
  simp only[okD,Bool.and_eq_true,List.any_eq_true,beq_iff_eq]at this
  obtain⟨⟨⟨p,hp,h⟩,_⟩,_⟩:=this
  exact⟨p.2,by rw[← h];exact hp⟩
 obtain⟨l,hl⟩:=h0
 refine VF hA hX (N:=N) (K:=K) ⟨fun o ho=>?_,fun i hi e he=>?_⟩ hQ hok.2 hs he ops.size 0 l (Array.replicate ops.size false) g a _ (by simp) (by simp[unl]) (fun j hj=>by simp[dOf,Array.getD,hj]) hl hR.drew
 ·unfold Hp
  cases hd:o.dst with
  |none=>rfl
  |some d=>simp;exact hN o ho d hd
 ·have:=hok.1
  simp only[Kj,List.all_eq_true,List.mem_range,decide_eq_true_eq]at this
  exact this i hi e he
@[go_sem] theorem a8(X:Env)(ops:Array Oper)(S:Nat→St)(m:Nat):OB X ops S m []=True:=rfl
@[go_sem] theorem aj(X:Env)(ops:Array Oper)(S:Nat→St)(m i m':Nat)(l:List (Nat × Nat)):OB X ops S m ((i,m')::l)=(AR X ops (Ll ops i) (fun st'=>Imp X st' (S m')) (S m)∧OB X ops S m l):=rfl
@[go_sem] theorem ba(X:Env)(ops:Array Oper)(S:Nat→St):Ru X ops S []=True:=rfl
@[go_sem] theorem ak(X:Env)(ops:Array Oper)(S:Nat→St)(m:Nat)(l:List (Nat × Nat))(t:List (Nat × List (Nat × Nat))):Ru X ops S ((m,l)::t)=(OB X ops S m l∧Ru X ops S t):=rfl
@[go_sem] theorem cK(m:Nat):sel m []=[]:=rfl
@[go_sem] theorem bY(m w t:Nat)(x:AV)(l:List (Nat × Nat × AV)):sel m ((w,t,x)::l)=if m / w%2=1 then (t,x)::sel m l else sel m l:=rfl
end Go.Abs
namespace Go.Abs
def SC(X:Env)(ops:Array Oper)(S:Nat→St)(m:Nat):List (Nat × Nat × Nat)→Prop
 |[]=>True
 |(i,w,d)::l=>(if m / w%2=0∧d &&& m=d then AR X ops (Ll ops i) (fun st'=>Imp X st' (S (m+w))) (S m) else True)∧SC X ops S m l
def VE(X:Env)(ops:Array Oper)(S:Nat→St)(E:List (Nat × Nat × Nat)):List Nat→Prop
 |[]=>True
 | m::t=>SC X ops S m E∧VE X ops S E t
def RN(E:List (Nat × Nat × Nat))(m:Nat):List (Nat × Nat):=(E.filter fun e=>decide (m / e.2.1%2=0∧e.2.2 &&& m=e.2.2)).map fun e=>(e.1,m+e.2.1)
def XZ(E:List (Nat × Nat × Nat))(ms:List Nat):List (Nat × List (Nat × Nat)):=ms.map fun m=>(m,RN E m)
section
variable {X:Env} {ops:Array Oper} {S:Nat→St}
theorem WN{m:Nat}:∀ {E:List (Nat × Nat × Nat)},SC X ops S m E→OB X ops S m (RN E m)
 |[],_=>trivial
 |(i,w,d)::l,h=>by
  simp only[SC]at h
  have ih:=WN h.2
  unfold RN at ih ⊢
  simp only[List.filter_cons]
  by_cases hc:m / w%2=0∧d &&& m=d
  ·rw[if_pos hc]at h
   simp only[hc,and_self,decide_true,if_true,List.map_cons,OB]
   exact⟨h.1,ih⟩
  ·simp only[hc,decide_false,Bool.false_eq_true,if_false]
   exact ih
theorem WO{E:List (Nat × Nat × Nat)}:∀ {ms:List Nat},VE X ops S E ms→Ru X ops S (XZ E ms)
 |[],_=>trivial
 | m::t,h=>⟨WN h.1,WO h.2⟩
theorem CA{K:St→Prop}{st:St}(full:Nat)(E:List (Nat × Nat × Nat))(ms:List Nat)(S:Nat→St)(h0:Imp X st (S 0))(hs:VE X ops S E ms)(he:K (S full))(hm:X.C.P.follows .mixedOrders=true)
 (hok:(Kj ops&&okD ops full (XZ E ms))=true:=by kernel_rfl):JB X ops K st:=WT full (XZ E ms) S hm hok h0 (WO hs) he
end
theorem Cy(X:Env)(ops:Array Oper)(S:Nat→St)(m i w d:Nat)(l:List (Nat × Nat × Nat)):SC X ops S m ((i,w,d)::l)=((if m / w%2=0∧d &&& m=d then AR X ops (Ll ops i) (fun st'=>Imp X st' (S (m+w))) (S m) else True)∧SC X ops S m l):=nd rfl
theorem Cz(X:Env)(ops:Array Oper)(S:Nat→St)(E:List (Nat × Nat × Nat))(m:Nat)(t:List Nat):VE X ops S E (m::t)=(SC X ops S m E∧VE X ops S E t):=nd rfl
theorem C8(X:Env)(ops:Array Oper)(S:Nat→St)(m:Nat):SC X ops S m []=True:=nd rfl
theorem C9(X:Env)(ops:Array Oper)(S:Nat→St)(E:List (Nat × Nat × Nat)):VE X ops S E []=True:=nd rfl
end Go.Abs
open Go Go.Abs Go.Proofs
set_option maxRecDepth 100000
namespace Go.Rd
set_option maxHeartbeats 8000000
open List (pairwise_cons)
open Bool (and_eq_true)
open Tryz
theorem f52_ok(s:WS)(p:Proc)(name:Bs)(h:Few s):Ac C0 52 [.agg s.c,.agg p.c,.v (.string (str name))] [] (B (Gx s.queues p name)) []:=by
 have hn:=h.nq
 refine Ac.go f52 ?_
 unfold f52
 refine gO ?_
 refine Aa (f97_ok s.queues name (by omega)) ?_
 cases hf:s.queues.findIdx? (fun q=>q.res.name==name) with
 |none =>
  have e:Gx s.queues p name=false:=by
   unfold Gx
   have:s.queues.find? (fun q=>q.res.name==name)=none:=by
    rw[List.findIdx?_eq_none_iff]at hf
    rw[List.find?_eq_none]
    intro x hx
    simpa using hf x hx
   rw[this]
  simp(disch:=omega)only[go_sem,e]
  exact Av _
 |some i =>
  obtain⟨k1,k2,k3⟩:=List.findIdx?_eq_some_iff_getElem.1 hf
  have hb:s.queues[i]?=some s.queues[i]:=gE k1
  have hm:=List.getElem_mem k1
  have ef:s.queues.find? (fun q=>q.res.name==name)=some s.queues[i]:=by
   rw[List.find?_eq_some_iff_getElem]
   exact⟨k2,i,k1,rfl,fun j hj=>by simpa using k3 j hj⟩
  generalize s.queues[i]=b at hb hm ef k2
  have ha:=A5 (h.aq b hm)
  have e:Gx s.queues p name=(Ao b p).isSome:=by unfold Gx;rw[ef]
  have d0:((i:Int)<0)=False:=eq_false (by omega)
  simp(disch:=omega)only[go_sem,d0,decide_false]
  rw[e]
  refine OG (let o0:OT:=.done;let o1:OT:=.pick [(12,o0)];let o2:OT:=.pick [(11,o1)];let o3:OT:=.pick [(10,o2)];let o4:OT:=.pick [(9,o1)];let o5:OT:=.pick [(9,o2),(11,o4)];let o6:OT:=.pick [(9,o3),(10,o5)];let o7:OT:=.pick [(8,o2)];let o8:OT:=.pick [(8,o3),(10,o7)];let o9:OT:=.pick [(8,o5),(9,o7)];let o10:OT:=.pick [(8,o6),(9,o8),(10,o9)];let o11:OT:=.pick [(7,o9)];let o12:OT:=.pick [(7,o10),(10,o11)];let o13:OT:=.pick [(6,o11)];let o14:OT:=.pick [(6,o12),(10,o13)];let o15:OT:=.pick [(5,o13)];let o16:OT:=.pick [(5,o14),(10,o15)];let o17:OT:=.pick [(4,o13)];let o18:OT:=.pick [(4,o14),(10,o17)];let o19:OT:=.pick [(4,o15),(5,o17)];let o20:OT:=.pick [(4,o16),(5,o18),(10,o19)];let o21:OT:=.pick [(3,o17)];let o22:OT:=.pick [(3,o18),(10,o21)];let o23:OT:=.pick [(3,o19),(5,o21)];let o24:OT:=.pick [(3,o20),(5,o22),(10,o23)];let o25:OT:=.pick [(2,o21)];let o26:OT:=.pick [(2,o22),(10,o25)];let o27:OT:=.pick [(2,o23),(5,o25)];let o28:OT:=.pick [(2,o24),(5,o26),(10,o27)];let o29:OT:=.pick [(1,o21)];let o30:OT:=.pick [(1,o22),(10,o29)];let o31:OT:=.pick [(1,o23),(5,o29)];let o32:OT:=.pick [(1,o24),(5,o30),(10,o31)];let o33:OT:=.pick [(1,o25),(2,o29)];let o34:OT:=.pick [(1,o26),(2,o30),(10,o33)];let o35:OT:=.pick [(1,o27),(2,o31),(5,o33)];let o36:OT:=.pick [(1,o28),(2,o32),(5,o34),(10,o35)];let o37:OT:=.pick [(0,o29)];let o38:OT:=.pick [(0,o30),(10,o37)];let o39:OT:=.pick [(0,o31),(5,o37)];let o40:OT:=.pick [(0,o32),(5,o38),(10,o39)];let o41:OT:=.pick [(0,o33),(2,o37)];let o42:OT:=.pick [(0,o34),(2,o38),(10,o41)];let o43:OT:=.pick [(0,o35),(2,o39),(5,o41)];let o44:OT:=.pick [(0,o36),(2,o40),(5,o42),(10,o43)];o44) fol (by kernel_rfl) ?_
  simp(disch:=omega)only[go_sem,gm,hb]
  repeat'(first|(with_reducible refine And.intro ?_ ?_)|(refine Aa (f98_ok b p ha.2.1 ha.2.2) ?_;(try simp(disch:=omega)only[go_sem])))
  all_goals(refine BP _ ?_)
  all_goals simp(disch:=omega)only[go_sem]
theorem H4:∀ x:Bs,Op.bytesLess x x=false
 |[]=>rfl
 | a::x=>by
  simp only[Op.bytesLess,H4 x,Bool.and_false,Bool.or_false]
  simp
theorem Jc:∀ x y z:Bs,Op.bytesLess x y=true→Op.bytesLess y z=true→Op.bytesLess x z=true
 |_,_,[],_,h=>by cases ‹Bs›<;>simp[Op.bytesLess]at h
 |[],_,_::_,_,_=>rfl
 | a::x,[],c::z,h,_=>by simp[Op.bytesLess]at h
 | a::x,b::y,c::z,h1,h2=>by
  simp only[Op.bytesLess,Bool.or_eq_true,and_eq_true,decide_eq_true_eq,beq_iff_eq]at h1 h2 ⊢
  rcases h1 with h1|⟨rfl,h1⟩
  ·rcases h2 with h2|⟨rfl,h2⟩
   ·exact .inl (UInt8.lt_trans h1 h2)
   ·exact .inl h1
  ·rcases h2 with h2|⟨rfl,h2⟩
   ·exact .inl h2
   ·exact .inr ⟨rfl,Jc x y z h1 h2⟩
theorem I0{α:Type}{r:α→α→Prop}(ht:∀ a b c,r a b→r b c→r a c):∀ (l:List α),(∀ i a b,l[i]?=some a→l[i+1]?=some b→r a b)→l.Pairwise r
 |[],_=>.nil
 | a::l,h=>by
  have ih:=I0 ht l fun i x y hx hy=>h (i+1) x y (by simpa using hx) (by simpa using hy)
  refine pairwise_cons.2 ⟨?_,ih⟩
  cases l with
  | nil=>simp
  | cons b l =>
   have hab:=h 0 a b rfl rfl
   intro c hc
   rcases List.mem_cons.1 hc with rfl|hc
   ·exact hab
   ·exact ht a b c hab ((pairwise_cons.1 ih).1 c hc)
theorem Ml{α:Type}{r:α→α→Prop}{l:List α}(h:l.Pairwise r){i:Nat}{a b:α}(ha:l[i]?=some a)(hb:l[i+1]?=some b):r a b:=by
 have h1:=Al ha
 have h2:=Al hb
 have:=List.pairwise_iff_getElem.1 h i (i+1) h1 h2 (by omega)
 rwa [get_eq ha,get_eq hb]at this
theorem GN(l:List Queue):BT l=true↔l.length≤8∧(∀ q∈l,valid q=true)∧l.Pairwise fun a b=>Dg a.res.name b.res.name=true:=by
 unfold BT
 rw[and_eq_true,decide_eq_true_eq,DU]
 refine and_congr Iff.rfl ⟨fun h=>⟨fun q hq=>?_,I0 (r:=fun a b:Queue=>Dg a.res.name b.res.name=true) (fun a b c=>Jc _ _ _) l fun i a b ha hb=>?_⟩,fun⟨h1,h2⟩ i b hb=>?_⟩
 ·obtain⟨i,hi⟩:=List.mem_iff_getElem?.1 hq
  have:=h i q hi
  simp only[BH,and_eq_true]at this
  exact this.1
 ·have:=h (i+1) b hb
  simp only[BH,and_eq_true]at this
  have h2:=this.2
  simpa [List.getD,ha]using h2
 ·simp only[BH,and_eq_true]
  refine⟨h1 b (mG hb),?_⟩
  cases i with
  | zero=>simp
  | succ i =>
   obtain⟨a,ha⟩:∃ a,l[i]?=some a:=⟨_,gE (by have:=Al hb;omega)⟩
   have:=Ml h2 ha hb
   simpa [List.getD,ha]using this
theorem HD(l:List Need):EI l=true↔l.length≤8∧(∀ n∈l,n.proc.ok=true∧0≤n.gen∧n.gen≤1073741824∧AQ n.expr=true)∧l.Pairwise fun a b=>A2 a.proc b.proc<0:=by
 unfold EI
 rw[and_eq_true,decide_eq_true_eq,DU]
 refine and_congr Iff.rfl ⟨fun h=>⟨fun q hq=>?_,I0 (r:=fun a b:Need=>A2 a.proc b.proc<0) (fun a b c=>CR) l fun i a b ha hb=>?_⟩,fun⟨h1,h2⟩ i b hb=>?_⟩
 ·obtain⟨i,hi⟩:=List.mem_iff_getElem?.1 hq
  have:=h i q hi
  simp only[BB,and_eq_true,decide_eq_true_eq]at this
  exact⟨this.1.1.1.1,this.1.1.1.2,this.1.1.2,this.1.2⟩
 ·have:=h (i+1) b hb
  simp only[BB,and_eq_true]at this
  have h2:=this.2
  simpa [List.getD,ha]using h2
 ·have h3:=h1 b (mG hb)
  simp only[BB,and_eq_true,decide_eq_true_eq]
  refine⟨⟨⟨⟨h3.1,h3.2.1⟩,h3.2.2.1⟩,h3.2.2.2⟩,?_⟩
  cases i with
  | zero=>simp
  | succ i =>
   obtain⟨a,ha⟩:∃ a,l[i]?=some a:=⟨_,gE (by have:=Al hb;omega)⟩
   have:=Ml h2 ha hb
   simpa [List.getD,ha]using this
theorem F0(s:WS):AB s=true↔BT s.queues=true∧EI s.needs=true∧(Ah s).length≤8:=by
 simp only[AB,and_eq_true,decide_eq_true_eq,and_assoc]
theorem Hm{s:WS}(h:AB s=true)(p:Proc):AB (A3 s p)=true:=by
 have hg:=AS h
 obtain⟨h1,h2,h3⟩:=(F0 s).1 h
 obtain⟨a1,a2,a3⟩:=(GN _).1 h1
 obtain⟨b1,b2,b3⟩:=(HD _).1 h2
 refine(F0 _).2 ⟨(GN _).2 ⟨?_,?_,?_⟩,(HD _).2 ⟨?_,?_,?_⟩,?_⟩
 ·simpa [A3]using a1
 ·exact Cg hg p
 ·simp only[A3,List.pairwise_map,QX]
  exact a3
 ·exact Nat.le_trans (List.length_filter_le _ _) b1
 ·exact fun n hn=>b2 n (List.mem_filter.1 hn).1
 ·exact b3.filter _
 ·rw[Kx hg]
  exact Nat.le_trans (List.length_filter_le _ _) h3
theorem I9{s:WS}(h:AB s=true)(l:List Proc):AB (Ca s l)=true:=Ob (P:=fun x=>AB x=true) (fun _ p h=>Hm h p) l h
theorem Ra(p:Proc)(name:Bs):∀ (l:List Queue),(l.Pairwise fun a b=>a.res.name≠b.res.name)→∀ w:Bool,l.foldl (fun w q=>if q.res.name==name then (Ao q p).isSome else w) w=match l.find? (fun q=>q.res.name==name) with
  |some q=>(Ao q p).isSome
  |none=>w
 |[],_,w=>rfl
 | q::l,h,w=>by
  rw[pairwise_cons]at h
  rw[List.foldl_cons,Ra p name l h.2,List.find?_cons]
  cases hq:(q.res.name==name)
  ·simp
  ·have hn:l.find? (fun q=>q.res.name==name)=none:=by
    rw[List.find?_eq_none]
    intro x hx
    have:=h.1 x hx
    simp at hq ⊢
    rw[← hq];exact fun h=>this h.symm
   rw[hn]
   simp
theorem UM(l:List Queue)(h:l.Pairwise fun a b=>a.res.name≠b.res.name)(p:Proc)(name:Bs):C1 l p name=Gx l p name:=Ra p name l h false
theorem TO{s:WS}(h:AB s=true)(p:Proc)(name:Bs):C1 s.queues p name=Gx s.queues p name:=by
 obtain⟨h1,-,-⟩:=(F0 s).1 h
 obtain⟨-,-,a3⟩:=(GN _).1 h1
 refine UM _ (a3.imp fun {a b} hab he=>?_) p name
 unfold Dg at hab
 rw[he,H4]at hab
 simp at hab
end Go.Rd
