/- part 37 of the proof -/
import Derived.Test.YthachdiockkofaaGreatDoorT18
import Derived.Test.YthachdiockkofaaGreatDoorT36
set_option linter.all false
open Go Go.Abs Go.Proofs
set_option maxRecDepth 100000
namespace Go.Rd
set_option maxHeartbeats 8000000
open List (mem_append mem_cons)
theorem Wk{s:WS}{A B:List Proc}(h:∀ x,AK A x=AK B x):Ca s A=Ca s B:=by
 unfold Ca
 have:(fun(x:WS) (p:Proc)=>if AK A p then x else A3 x p)=fun x p=>if AK B p then x else A3 x p:=by
  funext x p
  rw[h p]
 rw[this]
theorem XK{s:WS}{f:Proc}(hf:f∉Ah s):A3 s f=s:=by
 have hn:∀ q∈s.queues,f∉Bm q:=fun q hq hm=>hf ((FU s f).2 (.inl ⟨q,hq,hm⟩))
 have e1:(s.queues.map fun q=>BV q f)=s.queues:=by
  conv=>rhs;rw[← List.map_id s.queues]
  refine List.map_congr_left fun q hq=>?_
  have:AK (Bm q) f=false:=by simpa [AK]using hn q hq
  simp[BV,this]
 have e2:Iq s.needs f=s.needs:=by
  unfold Iq
  rw[List.filter_eq_self]
  intro n hm
  exact decide_eq_true fun e=>hf ((FU s f).2 (.inr ⟨n,hm,e⟩))
 unfold A3
 rw[e1,e2]
theorem XN{s:WS}(hg:BX s){l:List Proc}{f:Proc}(hf:AK l f=false):Ca (A3 s f) l=Ca s l:=by
 by_cases hm:f∈Ah s
 ·exact Vc hg hf hm
 ·rw[XK hm]
theorem Pt{A B:List Proc}(h:∀ x,AK B x=true→AK A x=true):∀ (ms:List Proc) (s:WS),BX s→Ca (Ig A ms s) B=Ca s B
 |[],_,_=>rfl
 | m::ms,s,hg=>by
  show Ca (Ig A ms (if AK A m then s else A3 s m)) B=Ca s B
  split
  ·exact Pt h ms s hg
  ·rename_i hm
   rw[Pt h ms _ (Cg hg m)]
   refine XN hg ?_
   cases hb:AK B m
   ·rfl
   ·exact absurd (h m hb) hm
theorem Vd{s:WS}(hg:BX s){A B:List Proc}(h:∀ x,AK B x=true→AK A x=true):Ca (Ca s A) B=Ca s B:=Pt h _ s hg
theorem O0{A:List Proc}{x:Proc}:∀ (ms:List Proc) (s:WS),BX s→x∈Ah (Ig A ms s)→x∈Ah s∧(x∈ms→AK A x=true)
 |[],_,_,h=>⟨h,fun h=>by cases h⟩
 | m::ms,s,hg,h=>by
  have h':x∈Ah (Ig A ms (if AK A m then s else A3 s m)):=h
  split at h'
  ·rename_i hm
   obtain⟨a,b⟩:=O0 ms s hg h'
   refine⟨a,fun hx=>?_⟩
   rcases mem_cons.1 hx with rfl|hx
   ·exact hm
   ·exact b hx
  ·obtain⟨a,b⟩:=O0 ms _ (Cg hg m) h'
   obtain⟨a1,a2⟩:=(HC hg m x).1 a
   refine⟨a1,fun hx=>?_⟩
   rcases mem_cons.1 hx with rfl|hx
   ·exact absurd rfl a2
   ·exact b hx
theorem YY{s:WS}(hg:BX s){A:List Proc}{x:Proc}(h:x∈Ah (Ca s A)):x∈A∧x∈Ah s:=by
 obtain⟨a,b⟩:=O0 (Ah s) s hg h
 exact⟨by simpa [AK]using b a,a⟩
def Jd(s:WS)(A:List Proc):List Proc:=Bn (Ca s A)
theorem Mz{s:WS}(hg:BX s){A:List Proc}{x:Proc}(h:x∈Jd s A):x∈A:=(YY hg (JA _ _ (Kr hg A) (Nat.le_refl _) x h)).1
theorem T7{s:WS}(hg:BX s){A B:List Proc}(h:∀ x,x∈A→x∈B){x:Proc}(hx:x∈Jd s A):x∈Jd s B:=by
 unfold Jd at *
 rw[← Vd (s:=s) hg (A:=B) (B:=A) (fun x hx=>by simp only[AK,decide_eq_true_eq]at *;exact h x hx)]at hx
 exact VJ (Kr hg B) A x hx
theorem Vh{s:WS}:∀ (n:Nat) (x:WS) (k:Nat),Jb s x k→(Ah x).length≤n→∃ y k',Jb s y k'∧Bg y=[]
 | 0,x,k,h,hn=>⟨x,k,h,by unfold Bg;rw[L4 hn];rfl⟩
 | n+1,x,k,h,hn=>by
  cases hf:Bg x with
  | nil=>exact⟨x,k,h,hf⟩
  | cons f l =>
   have hm:f∈Bg x:=by rw[hf];simp
   have:=DZ (AS h.val) (DX.1 hm).1
   exact Vh n _ _ (h.step hm) (by omega)
theorem VG{s:WS}(hv:AB s=true)(hf:Few s):Bn (Ca s (Bn s))=Bn s:=by
 obtain⟨y,k,h,hy⟩:=Vh _ s 0 (Jb.start hv hf) (Nat.le_refl _)
 obtain⟨_,h2⟩:=h.fin hy
 rw[h2,h.dead]
theorem OC{s:WS}(hv:AB s=true)(hf:Few s)(A:List Proc):Jd s (Jd s A)=Jd s A:=by
 have hg:=AS hv
 have:=VG (I9 hv A) (IL hf A)
 unfold Jd
 rw[← Vd (s:=s) hg (A:=A) (B:=Bn (Ca s A)) (fun x hx=>by simp only[AK,decide_eq_true_eq]at *;exact Mz hg hx)]
 exact this
theorem OE(s:WS)(hg:BX s):(Bn s).Nodup:=by
 have:∀ (n:Nat) (s:WS),(J5 n s).2.Nodup:=by
  intro n
  induction n with
  | zero=>intro s;exact FG (Dp _)
  | succ n ih =>
   intro s
   simp only[J5]
   split
   ·exact FG (Dp _)
   ·exact ih _
 exact this _ s
structure Lr(s:WS)(p:Proc)(set:List Proc):Prop where
 fix:Jd s set=set
 mem:p∈set
theorem VC{s:WS}(hv:AB s=true)(hf:Few s){p q:Proc}{set:List Proc}(h:Lr s p set):Lr s p (AJ s p set q)∧(∀ x,x∈AJ s p set q→x∈set)∧(q≠p→q∈AJ s p set q→p∉Jd s (BK set q)):=by
 have hg:=AS hv
 unfold AJ
 split
 ·rename_i h1
  refine⟨h,fun x hx=>hx,fun hne hq=>?_⟩
  rcases h1 with h1|h1
  ·exact absurd h1 hne
  ·simp[AK]at h1
   exact absurd hq h1
 ·rename_i h1
  split
  ·rename_i h2
   refine⟨⟨OC hv hf _,by simpa [AK]using h2⟩,fun x hx=>?_,fun _ hq=>?_⟩
   ·have:=Mz hg (A:=BK set q) hx
    simp[BK]at this
    exact this.1
   ·have:=Mz hg (A:=BK set q) hq
    simp[BK]at this
  ·rename_i h2
   exact⟨h,fun x hx=>hx,fun _ _ hp=>h2 (by simp only[AK,decide_eq_true_eq];exact hp)⟩
theorem Qc{s:WS}(hv:AB s=true)(hf:Few s){p:Proc}:∀ (l set:List Proc),Lr s p set→Lr s p (l.foldl (AJ s p) set)∧(∀ x,x∈l.foldl (AJ s p) set→x∈set)∧∀ q∈l,q≠p→q∈l.foldl (AJ s p) set→p∉Jd s (BK (l.foldl (AJ s p) set) q)
 |[],set,h=>⟨h,fun _ hx=>hx,fun _ hq=>by cases hq⟩
 | r::l,set,h=>by
  obtain⟨a1,a2,a3⟩:=VC hv hf (q:=r) h
  obtain⟨b1,b2,b3⟩:=Qc hv hf l _ a1
  refine⟨b1,fun x hx=>a2 x (b2 x hx),fun q hq hne hm=>?_⟩
  rcases mem_cons.1 hq with rfl|hq
  ·intro hp
   have h1:=a3 hne (b2 _ hm)
   refine h1 (T7 (AS hv) (fun x hx=>?_) hp)
   simp only[BK,List.mem_filter,decide_eq_true_eq]at hx ⊢
   exact⟨a2 x (b2 x hx.1),hx.2⟩
  ·exact b3 q hq hne hm
theorem YC{α:Type}{l:List α}(hn:l.Nodup){i:Nat}{q:α}(hq:l[i]?=some q)(x:α):x∈l.take i++l.drop (i+1)↔x∈l∧x≠q:=by
 have hi:=Al hq
 have e:l=l.take i++q::l.drop (i+1):=by
  conv=>lhs;rw[← List.take_append_drop i l,List.drop_eq_getElem_cons hi,get_eq hq]
 rw[e,List.nodup_append]at hn
 obtain⟨h1,h2,h3⟩:=hn
 have h4:=List.nodup_cons.1 h2
 constructor
 ·intro hx
  refine⟨?_,fun eq=>?_⟩
  ·rw[e]
   rcases mem_append.1 hx with hx|hx
   ·simp[hx]
   ·simp[hx]
  ·subst eq
   rcases mem_append.1 hx with hx|hx
   ·exact h3 x hx x (by simp) rfl
   ·exact h4.1 hx
 ·rintro⟨hx,hne⟩
  rw[e]at hx
  rcases mem_append.1 hx with hx|hx
  ·simp[hx]
  ·rcases mem_cons.1 hx with hx|hx
   ·exact absurd hx hne
   ·simp[hx]
theorem VB{s:WS}(hv:AB s=true)(hf:Few s){p:Proc}(hp:p∈Bn s):∃ core,DA s p=(core,0)∧core.Nodup∧p∈core∧p∈Bn (Ca s core)∧∀ (i:Nat) (q:Proc),core[i]?=some q→q≠p→p∉Bn (Ca s (core.take i++core.drop (i+1))):=by
 have hg:=AS hv
 have hall:Ca s (Ah s)=s:=Tx fun p hp=>by simpa [AK]using hp
 have h0:Lr s p (Bn s):=⟨by
  have:=OC hv hf (Ah s)
  unfold Jd at this
  rw[hall]at this
  exact this,hp⟩
 obtain⟨c1,c2,c3⟩:=Qc hv hf (Bn s) (Bn s) h0
 have hc:DA s p=((Bn s).foldl (AJ s p) (Bn s),0):=by
  have:AK (Cv s).2 p=true:=by simp only[AK,decide_eq_true_eq];exact hp
  simp only[DA,hv,if_true,this]
  rfl
 refine⟨_,hc,?_,c1.mem,?_,fun i q hq hne=>?_⟩
 ·rw[← c1.fix]
  exact OE _ (Kr hg _)
 ·have:=c1.mem
  rw[← c1.fix]at this
  exact this
 ·have hnd:((Bn s).foldl (AJ s p) (Bn s)).Nodup:=by
   rw[← c1.fix]
   exact OE _ (Kr hg _)
  have hm:=mG hq
  have h1:=c3 q (c2 q hm) hne hm
  rw[Wk (B:=BK ((Bn s).foldl (AJ s p) (Bn s)) q)]
  ·exact h1
  ·intro x
   have:=YC hnd hq x
   simp only[AK,BK,List.mem_filter,decide_eq_true_eq,this]
end Go.Rd
