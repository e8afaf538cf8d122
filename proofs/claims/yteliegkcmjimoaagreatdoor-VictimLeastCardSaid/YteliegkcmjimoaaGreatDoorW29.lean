/- part 29 of the proof -/
import Derived.Test.YteliegkcmjimoaaGreatDoorW28
set_option linter.all false
open Go Go.Abs Go.Proofs
set_option maxRecDepth 100000
namespace Go.Rd
set_option maxHeartbeats 8000000
open List (filter_append map_append map_cons take_add_one take_length)
open Bool (and_eq_true false_eq_true)
open Nat (le_refl)
open Tryz
def KX(t:List Queue)(x:Bu):Prop:=∀ q∈t,Kq q x.proc (An x.AB.entries q.res.name)
def KF(q:Queue)(p:Ac)(l:BR):Prop:=Ar q p=none/\Am q.holds p=l
def KF.k{q:Queue}{p:Ac}{l:BR}(h:KF q p l):Kq q p l:=⟨λhh=>by rw[h.1]at hh;grind,.inl h.2⟩
structure Good(t:List Queue)(x:Bu):Prop where
 ex:BM x.Bk.expr=true
 fd:∀ a∈Ah x.Bk.expr,∃ k,CG t a.name=some k
 k:KX t x
def Good.step{p:Ac}{t t':List Queue}{x:Bu}(h:Good t x)(hs:Gi p t t')(hp:x.proc≠p):Good t' x :=
 ⟨h.ex,λa ha=>by rw[Kj hs.res];exact h.fd a ha,hs.other x.proc hp (λn=>An x.AB.entries n) h.k⟩
structure JE(e:Option Nat)(w:Ap):Prop where
 tab:DI w.Aa
 n:w.procs.length<=8
 uq:∀ (i j:Nat) (x y:Bu),w.procs[i]?=some x->w.procs[j]?=some y->x.proc=y.proc->i=j
 FM:∀ (j:Nat) (x:Bu),w.procs[j]?=some x->some j≠e->x.waiting=true->Good w.Aa x
def JE.gb{w:Ap}(h:JE none w)(i:Nat):JE (some i) w:=⟨h.tab,h.n,h.uq,λj x hj _ hw=>h.FM j x hj (by simp) hw⟩
def JE.step{i:Nat}{w w':Ap}{z:Bu}(h:JE (some i) w)(hz:w.procs[i]?=some z)(hp:w'.procs=w.procs)(hs:Gi z.proc w.Aa w'.Aa):JE (some i) w' where
 tab:=hs.tab
 n:=by rw[hp];exact h.n
 uq:=by rw[hp];exact h.uq
 FM:=λj x hj CZ hw=>by
  rw[hp]at hj;refine(h.FM j x hj CZ hw).step hs λe=>CZ ?_
  rw[h.uq j i x z hj hz e]
def JE.set{i:Nat}{w:Ap}{z y:Bu}(h:JE (some i) w)(hz:w.procs[i]?=some z)(hy:y.proc=z.proc)(hg:y.waiting=true->Good w.Aa y):JE none (AW w i y) where
 tab:=h.tab
 n:=by simp[AW];exact h.n
 uq:=λa b u v ha hb e=>by
  have key:∀ (c:Nat) (u:Bu),(w.procs.set i y)[c]?=some u->∃ u',w.procs[c]?=some u'/\u'.proc=u.proc:=λc u hc=>by grind
  obtain⟨u',h1,h2⟩:=key a u ha;obtain⟨v',h3,h4⟩:=key b v hb;exact h.uq a b u' v' h1 h3 (by grind)
 FM:=λj x hj _ hw=>by
  simp[AW]at hj;rw[List.getElem?_set]at hj;split at hj
  ·split at hj
   ·have:=Option.some.inj hj;subst this;exact hg hw
   grind
  ·rename_i CZ;exact h.FM j x hj (λe=>CZ (Option.some.inj e).symm) hw
def JE.set'{i:Nat}{w:Ap}{z y:Bu}(h:JE (some i) w)(hz:w.procs[i]?=some z)(hy:y.proc=z.proc):JE (some i) (AW w i y):=by
 have h1:=JE.set (y:={ y with waiting:=false }) h hz hy (λe=>by grind);refine⟨h.tab,by simp[AW];exact h.n,λa b u v ha hb e=>?_,λj x hj CZ hw=>?_⟩
 ·have key:∀ (c:Nat) (u:Bu),(w.procs.set i y)[c]?=some u->∃ u',w.procs[c]?=some u'/\u'.proc=u.proc:=λc u hc=>by
   grind
  obtain⟨u',h1,h2⟩:=key a u ha;obtain⟨v',h3,h4⟩:=key b v hb;exact h.uq a b u' v' h1 h3 (by grind)
 ·simp[AW]at hj;rw[List.getElem?_set]at hj;split at hj
  ·grind
  ·exact h.FM j x hj CZ hw
def KD{w:Ap}{x:Bu}{name:Bs}(h:DI w.Aa)(hk:KX w.Aa x)(hf:∃ k,CG w.Aa name=some k) :
 VH w x name/\Gi x.proc w.Aa (Ed w x name).Aa/\KX (Ed w x name).Aa x/\∀ q∈(Ed w x name).Aa,KF q x.proc (An x.AB.entries q.res.name)\/(q∈w.Aa/\q.res.name≠name):=by
 obtain⟨k,hf⟩:=hf;obtain⟨AP,q,hq,hn⟩:=D2 hf;have hg:w.Aa.getD k q0=q:=by grind
 have UQ:=mG hq;have T9:=hk q UQ;have fin:∀ q1:Queue,q1.res=q.res->KF q1 x.proc (An x.AB.entries name)->Gi x.proc w.Aa (w.Aa.set k q1) ->
  KX (w.Aa.set k q1) x/\∀ q'∈w.Aa.set k q1,KF q' x.proc (An x.AB.entries q'.res.name)\/(q'∈w.Aa/\q'.res.name≠name):=by
  intro q1 hr Uf hs;have e1:q1.res.name=name:=by grind
  refine⟨λq' FI=>?_,λq' FI=>?_⟩
  ·rcases D6 (q:=q) FI with rfl|⟨j,_,hj⟩
   ·rw[e1];exact Uf.k
   ·exact hk q' (mG hj)
  ·rcases D6 (q:=q) FI with rfl|⟨j,_,hj⟩
   ·grind
   grind[F1]
 cases hw:(Ar q x.proc).isSome
 ·have eA:EH w x name k=w:=by grind[EH]
  have lO:VH w x name:=⟨k,hf,Dx h,by grind,by grind[Dx]⟩;have Ui:=F4 hw;have eK:Ed w x name=LZ w x name k:=by grind[Ed]
  rw[eK];unfold LZ;rw[hg]
  by_cases hl:Am q.holds x.proc=An x.AB.entries name
  ·simp only[hl,decide_true,if_true];refine⟨lO,.refl h,hk,λq' FI=>?_⟩
   by_cases e:q'.res.name=name
   ·obtain⟨j,hj⟩:=List.getElem?_of_mem FI;have:=F1 h hj hq (e.trans hn.symm);subst this;rw[hq]at hj;have:=Option.some.inj hj;subst this;exact .inl ⟨Ui,by grind⟩
   grind
  ·simp only[hl,decide_false,false_eq_true,if_false];rw[hn]at T9;obtain⟨hz,hc⟩:=T9.2.resolve_left hl;obtain⟨q1,e1,hs,hr,h1,h2⟩:=Jv (a:=⟨name,An x.AB.entries name⟩) h hf hq Ui hz hc;simp only[Da];rw[e1];exact⟨lO,hs,fin q1 hr ⟨h1,h2⟩ hs⟩
 ·obtain⟨q1,e1,hs,hr,h1,h2⟩:=ak h hf hq hw;have hl:=T9.1 hw;rw[hn]at hl;have eA:EH w x name k=Da w (w.Aa.set k q1) (Du w.Aa x.proc name).2.1:=by simp_all[EH]
  have lO:VH w x name:=⟨k,hf,Dx h,by grind[Da],by rw[eA];exact Dx hs.tab⟩;have eK:Ed w x name=EH w x name k:=by grind[Ed,LZ,Da]
  rw[eK,eA];exact⟨lO,hs,fin q1 hr ⟨h1,h2.trans hl⟩ hs⟩
def Ou{x:Bu}:∀ (az:List Atom) (w:Ap),DI w.Aa->KX w.Aa x->(∀ a∈az,∃ k,CG w.Aa a.name=some k) ->
 Qm w x az/\Gi x.proc w.Aa (EZ w x az).Aa/\KX (EZ w x az).Aa x/\∀ q∈(EZ w x az).Aa,KF q x.proc (An x.AB.entries q.res.name)\/(q∈w.Aa/\∀ a∈az,q.res.name≠a.name)
 |[],w,h,hk,_=>⟨λi b hb=>by grind,.refl h,hk,λq hq=>.inr ⟨hq,λa ha=>by grind⟩⟩
 | a::az,w,h,hk,hf=>by
  obtain⟨h1,h2,h3,h4⟩:=KD h hk (hf a (by simp));obtain⟨g1,g2,g3,g4⟩:=Ou az (Ed w x a.name) h2.tab h3 (λb hb=>by rw[Kj h2.res];grind);refine⟨λi b hb=>?_,h2.trans g2,g3,λq hq=>?_⟩
  ·cases i with
   | zero =>
    simp at hb;subst hb;exact h1
   | succ i=>exact g1 i b (by grind)
  ·rcases g4 q hq with Uf|⟨hq,hn⟩<;>grind
def E8{w:Ap}{i:Nat}{x:Bu}(h:JE none w)(hx:w.procs[i]?=some x)(hw:x.waiting=true):Qm w x (Ah x.Bk.expr)/\JE none (Bb w i x)/\∀ q∈(Bb w i x).Aa,KF q x.proc (An x.AB.entries q.res.name)\/(q∈w.Aa/\∀ a∈Ah x.Bk.expr,q.res.name≠a.name):=by
 have hg:=h.FM i x hx (by simp) hw;obtain⟨h1,h2,h3,h4⟩:=Ou (Ah x.Bk.expr) w h.tab hg.k hg.fd;refine⟨h1,?_,h4⟩;have hp:=Ia w x (Ah x.Bk.expr);exact JE.set (z:=x) ((h.gb i).step hx hp h2) (by grind) rfl (λe=>by grind[CH])
def Uj{i:Nat}{x:Bu}:∀ (kl:List (Bool × Atom)) (w:Ap) (z:Bu),JE (some i) w->w.procs[i]?=some z->z.proc=x.proc->KX w.Aa x->(∀ p∈kl,∃ k,CG w.Aa p.2.name=some k) ->
 Z8 w i x kl/\JE (some i) (Eb w i x kl)
 |[],w,z,h,_,_,_,_=>⟨λj p hp=>by grind,h⟩
 |(kp,a)::kl,w,z,h,hz,zi,hk,hf=>by
  have gz:=hf (kp,a) (by simp);obtain⟨h1,h2,h3,_⟩:=KD h.tab hk gz;have key:JE (some i) (GK w i x kp a.name)/\(∃ z',(GK w i x kp a.name).procs[i]?=some z'/\z'.proc=x.proc)/\KX (GK w i x kp a.name).Aa x/\(GK w i x kp a.name).Aa.map (·.res)=w.Aa.map (·.res):=by
   unfold GK;cases kp
   ·simp;have hp:=GB w x a.name;exact⟨h.step hz hp (zi▸h2),⟨z,by grind,zi⟩,h3,h2.res⟩
   ·simp only[Bool.not_true,false_eq_true,if_false];have hg:w.procs.getD i x0=z:=by grind
    obtain⟨k,UM⟩:=gz;rw[UM,hg];simp only;split
    ·exact⟨h,⟨z,hz,zi⟩,hk,rfl⟩
    ·refine⟨h.set' hz rfl,?_,hk,rfl⟩;simp_all[AW,Au]
  obtain⟨k1,⟨z',k2,k3⟩,k4,k5⟩:=key;obtain⟨g1,g2⟩:=Uj kl (GK w i x kp a.name) z' k1 k2 k3 k4 (λp hp=>by grind[Kj]);refine⟨λj p hp=>?_,g2⟩;cases j with
  | zero =>
   simp at hp;subst hp;exact⟨λ_=>h1,λ_=>⟨Dx h.tab,gz⟩⟩
  | succ j=>exact g1 j p (by grind)
def JE.note{e:Option Nat}{w:Ap}(h:JE e w)(k:Int)(p:Ac):JE e (CL w k p):=⟨h.tab,h.n,h.uq,h.FM⟩
def Sj{w:Ap}{i:Nat}{x:Bu}(h:JE none w)(hx:w.procs[i]?=some x)(hw:x.waiting=true) :
 Z8 (CL w 2 x.proc) i x ((Df x.Bk.expr (BY w.Aa x.proc x.Bk.expr)).zip (Ah x.Bk.expr))/\JE none (C9 w i x):=by
 have hg:=h.FM i x hx (by simp) hw;obtain⟨h1,h2⟩:=Uj ((Df x.Bk.expr (BY w.Aa x.proc x.Bk.expr)).zip (Ah x.Bk.expr)) (CL w 2 x.proc) x ((h.gb i).note 2 x.proc) hx rfl hg.k (λp hp=>hg.fd p.2 (List.of_mem_zip hp).2);refine⟨h1,?_⟩;obtain⟨l',hl⟩:=Te (w:=w) (i:=i) (x:=x) (z:=x) hx ((Df x.Bk.expr (BY w.Aa x.proc x.Bk.expr)).zip (Ah x.Bk.expr)) (CL w 2 x.proc) ⟨x.AB,(My hx).symm⟩;have hi:=Au hx;have hz:(Eb (CL w 2 x.proc) i x ((Df x.Bk.expr (BY w.Aa x.proc x.Bk.expr)).zip (Ah x.Bk.expr))).procs[i]?=some { x with AB:=l' }:=by grind
 simp only[C9];generalize Eb (CL w 2 x.proc) i x ((Df x.Bk.expr (BY w.Aa x.proc x.Bk.expr)).zip (Ah x.Bk.expr))=w1 at h2 hz ⊢;have e1:w1.procs.getD i x0 = { x with AB:=l' }:=by grind
 rw[e1];have h3:=JE.set (y:=CH { x with AB:=l' }) h2 hz rfl (λe=>by grind[CH]);have NP:=Au hz;have xr:(AW w1 i (CH { x with AB:=l' })).procs[i]?=some (CH { x with AB:=l' }):=by grind[AW]
 have e2:(AW w1 i (CH { x with AB:=l' })).procs.getD i x0=CH { x with AB:=l' }:=by grind
 rw[e2];exact JE.set (h3.gb i) xr rfl (λe=>by grind[CH,CA])
def JE.reqs{w:Ap}(h:JE none w):Z6 w:=λx hx hw=>by
 obtain⟨j,hj⟩:=List.getElem?_of_mem hx;exact(h.FM j x hj (by simp) hw).ex
def JE.Gf:Ku (JE none) where
 lz:=λw h=>⟨Dx h.tab,h.n,h.reqs⟩
 safe:=λw i x h hs hx=>by
  obtain⟨y,hy,RQ⟩:=HT hs;rw[hx]at hy;have:=Option.some.inj hy;subst this;exact(Sj h hx (by simp_all[Lf])).1
 next:=λw i x h hs hx=>by
  obtain⟨y,hy,RQ⟩:=HT hs;rw[hx]at hy;have:=Option.some.inj hy;subst this;exact(Sj h hx (by simp_all[Lf])).2
def JE.next{w:Ap}{i:Nat}{x:Bu}(h:JE none w)(hx:w.procs[i]?=some x):JE none (AW w i (CA x)) :=
 JE.set (h.gb i) hx rfl λhw=>by
  have:=h.FM i x hx (by simp) hw;exact⟨this.ex,this.fd,this.k⟩
def JE.yF:pP (JE none) where
 toKu:=JE.Gf
 ev:=λw k p h=>h.note k p
 wd:=λw i x h hx hw=>⟨(E8 h hx hw).1,(E8 h hx hw).2.1⟩
 nx:=λw i x h hx=>h.next hx
structure Lost(w:Ap):Prop where
 q:w.Aa=[]
 n:w.procs.length<=8
 rq:Z6 w
def XV(w:Ap):Prop:=JE none w\/Lost w
theorem nO(l:List Atom)(set:List Bool)(h:∀ b∈set,b=false)(a:Atom):E1 l set a=false:=by
 unfold E1;split
 ·rename_i i _;simp;cases hs:set[i]? with
  |none=>rfl
  |some b=>rw[h b (mG hs)];rfl
 ·rfl
def V6{has:Atom->Bool}:∀ (es:List Expr) (l:List Atom),(∀ e∈es,∀ l,(prop e l).1=true->FW has e=false)->(C4 es l).1=true->DR has es=0
 |[],_,_,_=>by simp[DR]
 | e::es,l,hk,h=>by
  simp[C4]at h;split at h
  ·rename_i h1;have:=hk e (by simp) l h1;simp only[DR,this,false_eq_true,if_false];rw[V6 es _ (λe' he=>hk e' (by grind)) h];rfl
  grind
def YG{has:Atom->Bool}(hh:∀ a,has a=false):∀ (N:Nat) (e:Expr),SizeOf.sizeOf e<N->∀ l:List Atom,(prop e l).1=true->FW has e=false
 | 0,_,h,_,_=>by omega
 | N+1,e,h,l,hp=>by
  rw[L2];rw[EW]at hp
  by_cases h0:e.kids.length=0
  ·grind
  ·rw[if_neg h0]at hp ⊢;split at hp
   ·grind
   ·rename_i hn;have hc:=V6 (has:=has) e.kids l (λk hk l' gq=>YG hh N k (by have:=EM hk;omega) l' gq) hp;rw[hc];simp only[not_or,Int.not_lt]at hn;simp only[decide_eq_false_iff_not];omega
def iI{p:Ac}{e:Expr}(h:BM e=true):Gc e (BY [] p e)=false:=by
 have hp:(prop e []).1=true:=by simp_all[BM]
 have hg:∀ b∈BY [] p e,b=false:=λb hb=>by
  simp[BY]at hb;obtain⟨a,_,rfl⟩:=hb;rfl
 unfold Gc;rw[YG (λa=>nO _ _ hg a) _ e (Nat.lt_succ_self _) [] hp];simp
theorem Lost.sat{w:Ap}(h:Lost w):Ho w=none:=by
 unfold Ho;rw[List.findIdx?_eq_none_iff];intro x hx;unfold Lf;cases hw:x.waiting
 ·rfl
 ·rw[h.q,iI (h.rq x hx hw)];rfl
def PB:Fa []:=⟨by simp,by simp⟩
def XV.Gf:Ku XV where
 lz:=λw h=>h.elim (λh=>JE.Gf.lz w h) λh=>⟨by rw[h.q];exact PB,h.n,h.rq⟩
 safe:=λw i x h hs hx=>h.elim (λh=>JE.Gf.safe w i x h hs hx) λh=>by rw[h.sat]at hs;grind
 next:=λw i x h hs hx=>h.elim (λh=>.inl (JE.Gf.next w i x h hs hx)) λh=>by rw[h.sat]at hs;grind
def gM(p:Ac)(a:Atom)(prio:Int):(EK [] p a prio).1=[]:=by grind[EK]
def TX(p:Ac)(prio:Int):∀ (az:List Atom) (w:Ap),w.Aa=[]->(DK w p prio az).Aa=[]/\ct w p prio az
 |[],w,h=>⟨h,λi hi=>by grind⟩
 | a::az,w,h=>by
  have h1:(Gb w p a prio).Aa=[]:=by simp only[Gb,Da];rw[h];exact gM p a prio
  obtain⟨g1,g2⟩:=TX p prio az (Gb w p a prio) h1;refine⟨g1,λi hi=>?_⟩;cases i with
  | zero=>show Fa w.Aa;rw[h];exact PB
  | succ i=>exact g2 i (by simpa using hi)
def Rj{i:Nat}{y:Bu}{prio:Int}:∀ (az:List Atom) (w:Ap),(az.map (·.name)).Nodup->JE (some i) w->w.procs[i]?=some y->KX w.Aa y->(∀ q∈w.Aa,(∃ a∈az,a.name=q.res.name)->Am q.holds y.proc=An y.AB.entries q.res.name) ->
 ct w y.proc prio az/\((DK w y.proc prio az).Aa=[]\/(JE (some i) (DK w y.proc prio az)/\KX (DK w y.proc prio az).Aa y/\(DK w y.proc prio az).Aa.map (·.res)=w.Aa.map (·.res)))
 |[],w,_,h,_,hk,_=>⟨λi hi=>by grind,.inr ⟨h,hk,rfl⟩⟩
 | a::az,w,hu,h,hy,hk,hf=>by
  have iM:=List.nodup_cons.1 hu;have Aeg:=Dx h.tab;rcases cV (p:=y.proc) (a:=a) (prio:=prio) h.tab (λn=>An y.AB.entries n) (λq hq hn=>hf q hq ⟨a,by simp,hn.symm⟩) with hl|⟨k,q,q1,UM,hq,hn,e1,hs,hr,T9⟩
  ·have h1:(Gb w y.proc a prio).Aa=[]:=hl;obtain⟨g1,g2⟩:=TX y.proc prio az (Gb w y.proc a prio) h1;refine⟨λj hj=>?_,.inl g1⟩;cases j with
   | zero=>exact Aeg
   | succ j=>exact g2 j (by grind)
  ·have eq1:(Gb w y.proc a prio).Aa=w.Aa.set k q1:=e1;have iJ:(Gb w y.proc a prio).procs=w.procs:=rfl;have XS:KX (Gb w y.proc a prio).Aa y:=λq' FI=>by
    rw[eq1]at FI;rcases D6 (q:=q) FI with rfl|⟨j,_,hj⟩
    ·grind
    ·exact hk q' (mG hj)
   have br:Gi y.proc w.Aa (Gb w y.proc a prio).Aa:=by grind
   obtain⟨g1,g2⟩:=Rj az (Gb w y.proc a prio) iM.2 (h.step hy iJ br) (by grind) XS (λq' FI hx=>by grind);refine⟨λj hj=>?_,?_⟩
   ·cases j with
    | zero=>exact Aeg
    | succ j=>exact g1 j (by grind)
   ·rcases g2 with g2|⟨a1,a2,a3⟩
    ·exact .inl g2
    ·exact .inr ⟨a1,a2,a3.trans br.res⟩
def Ly(l:List Atom):Prop:=(l.map (·.name)).Nodup
theorem oK{l:List Atom}{a:Atom}(h:Ly l):Ly (Gl l a).2:=by
 unfold Gl;cases hf:l.find? (pF a) with
 |some b=>exact h
 |none =>
  simp only;split
  ·exact h
  ·unfold Ly at h ⊢;rw[map_append,List.nodup_append];refine⟨h,by simp,λx hx y hy=>?_⟩;simp at hy;subst hy;rw[List.find?_eq_none]at hf;obtain⟨b,hb,rfl⟩:=List.mem_map.1 hx;grind[pF]
def Xo:∀ (es:List Expr) (l:List Atom),(∀ e∈es,∀ l,Ly l->Ly (prop e l).2)->Ly l->Ly (C4 es l).2
 |[],l,_,h=>by grind[C4]
 | e::es,l,hk,h=>by
  simp only[C4];have h1:=hk e (by simp) l h;split
  ·exact Xo es _ (λe' he=>hk e' (by simp[he])) h1
  ·exact h1
def ZE:∀ (N:Nat) (e:Expr),SizeOf.sizeOf e<N->∀ l:List Atom,Ly l->Ly (prop e l).2
 | 0,_,h,_,_=>by omega
 | N+1,e,h,l,hu=>by
  rw[EW];split
  ·grind[oK]
  ·split
   ·omega
   ·exact Xo e.kids l (λk hk l' iM=>ZE N k (by have:=EM hk;omega) l' iM) hu
def Jl(e:Expr):Ly (Ah e):=by
 unfold Ah;split
 ·rename_i h;have hp:(prop e []).1=true:=by simp_all[BM]
  rw[KY _ e (Nat.lt_succ_self _) [] hp];exact ZE _ e (Nat.lt_succ_self _) [] (by simp[Ly])
 ·simp[Ly]
def Idle(t:List Queue)(x:Bu):Prop:=∀ q∈t,KF q x.proc (An x.AB.entries q.res.name)
def cN{w:Ap}{i:Nat}{x:Bu}{r:ca}(h:JE none w)(hx:w.procs[i]?=some x)(hi:Idle w.Aa x)(he:BM r.expr=true)(hf:∀ a∈Ah r.expr,∃ k,CG w.Aa a.name=some k) :
 ct (AW w i (HZ w.now x r)) x.proc r.prio (Ah r.expr)/\XV (MY w i x r):=by
 have hli:=Au hx;have h1:JE (some i) (AW w i (HZ w.now x r)):=(h.gb i).set' hx rfl;have hy:(AW w i (HZ w.now x r)).procs[i]?=some (HZ w.now x r):=by grind[AW]
 obtain⟨g1,g2⟩:=Rj (prio:=r.prio) (Ah r.expr) (AW w i (HZ w.now x r)) (Jl r.expr) h1 hy (λq hq=>(hi q hq).k) (λq hq _=>(hi q hq).2);refine⟨g1,?_⟩;have hp:(MY w i x r).procs=w.procs.set i (HZ w.now x r):=I9 _ _ _ _;have hy2:(MY w i x r).procs[i]?=some (HZ w.now x r):=by grind
 rcases g2 with g2|⟨a1,a2,a3⟩
 ·refine .inr ⟨g2,by rw[hp];simpa using h.n,λz hz hw=>?_⟩;rw[hp]at hz;rcases List.mem_or_eq_of_mem_set hz with hz|rfl
  ·exact h.reqs z hz hw
  ·exact he
 ·refine .inl ?_;have:=JE.set (y:=HZ w.now x r) a1 hy2 rfl (λ_=>⟨he,λa ha=>by rw[Kj a3];exact hf a ha,a2⟩);have e:AW (MY w i x r) i (HZ w.now x r)=MY w i x r:=by
   unfold AW;rw[My hy2]
  unfold MY at e this ⊢;rw[<- e];exact this
def jb{t:List Queue}(p:Ac)(a:Atom)(h:DI t):(BH t p a).1=[]\/Gi p t (BH t p a).1:=by
 cases hf:CG t a.name with
 |none=>grind[BH]
 |some k =>
  obtain⟨AP,q,hq,hn⟩:=D2 hf;have hg:t.getD k q0=q:=by grind
  have hv:=h.val q (mG hq)
  by_cases h0:(AD q p a.AH).2.2=0
  ·right;have:(Am q.holds p).zero=false/\Ar q p=none/\q.res.covers (Am q.holds p) a.AH=true:=by
    revert h0;unfold AD;simp only[hv,Bool.not_true,false_eq_true,if_false];grind[F4]
   obtain⟨q1,e1,hs,_⟩:=Jv h hf hq this.2.1 this.1 this.2.2;rw[e1];exact hs
  ·left;simp only[BH,hf,hg];grind
theorem Ej{a:BR}(h:usable a=true):(BK a.mode=true/\a.AG=0)\/(a.mode=0/\1<=a.AG/\a.AG<=8):=by
 unfold usable at h;rw[Bool.or_eq_true]at h;rcases h with h|h
 ·rcases(Db h).2 with ⟨_,b,c⟩|⟨a,_⟩<;>grind
 ·rcases(Db h).2 with ⟨a,_⟩|⟨_,b,c,d,e⟩<;>grind
theorem Nu{m:Int}(h:BK m=true):m≠0:=by rcases Bc h with rfl|rfl|rfl|rfl|rfl<;>decide
theorem MO{a:BR}(h:usable a=true):a≠⟨0,0⟩:=by
 rintro rfl;rcases Ej h with ⟨h,_⟩|⟨_,h,_⟩
 ·exact Nu h rfl
 grind
def Gr(a b:BR):Prop:=a=⟨0,0⟩\/(usable a=true/\usable b=true/\((a.mode≠0/\BI b.mode a.mode=true)\/(a.mode=0/\b.mode=0/\a.AG<=b.AG)))
def Gr.self{a:BR}(h:a=⟨0,0⟩\/usable a=true):Gr a a:=by
 rcases h with h|h
 ·exact .inl h
 ·refine .inr ⟨h,h,?_⟩;rcases Ej h with ⟨h1,h2⟩|⟨h1,h2⟩<;>simp_all[Nu,Rq]
def Gr.trans{a b c:BR}(h1:Gr a b)(h2:Gr b c):Gr a c:=by
 rcases h1 with h1|⟨ua,ub,h1⟩
 ·exact .inl h1
 ·rcases h2 with h2|⟨_,uc,h2⟩
  ·grind[MO]
  ·refine .inr ⟨ua,uc,?_⟩;rcases h1 with ⟨a1,a2⟩|⟨a1,a2,a3⟩
   ·rcases h2 with ⟨b1,b2⟩|⟨b1,_⟩
    ·grind[X1]
    grind
   omega
def OG{a b:BR}(h:EL a b=true):usable b=true/\Gr a b:=by
 unfold EL at h;split at h
 ·cases h
 rename_i h1;simp at h1;refine⟨h1.1,?_⟩;split at h
 ·rename_i h2;obtain⟨m,u⟩:=a;simp at h2;exact .inl (by grind)
 rename_i h2;split at h
 ·cases h
 rename_i h3;have ua:usable a=true:=by grind
 refine .inr ⟨ua,h1.1,?_⟩;grind[Ej]
theorem SY{r:BE}{h a:BR}(hf:r.fits h=true)(hg:Gr a h):r.covers h a=true:=by
 rcases hg with rfl|⟨ua,uh,hg⟩
 ·exact HK hf
 ·obtain⟨hs,hc⟩:=Db hf;rcases hc with ⟨k,m,u⟩|⟨k,m,u1,u2,u3⟩
  ·rcases hg with ⟨a1,a2⟩|⟨_,a2,_⟩
   ·have ma:BK a.mode=true:=by simp_all[BI]
    have ha:a.AG=0:=by grind[Ej]
    have fa:r.fits a=true:=by grind[BE.fits]
    rw[ER hf fa,if_pos k];exact a2
   grind[Nu]
  ·rcases hg with ⟨a1,a2⟩|⟨a1,a2,a3⟩
   ·have:BK h.mode=true:=by simp_all[BI]
    exact absurd m (Nu this)
   ·have h1:1<=a.AG:=by
     grind[Ej,Nu]
    have fa:r.fits a=true:=by grind[A7,BE.fits]
    rw[ER hf fa,if_neg k];simpa using a3
def NG{l:Ledger}(h:Bx l=true){i:Nat}{e:Entry}(he:l.entries[i]?=some e):e.before=An (l.entries.take i) e.name/\EL e.before e.after=true:=by
 simp only[Bx,and_eq_true]at h;have:=Yl h.1.1.2 he;simp[FV]at this;exact⟨this.1.2,this.2⟩
def RO{l:Ledger}(h:Bx l=true)(n:Bs):∀ i,i<=l.entries.length->An (l.entries.take i) n=⟨0,0⟩\/usable (An (l.entries.take i) n)=true
 | 0,_=>.inl rfl
 | i+1,hi=>by
  obtain⟨e,he⟩:∃ e,l.entries[i]?=some e:=⟨_,gE (by omega)⟩;rw[IU he];split
  ·exact .inr (OG (NG h he).2).1
  ·exact RO h n i (by omega)
def lJ{l:Ledger}(h:Bx l=true)(n:Bs)(i:Nat):∀ d,i+d<=l.entries.length->Gr (An (l.entries.take i) n) (An (l.entries.take (i+d)) n)
 | 0,hi=>Gr.self (RO h n i hi)
 | d+1,hi=>by
  obtain⟨e,he⟩:∃ e,l.entries[i+d]?=some e:=⟨_,gE (by omega)⟩;have ih:=lJ h n i d (by omega);rw[show i+(d+1)=i+d+1 from rfl,IU he];split
  ·rename_i hn;have hn:e.name=n:=by simpa using hn
   obtain⟨h1,h2⟩:=NG h he;rw[hn]at h1;rw[h1]at h2;exact ih.trans (OG h2).2
  ·exact ih
theorem S4{l:Ledger}(h:Bx l=true)(n:Bs)(i:Nat):Gr (An (l.entries.take i) n) (An l.entries n):=by
 rcases Nat.lt_or_ge i l.entries.length with hi|hi
 ·have:=lJ h n i (l.entries.length-i) (by omega);rw[show i+(l.entries.length-i)=l.entries.length by omega,take_length]at this;exact this
 ·rw[List.take_of_length_le hi];have:=RO h n l.entries.length (le_refl _);rw[take_length]at this;exact .self this
theorem PG{l:Ledger}(h:Bx l=true){n:Bs}:∀ i,i<=l.entries.length->(∃ e∈l.entries.take i,e.name=n)->usable (An (l.entries.take i) n)=true
 | 0,_,⟨e,he,_⟩=>by grind
 | i+1,hi,⟨e,he,hn⟩=>by
  obtain⟨b,hb⟩:∃ b,l.entries[i]?=some b:=⟨_,gE (by omega)⟩;rw[IU hb];split
  ·exact(OG (NG h hb).2).1
  ·rename_i CZ;refine PG h i (by omega) ⟨e,?_,hn⟩;rw[take_add_one,hb]at he;grind
def sw(l:List Bs)(n x:Bs):x∈UR l n↔x∈l\/x=n:=by grind[UR,bL]
theorem Zq:∀ (ns l:List Bs) (x:Bs),x∈ns.foldl UR l↔x∈l\/x∈ns
 |[],l,x=>by simp
 | n::ns,l,x=>by simp_all[Zq,sw,or_assoc]
def E5(l:List Entry)(x:Bs):x∈Dc l↔∃ e∈l,e.name=x:=by grind[Dc,Zq]
theorem Zr{l:Ledger}(h:Bx l=true){n:Bs}(hn:∃ e∈l.entries,e.name=n):(⟨n,An l.entries n⟩:Atom)∈Hi l/\usable (An l.entries n)=true:=by
 have hu:=PG h (n:=n) l.entries.length (le_refl _) (by grind);rw[take_length]at hu;refine⟨?_,hu⟩;unfold Hi;rw[List.mem_filterMap];refine⟨n,(E5 _ _).2 hn,?_⟩;rw[if_neg ?_];intro hz;refine MO hu ?_;generalize An l.entries n=a at hz;obtain⟨m,u⟩:=a;grind
theorem Mc{l:List Entry}{n:Bs}(h:¬ ∃ e∈l,e.name=n):An l n=⟨0,0⟩:=by
 have:∀ (l:List Entry) (a:BR),(¬ ∃ e∈l,e.name=n)->l.foldl (λa e=>if e.name==n then e.after else a) a=a:=by
  intro l
  induction l<;>grind
 exact this l _ h
def Kt(t:List Queue)(x:Bu):Prop:=∀ n,(∃ e∈x.AB.entries,e.name=n)->∃ k q,CG t n=some k/\t[k]?=some q/\q.res.name=n/\q.res.fits (An x.AB.entries n)=true
def yr(t:List Queue)(x:Bu)(a:Nat):Prop:=∀ q∈t,Ar q x.proc=none/\(Am q.holds x.proc=An x.AB.entries q.res.name\/Am q.holds x.proc=An (x.AB.entries.take a) q.res.name)
def Kt.res{t t':List Queue}{x:Bu}(h:Kt t x)(hr:t'.map (·.res)=t.map (·.res)):Kt t' x:=λn hn=>by
 obtain⟨k,q,h1,h2,h3,h4⟩:=h n hn;have:=congrArg (λl=>l[k]?) hr;simp only[gm,h2,Option.map_some]at this;cases h5:t'[k]? with
 |none=>rw[h5]at this;cases this
 |some q' =>
  rw[h5]at this;simp at this;exact⟨k,q',(Kj hr n).trans h1,h5,by grind,by grind⟩
theorem Tc{r:BE}{a:BR}(ha:r.fits a=true)(hc:r.covers ⟨0,0⟩ a=false):D4 r ⟨0,0⟩ a=a:=by
 have hs:=(Db ha).1;have p1:r.permits ⟨0,0⟩=true:=by simp[BE.permits,hs,BR.zero]
 have p2:r.permits a=true:=by grind[BE.permits]
 unfold D4;simp[p1,p2,hc,Bool.and_self,Bool.not_true,false_eq_true,if_false,HK ha,if_true]
def bN{q:Queue}{x:Bu}(hl:An x.AB.entries q.res.name=⟨0,0⟩\/q.res.fits (An x.AB.entries q.res.name)=true):∀ (az:List Atom),(∀ a∈az,a.name=q.res.name->q.res.fits a.AH=true)->DE q x az=true->Kq q x.proc (An x.AB.entries q.res.name)
 |[],_,h=>by
  simp only[DE,and_eq_true,decide_eq_true_eq,Bool.not_eq_true']at h;exact KF.k ⟨F4 h.2,h.1⟩
 | a::az,hf,h=>by
  unfold DE at h;split at h
  ·exact bN hl az (λb hb=>hf b (by simp[hb])) h
  rename_i hn;have hn:a.name=q.res.name:=by grind
  have gz:=hf a (by simp) hn;split at h
  ·exact bN hl az (λb hb=>hf b (by grind)) h
  rename_i hc;have hc:q.res.covers (An x.AB.entries q.res.name) a.AH=false:=by grind
  split at h
  ·rename_i hw;have hw:=F4 (by simpa using hw);have hg:Am q.holds x.proc=D4 q.res (An x.AB.entries q.res.name) a.AH:=by grind
   refine⟨λhh=>by grind,.inr ?_⟩;grind[Tc,Jb,HK,QL]
  ·split at h
   ·cases h
   ·simp at h;exact⟨λ_=>h.1,.inl h.1⟩
theorem Tq{q:Queue}{x:Bu}:∀ (az:List Atom),(∀ a∈az,q.res.name≠a.name)->DE q x az=true->KF q x.proc (An x.AB.entries q.res.name)
 |[],_,h=>by
  simp only[DE,and_eq_true,decide_eq_true_eq,Bool.not_eq_true']at h;exact⟨F4 h.2,h.1⟩
 | a::az,hf,h=>by
  unfold DE at h;rw[if_pos (by grind)]at h;exact Tq az (λb hb=>hf b (by simp[hb])) h
def Qa{l:List BE}:∀ {az:List Atom},It l az=0->∀ a∈az,Hn l a=0
 |[],_,a,ha=>by grind
 | b::az,h,a,ha=>by
  simp[It]at h;split at h
  ·rename_i hb;rcases List.mem_cons.1 ha with rfl|ha
   ·omega
   ·exact Qa h a ha
  omega
theorem DF{t:List Queue}(ht:DI t){e:Expr}(h:C6 (FB t) e=0){a:Atom}(ha:a∈Ah e):∃ k q,CG t a.name=some k/\t[k]?=some q/\q.res.name=a.name/\q.res.fits a.AH=true:=by
 unfold C6 at h;split at h
 ·have:=Qa h a ha;unfold Hn at this;split at this
  ·simp at this
  ·cases hr:T7 (FB t) a.name with
   |none=>rw[hr]at this;simp at this
   |some r =>
    rw[hr]at this;simp only at this;split at this
    ·rename_i hf;unfold T7 at hr;have hm:=List.mem_of_find?_eq_some hr;have hn:r.name=a.name:=by grind
     simp[FB]at hm;obtain⟨q,hq,rfl⟩:=hm;obtain⟨k,hk⟩:=List.getElem?_of_mem hq;exact⟨k,q,by grind[Wr],hk,hn,hf⟩
    ·simp at this
 omega
structure Fit(w:Ap):Prop where
 je:JE none w
 idle:∀ x∈w.procs,x.waiting=false->Idle w.Aa x
 wait:∀ x∈w.procs,x.waiting=true->∀ q∈w.Aa,(∀ a∈Ah x.Bk.expr,q.res.name≠a.name)->KF q x.proc (An x.AB.entries q.res.name)
 fits:∀ x∈w.procs,Kt w.Aa x
 AB:∀ x∈w.procs,Bx x.AB=true
 now:0<=w.now/\w.now<=1073741824
 ev:w.D1=[]
def Mt{l:List Bu}(h:∀ i x,l[i]?=some x->(decide (i=0)||decide (BF (l.getD (i-1) x0).proc x.proc<0))=true):∀ d i x y,l[i]?=some x->l[i+d+1]?=some y->BF x.proc y.proc<0
 | 0,i,x,y,hx,hy=>by grind
 | d+1,i,x,y,hx,hy=>by
  have AP:=Au hy;obtain⟨z,hz⟩:∃ z,l[i+d+1]?=some z:=⟨_,gE (by omega)⟩;have h1:=Mt h d i x z hx hz;have h2:=h (i+(d+1)+1) y hy;have hd:l.getD (i+(d+1)+1-1) x0=z:=by grind
  rw[hd]at h2;exact DQ h1 (by grind)
def wT{t:List Queue}{x:Bu}(hv:Bx x.AB=true)(h:(Hi x.AB).all (Hr t)=true):Kt t x:=λn hn=>by
 have h1:=(Zr hv hn).1;have h2:=List.all_eq_true.1 h _ h1;unfold Hr at h2;simp only at h2;cases hf:CG t n with
 |none=>rw[hf]at h2;cases h2
 |some k =>
  rw[hf]at h2;obtain⟨_,q,hq,Uq⟩:=D2 hf;have hg:t.getD k q0=q:=by grind
  simp only[hg]at h2;exact⟨k,q,rfl,hq,Uq,h2⟩
def SQ{t:List Queue}(ht:DI t){x:Bu}(h:Kt t x){q:Queue}(hq:q∈t):An x.AB.entries q.res.name=⟨0,0⟩\/q.res.fits (An x.AB.entries q.res.name)=true:=by
 by_cases hn:∃ e∈x.AB.entries,e.name=q.res.name
 ·obtain⟨k,q',h1,h2,_,h4⟩:=h _ hn;obtain⟨j,hj⟩:=List.getElem?_of_mem hq;have:=Wr ht hj;rw[this]at h1;have:=Option.some.inj h1;subst this;rw[hj]at h2;have:=Option.some.inj h2;subst this;exact .inr h4
 grind[Mc]
theorem xv{t:List Queue}{x:Bu}(ht:DI t)(hv:Bx x.AB=true)(h:IV t x=true):Idle t x:=λq hq=>by
 simp only[IV,and_eq_true,decide_eq_true_eq]at h;obtain⟨⟨⟨_,_⟩,h3⟩,h4⟩:=h;have h4:GY t x.proc=[]:=by simp_all
 have hw:Ar q x.proc=none:=by simp_all[GY]
 refine⟨hw,?_⟩;cases hz:(Am q.holds x.proc).zero
 ·have hm:(⟨q.res.name,Am q.holds x.proc⟩:Atom)∈Jt t x.proc:=by
   grind[Jt]
  rw[<- h3]at hm;unfold Hi at hm;rw[List.mem_filterMap]at hm;obtain⟨n,_,hn⟩:=hm;split at hn
  ·cases hn
  ·simp at hn;rw[<- hn.2,hn.1]
 grind[zero_eq,Zr,Jt,List.getElem?_of_mem,F1,Mc]
theorem Lh{c:Hw}(h:Ck c=true):Fit ⟨c.now,c.Aa,c.procs,[]⟩:=by
 simp only[Ck,and_eq_true,decide_eq_true_eq,CY]at h;obtain⟨⟨⟨⟨⟨h1,h2⟩,h3⟩,h4⟩,h5⟩,h6⟩:=h;have ht:=(EO _).1 h3;have S7:∀ x∈c.procs,E2 x=true/\(Hi x.AB).all (Hr c.Aa)=true/\(if x.waiting then He c.now c.Aa x else IV c.Aa x)=true:=λx hx=>by
  obtain⟨i,hi⟩:=List.getElem?_of_mem hx;have:=h6 i x hi;simp only[EE,Fu,and_eq_true]at this;exact⟨this.1.1.1,this.1.1.2,this.1.2⟩
 have bq:∀ i x,c.procs[i]?=some x->(decide (i=0)||decide (BF (c.procs.getD (i-1) x0).proc x.proc<0))=true:=λi x hi=>by
  have:=h6 i x hi;simp only[EE,and_eq_true]at this;exact this.2
 have AeN:∀ x∈c.procs,Bx x.AB=true:=λx hx=>by simp_all[E2]
 have Md:∀ x∈c.procs,Kt c.Aa x:=λx hx=>wT (AeN x hx) (S7 x hx).2.1
 have Y7:∀ x∈c.procs,x.waiting=true->BM x.Bk.expr=true/\C6 (FB c.Aa) x.Bk.expr=0/\∀ q∈c.Aa,DE q x (Ah x.Bk.expr)=true:=λx hx hw=>by
  have:=(S7 x hx).2.2;rw[hw,if_pos rfl]at this;simp only[He,and_eq_true,List.all_eq_true,Hm]at this;refine⟨this.1.1.1.1.1.1.1.1.1.1,?_,this.2⟩;grind
 refine⟨⟨ht,h4,λi j x y hx hy e=>?_,λj x hj _ hw=>?_⟩,λx hx hw=>?_,λx hx hw q hq hn=>Tq _ hn ((Y7 x hx hw).2.2 q hq),Md,AeN,⟨h1,h2⟩,rfl⟩
 ·rcases Nat.lt_trichotomy i j with AP|rfl|AP
  ·obtain⟨d,rfl⟩:∃ d,j=i+d+1:=⟨j-i-1,by omega⟩;have:=Mt bq d i x y hx hy;rw[e,CJ]at this;omega
  ·rfl
  ·obtain⟨d,rfl⟩:∃ d,i=j+d+1:=⟨i-j-1,by omega⟩;have:=Mt bq d j y x hy hx;rw[e,CJ]at this;omega
 ·have hx:=mG hj;obtain⟨g1,g2,g3⟩:=Y7 x hx hw;refine⟨g1,λa ha=>?_,λq hq=>?_⟩
  ·grind[DF]
  ·refine bN (SQ ht (Md x hx) hq) _ (λa ha hn=>?_) (g3 q hq);grind[DF,List.getElem?_of_mem,F1]
 grind[xv]
def HH(y:Ac)(q q':Queue):Prop :=
 (Ar q' y=Ar q y/\Am q'.holds y=Am q.holds y/\∀ w∈q'.waits,w.proc=y->∃ v∈q.waits,v.proc=y/\v.prio=w.prio)\/∃ a,Ar q y=some a/\Ar q' y=none/\Am q'.holds y=a
def HH.refl{y:Ac}(q:Queue):HH y q q:=.inl ⟨rfl,rfl,λw h e=>⟨w,h,e,rfl⟩⟩
def HH.trans{y:Ac}{a b c:Queue}(h1:HH y a b)(h2:HH y b c):HH y a c:=by
 rcases h1 with ⟨p1,p2,p3⟩|⟨x,p1,p2,p3⟩
 ·rcases h2 with ⟨r1,r2,r3⟩|⟨x,r1,r2,r3⟩
  ·refine .inl ⟨r1.trans p1,r2.trans p2,λw hw e=>?_⟩;grind
  ·exact .inr ⟨x,p1▸r1,r2,r3⟩
 ·rcases h2 with ⟨r1,r2,r3⟩|⟨z,r1,r2,r3⟩
  ·exact .inr ⟨x,p1,r1.trans p2,r2.trans p3⟩
  grind
def tA{q:Queue}{w:Bh}(y:Ac)(hs:Sound q)(h:BZ q=some w):HH y q (DH q w):=by
 by_cases hy:y=w.proc
 ·subst hy;refine .inr ⟨w.AH,S3 h,Qk hs h,?_⟩;rcases F7 h with ⟨l,hc,e⟩|⟨hc,l,hw,e⟩<;>rw[e]<;>exact LF
 ·refine .inl ⟨K6 h hy,?_,λv hv e2=>⟨v,?_,e2,rfl⟩⟩
  ·rcases F7 h with ⟨l,hc,e⟩|⟨hc,l,hw,e⟩<;>rw[e]<;>exact FY hy
  ·rcases F7 h with ⟨l,hc,e⟩|⟨hc,l,hw,e⟩<;>grind
def tv{q:Queue}(y:Ac)(hs:Sound q):HH y q (Co q).1 :=
 (I8 (P:=λx=>Sound x/\HH y q x) (λ_ _ h hh hr=>⟨ME h.1 hh hr,h.2.trans (tA y h.1 hh)⟩) _ q rfl ⟨hs,.refl q⟩).1.2
def XC{q:Queue}(y:Ac)(hs:Sound q):HH y q (Ee q):=tv y hs
def oY{q:Queue}{p y:Ac}(h:y≠p):HH y q (Dw q p):=.inl ⟨Z0 h,rfl,λw hw e=>⟨w,by grind[Dw,Bv],e,rfl⟩⟩
def tx{q:Queue}{p y:Ac}{a:BR}(h:y≠p):HH y q (Hc q p a):=.inl ⟨rfl,FY h,λw hw e=>⟨w,hw,e,rfl⟩⟩
def oX{q:Queue}{p y:Ac}{a:BR}(h:y≠p):HH y q (HJ q p a):=.inl ⟨ZZ h,rfl,λw hw e=>⟨w,hw,e,rfl⟩⟩
def oZ{q:Queue}{p y:Ac}{a:BR}{prio:Int}(h:y≠p):HH y q (Ik q p a prio):=.inl ⟨Z1 h,rfl,λw hw e=>by rcases O5 hw with rfl|hw|⟨v,hv,_,rfl⟩<;>grind⟩
def tw{q:Queue}{p y:Ac}(h:y≠p):HH y q (B8 q p):=.inl ⟨fU h,(FY h:Am (CO q.holds p ⟨0,0⟩) y=Am q.holds y),λw hw e=>⟨w,by grind[B8,Bv],e,rfl⟩⟩
def ug(w:Bh):Bh:={ w with Ec:=0 }
def er(q:Queue):Queue:={ q with As:=q.As.map ug,waits:=q.waits.map ug,gen:=0 }
def vg(q:Queue):BZ (er q)=(BZ q).map ug:=by
 unfold BZ er;simp[<- map_append];grind
theorem Aaf(q:Queue)(w:Bh):DH (er q) (ug w)=er (DH q w):=by
 unfold DH er;cases hq:q.As
 ·simp only[List.map_nil,List.map_drop];rfl
 ·simp only[map_cons];rfl
theorem Qx:∀ (n:Nat) (q:Queue),B7 q<=n->(Co (er q)).1=er (Co q).1
 | n,q,hn=>by
  rw[Kx (er q),Kx q,vg];cases hh:BZ q with
  |none=>rfl
  |some w =>
   have AP:=Km hh;simp;have e:F3 (er q).res (er q).holds (ug w).proc (ug w).AH=F3 q.res q.holds w.proc w.AH:=rfl;rw[e];cases n with
   | zero=>omega
   | succ n =>
    split
    ·simp[Aaf];exact Qx n _ (by omega)
    ·rfl
theorem qG(q:Queue)(p:Ac):er (B8 q p)=B8 (er q) p:=by
 simp only[HB,er,Bv,List.filter_map];rfl
def Aad{q:Queue}(h:Sound q)(p:Ac):er (Co (B8 (Ee q) p)).1=er (Co (B8 q p)).1:=by
 have e:er (B8 (Ee q) p)=er (B8 (Co q).1 p):=rfl;rw[<- Qx _ _ (le_refl _),e,Qx _ _ (le_refl _),TH h]
theorem Wf(l:List A9)(p:Ac):AR (AR l p) p=AR l p:=by simp[AR,List.filter_filter]
theorem Wg(l:List Bh)(p:Ac):Bv (Bv l p) p=Bv l p:=by simp[Bv,List.filter_filter]
theorem nu(l:List A9)(p:Ac)(a:BR):AR (CO l p a) p=AR l p:=by
 unfold CO;split
 ·grind[Wf]
 ·have h1:∀ m:List A9,(∀ x∈m,x∈AR l p)->AR m p=m:=λm hm=>List.filter_eq_self.2 λx hx=>by
   grind[AR]
  have h2:∀ A B:List A9,AR (A++⟨p,a⟩::B) p=AR A p++AR B p:=λA B=>by simp[AR,filter_append]
  rw[h2,h1 _ (λx hx=>List.mem_of_mem_take hx),h1 _ (λx hx=>List.mem_of_mem_drop hx),List.take_append_drop]
theorem qD(l:List Bh)(w:Bh):(Bv (N5 l w) w.proc).map ug=(Bv l w.proc).map ug:=by
 unfold N5;generalize Gq l w l.length=k;have h:∀ m:List Bh,(Bv (m.map λx=>{ x with Ec:=x.Ec+1 }) w.proc).map ug=(Bv m w.proc).map ug:=λm=>by
  induction m with
  | nil=>rfl
  | cons x m ih =>
   simp only[Bv,map_cons,List.filter_cons]at ih ⊢;split
   ·simp only[map_cons,ih];rfl
   omega
 have h2:∀ A B:List Bh,Bv (A++w::B) w.proc=Bv A w.proc++Bv B w.proc:=λA B=>by simp[Bv,filter_append]
 rw[h2,map_append,h,<- map_append];have h3:∀ A B:List Bh,Bv A w.proc++Bv B w.proc=Bv (A++B) w.proc:=λA B=>by simp[Bv,filter_append]
 rw[h3,List.take_append_drop]
def qu(q:Queue)(p:Ac):B8 (Dw q p) p=B8 q p:=by grind[HB,Dw,Wg]
def u0(q:Queue)(p:Ac)(a:BR):B8 (Hc q p a) p=B8 q p:=by grind[HB,Hc,nu]
def qt(q:Queue)(p:Ac)(a:BR):B8 (HJ q p a) p=B8 q p:=by simp[HB,HJ,Bv,filter_append]
def uZ(q:Queue)(p:Ac):B8 (B8 q p) p=B8 q p:=by grind[HB,Wf,Wg]
def qv(q:Queue)(p:Ac)(a:BR)(prio:Int):er (B8 (Ik q p a prio) p)=er (B8 q p):=by grind[HB,Ik,er,qD]
structure G4(p:Ac)(q q':Queue):Prop where
 val:valid q'=true
 res:q'.res=q.res
 sa:∀ x,JY q' x->JY q x\/x=p
 same:∀ y,y≠p->HH y q q'
 cut:er (Cd q' p)=er (Cd q p)
def G4.refl{p:Ac}{q:Queue}(hv:valid q=true):G4 p q q:=⟨hv,rfl,λ_ h=>.inl h,λ_ _=>.refl q,rfl⟩
def G4.trans{p:Ac}{a b c:Queue}(h:G4 p a b)(h':G4 p b c):G4 p a c :=
 ⟨h'.val,h'.res.trans h.res,λx hx=>(h'.sa x hx).elim (h.sa x) .inr,λy hy=>(h.same y hy).trans (h'.same y hy),h'.cut.trans h.cut⟩
def MJ{p:Ac}{q q1:Queue}(hv:valid q=true)(h:Sound q1)(hr:q1.res=q.res)(hi:∀ x,JY q1 x->JY q x\/x=p)(hs:∀ y,y≠p->HH y q q1)(hc:er (B8 q1 p)=er (B8 q p)):G4 p q (Ee q1) where
 val:=SM h
 res:=(jZ q1).trans hr
 sa:=λx hx=>hi x ((SL q1 x).1 hx)
 same:=λy hy=>(hs y hy).trans (XC y h)
 cut:=by rw[Ko (SM h),Ko hv,Aad h,<- Qx _ _ (le_refl _),hc,Qx _ _ (le_refl _)]
def jU{q:Queue}{p:Ac}(hv:valid q=true)(hw:(Ar q p).isSome=true):G4 p q (Bd q p).1:=by
 have hs:=((BN q).1 hv).1;have e:(Bd q p).1=Ee (Dw q p):=by grind[Bd]
 rw[e];exact MJ hv (Pc hs p) rfl (λx hx=>.inl (WL hx)) (λy hy=>oY hy) (by rw[qu])
theorem bJ{q:Queue}{p:Ac}{a:BR}(hv:valid q=true)(hz:(Am q.holds p).zero=false)(hw:Ar q p=none)(hc:q.res.covers (Am q.holds p) a=true):G4 p q (AD q p a).1:=by
 have hs:=((BN q).1 hv).1
 by_cases he:Am q.holds p=a
 ·have e:(AD q p a).1=q:=by
   simp_all[AD]
  rw[e];exact .refl hv
 ·have e:(AD q p a).1=Ee (Hc q p a):=by
   simp_all[AD]
  rw[e];exact MJ hv (Tz hs hz hw hc) rfl (λx hx=>bw hx) (λy hy=>tx hy) (by rw[u0])
def AfC{q:Queue}(p:Ac)(hv:valid q=true):G4 p q (CN p q).1:=by
 unfold CN;cases hq:OH q p
 ·exact .refl hv
 simp;have hs:=((BN q).1 hv).1;unfold Ge;simp[hv];have hm:Br (BU q) p=true:=by
  have:p∈BU q:=by
   rw[Ew];unfold OH at hq;rcases(by grind:(Ar q p).isSome=true\/(Am q.holds p).zero=false) with h|h
   ·obtain⟨w,h1,h2⟩:=MQ.1 h;rcases List.mem_append.1 h1 with h1|h1
    ·exact .inr (.inl ⟨w,h1,h2⟩)
    ·exact .inr (.inr ⟨w,h1,h2⟩)
   ·exact .inl (Kl h)
  simpa [Br]using this
 rw[hm];simp;exact MJ hv (MD hs p) rfl (λx hx=>.inl ((WK q p x).1 hx).1) (λy hy=>tw hy) (by rw[uZ])
def XN{q:Queue}{p:Ac}{a:BR}(hw:Ar q p=none):Ar (HJ q p a) p=some (D4 q.res (Am q.holds p) a):=by grind[Ar,HJ]
def XP{q:Queue}{p:Ac}{a:BR}{prio:Int}(hw:Ar q p=none):Ar (Ik q p a prio) p=some a/\∀ w∈(Ik q p a prio).waits,w.proc=p->w.prio=prio:=by
 have hn:=Ga.1 hw;have h2:∀ k,(q.waits.take k).find? (λw=>decide (w.proc=p))=none:=λk=>by grind
 refine⟨?_,λw hw e=>?_⟩
 ·grind[Ar,Ik,N5]
 ·rcases O5 hw with rfl|hw|⟨v,hv,_,rfl⟩<;>grind
def zU{q:Queue}{p:Ac}{a:BR}{prio:Int}(hv:valid q=true)(hp:p.ok=true)(h1:0<=prio/\prio<=7)(hf:q.res.fits a=true)(hw:Ar q p=none)(h8:(Am q.holds p).zero=true->q.holds.length+q.waits.length<8) :
 (BA q p a prio).2.2=0/\G4 p q (BA q p a prio).1/\(q.res.covers (Am q.holds p) a=true->(BA q p a prio).1=q) /\
 (q.res.covers (Am q.holds p) a=false->(Ar (BA q p a prio).1 p=none/\Am (BA q p a prio).1.holds p=D4 q.res (Am q.holds p) a)\/(Ar (BA q p a prio).1 p=some (D4 q.res (Am q.holds p) a)/\Am (BA q p a prio).1.holds p=Am q.holds p/\∀ w∈(BA q p a prio).1.waits,w.proc=p->w.prio=prio)):=by
 have hs:=((BN q).1 hv).1;unfold BA;rw[if_neg (by grind),if_neg (by grind),if_neg (by grind),if_neg (by grind),if_neg (by grind),if_neg (by grind)];cases hc:q.res.covers (Am q.holds p) a
 ·rw[if_neg (by simp)];cases hz:(Am q.holds p).zero
  ·rw[if_pos (by simp)];have rY:Sound (HJ q p a):=Q0 hs hf hw hz hc;refine⟨rfl,MJ hv rY rfl (λx hx=>dI hx) (λy hy=>oX hy) (by rw[qt]),λh=>(by cases h),λ_=>?_⟩;have iN:=XN (a:=a) hw;rcases XC p rY with ⟨g1,g2,g3⟩|⟨b,g1,g2,g3⟩
   ·refine .inr ⟨g1.trans iN,g2,λw WI e=>?_⟩;obtain⟨v,v1,v2,_⟩:=g3 w WI e;exact absurd v2 (Ga.1 hw v (by simp[show v∈q.waits from v1]))
   ·rw[iN]at g1;exact .inl ⟨g2,g3.trans (Option.some.inj g1).symm⟩
  ·have h8':=h8 hz;rw[if_neg (by simp),if_neg (by grind)];have rY:Sound (Ik q p a prio):=TA hs hp h1 hf hw hz h8';refine⟨rfl,MJ hv rY rfl (λx hx=>dJ hx) (λy hy=>oZ hy) (qv q p a prio),λh=>(by cases h),λ_=>?_⟩;obtain⟨iN,zf⟩:=XP (a:=a) (prio:=prio) hw;have hj:D4 q.res (Am q.holds p) a=a:=by grind[zero_eq,Tc]
   rw[hj];rcases XC p rY with ⟨g1,g2,g3⟩|⟨b,g1,g2,g3⟩
   ·refine .inr ⟨g1.trans iN,g2,λw WI e=>?_⟩;grind
   ·rw[iN]at g1;exact .inl ⟨g2,g3.trans (Option.some.inj g1).symm⟩
 ·rw[if_pos rfl];exact⟨rfl,.refl hv,λ_=>rfl,λh=>by cases h⟩
def To{α β:Type}(f g:α->β)(l:List α)(k:Nat):List β:=(l.take k).map f++(l.drop k).map g
section
variable {α β:Type}
@[go_sem] theorem sC(f g:α->β)(l:List α)(k:Nat):(To f g l k).length=l.length:=by grind[To]
theorem sB{f g:α->β}{l:List α}{k:Nat}{b:α}(hb:l[k]?=some b):(To f g l k)[k]?=some (g b):=by
 have:=Au hb;unfold To;rw[List.getElem?_append_right (by grind)];simp[Nat.min_eq_left (Nat.le_of_lt this),hb]
def sD{f g:α->β}{l:List α}{k:Nat}{b:α}(hb:l[k]?=some b):(To f g l k).set k (f b)=To f g l (k+1):=by
 have hk:=Au hb;have hd:l.drop k=b::l.drop (k+1):=by grind[List.drop_eq_getElem_cons]
 unfold To;rw[take_add_one,hb,hd,List.set_append_right _ _ (by grind)];simp[Nat.min_eq_left (Nat.le_of_lt hk)]
def sA(f g:α->β)(l:List α):To f g l l.length=l.map f:=by simp[To]
def oD(f g:α->β)(l:List α):To f g l 0=l.map g:=by simp[To]
end
def Ot(l:List Entry)(name:Bs)(pos:Int):Nat->Int
 | 0=>0
 | i+1=>Ot l name pos i+(if ((l.getD i ⟨[],⟨0,0⟩,⟨0,0⟩⟩).name==name)=true/\(i:Int)<pos then 1 else 0)
def jV(l:List Entry)(name:Bs)(pos:Int):∀ i,0<=Ot l name pos i/\Ot l name pos i<=i
 | 0=>by simp[Ot]
 | i+1=>by
  have:=jV l name pos i;simp only[Ot];split<;>omega
def EA(l:List Entry)(name:Bs)(i:Nat)(s:Save):Save:=⟨s.label,s.pos-Ot l name s.pos i⟩
def CV(name:Bs)(e:Entry):Bool:=!(e.name==name)
def G6(l:Ledger)(name:Bs):Ledger × Bool:=if !Bx l then (CI,false) else if (l.entries.filter (CV name)).length=l.entries.length then (CI,false) else (⟨l.entries.filter (CV name),l.AA.map (EA l.entries name l.entries.length)⟩,true)
def lf(l:Ledger)(name:Bs):Ad C0 276 [.agg l.c,.v (.string (str name))] [] (.BC [.agg (G6 l name).1.c,B (G6 l name).2]) []:=by
 refine Ad.go f276 ?_;unfold f276;refine gO ?_;refine Ab (M6 l) ?_;cases hv:Bx l
 ·have e:G6 l name=(CI,false):=by simp[G6,hv]
  simp only[go_sem,e,CI];exact Gw _
  all_goals(try(simp(disch:=omega)only[go_sem]))
 have nW:l.entries.length<=72/\l.AA.length<=4:=by simp_all[Bx]
 refine gO ?_;refine AF (l.entries) (λi=>⟨[(7,I i),(2,.ptr 128 0),(6,.ptr 384 0),(4,.ptr 256 0),(1,.v (.string (str name)))],[(128,l.c),(384,[.sl (.own 2624 0) 5 (((l.entries.take i).filter (CV name)).map Entry.c),.sl (.own 1024 0) 2 ((l.AA.map (EA l.entries name i)).map Save.c)]),(256,CI.c)]⟩) (λi=>True) trivial ?_ ?_
 ·refine AT.Aq ?_ ?_
  all_goals(try simp(disch:=omega)only[go_sem,CI])
  all_goals(try(repeat'(with_reducible apply And.intro)))
  all_goals(first|exact .Cr (by omega)|exact .A8 (by omega)|exact .sl (by simp[EA,Ot,Save.c])|exact .int (by simp[EA,Ot,CI,Save.c])|exact .eq (by simp[EA,Ot,CI,Save.c]))
 rintro i ⟨hi,hP⟩ J hJ;refine gO ?_;refine Bo hi (λAP b hb Cg AX=>?_) λBa=>?_
 ·have Me:((l.entries.take i).filter (CV name)).length<=72:=Nat.le_trans (List.length_filter_le _ _) (by grind);have ID:((l.entries.take i).filter (CV name)).length+1<=4294967296:=by omega
  have hfn:(l.entries.take (i+1)).filter (CV name)=(l.entries.take i).filter (CV name)++(if CV name b then [b] else []):=by grind[take_add_one]
  have rH:l.entries.getD i ⟨[],⟨0,0⟩,⟨0,0⟩⟩=b:=by grind
  cases hn:(b.name==name)
  ·have hg:∀ s:Save,EA l.entries name (i+1) s=EA l.entries name i s:=λs=>by
    simp_all[EA,Ot]
   simp only[go_sem,hb,hn];refine Ay 8 [([],[6]),([],[33]),([],[2]),([],[35]),([],[7]),([],[36,37]),([],[38]),([],[39])] B6 ?_;simp(disch:=omega)only[go_sem,hb];refine hJ _ (i+1) ⟨by omega,trivial⟩ (by omega) (AT.Aq ?_ ?_)
   ·exact gI
   ·refine gO ?_;exact⟨.sl (by grind[CV,Entry.c]),.sl (by simp_all)⟩
  ·simp only[go_sem,hb,hn];obtain⟨o,rfl⟩:∃ o,o=i:=⟨i,rfl⟩;have Qc:=hJ;clear hJ hb;refine Ao (α:=Nat) (λk=>⟨[(8,I k),(7,I o),(2,.ptr 128 0),(6,.ptr 384 0),(4,.ptr 256 0),(1,.v (.string (str name)))],[(128,l.c),(384,[.sl (.own 2624 0) 5 (((l.entries.take o).filter (CV name)).map Entry.c),.sl (.own 1024 0) 2 ((To (EA l.entries name (o+1)) (EA l.entries name o) l.AA k).map Save.c)]),(256,CI.c)]⟩) (λk=>k<=l.AA.length) (λk=>l.AA.length-k) 0 (by omega) ?_ ?_
   ·refine AT.Aq ?_ ?_
    ·exact gI
    ·refine gO ?_;exact .sl (by rw[oD];simp)
   rintro k hk J2 Vo;refine gO ?_;refine ⟨λAP=>?_,λJX=>?_⟩
   ·obtain⟨s,hs⟩:∃ s,l.AA[k]?=some s:=⟨_,gE (by grind)⟩;have hmg:=sB (f:=EA l.entries name (o+1)) (g:=EA l.entries name o) hs;have hms:=sD (f:=EA l.entries name (o+1)) (g:=EA l.entries name o) hs;have Y2:=sC (EA l.entries name (o+1)) (EA l.entries name o) l.AA k;have S7:=Pg hv hs;have fD:=jV l.entries name s.pos o;generalize To (EA l.entries name (o+1)) (EA l.entries name o) l.AA k=M at hmg hms Y2 ⊢;simp(disch:=omega)only[go_sem,hs]
    by_cases hc:(o:Int)<s.pos
    ·have h0:(b.name==name)=true/\(o:Int)<s.pos:=⟨hn,hc⟩;have hsg:EA l.entries name (o+1) s=⟨s.label,s.pos-Ot l.entries name s.pos o-1⟩:=by simp only[EA,Ot,rH,if_pos h0,Save.mk.injEq,true_and];omega
     simp(disch:=omega)only[go_sem,eq_true hc,hmg,EA];refine Vo _ (k+1) (by grind) (by grind) (AT.Aq ?_ ?_)
     ·exact gI
     ·refine gO ?_;exact .sl (by rw[<- hms,List.map_set,hsg];rfl)
    ·have h0:¬ ((b.name==name)=true/\(o:Int)<s.pos):=λh=>hc h.2
     have hsg:EA l.entries name (o+1) s=EA l.entries name o s:=by simp_all[EA,Ot,if_neg]
     have hMs:M.set k (EA l.entries name o s)=M:=by
      apply List.ext_getElem?;grind
     rw[hsg,hMs]at hms;simp only[go_sem,eq_false hc];refine Vo _ (k+1) (by grind) (by grind) (AT.Aq ?_ ?_)
     ·exact gI
     ·refine gO ?_;exact .sl (by grind)
   ·have TM:k=l.AA.length:=by grind
    subst TM;rw[sA];refine Qc _ (o+1) ⟨by omega,trivial⟩ (by omega) (AT.Aq ?_ ?_)
    ·exact gI
    ·refine gO ?_;exact .sl (by grind[CV])
 ·subst Ba;rw[take_length];have hle:(l.entries.filter (CV name)).length<=l.entries.length:=List.length_filter_le _ _
  by_cases hs:(l.entries.filter (CV name)).length=l.entries.length
  ·have e:G6 l name=(CI,false):=by simp_all[G6]
   have e1:(((l.entries.filter (CV name)).length:Int)==l.entries.length)=true:=by grind
   simp only[go_sem,e1,e,CI];exact Gw _
  ·have e:G6 l name=(⟨l.entries.filter (CV name),l.AA.map (EA l.entries name l.entries.length)⟩,true):=by simp_all[G6]
   have e1:(((l.entries.filter (CV name)).length:Int)==l.entries.length)=false:=by grind
   rw[e];refine gS ?_;refine CU ⟨[],[],[2624,1024]⟩ _ ?_;simp(disch:=omega)only[go_sem]
   try exact .eq (by grind)
end Go.Rd
