/- part 29 of the proof -/
import Derived.Test.YteliegkcmjimoaaGreatDoorV28
set_option linter.all false
open Go Go.Abs Go.Proofs
set_option maxRecDepth 100000
namespace Go.Rd
set_option maxHeartbeats 8000000
open List (map_nil mem_cons mem_filterMap mem_map take_add_one take_length)
open Bool (and_eq_true false_eq_true not_eq_true')
open Option (map_some)
open Tryz
def KX(t:List Queue)(x:Cd):Prop:=∀ q∈t,Kq q x.proc (AE x.By.entries q.res.name)
def KF(q:Queue)(p:Ad)(l:BO):Prop:=Ar q p=none/\Ap q.holds p=l
def KF.k{q:Queue}{p:Ad}{l:BO}(h:KF q p l):Kq q p l:=⟨λhh=>by rw[h.1]at hh;simp at hh,.inl h.2⟩
structure Good(t:List Queue)(x:Cd):Prop where
 ex:BA x.BQ.expr=true
 fd:∀ a∈Al x.BQ.expr,∃ k,CA t a.name=some k
 k:KX t x
def Good.step{p:Ad}{t t':List Queue}{x:Cd}(h:Good t x)(hs:GL p t t')(hp:x.proc≠p):Good t' x :=
 ⟨h.ex,λa ha=>by rw[Ky hs.res];exact h.fd a ha,hs.other x.proc hp (λn=>AE x.By.entries n) h.k⟩
structure JE(e:Option Nat)(w:Aw):Prop where
 tab:FA w.Aa
 n:w.procs.length<=8
 uq:∀ (i j:Nat) (x y:Cd),w.procs[i]?=some x->w.procs[j]?=some y->x.proc=y.proc->i=j
 Fv:∀ (j:Nat) (x:Cd),w.procs[j]?=some x->some j≠e->x.waiting=true->Good w.Aa x
def JE.sw{w:Aw}(h:JE none w)(i:Nat):JE (some i) w:=⟨h.tab,h.n,h.uq,λj x hj _ hw=>h.Fv j x hj (by simp) hw⟩
def JE.step{i:Nat}{w w':Aw}{z:Cd}(h:JE (some i) w)(hz:w.procs[i]?=some z)(hp:w'.procs=w.procs)(hs:GL z.proc w.Aa w'.Aa):JE (some i) w' where
 tab:=hs.tab
 n:=by rw[hp];exact h.n
 uq:=by rw[hp];exact h.uq
 Fv:=λj x hj Ca hw=>by
  rw[hp]at hj;refine(h.Fv j x hj Ca hw).step hs λe=>Ca ?_
  rw[h.uq j i x z hj hz e]
def JE.set{i:Nat}{w:Aw}{z y:Cd}(h:JE (some i) w)(hz:w.procs[i]?=some z)(hy:y.proc=z.proc)(hg:y.waiting=true->Good w.Aa y):JE none (Bd w i y) where
 tab:=h.tab
 n:=by simp only[Bd,List.length_set];exact h.n
 uq:=λa b u v ha hb e=>by
  have key:∀ (c:Nat) (u:Cd),(w.procs.set i y)[c]?=some u->∃ u',w.procs[c]?=some u'/\u'.proc=u.proc:=λc u hc=>by
   rw[List.getElem?_set]at hc;split at hc
   ·rename_i e;subst e;split at hc
    ·exact⟨z,hz,by rw[<- hy,Option.some.inj hc]⟩
    ·cases hc
   ·exact⟨u,hc,rfl⟩
  obtain⟨u',h1,h2⟩:=key a u ha;obtain⟨v',h3,h4⟩:=key b v hb;exact h.uq a b u' v' h1 h3 (by rw[h2,h4,e])
 Fv:=λj x hj _ hw=>by
  simp only[Bd]at hj;rw[List.getElem?_set]at hj;split at hj
  ·split at hj
   ·have:=Option.some.inj hj;subst this;exact hg hw
   ·cases hj
  ·rename_i Ca;exact h.Fv j x hj (λe=>Ca (Option.some.inj e).symm) hw
def JE.set'{i:Nat}{w:Aw}{z y:Cd}(h:JE (some i) w)(hz:w.procs[i]?=some z)(hy:y.proc=z.proc):JE (some i) (Bd w i y):=by
 have h1:=JE.set (y:={ y with waiting:=false }) h hz hy (λe=>by simp at e);refine⟨h.tab,by simp only[Bd,List.length_set];exact h.n,λa b u v ha hb e=>?_,λj x hj Ca hw=>?_⟩
 ·have key:∀ (c:Nat) (u:Cd),(w.procs.set i y)[c]?=some u->∃ u',w.procs[c]?=some u'/\u'.proc=u.proc:=λc u hc=>by
   rw[List.getElem?_set]at hc;split at hc
   ·rename_i e;subst e;split at hc
    ·exact⟨z,hz,by rw[<- hy,Option.some.inj hc]⟩
    ·cases hc
   ·exact⟨u,hc,rfl⟩
  obtain⟨u',h1,h2⟩:=key a u ha;obtain⟨v',h3,h4⟩:=key b v hb;exact h.uq a b u' v' h1 h3 (by rw[h2,h4,e])
 ·simp only[Bd]at hj;rw[List.getElem?_set]at hj;split at hj
  ·rename_i e;subst e;exact absurd rfl Ca
  ·exact h.Fv j x hj Ca hw
def Ty{w:Aw}{x:Cd}{name:Bs}(h:FA w.Aa)(hk:KX w.Aa x)(hf:∃ k,CA w.Aa name=some k) :
 S5 w x name/\GL x.proc w.Aa (Gf w x name).Aa/\KX (Gf w x name).Aa x/\∀ q∈(Gf w x name).Aa,KF q x.proc (AE x.By.entries q.res.name)\/(q∈w.Aa/\q.res.name≠name):=by
 obtain⟨k,hf⟩:=hf;obtain⟨Au,q,hq,hn⟩:=DB hf;have hg:w.Aa.getD k q0=q:=by simp[List.getD,hq]
 have uw:=mG hq;have xY:=hk q uw;have fin:∀ q1:Queue,q1.res=q.res->KF q1 x.proc (AE x.By.entries name)->GL x.proc w.Aa (w.Aa.set k q1) ->
  KX (w.Aa.set k q1) x/\∀ q'∈w.Aa.set k q1,KF q' x.proc (AE x.By.entries q'.res.name)\/(q'∈w.Aa/\q'.res.name≠name):=by
  intro q1 hr vU hs;have e1:q1.res.name=name:=by rw[hr,hn]
  refine⟨λq' L7=>?_,λq' L7=>?_⟩
  ·rcases EL (q:=q) L7 with rfl|⟨j,_,hj⟩
   ·rw[e1];exact vU.k
   ·exact hk q' (mG hj)
  ·rcases EL (q:=q) L7 with rfl|⟨j,_,hj⟩
   ·exact .inl (by rw[e1];exact vU)
   ·rename_i Vb;exact .inr ⟨mG hj,λe=>Vb (MN h hj hq (e.trans hn.symm))⟩
 cases hw:(Ar q x.proc).isSome
 ·have eA:Fl w x name k=w:=by simp only[Fl,hg,hw];rfl
  have eR:S5 w x name:=⟨k,hf,Dx h,by rw[eA];exact Au,by rw[eA];exact Dx h⟩;have b8:=Gn hw;have eK:Gf w x name=Pn w x name k:=by unfold Gf;rw[hf];simp only[eA]
  rw[eK];unfold Pn;rw[hg]
  by_cases hl:Ap q.holds x.proc=AE x.By.entries name
  ·simp only[hl,decide_true,if_true];refine⟨eR,.refl h,hk,λq' L7=>?_⟩
   by_cases e:q'.res.name=name
   ·obtain⟨j,hj⟩:=List.getElem?_of_mem L7;have:=MN h hj hq (e.trans hn.symm);subst this;rw[hq]at hj;have:=Option.some.inj hj;subst this;exact .inl ⟨b8,by rw[hn];exact hl⟩
   ·exact .inr ⟨L7,e⟩
  ·simp only[hl,decide_false,false_eq_true,if_false];rw[hn]at xY;obtain⟨hz,hc⟩:=xY.2.resolve_left hl;obtain⟨q1,e1,hs,hr,h1,h2⟩:=ML (a:=⟨name,AE x.By.entries name⟩) h hf hq b8 hz hc;simp only[CU];rw[e1];exact⟨eR,hs,fin q1 hr ⟨h1,h2⟩ hs⟩
 ·obtain⟨q1,e1,hs,hr,h1,h2⟩:=Xa h hf hq hw;have hl:=xY.1 hw;rw[hn]at hl;have eA:Fl w x name k=CU w (w.Aa.set k q1) (Dd w.Aa x.proc name).2.1:=by simp only[Fl,hg,hw,if_true,e1]
  have eR:S5 w x name:=⟨k,hf,Dx h,by rw[eA];simpa [CU]using Au,by rw[eA];exact Dx hs.tab⟩;have eK:Gf w x name=Fl w x name k:=by
   unfold Gf;rw[hf];simp only;unfold Pn;rw[eA];have:(CU w (w.Aa.set k q1) (Dd w.Aa x.proc name).2.1).Aa.getD k q0=q1:=by simp[CU,List.getD,Au]
   rw[this,h2,hl];simp
  rw[eK,eA];exact⟨eR,hs,fin q1 hr ⟨h1,h2.trans hl⟩ hs⟩
def Mq{x:Cd}:∀ (az:List Atom) (w:Aw),FA w.Aa->KX w.Aa x->(∀ a∈az,∃ k,CA w.Aa a.name=some k) ->
 Oj w x az/\GL x.proc w.Aa (EO w x az).Aa/\KX (EO w x az).Aa x/\∀ q∈(EO w x az).Aa,KF q x.proc (AE x.By.entries q.res.name)\/(q∈w.Aa/\∀ a∈az,q.res.name≠a.name)
 |[],w,h,hk,_=>⟨λi b hb=>by simp at hb,.refl h,hk,λq hq=>.inr ⟨hq,λa ha=>by cases ha⟩⟩
 | a::az,w,h,hk,hf=>by
  obtain⟨h1,h2,h3,h4⟩:=Ty h hk (hf a (by simp));obtain⟨g1,g2,g3,g4⟩:=Mq az (Gf w x a.name) h2.tab h3 (λb hb=>by rw[Ky h2.res];exact hf b (by simp[hb]));refine⟨λi b hb=>?_,h2.trans g2,g3,λq hq=>?_⟩
  ·cases i with
   | zero =>
    simp at hb;subst hb;exact h1
   | succ i=>exact g1 i b (by simpa using hb)
  ·rcases g4 q hq with vU|⟨hq,hn⟩
   ·exact .inl vU
   ·rcases h4 q hq with vU|⟨hq,gH⟩
    ·exact .inl vU
    ·exact .inr ⟨hq,λb hb=>by
      rcases mem_cons.1 hb with rfl|hb
      ·exact gH
      ·exact hn b hb⟩
def Fc{w:Aw}{i:Nat}{x:Cd}(h:JE none w)(hx:w.procs[i]?=some x)(hw:x.waiting=true):Oj w x (Al x.BQ.expr)/\JE none (Bm w i x)/\∀ q∈(Bm w i x).Aa,KF q x.proc (AE x.By.entries q.res.name)\/(q∈w.Aa/\∀ a∈Al x.BQ.expr,q.res.name≠a.name):=by
 have hg:=h.Fv i x hx (by simp) hw;obtain⟨h1,h2,h3,h4⟩:=Mq (Al x.BQ.expr) w h.tab hg.k hg.fd;refine⟨h1,?_,h4⟩;have hp:=II w x (Al x.BQ.expr);exact JE.set (z:=x) ((h.sw i).step hx hp h2) (by rw[hp];exact hx) rfl (λe=>by simp[Cj]at e)
def RW{i:Nat}{x:Cd}:∀ (kl:List (Bool × Atom)) (w:Aw) (z:Cd),JE (some i) w->w.procs[i]?=some z->z.proc=x.proc->KX w.Aa x->(∀ p∈kl,∃ k,CA w.Aa p.2.name=some k) ->
 W3 w i x kl/\JE (some i) (DV w i x kl)
 |[],w,z,h,_,_,_,_=>⟨λj p hp=>by simp at hp,h⟩
 |(kp,a)::kl,w,z,h,hz,zO,hk,hf=>by
  have kz:=hf (kp,a) (by simp);obtain⟨h1,h2,h3,_⟩:=Ty h.tab hk kz;have key:JE (some i) (Ia w i x kp a.name)/\(∃ z',(Ia w i x kp a.name).procs[i]?=some z'/\z'.proc=x.proc)/\KX (Ia w i x kp a.name).Aa x/\(Ia w i x kp a.name).Aa.map (·.res)=w.Aa.map (·.res):=by
   unfold Ia;cases kp
   ·simp only[Bool.not_false,if_true];have hp:=JH w x a.name;exact⟨h.step hz hp (zO▸h2),⟨z,by rw[hp];exact hz,zO⟩,h3,h2.res⟩
   ·simp only[Bool.not_true,false_eq_true,if_false];have hg:w.procs.getD i x0=z:=by simp[List.getD,hz]
    obtain⟨k,U9⟩:=kz;rw[U9,hg];simp only;split
    ·exact⟨h,⟨z,hz,zO⟩,hk,rfl⟩
    ·refine⟨h.set' hz rfl,?_,hk,rfl⟩;simp only[Bd];rw[List.getElem?_set_self (Ay hz)];exact⟨_,rfl,zO⟩
  obtain⟨k1,⟨z',k2,k3⟩,k4,k5⟩:=key;obtain⟨g1,g2⟩:=RW kl (Ia w i x kp a.name) z' k1 k2 k3 k4 (λp hp=>by rw[Ky k5];exact hf p (by simp[hp]));refine⟨λj p hp=>?_,g2⟩;cases j with
  | zero =>
   simp at hp;subst hp;exact⟨λ_=>h1,λ_=>⟨Dx h.tab,kz⟩⟩
  | succ j=>exact g1 j p (by simpa using hp)
def JE.note{e:Option Nat}{w:Aw}(h:JE e w)(k:Int)(p:Ad):JE e (Cw w k p):=⟨h.tab,h.n,h.uq,h.Fv⟩
def Qi{w:Aw}{i:Nat}{x:Cd}(h:JE none w)(hx:w.procs[i]?=some x)(hw:x.waiting=true) :
 W3 (Cw w 2 x.proc) i x ((Ef x.BQ.expr (BY w.Aa x.proc x.BQ.expr)).zip (Al x.BQ.expr))/\JE none (D0 w i x):=by
 have hg:=h.Fv i x hx (by simp) hw;obtain⟨h1,h2⟩:=RW ((Ef x.BQ.expr (BY w.Aa x.proc x.BQ.expr)).zip (Al x.BQ.expr)) (Cw w 2 x.proc) x ((h.sw i).note 2 x.proc) hx rfl hg.k (λp hp=>hg.fd p.2 (List.of_mem_zip hp).2);refine⟨h1,?_⟩;obtain⟨l',hl⟩:=Q1 (w:=w) (i:=i) (x:=x) (z:=x) hx ((Ef x.BQ.expr (BY w.Aa x.proc x.BQ.expr)).zip (Al x.BQ.expr)) (Cw w 2 x.proc) ⟨x.By,(Qh hx).symm⟩;have hi:=Ay hx;have hz:(DV (Cw w 2 x.proc) i x ((Ef x.BQ.expr (BY w.Aa x.proc x.BQ.expr)).zip (Al x.BQ.expr))).procs[i]?=some { x with By:=l' }:=by rw[hl];simp[hi]
 simp only[D0];generalize DV (Cw w 2 x.proc) i x ((Ef x.BQ.expr (BY w.Aa x.proc x.BQ.expr)).zip (Al x.BQ.expr))=w1 at h2 hz ⊢;have e1:w1.procs.getD i x0 = { x with By:=l' }:=by simp[List.getD,hz]
 rw[e1];have h3:=JE.set (y:=Cj { x with By:=l' }) h2 hz rfl (λe=>by simp[Cj]at e);have Lu:=Ay hz;have kS:(Bd w1 i (Cj { x with By:=l' })).procs[i]?=some (Cj { x with By:=l' }):=by simp[Bd,Lu]
 have e2:(Bd w1 i (Cj { x with By:=l' })).procs.getD i x0=Cj { x with By:=l' }:=by simp[List.getD,kS]
 rw[e2];exact JE.set (h3.sw i) kS rfl (λe=>by simp[Cj,C1]at e)
def JE.reqs{w:Aw}(h:JE none w):W1 w:=λx hx hw=>by
 obtain⟨j,hj⟩:=List.getElem?_of_mem hx;exact(h.Fv j x hj (by simp) hw).ex
def JE.Fh:I6 (JE none) where
 bK:=λw h=>⟨Dx h.tab,h.n,h.reqs⟩
 safe:=λw i x h hs hx=>by
  obtain⟨y,hy,PM⟩:=KV hs;rw[hx]at hy;have:=Option.some.inj hy;subst this;exact(Qi h hx (by simp only[Qc,and_eq_true]at PM;exact PM.1)).1
 next:=λw i x h hs hx=>by
  obtain⟨y,hy,PM⟩:=KV hs;rw[hx]at hy;have:=Option.some.inj hy;subst this;exact(Qi h hx (by simp only[Qc,and_eq_true]at PM;exact PM.1)).2
def JE.next{w:Aw}{i:Nat}{x:Cd}(h:JE none w)(hx:w.procs[i]?=some x):JE none (Bd w i (C1 x)) :=
 JE.set (h.sw i) hx rfl λhw=>by
  have:=h.Fv i x hx (by simp) hw;exact⟨this.ex,this.fd,this.k⟩
def JE.q6:iZ (JE none) where
 toI6:=JE.Fh
 ev:=λw k p h=>h.note k p
 wd:=λw i x h hx hw=>⟨(Fc h hx hw).1,(Fc h hx hw).2.1⟩
 nx:=λw i x h hx=>h.next hx
structure Lost(w:Aw):Prop where
 q:w.Aa=[]
 n:w.procs.length<=8
 rq:W1 w
def US(w:Aw):Prop:=JE none w\/Lost w
theorem gw(l:List Atom)(set:List Bool)(h:∀ b∈set,b=false)(a:Atom):Ed l set a=false:=by
 unfold Ed;split
 ·rename_i i _;simp only[List.getD];cases hs:set[i]? with
  |none=>rfl
  |some b=>rw[h b (mG hs)];rfl
 ·rfl
def Tr{has:Atom->Bool}:∀ (es:List Expr) (l:List Atom),(∀ e∈es,∀ l,(prop e l).1=true->EX has e=false)->(CB es l).1=true->CV has es=0
 |[],_,_,_=>by simp[CV]
 | e::es,l,hk,h=>by
  simp only[CB]at h;split at h
  ·rename_i h1;have:=hk e (by simp) l h1;simp only[CV,this,false_eq_true,if_false];rw[Tr es _ (λe' he=>hk e' (by simp[he])) h];rfl
  ·cases h
def VH{has:Atom->Bool}(hh:∀ a,has a=false):∀ (N:Nat) (e:Expr),SizeOf.sizeOf e<N->∀ l:List Atom,(prop e l).1=true->EX has e=false
 | 0,_,h,_,_=>by omega
 | N+1,e,h,l,hp=>by
  rw[Kw];rw[D8]at hp
  by_cases h0:e.kids.length=0
  ·rw[if_pos h0];exact hh _
  ·rw[if_neg h0]at hp ⊢;split at hp
   ·cases hp
   ·rename_i hn;have hc:=Tr (has:=has) e.kids l (λk hk l' V5=>VH hh N k (by have:=D3 hk;omega) l' V5) hp;rw[hc];simp only[not_or,Int.not_lt]at hn;have:=hn.1;simp only[decide_eq_false_iff_not];omega
def bY{p:Ad}{e:Expr}(h:BA e=true):Ff e (BY [] p e)=false:=by
 have hp:(prop e []).1=true:=by simp only[BA,and_eq_true]at h;exact h.2
 have hg:∀ b∈BY [] p e,b=false:=λb hb=>by
  simp only[BY,mem_map]at hb;obtain⟨a,_,rfl⟩:=hb;rfl
 unfold Ff;rw[VH (λa=>gw _ _ hg a) _ e (Nat.lt_succ_self _) [] hp];simp
theorem Lost.sat{w:Aw}(h:Lost w):M3 w=none:=by
 unfold M3;rw[List.findIdx?_eq_none_iff];intro x hx;unfold Qc;cases hw:x.waiting
 ·rfl
 ·rw[h.q,bY (h.rq x hx hw)];rfl
def Nv:Ei []:=⟨by simp,by simp⟩
def US.Fh:I6 US where
 bK:=λw h=>h.elim (λh=>JE.Fh.bK w h) λh=>⟨by rw[h.q];exact Nv,h.n,h.rq⟩
 safe:=λw i x h hs hx=>h.elim (λh=>JE.Fh.safe w i x h hs hx) λh=>by rw[h.sat]at hs;cases hs
 next:=λw i x h hs hx=>h.elim (λh=>.inl (JE.Fh.next w i x h hs hx)) λh=>by rw[h.sat]at hs;cases hs
theorem bq(p:Ad)(a:Atom)(prio:Int):(Et [] p a prio).1=[]:=by
 unfold Et;split
 ·rfl
 ·rfl
def RD(p:Ad)(prio:Int):∀ (az:List Atom) (w:Aw),w.Aa=[]->(De w p prio az).Aa=[]/\Yw w p prio az
 |[],w,h=>⟨h,λi hi=>by simp at hi⟩
 | a::az,w,h=>by
  have h1:(Gy w p a prio).Aa=[]:=by simp only[Gy,CU];rw[h];exact bq p a prio
  obtain⟨g1,g2⟩:=RD p prio az (Gy w p a prio) h1;refine⟨g1,λi hi=>?_⟩;cases i with
  | zero=>show Ei w.Aa;rw[h];exact Nv
  | succ i=>exact g2 i (by simpa using hi)
def Pd{i:Nat}{y:Cd}{prio:Int}:∀ (az:List Atom) (w:Aw),(az.map (·.name)).Nodup->JE (some i) w->w.procs[i]?=some y->KX w.Aa y->(∀ q∈w.Aa,(∃ a∈az,a.name=q.res.name)->Ap q.holds y.proc=AE y.By.entries q.res.name) ->
 Yw w y.proc prio az/\((De w y.proc prio az).Aa=[]\/(JE (some i) (De w y.proc prio az)/\KX (De w y.proc prio az).Aa y/\(De w y.proc prio az).Aa.map (·.res)=w.Aa.map (·.res)))
 |[],w,_,h,_,hk,_=>⟨λi hi=>by simp at hi,.inr ⟨h,hk,rfl⟩⟩
 | a::az,w,hu,h,hy,hk,hf=>by
  have V8:=List.nodup_cons.1 hu;have xl:=Dx h.tab;rcases Y1 (p:=y.proc) (a:=a) (prio:=prio) h.tab (λn=>AE y.By.entries n) (λq hq hn=>hf q hq ⟨a,by simp,hn.symm⟩) with hl|⟨k,q,q1,U9,hq,hn,e1,hs,hr,xY⟩
  ·have h1:(Gy w y.proc a prio).Aa=[]:=hl;obtain⟨g1,g2⟩:=RD y.proc prio az (Gy w y.proc a prio) h1;refine⟨λj hj=>?_,.inl g1⟩;cases j with
   | zero=>exact xl
   | succ j=>exact g2 j (by simpa using hj)
  ·have eq1:(Gy w y.proc a prio).Aa=w.Aa.set k q1:=e1;have TZ:(Gy w y.proc a prio).procs=w.procs:=rfl;have Sh:KX (Gy w y.proc a prio).Aa y:=λq' L7=>by
    rw[eq1]at L7;rcases EL (q:=q) L7 with rfl|⟨j,_,hj⟩
    ·rw[hr];exact xY
    ·exact hk q' (mG hj)
   have gL:GL y.proc w.Aa (Gy w y.proc a prio).Aa:=by rw[eq1];exact hs
   obtain⟨g1,g2⟩:=Pd az (Gy w y.proc a prio) V8.2 (h.step hy TZ gL) (by rw[TZ];exact hy) Sh (λq' L7 hx=>by
    rw[eq1]at L7;rcases EL (q:=q) L7 with rfl|⟨j,_,hj⟩
    ·exfalso;obtain⟨b,hb,e⟩:=hx;refine V8.1 ?_;rw[mem_map];exact⟨b,hb,by rw[e,hr,hn]⟩
    ·obtain⟨b,hb,e⟩:=hx;exact hf q' (mG hj) ⟨b,by simp[hb],e⟩)
   refine⟨λj hj=>?_,?_⟩
   ·cases j with
    | zero=>exact xl
    | succ j=>exact g1 j (by simpa using hj)
   ·rcases g2 with g2|⟨a1,a2,a3⟩
    ·exact .inl g2
    ·exact .inr ⟨a1,a2,a3.trans gL.res⟩
def L2(l:List Atom):Prop:=(l.map (·.name)).Nodup
def hZ{l:List Atom}{a:Atom}(h:L2 l):L2 (Fs l a).2:=by
 unfold Fs;cases hf:l.find? (iR a) with
 |some b=>exact h
 |none =>
  simp only;split
  ·exact h
  ·unfold L2 at h ⊢;rw[List.map_append,List.nodup_append];refine⟨h,by simp,λx hx y hy=>?_⟩;simp at hy;subst hy;rw[List.find?_eq_none]at hf;obtain⟨b,hb,rfl⟩:=mem_map.1 hx;have:=hf b hb;simp only[iR]at this;intro e;rw[e]at this;simp at this
def Uu:∀ (es:List Expr) (l:List Atom),(∀ e∈es,∀ l,L2 l->L2 (prop e l).2)->L2 l->L2 (CB es l).2
 |[],l,_,h=>by simpa [CB]using h
 | e::es,l,hk,h=>by
  simp only[CB];have h1:=hk e (by simp) l h;split
  ·exact Uu es _ (λe' he=>hk e' (by simp[he])) h1
  ·exact h1
def WA:∀ (N:Nat) (e:Expr),SizeOf.sizeOf e<N->∀ l:List Atom,L2 l->L2 (prop e l).2
 | 0,_,h,_,_=>by omega
 | N+1,e,h,l,hu=>by
  rw[D8];split
  ·split
   ·exact hZ hu
   ·exact hu
  ·split
   ·exact hu
   ·exact Uu e.kids l (λk hk l' V8=>WA N k (by have:=D3 hk;omega) l' V8) hu
def YR(e:Expr):L2 (Al e):=by
 unfold Al;split
 ·rename_i h;have hp:(prop e []).1=true:=by simp only[BA,and_eq_true]at h;exact h.2
  rw[Jr _ e (Nat.lt_succ_self _) [] hp];exact WA _ e (Nat.lt_succ_self _) [] (by simp[L2])
 ·simp[L2]
def Idle(t:List Queue)(x:Cd):Prop:=∀ q∈t,KF q x.proc (AE x.By.entries q.res.name)
def YP{w:Aw}{i:Nat}{x:Cd}{r:aY}(h:JE none w)(hx:w.procs[i]?=some x)(hi:Idle w.Aa x)(he:BA r.expr=true)(hf:∀ a∈Al r.expr,∃ k,CA w.Aa a.name=some k) :
 Yw (Bd w i (Mh w.now x r)) x.proc r.prio (Al r.expr)/\US (UX w i x r):=by
 have vV:=Ay hx;have h1:JE (some i) (Bd w i (Mh w.now x r)):=(h.sw i).set' hx rfl;have hy:(Bd w i (Mh w.now x r)).procs[i]?=some (Mh w.now x r):=by simp[Bd,vV]
 obtain⟨g1,g2⟩:=Pd (prio:=r.prio) (Al r.expr) (Bd w i (Mh w.now x r)) (YR r.expr) h1 hy (λq hq=>(hi q hq).k) (λq hq _=>(hi q hq).2);refine⟨g1,?_⟩;have hp:(UX w i x r).procs=w.procs.set i (Mh w.now x r):=J3 _ _ _ _;have hy2:(UX w i x r).procs[i]?=some (Mh w.now x r):=by rw[hp];simp[vV]
 rcases g2 with g2|⟨a1,a2,a3⟩
 ·refine .inr ⟨g2,by rw[hp];simpa using h.n,λz hz hw=>?_⟩;rw[hp]at hz;rcases List.mem_or_eq_of_mem_set hz with hz|rfl
  ·exact h.reqs z hz hw
  ·exact he
 ·refine .inl ?_;have:=JE.set (y:=Mh w.now x r) a1 hy2 rfl (λ_=>⟨he,λa ha=>by rw[Ky a3];exact hf a ha,a2⟩);have e:Bd (UX w i x r) i (Mh w.now x r)=UX w i x r:=by
   unfold Bd;rw[Qh hy2]
  unfold UX at e this ⊢;rw[<- e];exact this
def cq{t:List Queue}(p:Ad)(a:Atom)(h:FA t):(BB t p a).1=[]\/GL p t (BB t p a).1:=by
 cases hf:CA t a.name with
 |none=>left;simp[BB,hf];split<;>rfl
 |some k =>
  obtain⟨Au,q,hq,hn⟩:=DB hf;have hg:t.getD k q0=q:=by simp[List.getD,hq]
  have hv:=h.val q (mG hq)
  by_cases h0:(AO q p a.AN).2.2=0
  ·right;have:(Ap q.holds p).zero=false/\Ar q p=none/\q.res.covers (Ap q.holds p) a.AN=true:=by
    revert h0;unfold AO;simp only[hv,Bool.not_true,false_eq_true,if_false];split
    ·intro h;simp at h
    split
    ·intro h;simp at h
    split
    ·intro h;simp at h
    rename_i h1 h2 h3;intro _;exact⟨by simpa using h1,Gn (by simpa using h2),by simpa using h3⟩
   obtain⟨q1,e1,hs,_⟩:=ML h hf hq this.2.1 this.1 this.2.2;rw[e1];exact hs
  ·left;simp only[BB,hf,hg];split
   ·rfl
   ·rw[if_pos (by simpa using h0)]
def F5{a:BO}(h:usable a=true):(Bu a.mode=true/\a.Ax=0)\/(a.mode=0/\1<=a.Ax/\a.Ax<=8):=by
 unfold usable at h;rw[Bool.or_eq_true]at h;rcases h with h|h
 ·rcases(CO h).2 with ⟨_,b,c⟩|⟨a,_⟩
  ·exact .inl ⟨b,c⟩
  ·exact absurd rfl a
 ·rcases(CO h).2 with ⟨a,_⟩|⟨_,b,c,d,e⟩
  ·exact absurd a (by decide)
  ·exact .inr ⟨b,c,by omega⟩
def LC{m:Int}(h:Bu m=true):m≠0:=by rcases A9 h with rfl|rfl|rfl|rfl|rfl<;>decide
def WU{a:BO}(h:usable a=true):a≠⟨0,0⟩:=by
 rintro rfl;rcases F5 h with ⟨h,_⟩|⟨_,h,_⟩
 ·exact LC h rfl
 ·exact absurd h (by decide)
def Gr(a b:BO):Prop:=a=⟨0,0⟩\/(usable a=true/\usable b=true/\((a.mode≠0/\Br b.mode a.mode=true)\/(a.mode=0/\b.mode=0/\a.Ax<=b.Ax)))
def Gr.self{a:BO}(h:a=⟨0,0⟩\/usable a=true):Gr a a:=by
 rcases h with h|h
 ·exact .inl h
 ·refine .inr ⟨h,h,?_⟩;rcases F5 h with ⟨h1,h2⟩|⟨h1,h2⟩
  ·exact .inl ⟨LC h1,Pm h1⟩
  ·exact .inr ⟨h1,h1,Int.le_refl _⟩
def Gr.trans{a b c:BO}(h1:Gr a b)(h2:Gr b c):Gr a c:=by
 rcases h1 with h1|⟨ua,ub,h1⟩
 ·exact .inl h1
 ·rcases h2 with h2|⟨_,uc,h2⟩
  ·exact absurd h2 (WU ub)
  ·refine .inr ⟨ua,uc,?_⟩;rcases h1 with ⟨a1,a2⟩|⟨a1,a2,a3⟩
   ·rcases h2 with ⟨b1,b2⟩|⟨b1,_⟩
    ·exact .inl ⟨a1,U0 b2 a2⟩
    ·have:Bu b.mode=true:=by simp only[Br,and_eq_true]at a2;exact a2.1.1
     exact absurd b1 (LC this)
   ·rcases h2 with ⟨b1,_⟩|⟨b1,b2,b3⟩
    ·exact absurd a2 b1
    ·exact .inr ⟨a1,b2,by omega⟩
def TR{a b:BO}(h:Iv a b=true):usable b=true/\Gr a b:=by
 unfold Iv at h;split at h
 ·cases h
 rename_i h1;simp only[Bool.or_eq_true,not_eq_true',decide_eq_true_eq,not_or,Bool.not_eq_false]at h1;refine⟨h1.1,?_⟩;split at h
 ·rename_i h2;obtain⟨m,u⟩:=a;simp at h2;exact .inl (by simp[h2])
 rename_i h2;split at h
 ·cases h
 rename_i h3;have ua:usable a=true:=by simpa using h3
 refine .inr ⟨ua,h1.1,?_⟩;split at h
 ·rename_i h4;exact .inl ⟨by simpa using h4,h⟩
 ·rename_i h4;have h4:a.mode=0:=by simpa using h4
  have h5:a.Ax<b.Ax:=by simpa using h
  rcases F5 ua with ⟨m,_⟩|⟨_,m,_⟩
  ·exact absurd h4 (LC m)
  ·rcases F5 h1.1 with ⟨_,n⟩|⟨n,_⟩
   ·omega
   ·exact .inr ⟨h4,n,by omega⟩
def gr{r:Bo}{h a:BO}(hf:r.fits h=true)(hg:Gr a h):r.covers h a=true:=by
 rcases hg with rfl|⟨ua,uh,hg⟩
 ·exact JF hf
 ·obtain⟨hs,hc⟩:=CO hf;rcases hc with ⟨k,m,u⟩|⟨k,m,u1,u2,u3⟩
  ·rcases hg with ⟨a1,a2⟩|⟨_,a2,_⟩
   ·have ma:Bu a.mode=true:=by simp only[Br,and_eq_true]at a2;exact a2.1.2
    have ha:a.Ax=0:=by
     rcases F5 ua with ⟨_,h⟩|⟨h,_⟩
     ·exact h
     ·exact absurd h a1
    have fa:r.fits a=true:=by simp[Bo.fits,hs,k,ma,ha]
    rw[EF hf fa,if_pos k];exact a2
   ·exact absurd a2 (LC m)
  ·rcases hg with ⟨a1,a2⟩|⟨a1,a2,a3⟩
   ·have:Bu h.mode=true:=by simp only[Br,and_eq_true]at a2;exact a2.1.1
    exact absurd m (LC this)
   ·have h1:1<=a.Ax:=by
     rcases F5 ua with ⟨h,_⟩|⟨_,h,_⟩
     ·exact absurd a1 (LC h)
     ·exact h
    have fa:r.fits a=true:=by
     have hb:AL a.Ax 1 r.Ax=true:=by simp[AL];omega
     simp[Bo.fits,hs,k,a1,hb]
    rw[EF hf fa,if_neg k];simpa using a3
def LN{l:Ledger}(h:BF l=true){i:Nat}{e:Entry}(he:l.entries[i]?=some e):e.before=AE (l.entries.take i) e.name/\Iv e.before e.after=true:=by
 simp only[BF,and_eq_true]at h;have:=Vt h.1.1.2 he;simp only[Gg,and_eq_true,decide_eq_true_eq]at this;exact⟨this.1.2,this.2⟩
def XO{l:Ledger}(h:BF l=true)(n:Bs):∀ i,i<=l.entries.length->AE (l.entries.take i) n=⟨0,0⟩\/usable (AE (l.entries.take i) n)=true
 | 0,_=>.inl rfl
 | i+1,hi=>by
  obtain⟨e,he⟩:∃ e,l.entries[i]?=some e:=⟨_,gE (by omega)⟩;rw[ER he];split
  ·exact .inr (TR (LN h he).2).1
  ·exact XO h n i (by omega)
def eG{l:Ledger}(h:BF l=true)(n:Bs)(i:Nat):∀ d,i+d<=l.entries.length->Gr (AE (l.entries.take i) n) (AE (l.entries.take (i+d)) n)
 | 0,hi=>Gr.self (XO h n i hi)
 | d+1,hi=>by
  obtain⟨e,he⟩:∃ e,l.entries[i+d]?=some e:=⟨_,gE (by omega)⟩;have ih:=eG h n i d (by omega);rw[show i+(d+1)=i+d+1 from rfl,ER he];split
  ·rename_i hn;have hn:e.name=n:=by simpa using hn
   obtain⟨h1,h2⟩:=LN h he;rw[hn]at h1;rw[h1]at h2;exact ih.trans (TR h2).2
  ·exact ih
def gC{l:Ledger}(h:BF l=true)(n:Bs)(i:Nat):Gr (AE (l.entries.take i) n) (AE l.entries n):=by
 rcases Nat.lt_or_ge i l.entries.length with hi|hi
 ·have:=eG h n i (l.entries.length-i) (by omega);rw[show i+(l.entries.length-i)=l.entries.length by omega,take_length]at this;exact this
 ·rw[List.take_of_length_le hi];have:=XO h n l.entries.length (Nat.le_refl _);rw[take_length]at this;exact .self this
def V0{l:Ledger}(h:BF l=true){n:Bs}:∀ i,i<=l.entries.length->(∃ e∈l.entries.take i,e.name=n)->usable (AE (l.entries.take i) n)=true
 | 0,_,⟨e,he,_⟩=>by simp at he
 | i+1,hi,⟨e,he,hn⟩=>by
  obtain⟨b,hb⟩:∃ b,l.entries[i]?=some b:=⟨_,gE (by omega)⟩;rw[ER hb];split
  ·exact(TR (LN h hb).2).1
  ·rename_i Ca;refine V0 h i (by omega) ⟨e,?_,hn⟩;rw[take_add_one,hb]at he;simp only[Option.toList_some,List.mem_append,List.mem_singleton]at he;rcases he with he|rfl
   ·exact he
   ·rw[hn]at Ca;simp at Ca
def lr(l:List Bs)(n x:Bs):x∈XX l n↔x∈l\/x=n:=by
 unfold XX;split
 ·rename_i h;exact⟨.inl,λhx=>hx.elim id λe=>e▸h⟩
 ·exact qd _ _ _ _
def Wo:∀ (ns l:List Bs) (x:Bs),x∈ns.foldl XX l↔x∈l\/x∈ns
 |[],l,x=>by simp
 | n::ns,l,x=>by
  rw[List.foldl_cons,Wo ns,lr];simp[or_assoc]
def Un(l:List Entry)(x:Bs):x∈Dy l↔∃ e∈l,e.name=x:=by
 unfold Dy;rw[Wo];simp
def Wp{l:Ledger}(h:BF l=true){n:Bs}(hn:∃ e∈l.entries,e.name=n):(⟨n,AE l.entries n⟩:Atom)∈H7 l/\usable (AE l.entries n)=true:=by
 have hu:=V0 h (n:=n) l.entries.length (Nat.le_refl _) (by rw[take_length];exact hn);rw[take_length]at hu;refine⟨?_,hu⟩;unfold H7;rw[mem_filterMap];refine⟨n,(Un _ _).2 hn,?_⟩;rw[if_neg ?_];intro hz;refine WU hu ?_;generalize AE l.entries n=a at hz;obtain⟨m,u⟩:=a;simp at hz;simp[hz]
def VZ{l:List Entry}{n:Bs}(h:¬ ∃ e∈l,e.name=n):AE l n=⟨0,0⟩:=by
 have:∀ (l:List Entry) (a:BO),(¬ ∃ e∈l,e.name=n)->l.foldl (λa e=>if e.name==n then e.after else a) a=a:=by
  intro l
  induction l with
  | nil=>intro a _;rfl
  | cons e l ih =>
   intro a hn;rw[List.foldl_cons,if_neg (by simpa using λe'=>hn ⟨e,by simp,e'⟩)];exact ih a fun⟨e',h1,h2⟩=>hn ⟨e',by simp[h1],h2⟩
 exact this l _ h
def O0(t:List Queue)(x:Cd):Prop:=∀ n,(∃ e∈x.By.entries,e.name=n)->∃ k q,CA t n=some k/\t[k]?=some q/\q.res.name=n/\q.res.fits (AE x.By.entries n)=true
def qO(t:List Queue)(x:Cd)(a:Nat):Prop:=∀ q∈t,Ar q x.proc=none/\(Ap q.holds x.proc=AE x.By.entries q.res.name\/Ap q.holds x.proc=AE (x.By.entries.take a) q.res.name)
def O0.res{t t':List Queue}{x:Cd}(h:O0 t x)(hr:t'.map (·.res)=t.map (·.res)):O0 t' x:=λn hn=>by
 obtain⟨k,q,h1,h2,h3,h4⟩:=h n hn;have:=congrArg (λl=>l[k]?) hr;simp only[gm,h2,map_some]at this;cases h5:t'[k]? with
 |none=>rw[h5]at this;cases this
 |some q' =>
  rw[h5]at this;simp only[map_some,Option.some.injEq]at this;exact⟨k,q',(Ky hr n).trans h1,h5,by rw[this];exact h3,by rw[this];exact h4⟩
def gQ{r:Bo}{a:BO}(ha:r.fits a=true)(hc:r.covers ⟨0,0⟩ a=false):Fo r ⟨0,0⟩ a=a:=by
 have hs:=(CO ha).1;have p1:r.permits ⟨0,0⟩=true:=by simp[Bo.permits,hs,BO.zero]
 have p2:r.permits a=true:=by simp[Bo.permits,hs,ha]
 unfold Fo;simp only[p1,p2,hc,Bool.and_self,Bool.not_true,false_eq_true,if_false,JF ha,if_true]
def cG{q:Queue}{x:Cd}(hl:AE x.By.entries q.res.name=⟨0,0⟩\/q.res.fits (AE x.By.entries q.res.name)=true):∀ (az:List Atom),(∀ a∈az,a.name=q.res.name->q.res.fits a.AN=true)->Hw q x az=true->Kq q x.proc (AE x.By.entries q.res.name)
 |[],_,h=>by
  simp only[Hw,and_eq_true,decide_eq_true_eq,not_eq_true']at h;exact KF.k ⟨Gn h.2,h.1⟩
 | a::az,hf,h=>by
  unfold Hw at h;split at h
  ·exact cG hl az (λb hb=>hf b (by simp[hb])) h
  rename_i hn;have hn:a.name=q.res.name:=by simpa using hn
  have kz:=hf a (by simp) hn;split at h
  ·exact cG hl az (λb hb=>hf b (by simp[hb])) h
  rename_i hc;have hc:q.res.covers (AE x.By.entries q.res.name) a.AN=false:=by simpa using hc
  split at h
  ·rename_i hw;have hw:=Gn (by simpa using hw);have hg:Ap q.holds x.proc=Fo q.res (AE x.By.entries q.res.name) a.AN:=by simpa using h
   refine⟨λhh=>by rw[hw]at hh;simp at hh,.inr ?_⟩;rw[hg];rcases hl with hl|hl
   ·rw[hl]at hc ⊢;rw[gQ kz hc];exact⟨IN kz,JF kz⟩
   ·obtain⟨j1,j2,_⟩:=T6 hl kz hc;exact⟨IN j1,j2⟩
  ·split at h
   ·cases h
   ·simp only[and_eq_true,decide_eq_true_eq]at h;exact⟨λ_=>h.1,.inl h.1⟩
def lT{q:Queue}{x:Cd}:∀ (az:List Atom),(∀ a∈az,q.res.name≠a.name)->Hw q x az=true->KF q x.proc (AE x.By.entries q.res.name)
 |[],_,h=>by
  simp only[Hw,and_eq_true,decide_eq_true_eq,not_eq_true']at h;exact⟨Gn h.2,h.1⟩
 | a::az,hf,h=>by
  unfold Hw at h;rw[if_pos (by simpa using Ne.symm (hf a (by simp)))]at h;exact lT az (λb hb=>hf b (by simp[hb])) h
def N7{l:List Bo}:∀ {az:List Atom},Hi l az=0->∀ a∈az,Gm l a=0
 |[],_,a,ha=>by cases ha
 | b::az,h,a,ha=>by
  simp only[Hi]at h;split at h
  ·rename_i hb;rcases mem_cons.1 ha with rfl|ha
   ·exact hb
   ·exact N7 h a ha
  ·rename_i hb;exact absurd h hb
def IS{t:List Queue}(ht:FA t){e:Expr}(h:Dp (Hq t) e=0){a:Atom}(ha:a∈Al e):∃ k q,CA t a.name=some k/\t[k]?=some q/\q.res.name=a.name/\q.res.fits a.AN=true:=by
 unfold Dp at h;split at h
 ·have:=N7 h a ha;unfold Gm at this;split at this
  ·simp at this
  ·cases hr:RM (Hq t) a.name with
   |none=>rw[hr]at this;simp at this
   |some r =>
    rw[hr]at this;simp only at this;split at this
    ·rename_i hf;unfold RM at hr;have hm:=List.mem_of_find?_eq_some hr;have hn:r.name=a.name:=by simpa using List.find?_some hr
     simp only[Hq,mem_map]at hm;obtain⟨q,hq,rfl⟩:=hm;obtain⟨k,hk⟩:=List.getElem?_of_mem hq;exact⟨k,q,by rw[<- hn];exact Zi ht hk,hk,hn,hf⟩
    ·simp at this
 ·simp at h
structure Fit(w:Aw):Prop where
 je:JE none w
 idle:∀ x∈w.procs,x.waiting=false->Idle w.Aa x
 wait:∀ x∈w.procs,x.waiting=true->∀ q∈w.Aa,(∀ a∈Al x.BQ.expr,q.res.name≠a.name)->KF q x.proc (AE x.By.entries q.res.name)
 fits:∀ x∈w.procs,O0 w.Aa x
 By:∀ x∈w.procs,BF x.By=true
 now:0<=w.now/\w.now<=1073741824
 ev:w.Dk=[]
def Rc{l:List Cd}(h:∀ i x,l[i]?=some x->(decide (i=0)||decide (Bw (l.getD (i-1) x0).proc x.proc<0))=true):∀ d i x y,l[i]?=some x->l[i+d+1]?=some y->Bw x.proc y.proc<0
 | 0,i,x,y,hx,hy=>by
  have:=h (i+1) y hy;have hd:l.getD (i+1-1) x0=x:=by simp[List.getD,hx]
  rw[hd]at this;simpa using this
 | d+1,i,x,y,hx,hy=>by
  have Au:=Ay hy;obtain⟨z,hz⟩:∃ z,l[i+d+1]?=some z:=⟨_,gE (by omega)⟩;have h1:=Rc h d i x z hx hz;have h2:=h (i+(d+1)+1) y hy;have hd:l.getD (i+(d+1)+1-1) x0=z:=by simp[List.getD,show i+(d+1)+1-1=i+d+1 by omega,hz]
  rw[hd]at h2;exact DP h1 (by simpa using h2)
def pg{t:List Queue}{x:Cd}(hv:BF x.By=true)(h:(H7 x.By).all (G8 t)=true):O0 t x:=λn hn=>by
 have h1:=(Wp hv hn).1;have h2:=List.all_eq_true.1 h _ h1;unfold G8 at h2;simp only at h2;cases hf:CA t n with
 |none=>rw[hf]at h2;cases h2
 |some k =>
  rw[hf]at h2;obtain⟨_,q,hq,hnm⟩:=DB hf;have hg:t.getD k q0=q:=by simp[List.getD,hq]
  simp only[hg]at h2;exact⟨k,q,rfl,hq,hnm,h2⟩
def gf{t:List Queue}(ht:FA t){x:Cd}(h:O0 t x){q:Queue}(hq:q∈t):AE x.By.entries q.res.name=⟨0,0⟩\/q.res.fits (AE x.By.entries q.res.name)=true:=by
 by_cases hn:∃ e∈x.By.entries,e.name=q.res.name
 ·obtain⟨k,q',h1,h2,_,h4⟩:=h _ hn;obtain⟨j,hj⟩:=List.getElem?_of_mem hq;have:=Zi ht hj;rw[this]at h1;have:=Option.some.inj h1;subst this;rw[hj]at h2;have:=Option.some.inj h2;subst this;exact .inr h4
 ·exact .inl (VZ hn)
def pQ{t:List Queue}{x:Cd}(ht:FA t)(hv:BF x.By=true)(h:Lv t x=true):Idle t x:=λq hq=>by
 simp only[Lv,and_eq_true,decide_eq_true_eq]at h;obtain⟨⟨⟨_,_⟩,h3⟩,h4⟩:=h;have h4:Fj t x.proc=[]:=by
  have:((Fj t x.proc).length:Int)=0:=by simpa using h4
  exact List.eq_nil_of_length_eq_zero (by omega)
 have hw:Ar q x.proc=none:=by
  unfold Fj at h4;rw[List.filterMap_eq_nil_iff]at h4;have:=h4 q hq;simpa using this
 refine⟨hw,?_⟩;cases hz:(Ap q.holds x.proc).zero
 ·have hm:(⟨q.res.name,Ap q.holds x.proc⟩:Atom)∈IA t x.proc:=by
   unfold IA;rw[mem_filterMap];exact⟨q,hq,by simp[hz]⟩
  rw[<- h3]at hm;unfold H7 at hm;rw[mem_filterMap]at hm;obtain⟨n,_,hn⟩:=hm;split at hn
  ·cases hn
  ·simp only[Option.some.injEq,Atom.mk.injEq]at hn;rw[<- hn.2,hn.1]
 ·rw[zero_eq hz]
  by_cases hn:∃ e∈x.By.entries,e.name=q.res.name
  ·exfalso;obtain⟨h5,h6⟩:=Wp hv hn;rw[h3]at h5;unfold IA at h5;rw[mem_filterMap]at h5;obtain⟨q',L7,he⟩:=h5;split at he
   ·cases he
   ·rename_i hz';simp only[Option.some.injEq,Atom.mk.injEq]at he;obtain⟨i,hi⟩:=List.getElem?_of_mem hq;obtain⟨j,hj⟩:=List.getElem?_of_mem L7;have:=MN ht hj hi he.1;subst this;rw[hi]at hj;have:=Option.some.inj hj;subst this;exact hz' hz
  ·exact(VZ hn).symm
def Sv{c:Qt}(h:Ks c=true):Fit ⟨c.now,c.Aa,c.procs,[]⟩:=by
 simp only[Ks,and_eq_true,decide_eq_true_eq,FV]at h;obtain⟨⟨⟨⟨⟨h1,h2⟩,h3⟩,h4⟩,h5⟩,h6⟩:=h;have ht:=(I2 _).1 h3;have XS:∀ x∈c.procs,Iw x=true/\(H7 x.By).all (G8 c.Aa)=true/\(if x.waiting then Kg c.now c.Aa x else Lv c.Aa x)=true:=λx hx=>by
  obtain⟨i,hi⟩:=List.getElem?_of_mem hx;have:=h6 i x hi;simp only[F0,GS,and_eq_true]at this;exact⟨this.1.1.1,this.1.1.2,this.1.2⟩
 have yb:∀ i x,c.procs[i]?=some x->(decide (i=0)||decide (Bw (c.procs.getD (i-1) x0).proc x.proc<0))=true:=λi x hi=>by
  have:=h6 i x hi;simp only[F0,and_eq_true]at this;exact this.2
 have tY:∀ x∈c.procs,BF x.By=true:=λx hx=>by
  have:=(XS x hx).1;simp only[Iw,and_eq_true]at this;exact this.1.1.2
 have Kb:∀ x∈c.procs,O0 c.Aa x:=λx hx=>pg (tY x hx) (XS x hx).2.1
 have rP:∀ x∈c.procs,x.waiting=true->BA x.BQ.expr=true/\Dp (Hq c.Aa) x.BQ.expr=0/\∀ q∈c.Aa,Hw q x (Al x.BQ.expr)=true:=λx hx hw=>by
  have:=(XS x hx).2.2;rw[hw,if_pos rfl]at this;simp only[Kg,and_eq_true,List.all_eq_true,JS]at this;refine⟨this.1.1.1.1.1.1.1.1.1.1,?_,this.2⟩;have h7:=this.1.1.1.1.1.2;simpa using h7
 refine⟨⟨ht,h4,λi j x y hx hy e=>?_,λj x hj _ hw=>?_⟩,λx hx hw=>?_,λx hx hw q hq hn=>lT _ hn ((rP x hx hw).2.2 q hq),Kb,tY,⟨h1,h2⟩,rfl⟩
 ·rcases Nat.lt_trichotomy i j with Au|rfl|Au
  ·obtain⟨d,rfl⟩:∃ d,j=i+d+1:=⟨j-i-1,by omega⟩;have:=Rc yb d i x y hx hy;rw[e,DN]at this;omega
  ·rfl
  ·obtain⟨d,rfl⟩:∃ d,i=j+d+1:=⟨i-j-1,by omega⟩;have:=Rc yb d j y x hy hx;rw[e,DN]at this;omega
 ·have hx:=mG hj;obtain⟨g1,g2,g3⟩:=rP x hx hw;refine⟨g1,λa ha=>?_,λq hq=>?_⟩
  ·obtain⟨k,_,hk,_⟩:=IS ht g2 ha;exact⟨k,hk⟩
  ·refine cG (gf ht (Kb x hx) hq) _ (λa ha hn=>?_) (g3 q hq);obtain⟨k,q',k1,k2,k3,k4⟩:=IS ht g2 ha;obtain⟨i,hi⟩:=List.getElem?_of_mem hq;have:=MN ht k2 hi (k3.trans hn);subst this;rw[k2]at hi;have:=Option.some.inj hi;subst this;exact k4
 ·have:=(XS x hx).2.2;have PN:x.waiting=false:=hw;rw[PN]at this;exact pQ ht (tY x hx) (by simpa using this)
def JA(y:Ad)(q q':Queue):Prop :=
 (Ar q' y=Ar q y/\Ap q'.holds y=Ap q.holds y/\∀ w∈q'.waits,w.proc=y->∃ v∈q.waits,v.proc=y/\v.prio=w.prio)\/∃ a,Ar q y=some a/\Ar q' y=none/\Ap q'.holds y=a
def JA.refl{y:Ad}(q:Queue):JA y q q:=.inl ⟨rfl,rfl,λw h e=>⟨w,h,e,rfl⟩⟩
def JA.trans{y:Ad}{a b c:Queue}(h1:JA y a b)(h2:JA y b c):JA y a c:=by
 rcases h1 with ⟨p1,p2,p3⟩|⟨x,p1,p2,p3⟩
 ·rcases h2 with ⟨r1,r2,r3⟩|⟨x,r1,r2,r3⟩
  ·refine .inl ⟨r1.trans p1,r2.trans p2,λw hw e=>?_⟩;obtain⟨v,v1,v2,v3⟩:=r3 w hw e;obtain⟨u,u1,u2,u3⟩:=p3 v v1 v2;exact⟨u,u1,u2,u3.trans v3⟩
  ·exact .inr ⟨x,p1▸r1,r2,r3⟩
 ·rcases h2 with ⟨r1,r2,r3⟩|⟨z,r1,r2,r3⟩
  ·exact .inr ⟨x,p1,r1.trans p2,r2.trans p3⟩
  ·rw[p2]at r1;cases r1
def mc{q:Queue}{w:Ba}(y:Ad)(hs:Sound q)(h:BE q=some w):JA y q (CS q w):=by
 by_cases hy:y=w.proc
 ·subst hy;refine .inr ⟨w.AN,QU h,Oh hs h,?_⟩;rcases E9 h with ⟨l,hc,e⟩|⟨hc,l,hw,e⟩<;>rw[e]<;>exact J9
 ·refine .inl ⟨Jt h hy,?_,λv hv e2=>⟨v,?_,e2,rfl⟩⟩
  ·rcases E9 h with ⟨l,hc,e⟩|⟨hc,l,hw,e⟩<;>rw[e]<;>exact FH hy
  ·rcases E9 h with ⟨l,hc,e⟩|⟨hc,l,hw,e⟩
   ·rw[e]at hv;exact hv
   ·rw[e]at hv;rw[hw];exact List.mem_cons_of_mem _ hv
def l8{q:Queue}(y:Ad)(hs:Sound q):JA y q (B0 q).1 :=
 (HQ (P:=λx=>Sound x/\JA y q x) (λ_ _ h hh hr=>⟨K0 h.1 hh hr,h.2.trans (mc y h.1 hh)⟩) _ q rfl ⟨hs,.refl q⟩).1.2
def l9{q:Queue}(y:Ad)(hs:Sound q):JA y q (DA q):=l8 y hs
def iq{q:Queue}{p y:Ad}(h:y≠p):JA y q (CF q p):=.inl ⟨WX h,rfl,λw hw e=>⟨w,by simp only[CF,Bt,List.mem_filter]at hw;exact hw.1,e,rfl⟩⟩
def mb{q:Queue}{p y:Ad}{a:BO}(h:y≠p):JA y q (FJ q p a):=.inl ⟨rfl,FH h,λw hw e=>⟨w,hw,e,rfl⟩⟩
def vF(w:Ba):Ba:={ w with DW:=0 }
def er(q:Queue):Queue:={ q with Ak:=q.Ak.map vF,waits:=q.waits.map vF,gen:=0 }
theorem ny(q:Queue):BE (er q)=(BE q).map vF:=by
 unfold BE er;simp only[<- List.map_append];cases q.Ak++q.waits<;>rfl
theorem sK(q:Queue)(w:Ba):CS (er q) (vF w)=er (CS q w):=by
 unfold CS er;cases hq:q.Ak
 ·simp only[map_nil,hq,List.map_drop];rfl
 ·simp only[List.map_cons];rfl
theorem Ow:∀ (n:Nat) (q:Queue),BJ q<=n->(B0 (er q)).1=er (B0 q).1
 | n,q,hn=>by
  rw[I8 (er q),I8 q,ny];cases hh:BE q with
  |none=>rfl
  |some w =>
   have Au:=HF hh;simp only[map_some];have e:E3 (er q).res (er q).holds (vF w).proc (vF w).AN=E3 q.res q.holds w.proc w.AN:=rfl;rw[e];cases n with
   | zero=>omega
   | succ n =>
    split
    ·simp only[sK];exact Ow n _ (by omega)
    ·rfl
theorem jJ(q:Queue)(p:Ad):er (B2 q p)=B2 (er q) p:=by
 simp only[Gz,er,Bt,List.filter_map];rfl
def sI{q:Queue}(h:Sound q)(p:Ad):er (B0 (B2 (DA q) p)).1=er (B0 (B2 q p)).1:=by
 have e:er (B2 (DA q) p)=er (B2 (B0 q).1 p):=rfl;rw[<- Ow _ _ (Nat.le_refl _),e,Ow _ _ (Nat.le_refl _),Me h]
def bz(l:List AX)(p:Ad):AG (AG l p) p=AG l p:=by simp[AG,List.filter_filter]
def bA(l:List Ba)(p:Ad):Bt (Bt l p) p=Bt l p:=by simp[Bt,List.filter_filter]
def fV(l:List AX)(p:Ad)(a:BO):AG (Cs l p a) p=AG l p:=by
 unfold Cs;split
 ·exact bz l p
 ·have h1:∀ m:List AX,(∀ x∈m,x∈AG l p)->AG m p=m:=λm hm=>List.filter_eq_self.2 λx hx=>by
   have:=hm x hx;simp only[AG,List.mem_filter]at this;exact this.2
  have h2:∀ A B:List AX,AG (A++⟨p,a⟩::B) p=AG A p++AG B p:=λA B=>by simp[AG,List.filter_append]
  rw[h2,h1 _ (λx hx=>List.mem_of_mem_take hx),h1 _ (λx hx=>List.mem_of_mem_drop hx),List.take_append_drop]
def jx(q:Queue)(p:Ad):B2 (CF q p) p=B2 q p:=by simp only[Gz,CF,bA]
def nk(q:Queue)(p:Ad)(a:BO):B2 (FJ q p a) p=B2 q p:=by simp only[Gz,FJ,fV]
structure JC(p:Ad)(q q':Queue):Prop where
 val:valid q'=true
 res:q'.res=q.res
 pT:∀ x,Kc q' x->Kc q x\/x=p
 same:∀ y,y≠p->JA y q q'
 cut:er (Cm q' p)=er (Cm q p)
def JC.refl{p:Ad}{q:Queue}(hv:valid q=true):JC p q q:=⟨hv,rfl,λ_ h=>.inl h,λ_ _=>.refl q,rfl⟩
def JC.trans{p:Ad}{a b c:Queue}(h:JC p a b)(h':JC p b c):JC p a c :=
 ⟨h'.val,h'.res.trans h.res,λx hx=>(h'.pT x hx).elim (h.pT x) .inr,λy hy=>(h.same y hy).trans (h'.same y hy),h'.cut.trans h.cut⟩
def WR{p:Ad}{q q1:Queue}(hv:valid q=true)(h:Sound q1)(hr:q1.res=q.res)(hi:∀ x,Kc q1 x->Kc q x\/x=p)(hs:∀ y,y≠p->JA y q q1)(hc:er (B2 q1 p)=er (B2 q p)):JC p q (DA q1) where
 val:=QH h
 res:=(dd q1).trans hr
 pT:=λx hx=>hi x ((Tz q1 x).1 hx)
 same:=λy hy=>(hs y hy).trans (l9 y h)
 cut:=by
  rw[F2 (QH h),F2 hv,sI h,<- Ow _ _ (Nat.le_refl _),hc,Ow _ _ (Nat.le_refl _)]
def ng{q:Queue}{p:Ad}(hv:valid q=true)(hw:(Ar q p).isSome=true):JC p q (Bb q p).1:=by
 have hs:=((Ck q).1 hv).1;have e:(Bb q p).1=DA (CF q p):=by simp[Bb,hv,hw]
 rw[e];exact WR hv (M8 hs p) rfl (λx hx=>.inl (T3 hx)) (λy hy=>iq hy) (by rw[jx])
def uS{q:Queue}{p:Ad}{a:BO}(hv:valid q=true)(hz:(Ap q.holds p).zero=false)(hw:Ar q p=none)(hc:q.res.covers (Ap q.holds p) a=true):JC p q (AO q p a).1:=by
 have hs:=((Ck q).1 hv).1
 by_cases he:Ap q.holds p=a
 ·have e:(AO q p a).1=q:=by
   unfold AO;rw[if_neg (by simp[hv]),if_neg (by simp[hz]),if_neg (by simp[hw]),if_neg (by simp[hc]),if_pos (by simp[he])]
  rw[e];exact .refl hv
 ·have e:(AO q p a).1=DA (FJ q p a):=by
   unfold AO;rw[if_neg (by simp[hv]),if_neg (by simp[hz]),if_neg (by simp[hw]),if_neg (by simp[hc]),if_neg (by simp[he])]
  rw[e];exact WR hv (Ri hs hz hw hc) rfl (λx hx=>XW hx) (λy hy=>mb hy) (by rw[nk])
def Q9{α β:Type}(f g:α->β)(l:List α)(k:Nat):List β:=(l.take k).map f++(l.drop k).map g
section
variable {α β:Type}
@[go_sem] theorem lB(f g:α->β)(l:List α)(k:Nat):(Q9 f g l k).length=l.length:=by simp[Q9];omega
theorem lA{f g:α->β}{l:List α}{k:Nat}{b:α}(hb:l[k]?=some b):(Q9 f g l k)[k]?=some (g b):=by
 have:=Ay hb;unfold Q9;rw[List.getElem?_append_right (by simp;omega)];simp[Nat.min_eq_left (Nat.le_of_lt this),hb]
def lC{f g:α->β}{l:List α}{k:Nat}{b:α}(hb:l[k]?=some b):(Q9 f g l k).set k (f b)=Q9 f g l (k+1):=by
 have hk:=Ay hb;have hd:l.drop k=b::l.drop (k+1):=by rw[List.drop_eq_getElem_cons hk,get_eq hb]
 unfold Q9;rw[take_add_one,hb,hd,List.set_append_right _ _ (by simp;omega)];simp[Nat.min_eq_left (Nat.le_of_lt hk)]
def lz(f g:α->β)(l:List α):Q9 f g l l.length=l.map f:=by simp[Q9]
def gZ(f g:α->β)(l:List α):Q9 f g l 0=l.map g:=by simp[Q9]
end
def QF(l:List Entry)(name:Bs)(pos:Int):Nat->Int
 | 0=>0
 | i+1=>QF l name pos i+(if ((l.getD i ⟨[],⟨0,0⟩,⟨0,0⟩⟩).name==name)=true/\(i:Int)<pos then 1 else 0)
def c9(l:List Entry)(name:Bs)(pos:Int):∀ i,0<=QF l name pos i/\QF l name pos i<=i
 | 0=>by simp[QF]
 | i+1=>by
  have:=c9 l name pos i;simp only[QF];split<;>omega
def Eh(l:List Entry)(name:Bs)(i:Nat)(s:Save):Save:=⟨s.label,s.pos-QF l name s.pos i⟩
def H9(name:Bs)(e:Entry):Bool:=!(e.name==name)
def Jc(l:Ledger)(name:Bs):Ledger × Bool:=if !BF l then (Df,false) else if (l.entries.filter (H9 name)).length=l.entries.length then (Df,false) else (⟨l.entries.filter (H9 name),l.Bn.map (Eh l.entries name l.entries.length)⟩,true)
def ea(l:Ledger)(name:Bs):Ac C0 276 [.agg l.c,.v (.string (str name))] [] (.Bl [.agg (Jc l name).1.c,B (Jc l name).2]) []:=by
 refine Ac.go f276 ?_;unfold f276;refine gO ?_;refine Ab (No l) ?_;cases hv:BF l
 ·have e:Jc l name=(Df,false):=by simp[Jc,hv]
  simp(disch:=omega)only[go_sem,Bool.not_false,e,Df,map_nil];exact Fy _
  all_goals(try(simp(disch:=omega)only[go_sem]))
 have a6:l.entries.length<=72/\l.Bn.length<=4:=by simp only[BF,and_eq_true,decide_eq_true_eq]at hv;omega
 simp(disch:=omega)only[go_sem,Bool.not_true];refine AH (l.entries) (λi=>⟨[(7,I i),(2,.ptr 128 0),(6,.ptr 384 0),(4,.ptr 256 0),(1,.v (.string (str name)))],[(128,l.c),(384,[.sl (.own 2624 0) 5 (((l.entries.take i).filter (H9 name)).map Entry.c),.sl (.own 1024 0) 2 ((l.Bn.map (Eh l.entries name i)).map Save.c)]),(256,Df.c)]⟩) (λi=>True) trivial ?_ ?_
 ·refine AQ.An ?_ ?_
  all_goals(try simp(disch:=omega)only[go_sem,Df])
  all_goals(try(repeat'(with_reducible apply And.intro)))
  all_goals(first|exact .AU (by omega)|exact .AD (by omega)|exact .sl (by simp[Eh,QF,Df,Save.c])|exact .int (by simp[Eh,QF,Df,Save.c])|exact .eq (by simp[Eh,QF,Df,Save.c]))
 rintro i ⟨hi,hP⟩ J hJ;refine gO ?_;refine Bp hi (λAu b hb Cc AR=>?_) λBf=>?_
 ·have NW:((l.entries.take i).filter (H9 name)).length<=72:=Nat.le_trans (List.length_filter_le _ _) (by simp;omega);have IY:((l.entries.take i).filter (H9 name)).length+1<=4294967296:=by omega
  have hfn:(l.entries.take (i+1)).filter (H9 name)=(l.entries.take i).filter (H9 name)++(if H9 name b then [b] else []):=by
   rw[take_add_one,hb,List.filter_append];cases h:H9 name b<;>simp[h]
  have kA:l.entries.getD i ⟨[],⟨0,0⟩,⟨0,0⟩⟩=b:=by simp[List.getD,hb]
  cases hn:(b.name==name)
  ·have Ca:(b.name !=name)=true:=by simp[bne,hn]
   have hg:∀ s:Save,Eh l.entries name (i+1) s=Eh l.entries name i s:=λs=>by
    have h0:¬ ((b.name==name)=true/\(i:Int)<s.pos):=by rw[hn];simp
    simp only[Eh,QF,kA,if_neg h0,Int.add_zero]
   simp(disch:=omega)only[go_sem,gm,hb,Ca,hn,Bool.not_false,Bool.not_true];refine Av 8 [([],[6]),([],[33]),([],[2]),([],[35]),([],[7]),([],[36,37]),([],[38]),([],[39])] B7 ?_;simp(disch:=omega)only[go_sem,gm,hb];refine hJ _ (i+1) ⟨by omega,trivial⟩ (by omega) (AQ.An ?_ ?_)
   ·exact gI
   ·simp(disch:=omega)only[go_sem,Df];exact⟨.sl (by rw[hfn];simp[H9,hn,Entry.c]),.sl (by rw[show Eh l.entries name (i+1)=Eh l.entries name i from funext hg])⟩
  ·have Ca:(b.name !=name)=false:=by simp[bne,hn]
   simp(disch:=omega)only[go_sem,gm,hb,Ca,hn,Bool.not_false,Bool.not_true];obtain⟨o,rfl⟩:∃ o,o=i:=⟨i,rfl⟩;have tJ:=hJ;have hbo:=hb;clear hJ hb;refine Ao (α:=Nat) (λk=>⟨[(8,I k),(7,I o),(2,.ptr 128 0),(6,.ptr 384 0),(4,.ptr 256 0),(1,.v (.string (str name)))],[(128,l.c),(384,[.sl (.own 2624 0) 5 (((l.entries.take o).filter (H9 name)).map Entry.c),.sl (.own 1024 0) 2 ((Q9 (Eh l.entries name (o+1)) (Eh l.entries name o) l.Bn k).map Save.c)]),(256,Df.c)]⟩) (λk=>k<=l.Bn.length) (λk=>l.Bn.length-k) 0 (by omega) ?_ ?_
   ·refine AQ.An ?_ ?_
    ·exact gI
    ·simp(disch:=omega)only[go_sem,Df];exact .sl (by rw[gZ];simp)
   rintro k hk J2 SO;refine gO ?_;refine ⟨λAu=>?_,λG9=>?_⟩
   ·obtain⟨s,hs⟩:∃ s,l.Bn[k]?=some s:=⟨_,gE (by simp at Au;omega)⟩;have hmg:=lA (f:=Eh l.entries name (o+1)) (g:=Eh l.entries name o) hs;have uf:=lC (f:=Eh l.entries name (o+1)) (g:=Eh l.entries name o) hs;have XR:=lB (Eh l.entries name (o+1)) (Eh l.entries name o) l.Bn k;have XS:=Nb hv hs;have hcn:=c9 l.entries name s.pos o;generalize Q9 (Eh l.entries name (o+1)) (Eh l.entries name o) l.Bn k=M at hmg uf XR ⊢;simp(disch:=omega)only[go_sem,gm,hs]
    by_cases hc:(o:Int)<s.pos
    ·have h0:(b.name==name)=true/\(o:Int)<s.pos:=⟨hn,hc⟩;have hsg:Eh l.entries name (o+1) s=⟨s.label,s.pos-QF l.entries name s.pos o-1⟩:=by
      simp only[Eh,QF,kA,if_pos h0,Save.mk.injEq,true_and];omega
     simp(disch:=omega)only[go_sem,eq_true hc,decide_true,gm,hmg,Eh];refine SO _ (k+1) (by simp at Au;omega) (by simp at Au;omega) (AQ.An ?_ ?_)
     ·exact gI
     ·simp(disch:=omega)only[go_sem,Df];exact .sl (by rw[<- uf,List.map_set,hsg];rfl)
    ·have h0:¬ ((b.name==name)=true/\(o:Int)<s.pos):=λh=>hc h.2
     have hsg:Eh l.entries name (o+1) s=Eh l.entries name o s:=by
      simp only[Eh,QF,kA,if_neg h0,Int.add_zero]
     have hMs:M.set k (Eh l.entries name o s)=M:=by
      apply List.ext_getElem?;intro j;rw[List.getElem?_set];split
      ·rename_i Sg;subst Sg;rw[if_pos (by rw[XR];exact Ay hs),hmg]
      ·rfl
     rw[hsg,hMs]at uf;simp(disch:=omega)only[go_sem,eq_false hc,decide_false];refine SO _ (k+1) (by simp at Au;omega) (by simp at Au;omega) (AQ.An ?_ ?_)
     ·exact gI
     ·simp(disch:=omega)only[go_sem,Df];exact .sl (by rw[<- uf])
   ·have xX:k=l.Bn.length:=by simp at G9;omega
    subst xX;rw[lz];refine tJ _ (o+1) ⟨by omega,trivial⟩ (by omega) (AQ.An ?_ ?_)
    ·exact gI
    ·simp(disch:=omega)only[go_sem,Df];exact .sl (by rw[hfn];simp[H9,hn])
 ·subst Bf;rw[take_length];have hle:(l.entries.filter (H9 name)).length<=l.entries.length:=List.length_filter_le _ _
  by_cases hs:(l.entries.filter (H9 name)).length=l.entries.length
  ·have e:Jc l name=(Df,false):=by simp only[Jc,hv,if_pos hs];rfl
   have e1:(((l.entries.filter (H9 name)).length:Int)==l.entries.length)=true:=by simp[hs]
   simp(disch:=omega)only[go_sem,e1,e,Df,map_nil];exact Fy _
  ·have e:Jc l name=(⟨l.entries.filter (H9 name),l.Bn.map (Eh l.entries name l.entries.length)⟩,true):=by simp only[Jc,hv,if_neg hs];rfl
   have e1:(((l.entries.filter (H9 name)).length:Int)==l.entries.length)=false:=by simp;omega
   rw[e];simp(disch:=omega)only[go_sem,e1];refine CK ⟨[],[],[2624,1024]⟩ _ ?_;simp(disch:=omega)only[go_sem]
   try exact .eq (by simp[Ledger.c])
end Go.Rd
