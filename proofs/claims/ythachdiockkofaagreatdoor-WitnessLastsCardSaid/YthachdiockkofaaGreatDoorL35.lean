/- part 35 of the proof -/
import Derived.Test.YthachdiockkofaaGreatDoorL34
set_option linter.all false
open Go Go.Abs Go.Proofs
set_option maxRecDepth 100000
namespace Go.Rd
set_option maxHeartbeats 8000000
open List (mem_filterMap mem_map)
def SF{x:WS}(hv:Bj x=true){q:Queue}(hq:q∈x.Aa):x.Aa.find? (fun r=>r.res.name==q.res.name)=some q:=by
 have hp:=((FN _).1 ((EP x).1 hv).1).2.2;have:∀ l:List Queue,(l.Pairwise fun a b=>BX a.res.name b.res.name=true)→q∈l→l.find? (fun r=>r.res.name==q.res.name)=some q:=by
  intro l
  induction l with
  | nil=>intro _ h;cases h
  | cons a l ih =>
   intro hp hm;obtain⟨h1,h2⟩:=List.pairwise_cons.1 hp;rw[List.find?_cons];rcases List.mem_cons.1 hm with rfl|hm
   ·simp
   ·have hne:(a.res.name==q.res.name)=false:=by
     cases hb:a.res.name==q.res.name
     ·rfl
     ·have:=h1 q hm;rw[beq_iff_eq.1 hb,GA]at this;cases this
    rw[hne];exact ih h2 hm
 exact this _ hp hq
def IE{l:List Queue}{ms:List Ab}{c:Cause}:c∈Bv l ms↔∃ p∈ms,∃ q∈l,BU q p=some c:=by
 simp only[Bv,EG,List.mem_flatMap,mem_filterMap]
def TS{x:WS}(hv:Bj x=true){ms:List Ab}{c:Cause}(hc:c∈Bv x.Aa ms):HP x c=true:=by
 obtain⟨p,_,q,hq,h⟩:=IE.1 hc;obtain⟨h1,h2⟩:=DV h;unfold HP;rw[h2,SF hv hq];simp[h1,h]
def TR{x:WS}(hv:Bj x=true){ms:List Ab}(hn:ms.Nodup):(Bv x.Aa ms).Pairwise fun a b=>place a≠place b:=by
 have hp:=((FN _).1 ((EP x).1 hv).1).2.2;unfold Bv;rw[List.pairwise_flatMap];refine⟨fun p _=>?_,?_⟩
 ·unfold EG;rw[List.pairwise_filterMap];refine hp.imp fun {a b} hab c hc d hd e=>?_
  have h1:=(DV hc).2;have h2:=(DV hd).2;have:c.name=d.name:=congrArg Prod.snd e;rw[← h1,← h2,this,GA]at hab;cases hab
 ·refine hn.imp fun {p r} hpr c hc d hd e=>hpr ?_
  unfold EG at hc hd;obtain⟨_,_,hc⟩:=mem_filterMap.1 hc;obtain⟨_,_,hd⟩:=mem_filterMap.1 hd;rw[← (DV hc).1,← (DV hd).1];exact congrArg Prod.fst e
def dc{x:WS}(hv:Bj x=true){ms:List Ab}(hn:ms.Nodup):l1 x [] (Bv x.Aa ms)=true:=by
 rw[a7];intro i c hc;refine⟨fun hm=>?_,TS hv (mG hc)⟩;rw[List.nil_append]at hm;obtain⟨d,hd,he⟩:=mem_map.1 hm;obtain⟨j,hj⟩:=List.getElem?_of_mem hd;rw[List.getElem?_take]at hj;split at hj
 ·rename_i hji;have hp:=TR hv hn;rw[List.pairwise_iff_getElem]at hp;have:=hp j i (Aj hj) (Aj hc) hji;rw[get_eq hj,get_eq hc]at this;exact this he
 ·cases hj
def VS{q:Queue}{p:Ab}:p∈G4 q↔∃ w∈q.Ao++q.waits,w.proc=p:=by
 simp only[G4,BN,mem_map]
def XH{q:Queue}{p:Ab}(h:p∈G4 q):∃ c,BU q p=some c:=by
 have:(Aq q p).isSome=true:=IN.2 (VS.1 h);rw[M6,Option.isSome_iff_exists]at this;exact this
def Zy{x:WS}{q:Queue}(hq:q∈x.Aa){p:Ab}(h:p∈G4 q):p∈Ap x:=by
 obtain⟨w,hw,he⟩:=VS.1 h;rw[FA];refine .inl ⟨q,hq,?_⟩;rw[Ea];rcases List.mem_append.1 hw with hw|hw
 ·exact .inr (.inl ⟨w,hw,he⟩)
 ·exact .inr (.inr ⟨w,hw,he⟩)
def dd{x:WS}:l2 ((Bv x.Aa (Ap x)).map place) (Bv x.Aa (Ap x))=true:=by
 unfold l2;rw[List.all_eq_true];intro c hc;obtain⟨p,hp,q,hq,h⟩:=IE.1 hc;obtain⟨h1,h2⟩:=DV h;cases hk:(G4 q).findIdx? (fun x=>decide (x=p)) with
 |none=>simp[BU,hk]at h
 |some k =>
  cases k with
  | zero =>
   simp[BU,hk]at h;subst h;simp
  | succ k =>
   obtain⟨hlt,_⟩:=List.findIdx?_eq_some_iff_getElem.1 hk;have hlt:k+1<(G4 q).length:=hlt;obtain⟨y,hy⟩:∃ y,(G4 q)[k]?=some y:=⟨_,gE (by omega)⟩;have hym:y∈G4 q:=mG hy;obtain⟨d,hd⟩:=XH hym;obtain⟨d1,d2⟩:=DV hd;have hdm:d∈Bv x.Aa (Ap x):=IE.2 ⟨y,Zy hq hym,q,hq,hd⟩;have hcm:c.members=[y]:=by
    simp[BU,hk,hy]at h;subst h;rfl
   have:((c.members.headD ⟨0,0,0⟩,c.name):Pl)∈(Bv x.Aa (Ap x)).map place:=by
    rw[mem_map];exact⟨d,hdm,by rw[hcm,h2];simp only[place,d1,d2];rfl⟩
   rw[decide_eq_true this];simp
def V8{x:WS}(hv:Bj x=true){p:Ab}{name:Bs}(hp:p∈Ap x):decide ((p,name)∈(Bv x.Aa (Ap x)).map place)=M5 x.Aa p name:=by
 rw[Bool.eq_iff_iff,zD,mem_map];constructor
 ·rintro⟨c,hc,he⟩;obtain⟨r,_,q,hq,h⟩:=IE.1 hc;obtain⟨h1,h2⟩:=DV h;have e1:r=p:=h1.symm.trans (congrArg Prod.fst he);have e2:q.res.name=name:=h2.symm.trans (congrArg Prod.snd he);unfold M5;rw[← e2,SF hv hq];simp only;rw[M6,← e1,h];rfl
 ·intro h;unfold M5 at h;cases hf:x.Aa.find? (fun q=>q.res.name==name) with
  |none=>rw[hf]at h;cases h
  |some q =>
   rw[hf]at h;simp only at h;have hq:=List.mem_of_find?_eq_some hf;have hn:q.res.name=name:=by simpa using List.find?_some hf
   rw[M6,Option.isSome_iff_exists]at h;obtain⟨c,hc⟩:=h;obtain⟨h1,h2⟩:=DV hc;exact⟨c,IE.2 ⟨p,hp,q,hq,hc⟩,by simp only[place,h1,h2,hn]⟩
def YZ(az:List Atom)(d:Atom→Bool):Hm az.length (az.map d)=az.map fun a=>!d a:=by
 refine List.ext_getElem? fun i=>?_
 unfold Hm;rw[gm,gm];rcases Nat.lt_or_ge i az.length with hi|hi
 ·rw[List.getElem?_range hi,gE hi];simp[List.getD,hi]
 ·rw[List.getElem?_eq_none (by simpa using hi),List.getElem?_eq_none hi];rfl
def Zl{x:WS}(hv:Bj x=true){p:Ab}(hp:p∈Ap x)(hf:Dq x p=false):Lo x ((Bv x.Aa (Ap x)).map place) p=true:=by
 unfold Dq at hf;unfold Lo NO;cases hn:x.AE.find? (fun n=>decide (n.proc=p)) with
 |none=>rw[hn]at hf;cases hf
 |some n =>
  rw[hn]at hf;simp only at hf ⊢;have hpn:n.proc=p:=by simpa using List.find?_some hn
  have hex:Bb n.expr=true:=((I4 _).1 ((EP x).1 hv).2.1).2.1 n (List.mem_of_find?_eq_some hn) |>.2.2.2;have hne:=Z4 hex;have hd:((Ag n.expr).map fun a=>decide ((p,a.name)∈(Bv x.Aa (Ap x)).map place))=(Ag n.expr).map fun a=>M5 x.Aa p a.name:=List.map_congr_left fun a _=>V8 hv hp
  have hg:F7 x n=(Ag n.expr).map fun a=>!M5 x.Aa p a.name:=by
   unfold F7;refine List.map_congr_left fun a _=>?_
   rw[WG hv,hpn]
  rw[hd];unfold QZ;rw[YZ,← hg];unfold Fb at hf;have h0:decide ((Ag n.expr).length=0)=false:=by simpa using hne
  rw[h0]at hf ⊢;simp only[zF,Bool.true_and]at hf ⊢;rw[hf];rfl
def W5{x:WS}(hv:Bj x=true)(hf:Cb x=[]):D6 ⟨x,Ap x,Bv x.Aa (Ap x)⟩=0:=by
 unfold D6;have h3:(Ap x).all (Lo x ((Bv x.Aa (Ap x)).map place))=true:=by
  rw[List.all_eq_true];intro p hp;refine Zl hv hp ?_;cases h:Dq x p
  ·rfl
  ·have:p∈Cb x:=DS.2 ⟨hp,h⟩;rw[hf]at this;cases this
 rw[if_pos ⟨hv,rfl⟩,if_pos ⟨dc hv (Jq (FI _)),dd,h3⟩]
mutual
def Vg:∀ e:Expr,eqE e e=true
 |.mk k a l=>by
  rw[Qa];simp only[Expr.k,Expr.atom,Expr.kids,decide_true,Bool.true_and];exact Su l
def Su:∀ l:List Expr,B6 eqE l l=true
 |[]=>by simp[B6]
 | e::l=>by simp only[B6,Vg e,Su l,Bool.and_self]
end
def Oq:∀ l:List Need,B6 eqN l l=true
 |[]=>by simp[B6]
 | n::l=>by simp only[B6,eqN,Vg,Oq l,decide_true,Bool.and_self]
def alike_refl(x:WS):Mz x x=true:=by
 rw[← UO];unfold TI;rw[Oq];simp
def du{s:WS}(hv:Bj s=true){l:List Ab}(hp:Ap (Dn s l)=l)(hne:l≠[])(hf:Cb (Dn s l)=[]) :
 ∃ w,ofS s l=(w,0)∧w.members=l∧D6 w=0∧IW w s=true∧w.state=Dn s l∧w.A2=Bv (Dn s l).Aa l:=by
 have hvr:=RM hv l;have hr:A4 s l=(Dn s l,0):=by simp[A4,hv]
 have hfr:IU (Dn s l)=[]:=by rw[Xh hvr,hf]
 refine⟨⟨Dn s l,l,Bv (Dn s l).Aa l⟩,?_,rfl,?_,?_,rfl,rfl⟩
 ·unfold ofS;rw[hr];simp only[if_true,hp,hfr];rw[if_neg (by simp[hne])]
 ·have:=W5 hvr hf;rw[hp]at this;exact this
 ·simp only[IW,hr,decide_true,Bool.true_and];exact alike_refl _
def QH{s:WS}(hv:Bj s=true)(hf:Few s):Ap (Dn s (BP s))=BP s∧Cb (Dn s (BP s))=[]:=by
 obtain⟨y,k,h,hy⟩:=UC _ s 0 (KZ.start hv hf) (Nat.le_refl _);obtain⟨h1,h2⟩:=h.fin hy;rw[h2];exact⟨h1,hy⟩
end Go.Rd
