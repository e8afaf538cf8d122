/- part 41 of the proof -/
import Derived.Test.YthachdiockkofaaGreatDoorW40
set_option linter.all false
open Go Go.Abs Go.Proofs
set_option maxRecDepth 100000
namespace Go.Rd
set_option maxHeartbeats 8000000
open List (mem_filterMap mem_map)
theorem Lq{x:WS}(hv:AD x=true){q:Queue}(hq:q∈x.Aa):x.Aa.find? (fun r=>r.res.name==q.res.name)=some q:=by
 have hp:=((DO _).1 ((CK x).1 hv).1).2.2;have:∀ l:List Queue,(l.Pairwise fun a b=>DM a.res.name b.res.name=true)→q∈l→l.find? (fun r=>r.res.name==q.res.name)=some q:=by
  intro l
  induction l with
  | nil=>intro _ h;cases h
  | cons a l ih =>
   intro hp hm;obtain⟨h1,h2⟩:=List.pairwise_cons.1 hp;rw[List.find?_cons];rcases List.mem_cons.1 hm with rfl|hm
   ·simp
   ·have hne:(a.res.name==q.res.name)=false:=by
     cases hb:a.res.name==q.res.name
     ·rfl
     ·have:=h1 q hm;rw[beq_iff_eq.1 hb,Hx]at this;cases this
    rw[hne];exact ih h2 hm
 exact this _ hp hq
theorem FK{l:List Queue}{ms:List Ae}{c:Cause}:c∈A2 l ms↔∃ p∈ms,∃ q∈l,A6 q p=some c:=by
 simp only[A2,Cs,List.mem_flatMap,mem_filterMap]
theorem SS{x:WS}(hv:AD x=true){ms:List Ae}{c:Cause}(hc:c∈A2 x.Aa ms):He x c=true:=by
 obtain⟨p,_,q,hq,h⟩:=FK.1 hc;obtain⟨h1,h2⟩:=CT h;unfold He;rw[h2,Lq hv hq];simp[h1,h]
theorem SR{x:WS}(hv:AD x=true){ms:List Ae}(hn:ms.Nodup):(A2 x.Aa ms).Pairwise fun a b=>place a≠place b:=by
 have hp:=((DO _).1 ((CK x).1 hv).1).2.2;unfold A2;rw[List.pairwise_flatMap];refine⟨fun p _=>?_,?_⟩
 ·unfold Cs;rw[List.pairwise_filterMap];refine hp.imp fun {a b} hab c hc d hd e=>?_
  have h1:=(CT hc).2;have h2:=(CT hd).2;have:c.name=d.name:=congrArg Prod.snd e;rw[← h1,← h2,this,Hx]at hab;cases hab
 ·refine hn.imp fun {p r} hpr c hc d hd e=>hpr ?_
  unfold Cs at hc hd;obtain⟨_,_,hc⟩:=mem_filterMap.1 hc;obtain⟨_,_,hd⟩:=mem_filterMap.1 hd;rw[← (CT hc).1,← (CT hd).1];exact congrArg Prod.fst e
theorem a8{x:WS}(hv:AD x=true){ms:List Ae}(hn:ms.Nodup):l1 x [] (A2 x.Aa ms)=true:=by
 rw[Zu];intro i c hc;refine⟨fun hm=>?_,SS hv (mG hc)⟩;rw[List.nil_append]at hm;obtain⟨d,hd,he⟩:=mem_map.1 hm;obtain⟨j,hj⟩:=List.getElem?_of_mem hd;rw[List.getElem?_take]at hj;split at hj
 ·rename_i hji;have hp:=SR hv hn;rw[List.pairwise_iff_getElem]at hp;have:=hp j i (At hj) (At hc) hji;rw[get_eq hj,get_eq hc]at this;exact this he
 ·cases hj
theorem UK{q:Queue}{p:Ae}:p∈CP q↔∃ w∈q.An++q.waits,w.proc=p:=by
 simp only[CP,Bt,mem_map]
theorem Wi{q:Queue}{p:Ae}(h:p∈CP q):∃ c,A6 q p=some c:=by
 have:(As q p).isSome=true:=NI.2 (UK.1 h);rw[GF,Option.isSome_iff_exists]at this;exact this
theorem Si{x:WS}{q:Queue}(hq:q∈x.Aa){p:Ae}(h:p∈CP q):p∈Ah x:=by
 obtain⟨w,hw,he⟩:=UK.1 h;rw[Dc];refine .inl ⟨q,hq,?_⟩;rw[Db];rcases List.mem_append.1 hw with hw|hw
 ·exact .inr (.inl ⟨w,hw,he⟩)
 ·exact .inr (.inr ⟨w,hw,he⟩)
theorem ba{x:WS}:l2 ((A2 x.Aa (Ah x)).map place) (A2 x.Aa (Ah x))=true:=by
 unfold l2;rw[List.all_eq_true];intro c hc;obtain⟨p,hp,q,hq,h⟩:=FK.1 hc;obtain⟨h1,h2⟩:=CT h;cases hk:(CP q).findIdx? (fun x=>decide (x=p)) with
 |none=>simp[A6,hk]at h
 |some k =>
  cases k with
  | zero =>
   simp[A6,hk]at h;subst h;simp
  | succ k =>
   obtain⟨hlt,_⟩:=List.findIdx?_eq_some_iff_getElem.1 hk;have hlt:k+1<(CP q).length:=hlt;obtain⟨y,hy⟩:∃ y,(CP q)[k]?=some y:=⟨_,gE (by omega)⟩;have hym:y∈CP q:=mG hy;obtain⟨d,hd⟩:=Wi hym;obtain⟨d1,d2⟩:=CT hd;have hdm:d∈A2 x.Aa (Ah x):=FK.2 ⟨y,Si hq hym,q,hq,hd⟩;have hcm:c.members=[y]:=by
    simp[A6,hk,hy]at h;subst h;rfl
   have:((c.members.headD ⟨0,0,0⟩,c.name):Pl)∈(A2 x.Aa (Ah x)).map place:=by
    rw[mem_map];exact⟨d,hdm,by rw[hcm,h2];simp only[place,d1,d2];rfl⟩
   rw[decide_eq_true this];simp
theorem UZ{x:WS}(hv:AD x=true){p:Ae}{name:Bs}(hp:p∈Ah x):decide ((p,name)∈(A2 x.Aa (Ah x)).map place)=CC x.Aa p name:=by
 rw[Bool.eq_iff_iff,decide_eq_true_eq,mem_map];constructor
 ·rintro⟨c,hc,he⟩;obtain⟨r,_,q,hq,h⟩:=FK.1 hc;obtain⟨h1,h2⟩:=CT h;have e1:r=p:=h1.symm.trans (congrArg Prod.fst he);have e2:q.res.name=name:=h2.symm.trans (congrArg Prod.snd he);unfold CC;rw[← e2,Lq hv hq];simp only;rw[GF,← e1,h];rfl
 ·intro h;unfold CC at h;cases hf:x.Aa.find? (fun q=>q.res.name==name) with
  |none=>rw[hf]at h;cases h
  |some q =>
   rw[hf]at h;simp only at h;have hq:=List.mem_of_find?_eq_some hf;have hn:q.res.name=name:=by simpa using List.find?_some hf
   rw[GF,Option.isSome_iff_exists]at h;obtain⟨c,hc⟩:=h;obtain⟨h1,h2⟩:=CT hc;exact⟨c,FK.2 ⟨p,hp,q,hq,hc⟩,by simp only[place,h1,h2,hn]⟩
theorem XG(az:List Atom)(d:Atom→Bool):GP az.length (az.map d)=az.map fun a=>!d a:=by
 refine List.ext_getElem? fun i=>?_
 unfold GP;rw[gm,gm];rcases Nat.lt_or_ge i az.length with hi|hi
 ·rw[List.getElem?_range hi,gE hi];simp[List.getD,hi]
 ·rw[List.getElem?_eq_none (by simpa using hi),List.getElem?_eq_none hi];rfl
theorem X5{x:WS}(hv:AD x=true){p:Ae}(hp:p∈Ah x)(hf:BH x p=false):KI x ((A2 x.Aa (Ah x)).map place) p=true:=by
 unfold BH at hf;unfold KI Nh;cases hn:x.Ao.find? (fun n=>decide (n.proc=p)) with
 |none=>rw[hn]at hf;cases hf
 |some n =>
  rw[hn]at hf;simp only at hf ⊢;have hpn:n.proc=p:=by simpa using List.find?_some hn
  have hex:A4 n.expr=true:=((FO _).1 ((CK x).1 hv).2.1).2.1 n (List.mem_of_find?_eq_some hn) |>.2.2.2;have hne:=TV hex;have hd:((Ag n.expr).map fun a=>decide ((p,a.name)∈(A2 x.Aa (Ah x)).map place))=(Ag n.expr).map fun a=>CC x.Aa p a.name:=List.map_congr_left fun a _=>UZ hv hp
  have hg:CU x n=(Ag n.expr).map fun a=>!CC x.Aa p a.name:=by
   unfold CU;refine List.map_congr_left fun a _=>?_
   rw[Lb hv,hpn]
  rw[hd];unfold Qo;rw[XG,← hg];unfold DR at hf;have h0:decide ((Ag n.expr).length=0)=false:=by simpa using hne
  rw[h0]at hf ⊢;simp only[Bool.not_false,Bool.true_and]at hf ⊢;rw[hf];rfl
theorem VK{x:WS}(hv:AD x=true)(hf:BT x=[]):DQ ⟨x,Ah x,A2 x.Aa (Ah x)⟩=0:=by
 unfold DQ;have h3:(Ah x).all (KI x ((A2 x.Aa (Ah x)).map place))=true:=by
  rw[List.all_eq_true];intro p hp;refine X5 hv hp ?_;cases h:BH x p
  ·rfl
  ·have:p∈BT x:=DK.2 ⟨hp,h⟩;rw[hf]at this;cases this
 rw[if_pos ⟨hv,rfl⟩,if_pos ⟨a8 hv (HA (EC _)),ba,h3⟩]
mutual
theorem Ue:∀ e:Expr,eqE e e=true
 |.mk k a l=>by
  rw[MX];simp only[Expr.k,Expr.atom,Expr.kids,decide_true,Bool.true_and];exact RJ l
theorem RJ:∀ l:List Expr,BL eqE l l=true
 |[]=>by simp[BL]
 | e::l=>by simp only[BL,Ue e,RJ l,Bool.and_self]
end
theorem RK:∀ l:List Need,BL eqN l l=true
 |[]=>by simp[BL]
 | n::l=>by simp only[BL,eqN,Ue,RK l,decide_true,Bool.and_self]
theorem alike_refl(x:WS):Js x x=true:=by
 rw[← YJ];unfold VC;rw[RK];simp
theorem W7{s:WS}(hv:AD s=true){l:List Ae}(hp:Ah (BY s l)=l)(hne:l≠[])(hf:BT (BY s l)=[]) :
 ∃ w,ofS s l=(w,0)∧w.members=l∧DQ w=0∧Hq w s=true∧w.state=BY s l∧w.AJ=A2 (BY s l).Aa l:=by
 have hvr:=H7 hv l;have hr:AP s l=(BY s l,0):=by simp[AP,hv]
 have hfr:D5 (BY s l)=[]:=by rw[VX hvr,hf]
 refine⟨⟨BY s l,l,A2 (BY s l).Aa l⟩,?_,rfl,?_,?_,rfl,rfl⟩
 ·unfold ofS;rw[hr];simp only[if_true,hp,hfr];rw[if_neg (by simp[hne])]
 ·have:=VK hvr hf;rw[hp]at this;exact this
 ·simp only[Hq,hr,decide_true,Bool.true_and];exact alike_refl _
theorem JA{s:WS}(hv:AD s=true)(hf:Few s):Ah (BY s (BG s))=BG s∧BT (BY s (BG s))=[]:=by
 obtain⟨y,k,h,hy⟩:=Tz _ s 0 (Kc.start hv hf) (Nat.le_refl _);obtain⟨h1,h2⟩:=h.fin hy;rw[h2];exact⟨h1,hy⟩
end Go.Rd
