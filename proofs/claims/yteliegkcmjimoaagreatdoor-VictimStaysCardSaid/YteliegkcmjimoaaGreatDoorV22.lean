/- part 22 of the proof -/
import Derived.Test.YteliegkcmjimoaaGreatDoorV21
set_option linter.all false
open Go Go.Abs Go.Proofs
set_option maxRecDepth 100000
namespace Go.Rd
set_option maxHeartbeats 8000000
open List (cons_append nil_append take_add_one take_length)
open Option (or_none)
open Tryz
def Bb(q:Queue)(p:Ad):Queue × List AX × Int:=if !valid q then (q0,[],2) else if !(Ar q p).isSome then (q0,[],10) else (DA (CF q p),(B0 (CF q p)).2,0)
def AO(q:Queue)(p:Ad)(a:BO):Queue × List AX × Int:=if !valid q then (q0,[],2) else if (Ap q.holds p).zero then (q0,[],10) else if (Ar q p).isSome then (q0,[],14) else if !q.res.covers (Ap q.holds p) a then (q0,[],12) else if decide (Ap q.holds p=a) then (q,[],0) else (DA (FJ q p a),(B0 (FJ q p a)).2,0)
def Iz(q:Queue)(p:Ad)(a:BO):Queue:={ q with Ak:=q.Ak++[⟨p,Fo q.res (Ap q.holds p) a,0,0⟩] }
def JO(q:Queue)(p:Ad)(a:BO)(prio:Int):Queue:={ q with waits:=OR q.waits ⟨p,a,prio,0⟩ }
def BV(q:Queue)(p:Ad)(a:BO)(prio:Int):Queue × List AX × Int:=if !valid q then (q0,[],2) else if !p.ok then (q0,[],1) else if decide (prio<0) then (q0,[],1) else if decide (7<prio) then (q0,[],1) else if !q.res.fits a then (q0,[],12) else if (Ar q p).isSome then (q0,[],14)
 else if q.res.covers (Ap q.holds p) a then (q,[],0) else if !(Ap q.holds p).zero then (DA (Iz q p a),(B0 (Iz q p a)).2,0) else if decide (8<=(q.holds.length:Int)+q.waits.length) then (q0,[],4) else (DA (JO q p a prio),(B0 (JO q p a prio)).2,0)
def Gn{q:Queue}{p:Ad}(h:(Ar q p).isSome=false):Ar q p=none:=by
 cases hw:Ar q p
 ·rfl
 ·rw[hw]at h;cases h
def th(q:Queue)(p:Ad)(h:BC q<=100):Ac C0 56 [.agg q.c,.agg p.c] [] (.Bl [.agg (Bb q p).1.c,AY (Bb q p).2.1,I (Bb q p).2.2]) []:=by
 obtain⟨h1,h2,h3⟩:=Bv h;refine Ac.go f56 ?_;unfold f56;refine gO ?_;refine Ab (Nl q h1 h3) ?_;cases hv:valid q
 ·have e:Bb q p=(q0,[],2):=by simp[Bb,hv]
  simp(disch:=omega)only[go_sem,Bool.not_false,e,q0];refine Aj _ ?_;refine .Bl (Af.AI ?_);simp(disch:=omega)only[go_sem]
  repeat'(with_reducible apply And.intro)
  all_goals(first|exact .AD (by omega)|exact .agg (Af.AI gI))
 refine gO ?_;refine Ab (Mt q p h2 h3) ?_;cases hw:(Ar q p).isSome
 ·have e:Bb q p=(q0,[],10):=by simp[Bb,hv,hw]
  simp(disch:=omega)only[go_sem,Bool.not_false,e,q0];refine Aj _ ?_;refine .Bl (Af.AI ?_);simp(disch:=omega)only[go_sem]
  repeat'(with_reducible apply And.intro)
  all_goals(first|exact .AD (by omega)|exact .agg (Af.AI gI))
 have e:Bb q p=(DA (CF q p),(B0 (CF q p)).2,0):=by simp[Bb,hv,hw]
 rw[e];refine gO ?_;refine Ab (XE q h1 h2 h3) ?_;refine gO ?_;refine Ab (SB q.Ak p h2) ?_;refine gO ?_;refine Ab (SB q.waits p h3) ?_;refine gO ?_;have PN:=Bx q.waits p;have XM:=Bx q.Ak p;refine Ag (Pp (CF q p) (M8 ((Ck q).1 hv).1 p) h1 (by simp[CF];omega) (by simp[CF];omega)) (by simp(disch:=omega)only[go_sem,CF]) rfl ?_;refine gO ?_;exact AM _
def ti(q:Queue)(p:Ad)(a:BO)(h:BC q<=100):Ac C0 60 [.agg q.c,.agg p.c,.agg a.c] [] (.Bl [.agg (AO q p a).1.c,AY (AO q p a).2.1,I (AO q p a).2.2]) []:=by
 obtain⟨h1,h2,h3⟩:=Bv h;refine Ac.go f60 ?_;unfold f60;refine gO ?_;refine Ab (Nl q h1 h3) ?_;cases hv:valid q
 ·have e:AO q p a=(q0,[],2):=by simp[AO,hv]
  simp(disch:=omega)only[go_sem,Bool.not_false,e,q0];refine Aj _ ?_;refine .Bl (Af.AI ?_);simp(disch:=omega)only[go_sem]
  repeat'(with_reducible apply And.intro)
  all_goals(first|exact .AD (by omega)|exact .agg (Af.AI gI))
 refine gO ?_;refine Ab (EP q p h1) ?_;refine gO ?_;refine Ab (Ga (Ap q.holds p)) ?_;cases hz:(Ap q.holds p).zero;rotate_left
 ·have e:AO q p a=(q0,[],10):=by simp[AO,hv,hz]
  simp(disch:=omega)only[go_sem,Bool.not_false,e,q0];refine Aj _ ?_;refine .Bl (Af.AI ?_);simp(disch:=omega)only[go_sem]
  repeat'(with_reducible apply And.intro)
  all_goals(first|exact .AD (by omega)|exact .agg (Af.AI gI))
 refine gO ?_;refine Ab (Mt q p h2 h3) ?_;cases hw:(Ar q p).isSome;rotate_left
 ·have e:AO q p a=(q0,[],14):=by simp[AO,hv,hz,hw]
  simp(disch:=omega)only[go_sem,Bool.not_false,e,q0];refine Aj _ ?_;refine .Bl (Af.AI ?_);simp(disch:=omega)only[go_sem]
  repeat'(with_reducible apply And.intro)
  all_goals(first|exact .AD (by omega)|exact .agg (Af.AI gI))
 refine gO ?_;refine Ab (Ln q.res (Ap q.holds p) a) ?_;cases hc:q.res.covers (Ap q.holds p) a
 ·have e:AO q p a=(q0,[],12):=by simp[AO,hv,hz,hw,hc]
  simp(disch:=omega)only[go_sem,Bool.not_false,e,q0];refine Aj _ ?_;refine .Bl (Af.AI ?_);simp(disch:=omega)only[go_sem]
  repeat'(with_reducible apply And.intro)
  all_goals(first|exact .AD (by omega)|exact .agg (Af.AI gI))
 refine gO ?_;refine Ab (XE q h1 h2 h3) ?_;refine gO ?_;cases ha:decide (Ap q.holds p=a);rotate_left
 ·have e:AO q p a=(q,[],0):=by simp only[AO,hv,hz,hw,hc,ha];rfl
  simp(disch:=omega)only[go_sem,ha,e];exact Fy _
 simp(disch:=omega)only[go_sem,ha];have e:AO q p a=(DA (FJ q p a),(B0 (FJ q p a)).2,0):=by simp only[AO,hv,hz,hw,hc,ha];rfl
 rw[e];refine Ab (Nn q.holds p a h1) ?_;refine gO ?_;have hl:=QG hz;have mP:=S3 (l:=q.holds) (p:=p) (a:=a);refine Ag (Pp (FJ q p a) (Ri ((Ck q).1 hv).1 hz (Gn hw) hc) (by simp[FJ];omega) h2 h3) (by simp(disch:=omega)only[go_sem,FJ]) rfl ?_;refine gO ?_;exact AM _
def jW(q:Queue)(h1:q.holds.length<=1000000)(h2:q.Ak.length<=1000000)(h3:q.waits.length<=1000000):Ac C0 61 [.agg q.c] [] (.agg [.v (.string (str q.res.name)),.v (.int .i64 q.res.kind),.v (.int .i64 q.res.Ax),.v (.int .i64 q.res.home),AY q.holds,.sl (.own 0 0) 7 (q.Ak.map Ba.c),BZ q.waits,.v (.int .i64 q.gen)]) []:=by
 refine Ac.go f61 ?_;unfold f61;refine gO ?_;refine CK ⟨[(704,0)],[],[384,1024]⟩ _ ?_;simp(disch:=omega)only[go_sem,AY]
def oV(q:Queue)(p:Ad)(a:BO)(prio:Int)(h:BC q<=100):Ac C0 293 [.agg q.c,.agg p.c,.agg a.c,I prio] [] (.Bl [.agg (BV q p a prio).1.c,AY (BV q p a prio).2.1,I (BV q p a prio).2.2]) []:=by
 obtain⟨h1,h2,h3⟩:=Bv h;refine Ac.go f293 ?_;unfold f293;refine gO ?_;refine Ab (Nl q h1 h3) ?_;cases hv:valid q
 ·have e:BV q p a prio=(q0,[],2):=by simp[BV,hv]
  simp(disch:=omega)only[go_sem,Bool.not_false,e,q0];refine Aj _ ?_;refine .Bl (Af.AI ?_);simp(disch:=omega)only[go_sem]
  repeat'(with_reducible apply And.intro)
  all_goals(first|exact .AD (by omega)|exact .agg (Af.AI gI))
 refine gO ?_;refine Ab (Lo p) ?_;cases hp:p.ok
 ·have e:BV q p a prio=(q0,[],1):=by simp[BV,hv,hp]
  simp(disch:=omega)only[go_sem,Bool.not_false,e,q0];refine Aj _ ?_;refine .Bl (Af.AI ?_);simp(disch:=omega)only[go_sem]
  repeat'(with_reducible apply And.intro)
  all_goals(first|exact .AD (by omega)|exact .agg (Af.AI gI))
 refine gO ?_
 by_cases QW:prio<0
 ·have e:BV q p a prio=(q0,[],1):=by simp[BV,hv,hp,QW]
  simp(disch:=omega)only[go_sem,eq_true QW,decide_true,e,q0];refine Aj _ ?_;refine .Bl (Af.AI ?_);simp(disch:=omega)only[go_sem]
  repeat'(with_reducible apply And.intro)
  all_goals(first|exact .AD (by omega)|exact .agg (Af.AI gI))
 by_cases pG:7<prio
 ·have e:BV q p a prio=(q0,[],1):=by simp[BV,hv,hp,QW,pG]
  simp(disch:=omega)only[go_sem,eq_false QW,eq_true pG,decide_true,decide_false,e,q0];refine Aj _ ?_;refine .Bl (Af.AI ?_);simp(disch:=omega)only[go_sem]
  repeat'(with_reducible apply And.intro)
  all_goals(first|exact .AD (by omega)|exact .agg (Af.AI gI))
 simp(disch:=omega)only[go_sem,eq_false QW,eq_false pG,decide_false];refine Ab (Gp q.res a) ?_;cases hf:q.res.fits a
 ·have e:BV q p a prio=(q0,[],12):=by simp[BV,hv,hp,QW,pG,hf]
  simp(disch:=omega)only[go_sem,Bool.not_false,e,q0];refine Aj _ ?_;refine .Bl (Af.AI ?_);simp(disch:=omega)only[go_sem]
  repeat'(with_reducible apply And.intro)
  all_goals(first|exact .AD (by omega)|exact .agg (Af.AI gI))
 refine gO ?_;refine Ab (Mt q p h2 h3) ?_;cases hw:(Ar q p).isSome;rotate_left
 ·have e:BV q p a prio=(q0,[],14):=by simp[BV,hv,hp,QW,pG,hf,hw]
  simp(disch:=omega)only[go_sem,Bool.not_false,e,q0];refine Aj _ ?_;refine .Bl (Af.AI ?_);simp(disch:=omega)only[go_sem]
  repeat'(with_reducible apply And.intro)
  all_goals(first|exact .AD (by omega)|exact .agg (Af.AI gI))
 refine gO ?_;refine Bh ⟨⟨[],[],[]⟩,[(0,3072)],[]⟩ (jW q h1 h2 h3) gI (by decide) trivial (.inl rfl) ?_;refine gO ?_;refine Cb [3072] (EP q p h1) gI rfl (by simp[BO.c,AV.BS,E2,Flat,Ma]) ?_;refine gO ?_;refine Ab (Ln q.res (Ap q.holds p) a) ?_;cases hc:q.res.covers (Ap q.holds p) a;rotate_left
 ·have e:BV q p a prio=(q,[],0):=by simp[BV,hv,hp,QW,pG,hf,hw,hc]
  simp(disch:=omega)only[go_sem,e];refine CK ⟨[],[],[3072]⟩ _ ?_;refine gO ?_;refine .Bl (Af.AI ?_);simp(disch:=omega)only[go_sem]
  repeat'(with_reducible apply And.intro)
  all_goals(first|exact .AD (by omega)|exact .agg (Af.AI gI))
 refine gO ?_;have hs:=((Ck q).1 hv).1;have XU:=WL hs;unfold BC BJ at XU;refine Ab (Ga (Ap q.holds p)) ?_;cases hz:(Ap q.holds p).zero
 ·have e:BV q p a prio=(DA (Iz q p a),(B0 (Iz q p a)).2,0):=by simp[BV,hv,hp,QW,pG,hf,hw,hc,hz]
  rw[e];have IY:q.Ak.length+1<=4294967296:=by omega
  simp(disch:=omega)only[go_sem,Bool.not_false];refine Av 10 [([],[4]),([],[61]),([],[5]),([],[4]),([],[64]),([],[13]),([],[6]),([],[65,66,67]),([7],[63,68]),([7],[69])] B7 ?_;refine gO ?_
  first|(refine Ab (Xw q.res (Ap q.holds p) a) ?_)|(refine Aq (Xw q.res (Ap q.holds p) a) ?_)
  refine gO ?_;refine FC [4544] (Pp (Iz q p a) (UJ hs hf (Gn hw) hz hc) h1 (by simp[Iz];omega) h3) (by simp(disch:=omega)only[go_sem,Iz];exact .eq (by simp[Ba.c])) rfl ?_;refine gO ?_;exact AM _
 ·simp(disch:=omega)only[go_sem,Bool.not_true];have e8:(q.holds.length:Int)+q.waits.length=((q.holds.length+q.waits.length:Nat):Int):=by omega
  by_cases h8:8<=(q.holds.length:Int)+q.waits.length
  ·have e:BV q p a prio=(q0,[],4):=by simp only[BV,hv,hp,hf,hw,hc,hz,decide_eq_false QW,decide_eq_false pG,decide_eq_true h8];rfl
   simp(disch:=omega)only[go_sem,eq_true h8,decide_true,e,q0];refine Aj _ ?_;refine .Bl (Af.AI ?_);simp(disch:=omega)only[go_sem]
   repeat'(with_reducible apply And.intro)
   all_goals(first|exact .AD (by omega)|exact .agg (Af.AI gI))
  simp(disch:=omega)only[go_sem,eq_false h8,decide_false];have e:BV q p a prio=(DA (JO q p a prio),(B0 (JO q p a prio)).2,0):=by simp only[BV,hv,hp,hf,hw,hc,hz,decide_eq_false QW,decide_eq_false pG,decide_eq_false h8];rfl
  rw[e];have hS:=WM hs hp (prio:=prio) ⟨by omega,by omega⟩ hf (Gn hw) hz (by omega);obtain⟨a1,a2,a3⟩:=(BT q).1 hs.waits;have hwo:Ba.ok ⟨p,a,prio,0⟩=true:=by simp[Ba.ok,hp,RN hf,AL];omega
  have x7:¬ 0<=EH q.waits p:=by
   have hn:=I3.1 (Gn hw);unfold EH;have:q.waits.findIdx? (λh=>decide (h.proc=p))=none:=by
    rw[List.findIdx?_eq_none_iff];intro x hx;simpa using hn x (by simp[hx])
   rw[this];simp
  have ei:MG q.waits ⟨p,a,prio,0⟩=(OR q.waits ⟨p,a,prio,0⟩,((Fu q.waits ⟨p,a,prio,0⟩ q.waits.length:Nat):Int),0):=by
   have:q.waits.length≠8:=by omega
   simp[MG,a1,hwo,x7,this]
  have hi:=pb q.waits ⟨p,a,prio,0⟩ h3;rw[ei]at hi;refine Ab hi ?_;refine gO ?_;have NP:=Ux q.waits ⟨p,a,prio,0⟩;refine FC [3072] (Pp (JO q p a prio) hS h1 h2 (show (OR q.waits ⟨p,a,prio,0⟩).length<=1000000 by omega)) (by simp(disch:=omega)only[go_sem,JO]) rfl ?_;refine gO ?_;exact AM _
def Ua(a b:UInt8)(x y:Bs):DJ (a::x) (b::y)=(decide (a<b)||(a==b&&DJ x y)):=by
 simp[DJ,Op.bytesLess]
def Q5(x:Bs):DJ x []=false:=by cases x<;>simp[DJ,Op.bytesLess]
def P0:∀ n:Bs,DJ n n=false
 |[]=>Q5 []
 | a::x=>by rw[Ua,P0 x];simp
def R1:∀ {a b c:Bs},DJ a b=true->DJ b c=true->DJ a c=true
 | a,[],c,h,_=>by rw[Q5]at h;cases h
 | a,b::y,[],_,h=>by rw[Q5]at h;cases h
 |[],b::y,c::z,_,_=>by simp[DJ,Op.bytesLess]
 | a::x,b::y,c::z,h1,h2=>by
  rw[Ua,Bool.or_eq_true,Bool.and_eq_true,decide_eq_true_eq,beq_iff_eq]at h1 h2 ⊢;rcases h1 with h1|⟨rfl,h1⟩
  ·rcases h2 with h2|⟨rfl,_⟩
   ·exact .inl (UInt8.lt_trans h1 h2)
   ·exact .inl h1
  ·rcases h2 with h2|⟨rfl,h2⟩
   ·exact .inl h2
   ·exact .inr ⟨rfl,R1 h1 h2⟩
structure Rp(p:Ad)(q q':Queue):Prop where
 val:valid q'=true
 res:q'.res=q.res
 pT:∀ x,Kc q' x->Kc q x\/x=p
 other:∀ y l,y≠p->Kq q y l->Kq q' y l
def Rp.refl{p:Ad}{q:Queue}(h:valid q=true):Rp p q q:=⟨h,rfl,λ_ hx=>.inl hx,λ_ _ _ hk=>hk⟩
def K3{p:Ad}{q q1:Queue}(h:Sound q1)(hr:q1.res=q.res)(hi:∀ x,Kc q1 x->Kc q x\/x=p)(ho:∀ y,y≠p->Ar q1 y=Ar q y/\Ap q1.holds y=Ap q.holds y):Rp p q (DA q1) where
 val:=QH h
 res:=(dd q1).trans hr
 pT:=λx hx=>hi x ((Tz q1 x).1 hx)
 other:=λy l hy hk=>by
  refine jH h ?_;obtain⟨a,b⟩:=ho y hy;unfold Kq at hk ⊢;rw[a,b,hr];exact hk
def WX{q:Queue}{p y:Ad}(h:y≠p):Ar (CF q p) y=Ar q y:=by
 unfold Ar CF;simp only[List.find?_append,LQ h]
def UO(q:Queue)(p:Ad):Ar (CF q p) p=none:=by
 unfold Ar CF;simp only[List.find?_append,TK,or_none,Option.map_none]
def T3{q:Queue}{p x:Ad}(h:Kc (CF q p) x):Kc q x:=by
 rcases h with h|⟨w,h,h2⟩|⟨w,h,h2⟩
 ·exact .inl h
 ·simp only[CF,Bt,List.mem_filter]at h;exact .inr (.inl ⟨w,h.1,h2⟩)
 ·simp only[CF,Bt,List.mem_filter]at h;exact .inr (.inr ⟨w,h.1,h2⟩)
def Pb{q:Queue}{p:Ad}(hv:valid q=true)(hw:(Ar q p).isSome=true):(Bb q p).2.2=0/\Rp p q (Bb q p).1/\Ar (Bb q p).1 p=none/\Ap (Bb q p).1.holds p=Ap q.holds p:=by
 have hs:=((Ck q).1 hv).1;have e:Bb q p=(DA (CF q p),(B0 (CF q p)).2,0):=by simp[Bb,hv,hw]
 rw[e];obtain⟨a,b⟩:=Ze (UO q p);exact⟨rfl,K3 (M8 hs p) rfl (λx hx=>.inl (T3 hx)) (λy hy=>⟨WX hy,rfl⟩),a,b⟩
def uK{q:Queue}{p x:Ad}{a:BO}(h:∃ y∈Cs q.holds p a,y.proc=x):(∃ y∈q.holds,y.proc=x)\/x=p:=by
 obtain⟨y,hy,hx⟩:=h;unfold Cs at hy;split at hy
 ·simp[AG]at hy;exact .inl ⟨y,hy.1,hx⟩
 ·simp only[List.mem_append,List.mem_cons]at hy;rcases hy with hy|rfl|hy
  ·have:=List.mem_of_mem_take hy;simp[AG]at this;exact .inl ⟨y,this.1,hx⟩
  ·exact .inr hx.symm
  ·have:=List.mem_of_mem_drop hy;simp[AG]at this;exact .inl ⟨y,this.1,hx⟩
def XW{q:Queue}{p x:Ad}{a:BO}(h:Kc (FJ q p a) x):Kc q x\/x=p:=by
 rcases h with h|h|h
 ·rcases uK h with h|h
  ·exact .inl (.inl h)
  ·exact .inr h
 ·exact .inl (.inr (.inl h))
 ·exact .inl (.inr (.inr h))
def ZO{q:Queue}{p:Ad}{a:BO}(hv:valid q=true)(hz:(Ap q.holds p).zero=false)(hw:Ar q p=none)(hc:q.res.covers (Ap q.holds p) a=true):(AO q p a).2.2=0/\Rp p q (AO q p a).1/\Ar (AO q p a).1 p=none/\Ap (AO q p a).1.holds p=a:=by
 have hs:=((Ck q).1 hv).1
 by_cases he:Ap q.holds p=a
 ·have e:AO q p a=(q,[],0):=by
   unfold AO;rw[if_neg (by simp[hv]),if_neg (by simp[hz]),if_neg (by simp[hw]),if_neg (by simp[hc]),if_pos (by simp[he])]
  rw[e];exact⟨rfl,.refl hv,hw,he⟩
 ·have e:AO q p a=(DA (FJ q p a),(B0 (FJ q p a)).2,0):=by
   unfold AO;rw[if_neg (by simp[hv]),if_neg (by simp[hz]),if_neg (by simp[hw]),if_neg (by simp[hc]),if_neg (by simp[he])]
  rw[e];have PN:Ar (FJ q p a) p=none:=hw;obtain⟨b1,b2⟩:=Ze PN;refine⟨rfl,K3 (Ri hs hz hw hc) rfl (λx hx=>XW hx) (λy hy=>⟨rfl,FH hy⟩),b1,?_⟩;rw[b2];exact J9
def iK{q:Queue}{p y:Ad}{a:BO}(h:y≠p):Ar (Iz q p a) y=Ar q y:=by
 have hd:decide (p=y)=false:=by simpa using Ne.symm h
 unfold Ar Iz;simp only[List.find?_append,List.find?_cons,List.find?_nil,hd,or_none]
theorem kb(l:List Ba)(y:Ad):((l.map cb).find? λw=>decide (w.proc=y)).map (·.AN)=(l.find? λw=>decide (w.proc=y)).map (·.AN):=by
 induction l with
 | nil=>rfl
 | cons w l ih =>
  simp only[List.map_cons,List.find?_cons,show (cb w).proc=w.proc from rfl];cases decide (w.proc=y)
  ·exact ih
  ·rfl
def lM{α β:Type}(f:α->β)(a b:Option α):(a.or b).map f=(a.map f).or (b.map f):=by cases a<;>simp
def ke{l:List Ba}{w:Ba}{y:Ad}(h:y≠w.proc):((OR l w).find? λx=>decide (x.proc=y)).map (·.AN)=(l.find? λx=>decide (x.proc=y)).map (·.AN):=by
 have hd:decide (w.proc=y)=false:=by simpa using Ne.symm h
 rw[ah]
 conv=>rhs;rw[<- List.take_append_drop (Fu l w l.length) l]
 simp only[List.find?_append,List.find?_cons,hd,lM,kb]
def iL{q:Queue}{p y:Ad}{a:BO}{prio:Int}(h:y≠p):Ar (JO q p a prio) y=Ar q y:=by
 unfold Ar JO;simp only[List.find?_append,lM,ke (w:=⟨p,a,prio,0⟩) h]
def kU{q:Queue}{p x:Ad}{a:BO}(h:Kc (Iz q p a) x):Kc q x\/x=p:=by
 rcases h with h|⟨w,h,h2⟩|h
 ·exact .inl (.inl h)
 ·simp only[Iz,List.mem_append,List.mem_singleton]at h;rcases h with h|rfl
  ·exact .inl (.inr (.inl ⟨w,h,h2⟩))
  ·exact .inr h2.symm
 ·exact .inl (.inr (.inr h))
def kV{q:Queue}{p x:Ad}{a:BO}{prio:Int}(h:Kc (JO q p a prio) x):Kc q x\/x=p:=by
 rcases h with h|h|⟨w,h,h2⟩
 ·exact .inl (.inl h)
 ·exact .inl (.inr (.inl h))
 ·rcases Uy h with rfl|h|⟨y,hy,_,rfl⟩
  ·exact .inr h2.symm
  ·exact .inl (.inr (.inr ⟨w,h,h2⟩))
  ·exact .inl (.inr (.inr ⟨y,hy,h2⟩))
def Y0{q:Queue}{p:Ad}{a:BO}{prio:Int}{l:BO}(hg:Ap q.holds p=l)(h0:(BV q p a prio).2.2=0):Rp p q (BV q p a prio).1/\Kq (BV q p a prio).1 p l:=by
 revert h0;unfold BV;split
 ·intro h;simp at h
 rename_i hv;have hv:valid q=true:=by simpa using hv
 have hs:=((Ck q).1 hv).1;split
 ·intro h;simp at h
 rename_i hp;split
 ·intro h;simp at h
 rename_i TZ;split
 ·intro h;simp at h
 rename_i V6;split
 ·intro h;simp at h
 rename_i hf;split
 ·intro h;simp at h
 rename_i hw;have hw:Ar q p=none:=Gn (by simpa using hw);have hf:q.res.fits a=true:=by simpa using hf
 split
 ·intro _;exact⟨.refl hv,λh=>by rw[hw]at h;simp at h,.inl hg⟩
 rename_i hc;have hc:q.res.covers (Ap q.holds p) a=false:=by simpa using hc
 split
 ·rename_i hz;have hz:(Ap q.holds p).zero=false:=by simpa using hz
  intro _;have h1:=UJ hs hf hw hz hc;exact⟨K3 (q1:=Iz q p a) h1 rfl (λx hx=>kU hx) (λy hy=>⟨iK hy,rfl⟩),jH (q:=Iz q p a) h1 ⟨λ_=>hg,.inl hg⟩⟩
 rename_i hz;have hz:(Ap q.holds p).zero=true:=by simpa using hz
 split
 ·intro h;simp at h
 rename_i h8;intro _;simp only[decide_eq_true_eq]at h8 TZ V6;have h1:=WM hs (p:=p) (a:=a) (prio:=prio) (by simpa using hp) ⟨by omega,by omega⟩ hf hw hz (by omega);exact⟨K3 (q1:=JO q p a prio) h1 rfl (λx hx=>kV hx) (λy hy=>⟨iL hy,rfl⟩),jH (q:=JO q p a prio) h1 ⟨λ_=>hg,.inl hg⟩⟩
def mC{q:Queue}{p y:Ad}(h:y≠p):Ar (B2 q p) y=Ar q y:=by
 unfold Ar B2;simp only[List.find?_append,LQ h]
structure Ei(t:List Queue):Prop where
 n:t.length<=100
 q:∀ q∈t,BC q<=100
def Ik(t:List Queue):Bool:=CC t&&decide ((AT t).length<=8)
def Ps(t:List Queue)(h:Ei t):Ac C0 111 [AW t] [] (B (Ik t)) []:=by
 refine Ac.go f111 ?_;unfold f111;refine gO ?_;refine Ab (j6 t h.q) ?_;cases hq:CC t
 ·simp(disch:=omega)only[go_sem];refine Aj _ ?_;exact wb (by simp[Ik,hq])
 refine gO ?_;refine Bh ⟨⟨[],[],[]⟩,[(0,448)],[]⟩ (XH t h.n h.q) gI rfl trivial (.inl rfl) ?_;refine gO ?_;refine Aj _ ?_;exact wb (by simp[Ik,hq];omega)
def CA(t:List Queue)(name:Bs):Option Nat:=t.findIdx? λq=>q.res.name==name
def UY(o:Option Nat):Int:=match o with|some i=>i|none=>-1
def HE(l:List Queue)(name:Bs)(hl:l.length<=1000000):Ac C0 160 [AW l,.v (.string (str name))] [] (I (UY (CA l name))) []:=dx l name hl
def DB{t:List Queue}{n:Bs}{i:Nat}(h:CA t n=some i):i<t.length/\∃ q,t[i]?=some q/\q.res.name=n:=by
 unfold CA at h;rw[List.findIdx?_eq_some_iff_getElem]at h;obtain⟨h1,h2,_⟩:=h;exact⟨h1,t[i],gE h1,by simpa using h2⟩
theorem Pz(t:List Queue)(i:Nat)(q:Queue)(h:t.length<=100)(hi:i<t.length):Ac C0 294 [AW t,I i,.agg q.c] [] (AW (t.set i q)) []:=by
 obtain⟨b,hb⟩:∃ b,t[i]?=some b:=⟨_,gE hi⟩;refine Ac.go f294 ?_;unfold f294;simp(disch:=omega)only[go_sem,gm,hb];refine CK ⟨[],[],[640]⟩ _ ?_;refine gO ?_;exact .sl (by rw[List.map_set];rfl)
def CP(name:Bs)(l:List AX):List Ev:=l.map λh=>⟨1,h.proc,name,h.AN⟩
def Nu(name:Bs)(l:List AX)(h:l.length<=1000000):Ac C0 295 [.v (.string (str name)),AY l] [] (Zf (CP name l)) []:=by
 refine Ac.go f295 ?_;unfold f295;refine gO ?_;refine AH (l) (λi=>⟨[(6,I i),(5,.sl (.own 1728 0) 7 ((CP name (l.take i)).map Ev.c)),(0,.v (.string (str name))),(1,AY l)],[]⟩) (λi=>True) trivial ?_ ?_
 ·refine AQ.An ?_ ?_
  all_goals(try simp(disch:=omega)only[go_sem])
  all_goals(try(repeat'(with_reducible apply And.intro)))
  all_goals(first|exact .AU (by omega)|exact .AD (by omega)|exact .sl (by simp[CP])|exact .int (by simp[CP])|exact .eq (by simp[CP]))
 rintro i ⟨hi,hP⟩ J hJ;refine gO ?_;refine Bp hi (λAu b hb Cc AR=>?_) λBf=>?_
 ·have IY:(CP name (l.take i)).length+1<=4294967296:=by simp[CP];omega
  refine Av 14 [([],[5]),([],[1]),([],[6]),([],[14,15]),([],[16]),([],[17]),([],[0]),([],[1]),([],[6]),([],[20,21]),([],[22]),([],[23]),([],[18,19,24]),([],[25])] B7 ?_;simp(disch:=omega)only[go_sem,gm,hb];refine hJ _ (i+1) ⟨by omega,trivial⟩ (by omega) (AQ.An ?_ ?_)
  all_goals(try simp(disch:=omega)only[go_sem])
  all_goals(try(repeat'(with_reducible apply And.intro)))
  all_goals(first|exact .AU (by omega)|exact .AD (by omega)|exact .sl (by simp[CP,take_add_one,hb,Ev.c])|exact .int (by simp[CP,take_add_one,hb,Ev.c])|exact .eq (by simp[CP,take_add_one,hb,Ev.c]))
 ·subst Bf;rw[take_length];refine CK ⟨[],[],[1728]⟩ _ ?_;simp(disch:=omega)only[go_sem]
def nT(a l2:List Atom):Ac C0 162 [BN a,BN l2] [] (B (decide (a=l2))) []:=by
 refine Ac.lens f162 λhlen=>?_
 simp only[E0,lens,List.length_map,and_true,true_and]at hlen;refine Ac.go f162 ?_;unfold f162
 by_cases hl:a.length=l2.length
 rotate_left
 ·have e1:((a.length:Int) !=l2.length)=true:=by simp;omega
  simp(disch:=omega)only[go_sem,e1];refine Aj _ ?_;exact wb (by have:a≠l2:=λe=>hl (by rw[e]);simp[this])
 have e1:((a.length:Int) !=l2.length)=false:=by simp[hl]
 simp(disch:=omega)only[go_sem,e1];refine AH (a) (λi=>⟨[(5,I i),(0,BN a),(1,BN l2)],[]⟩) (λi=>a.take i=l2.take i) rfl ?_ ?_
 ·exact B9
 rintro i ⟨hi,hP⟩ J hJ;refine gO ?_;refine Bp hi (λAu b hb Cc AR=>?_) λBf=>?_
 refine Av 8 [([],[0]),([],[5]),([],[17,18]),([],[19]),([],[1]),([],[5]),([],[21,22]),([],[23])] B7 ?_;simp(disch:=omega)only[go_sem,gm,hb]
 ·obtain⟨c,hc⟩:∃ c,l2[i]?=some c:=⟨_,gE (by omega)⟩;simp(disch:=omega)only[go_sem,gm,hb,hc]
  by_cases po:b=c
  ·simp(disch:=omega)only[go_sem,po,decide_true];refine hJ _ (i+1) ⟨by omega,(by rw[take_add_one,take_add_one,hb,hc,hP,po])⟩ (by omega) AS
  ·simp(disch:=omega)only[go_sem,po,decide_false];refine Aj _ ?_;refine wb ?_;have:a≠l2:=λh=>po (by rw[h,hc]at hb;simpa using hb.symm)
   simp[this]
 ·subst Bf;rw[take_length,hl,take_length]at hP;refine Aj _ ?_;exact wb (by simp[hP])
def IA(t:List Queue)(p:Ad):List Atom:=t.filterMap λq=>if (Ap q.holds p).zero then none else some ⟨q.res.name,Ap q.holds p⟩
def Fj(t:List Queue)(p:Ad):List Atom:=t.filterMap λq=>(Ar q p).map λa=>⟨q.res.name,a⟩
def ew{α β:Type}{f:α->Option β}{l:List α}{i:Nat}{b:α}(hb:l[i]?=some b):(l.take (i+1)).filterMap f=(l.take i).filterMap f++(f b).toList:=by
 rw[take_add_one,hb,List.filterMap_append];cases h:f b<;>simp[h]
def kf{α β:Type}{f:α->Option β}(l:List α)(i:Nat):((l.take i).filterMap f).length<=l.length :=
 Nat.le_trans (List.length_filterMap_le _ _) (by simp;omega)
def nU(t:List Queue)(p:Ad)(h:Ei t):Ac C0 163 [AW t,.agg p.c] [] (BN (IA t p)) []:=by
 have hn:=h.n;refine Ac.go f163 ?_;unfold f163;refine gO ?_;refine AH (t) (λi=>⟨[(6,I i),(5,.sl (.own 2112 0) 3 ((IA (t.take i) p).map Atom.c)),(0,AW t),(3,.ptr 192 0)],[(192,p.c)]⟩) (λi=>True) trivial ?_ ?_
 ·refine AQ.An ?_ ?_
  all_goals(try simp(disch:=omega)only[go_sem])
  all_goals(try(repeat'(with_reducible apply And.intro)))
  all_goals(first|exact .AU (by omega)|exact .AD (by omega)|exact .sl (by simp[IA])|exact .int (by simp[IA])|exact .eq (by simp[IA]))
 rintro i ⟨hi,hP⟩ J hJ;refine gO ?_;refine Bp hi (λAu b hb Cc AR=>?_) λBf=>?_
 ·have hl:(IA (t.take i) p).length<=t.length:=kf t i;have IY:(IA (t.take i) p).length+1<=4294967296:=by omega
  obtain⟨q1,q2,q3⟩:=Bv (h.q b Cc);have hx:IA (t.take (i+1)) p=IA (t.take i) p++(if (Ap b.holds p).zero then none else some (⟨b.res.name,Ap b.holds p⟩:Atom)).toList:=ew hb;generalize hL:IA (t.take i) p=L at IY hx;refine Av 7 [([],[0]),([],[6]),([],[14,15]),([],[16]),([],[3]),([],[17,18]),([],[])] B7 ?_;simp(disch:=omega)only[go_sem,gm,hb]
  first|(refine Ab (EP b p q1) ?_)|(refine Aq (EP b p q1) ?_)
  refine gO ?_;refine Ab (Ga (Ap b.holds p)) ?_;cases hz:(Ap b.holds p).zero
  ·simp(disch:=omega)only[go_sem,Bool.not_false];refine Av 10 [([],[5]),([],[0]),([],[6]),([],[24,25]),([],[26]),([],[27]),([],[28]),([],[7]),([],[29,30]),([],[31])] B7 ?_;simp(disch:=omega)only[go_sem,gm,hb];rw[hz]at hx;refine hJ _ (i+1) ⟨by omega,trivial⟩ (by omega) (AQ.An ?_ ?_)
   all_goals(try simp(disch:=omega)only[go_sem])
   all_goals(try(repeat'(with_reducible apply And.intro)))
   all_goals(first|exact .AU (by omega)|exact .AD (by omega)|exact .sl (by simp[hx,Atom.c])|exact .int (by simp[hx,Atom.c])|exact .eq (by simp[hx,Atom.c]))
  ·simp(disch:=omega)only[go_sem,Bool.not_true];rw[hz]at hx;refine hJ _ (i+1) ⟨by omega,trivial⟩ (by omega) (AQ.An ?_ ?_)
   all_goals(try simp(disch:=omega)only[go_sem])
   all_goals(try(repeat'(with_reducible apply And.intro)))
   all_goals(first|exact .AU (by omega)|exact .AD (by omega)|exact .sl (by simp[hx])|exact .int (by simp[hx])|exact .eq (by simp[hx]))
 ·subst Bf;rw[take_length];refine CK ⟨[],[],[2112]⟩ _ ?_;simp(disch:=omega)only[go_sem]
def nV(t:List Queue)(p:Ad)(h:Ei t):Ac C0 164 [AW t,.agg p.c] [] (BN (Fj t p)) []:=by
 have hn:=h.n;refine Ac.go f164 ?_;unfold f164;refine gO ?_;refine AH (t) (λi=>⟨[(6,I i),(5,.sl (.own 2240 0) 3 ((Fj (t.take i) p).map Atom.c)),(0,AW t),(3,.ptr 192 0)],[(192,p.c)]⟩) (λi=>True) trivial ?_ ?_
 ·refine AQ.An ?_ ?_
  all_goals(try simp(disch:=omega)only[go_sem])
  all_goals(try(repeat'(with_reducible apply And.intro)))
  all_goals(first|exact .AU (by omega)|exact .AD (by omega)|exact .sl (by simp[Fj])|exact .int (by simp[Fj])|exact .eq (by simp[Fj]))
 rintro i ⟨hi,hP⟩ J hJ;refine gO ?_;refine Bp hi (λAu b hb Cc AR=>?_) λBf=>?_
 ·have hl:(Fj (t.take i) p).length<=t.length:=kf t i;have IY:(Fj (t.take i) p).length+1<=4294967296:=by omega
  obtain⟨q1,q2,q3⟩:=Bv (h.q b Cc);have hx:Fj (t.take (i+1)) p=Fj (t.take i) p++((Ar b p).map λa=>(⟨b.res.name,a⟩:Atom)).toList:=ew hb;generalize hL:Fj (t.take i) p=L at IY hx;refine C8 4095 [(0,1,0),(1,2,0),(2,4,3),(3,8,4),(4,16,0),(5,32,24),(6,64,32),(7,128,64),(8,256,64),(9,512,0),(10,1024,767),(11,2048,2047)] [0,1,2,16,512,3,17,513,18,514,528,7,19,515,529,530,15,23,519,531,31,527,535,63,543,127,575,255,383,639,511,767,895,1023,1791,2047,4095] (λm=>⟨Vm m [(1,16,AW t),(2,17,I i),(4,18,.ep .no i b.c 0),(8,19,.agg b.c),(16,20,.agg p.c),(32,21,.Bl [.agg ((Ar b p).getD ⟨0,0⟩).c,B (Ar b p).isSome]),(64,15,.Bl [.agg ((Ar b p).getD ⟨0,0⟩).c,B (Ar b p).isSome]),(128,22,.agg ((Ar b p).getD ⟨0,0⟩).c),(256,23,B (Ar b p).isSome),(512,7,.ptr 448 0),(2048,8,B (Ar b p).isSome)]++[(6,I i),(5,.sl (.own 2240 0) 3 (L.map Atom.c)),(0,AW t),(3,.ptr 192 0)],((if m / 512%2=1 then [(448,(if m / 1024%2=1 then ((Ar b p).getD ⟨0,0⟩).c else (⟨0,0⟩:BO).c))] else [])++[(192,p.c)])⟩) ?_ ?_ ?_ B7
  ·exact AS
  ·simp (maxSteps:=100000000)only[C7,C6,DS,DR,and_true,Nat.reduceDiv,Nat.reduceMod,Nat.reduceAnd,Nat.reduceEqDiff,reduceIte,true_and,and_false,false_and,and_self]
   repeat'(with_reducible refine And.intro ?_ ?_)
   all_goals simp(disch:=omega)only[go_sem,gm,hb,nil_append]
   all_goals first|exact AQ.An gI (by simp(disch:=omega)only[go_sem,nil_append,cons_append])|(refine Ab (Mt b p q2 q3) ?_;simp(disch:=omega)only[go_sem];exact AQ.An gI (by simp(disch:=omega)only[go_sem,nil_append,cons_append]))
  cases hw:Ar b p with
  |none =>
   rw[hw]at hx;simp(disch:=omega)only[go_sem,hw,Option.isSome_none,nil_append,cons_append];refine hJ _ (i+1) ⟨by omega,trivial⟩ (by omega) (AQ.An ?_ ?_)
   all_goals(try simp(disch:=omega)only[go_sem])
   all_goals(try(repeat'(with_reducible apply And.intro)))
   all_goals(first|exact .AU (by omega)|exact .AD (by omega)|exact .sl (by simp[hx])|exact .int (by simp[hx])|exact .eq (by simp[hx]))
  |some a =>
   rw[hw]at hx;simp(disch:=omega)only[go_sem,hw,Option.isSome_some,Option.getD_some,nil_append,cons_append];refine Av 10 [([],[5]),([],[0]),([],[6]),([],[26,27]),([],[28]),([],[29]),([],[30]),([],[7]),([],[31,32]),([],[33])] B7 ?_;simp(disch:=omega)only[go_sem,gm,hb];refine hJ _ (i+1) ⟨by omega,trivial⟩ (by omega) (AQ.An ?_ ?_)
   all_goals(try simp(disch:=omega)only[go_sem])
   all_goals(try(repeat'(with_reducible apply And.intro)))
   all_goals(first|exact .AU (by omega)|exact .AD (by omega)|exact .sl (by simp[hx,Atom.c])|exact .int (by simp[hx,Atom.c])|exact .eq (by simp[hx,Atom.c]))
 ·subst Bf;rw[take_length];refine CK ⟨[],[],[2240]⟩ _ ?_;simp(disch:=omega)only[go_sem]
end Go.Rd
