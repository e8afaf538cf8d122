/- part 22 of the proof -/
import Derived.Test.YthachdiockkofaaGreatDoorS21
set_option linter.all false
open Go Go.Abs Go.Proofs
set_option maxRecDepth 100000
namespace Go.Rd
set_option maxHeartbeats 8000000
open List (cons_append nil_append take_add_one take_length)
open Option (or_none)
open Tryz
theorem JS(a b:UInt8)(x y:Bs):BF (a::x) (b::y)=(decide (a<b)||(a==b&&BF x y)):=by
 simp[BF,Op.bytesLess]
theorem N3(x:Bs):BF x []=false:=by cases x<;>simp[BF,Op.bytesLess]
theorem JT:∀ n:Bs,BF n n=false
 |[]=>N3 []
 | a::x=>by rw[JS,JT x];simp
theorem G3:∀ {a b c:Bs},BF a b=true→BF b c=true→BF a c=true
 | a,[],c,h,_=>by rw[N3]at h;cases h
 | a,b::y,[],_,h=>by rw[N3]at h;cases h
 |[],b::y,c::z,_,_=>by simp[BF,Op.bytesLess]
 | a::x,b::y,c::z,h1,h2=>by
  rw[JS,Bool.or_eq_true,Bool.and_eq_true,decide_eq_true_eq,beq_iff_eq]at h1 h2 ⊢;rcases h1 with h1|⟨rfl,h1⟩
  ·rcases h2 with h2|⟨rfl,_⟩
   ·exact .inl (UInt8.lt_trans h1 h2)
   ·exact .inl h1
  ·rcases h2 with h2|⟨rfl,h2⟩
   ·exact .inl h2
   ·exact .inr ⟨rfl,G3 h1 h2⟩
structure Ok(p:Proc)(q q':Queue):Prop where
 val:valid q'=true
 res:q'.res=q.res
 inp:∀ x,inQ q' x→inQ q x∨x=p
 other:∀ y l,y≠p→Kq q y l→Kq q' y l
theorem Ok.refl{p:Proc}{q:Queue}(h:valid q=true):Ok p q q:=⟨h,rfl,fun _ hx=>.inl hx,fun _ _ _ hk=>hk⟩
theorem Jq{p:Proc}{q q1:Queue}(h:Sound q1)(hr:q1.res=q.res)(hi:∀ x,inQ q1 x→inQ q x∨x=p)(ho:∀ y,y≠p→Aj q1 y=Aj q y∧Ak q1.holds y=Ak q.holds y):Ok p q (El q1) where
 val:=NJ h
 res:=(WN q1).trans hr
 inp:=fun x hx=>hi x ((NI q1 x).1 hx)
 other:=fun y l hy hk=>by
  refine YY h ?_;obtain⟨a,b⟩:=ho y hy;unfold Kq at hk ⊢;rw[a,b,hr];exact hk
theorem Sq{q:Queue}{p y:Proc}(h:y≠p):Aj (DA q p) y=Aj q y:=by
 unfold Aj DA;simp only[List.find?_append,Ke h]
theorem QR(q:Queue)(p:Proc):Aj (DA q p) p=none:=by
 unfold Aj DA;simp only[List.find?_append,P1,or_none,Option.map_none]
theorem Qa{q:Queue}{p x:Proc}(h:inQ (DA q p) x):inQ q x:=by
 rcases h with h|⟨w,h,h2⟩|⟨w,h,h2⟩
 ·exact .inl h
 ·simp only[DA,AI,List.mem_filter]at h;exact .inr (.inl ⟨w,h.1,h2⟩)
 ·simp only[DA,AI,List.mem_filter]at h;exact .inr (.inr ⟨w,h.1,h2⟩)
theorem JF{q:Queue}{p:Proc}(hv:valid q=true)(hw:(Aj q p).isSome=true):(A3 q p).2.2=0∧Ok p q (A3 q p).1∧Aj (A3 q p).1 p=none∧Ak (A3 q p).1.holds p=Ak q.holds p:=by
 have hs:=((Bm q).1 hv).1;have e:A3 q p=(El (DA q p),(Bz (DA q p)).2,0):=by simp[A3,hv,hw]
 rw[e];obtain⟨a,b⟩:=T5 (QR q p);exact⟨rfl,Jq (Lc hs p) rfl (fun x hx=>.inl (Qa hx)) (fun y hy=>⟨Sq hy,rfl⟩),a,b⟩
theorem cT{q:Queue}{p x:Proc}{a:Amt}(h:∃ y∈BK q.holds p a,y.proc=x):(∃ y∈q.holds,y.proc=x)∨x=p:=by
 obtain⟨y,hy,hx⟩:=h;unfold BK at hy;split at hy
 ·simp[As]at hy;exact .inl ⟨y,hy.1,hx⟩
 ·simp only[List.mem_append,List.mem_cons]at hy;rcases hy with hy|rfl|hy
  ·have:=List.mem_of_mem_take hy;simp[As]at this;exact .inl ⟨y,this.1,hx⟩
  ·exact .inr hx.symm
  ·have:=List.mem_of_mem_drop hy;simp[As]at this;exact .inl ⟨y,this.1,hx⟩
theorem SX{q:Queue}{p x:Proc}{a:Amt}(h:inQ (H6 q p a) x):inQ q x∨x=p:=by
 rcases h with h|h|h
 ·rcases cT h with h|h
  ·exact .inl (.inl h)
  ·exact .inr h
 ·exact .inl (.inr (.inl h))
 ·exact .inl (.inr (.inr h))
theorem G5{q:Queue}{p:Proc}{a:Amt}(hv:valid q=true)(hz:(Ak q.holds p).zero=false)(hw:Aj q p=none)(hc:q.res.covers (Ak q.holds p) a=true):(AN q p a).2.2=0∧Ok p q (AN q p a).1∧Aj (AN q p a).1 p=none∧Ak (AN q p a).1.holds p=a:=by
 have hs:=((Bm q).1 hv).1
 by_cases he:Ak q.holds p=a
 ·have e:AN q p a=(q,[],0):=by
   unfold AN;rw[if_neg (by simp[hv]),if_neg (by simp[hz]),if_neg (by simp[hw]),if_neg (by simp[hc]),if_pos (by simp[he])]
  rw[e];exact⟨rfl,.refl hv,hw,he⟩
 ·have e:AN q p a=(El (H6 q p a),(Bz (H6 q p a)).2,0):=by
   unfold AN;rw[if_neg (by simp[hv]),if_neg (by simp[hz]),if_neg (by simp[hw]),if_neg (by simp[hc]),if_neg (by simp[he])]
  rw[e];have hw':Aj (H6 q p a) p=none:=hw;obtain⟨b1,b2⟩:=T5 hw';refine⟨rfl,Jq (Og hs hz hw hc) rfl (fun x hx=>SX hx) (fun y hy=>⟨rfl,Ep hy⟩),b1,?_⟩;rw[b2];exact IN
theorem Sp{q:Queue}{p y:Proc}{a:Amt}(h:y≠p):Aj (Fw q p a) y=Aj q y:=by
 have hd:decide (p=y)=false:=by simpa using Ne.symm h
 unfold Aj Fw;simp only[List.find?_append,List.find?_cons,List.find?_nil,hd,or_none]
theorem Y9(l:List Wait)(y:Proc):((l.map V1).find? fun w=>decide (w.proc=y)).map (·.amt)=(l.find? fun w=>decide (w.proc=y)).map (·.amt):=by
 induction l with
 | nil=>rfl
 | cons w l ih =>
  simp only[List.map_cons,List.find?_cons,show (V1 w).proc=w.proc from rfl];cases decide (w.proc=y)
  ·exact ih
  ·rfl
theorem ZD{α β:Type}(f:α→β)(a b:Option α):(a.or b).map f=(a.map f).or (b.map f):=by cases a<;>simp
theorem Za{l:List Wait}{w:Wait}{y:Proc}(h:y≠w.proc):((Kk l w).find? fun x=>decide (x.proc=y)).map (·.amt)=(l.find? fun x=>decide (x.proc=y)).map (·.amt):=by
 have hd:decide (w.proc=y)=false:=by simpa using Ne.symm h
 rw[UY]
 conv=>rhs;rw[← List.take_append_drop (Ew l w l.length) l]
 simp only[List.find?_append,List.find?_cons,hd,ZD,Y9]
theorem Ss{q:Queue}{p y:Proc}{a:Amt}{prio:Int}(h:y≠p):Aj (FJ q p a prio) y=Aj q y:=by
 unfold Aj FJ;simp only[List.find?_append,ZD,Za (w:=⟨p,a,prio,0⟩) h]
theorem Uh{q:Queue}{p x:Proc}{a:Amt}(h:inQ (Fw q p a) x):inQ q x∨x=p:=by
 rcases h with h|⟨w,h,h2⟩|h
 ·exact .inl (.inl h)
 ·simp only[Fw,List.mem_append,List.mem_singleton]at h;rcases h with h|rfl
  ·exact .inl (.inr (.inl ⟨w,h,h2⟩))
  ·exact .inr h2.symm
 ·exact .inl (.inr (.inr h))
theorem Ui{q:Queue}{p x:Proc}{a:Amt}{prio:Int}(h:inQ (FJ q p a prio) x):inQ q x∨x=p:=by
 rcases h with h|h|⟨w,h,h2⟩
 ·exact .inl (.inl h)
 ·exact .inl (.inr (.inl h))
 ·rcases K3 h with rfl|h|⟨y,hy,_,rfl⟩
  ·exact .inr h2.symm
  ·exact .inl (.inr (.inr ⟨w,h,h2⟩))
  ·exact .inl (.inr (.inr ⟨y,hy,h2⟩))
theorem Oy{q:Queue}{p:Proc}{a:Amt}{prio:Int}{l:Amt}(hg:Ak q.holds p=l)(h0:(AJ q p a prio).2.2=0):Ok p q (AJ q p a prio).1∧Kq (AJ q p a prio).1 p l:=by
 revert h0;unfold AJ;split
 ·intro h;simp at h
 rename_i hv;have hv:valid q=true:=by simpa using hv
 have hs:=((Bm q).1 hv).1;split
 ·intro h;simp at h
 rename_i hp;split
 ·intro h;simp at h
 rename_i hp1;split
 ·intro h;simp at h
 rename_i hp2;split
 ·intro h;simp at h
 rename_i hf;split
 ·intro h;simp at h
 rename_i hw;have hw:Aj q p=none:=Ey (by simpa using hw);have hf:q.res.fits a=true:=by simpa using hf
 split
 ·intro _;exact⟨.refl hv,fun h=>by rw[hw]at h;simp at h,.inl hg⟩
 rename_i hc;have hc:q.res.covers (Ak q.holds p) a=false:=by simpa using hc
 split
 ·rename_i hz;have hz:(Ak q.holds p).zero=false:=by simpa using hz
  intro _;have h1:=Ms hs hf hw hz hc;exact⟨Jq (q1:=Fw q p a) h1 rfl (fun x hx=>Uh hx) (fun y hy=>⟨Sp hy,rfl⟩),YY (q:=Fw q p a) h1 ⟨fun _=>hg,.inl hg⟩⟩
 rename_i hz;have hz:(Ak q.holds p).zero=true:=by simpa using hz
 split
 ·intro h;simp at h
 rename_i h8;intro _;simp only[decide_eq_true_eq]at h8 hp1 hp2;have h1:=Oh hs (p:=p) (a:=a) (prio:=prio) (by simpa using hp) ⟨by omega,by omega⟩ hf hw hz (by omega);exact⟨Jq (q1:=FJ q p a prio) h1 rfl (fun x hx=>Ui hx) (fun y hy=>⟨Ss hy,rfl⟩),YY (q:=FJ q p a prio) h1 ⟨fun _=>hg,.inl hg⟩⟩
theorem Vp{q:Queue}{p y:Proc}(h:y≠p):Aj (Ba q p) y=Aj q y:=by
 unfold Aj Ba;simp only[List.find?_append,Ke h]
structure CU(t:List Queue):Prop where
 n:t.length≤100
 q:∀ q∈t,BA q≤100
def Gi(t:List Queue):Bool:=Cd t&&decide ((Ar t).length≤8)
theorem f115_ok(t:List Queue)(h:CU t):Ac C0 115 [Ay t] [] (B (Gi t)) []:=by
 refine Ac.go f115 ?_;unfold f115;refine gO ?_;refine Ab (f104_ok t h.q) ?_;cases hq:Cd t
 ·simp(disch:=omega)only[go_sem];refine Ap _ ?_;exact wb (by simp[Gi,hq])
 refine gO ?_;refine Be ⟨⟨[],[],[]⟩,[(0,448)],[]⟩ (f75_ok t h.n h.q) gI rfl trivial (.inl rfl) ?_;refine gO ?_;refine Ap _ ?_;exact wb (by simp[Gi,hq];omega)
def By(t:List Queue)(name:Bs):Option Nat:=t.findIdx? fun q=>q.res.name==name
def atI(o:Option Nat):Int:=match o with|some i=>i|none=>-1
theorem I6(l:List Queue)(name:Bs)(hl:l.length≤1000000):Ac C0 97 [Ay l,.v (.string (str name))] [] (I (atI (By l name))) []:=f97_ok l name hl
theorem CH{t:List Queue}{n:Bs}{i:Nat}(h:By t n=some i):i<t.length∧∃ q,t[i]?=some q∧q.res.name=n:=by
 unfold By at h;rw[List.findIdx?_eq_some_iff_getElem]at h;obtain⟨h1,h2,_⟩:=h;exact⟨h1,t[i],gE h1,by simpa using h2⟩
theorem f256_ok(t:List Queue)(i:Nat)(q:Queue)(h:t.length≤100)(hi:i<t.length):Ac C0 256 [Ay t,I i,.agg q.c] [] (Ay (t.set i q)) []:=by
 obtain⟨b,hb⟩:∃ b,t[i]?=some b:=⟨_,gE hi⟩;refine Ac.go f256 ?_;unfold f256;simp(disch:=omega)only[go_sem,gm,hb];refine CT ⟨[],[],[640]⟩ _ ?_;refine gO ?_;exact .sl (by rw[List.map_set];rfl)
def Cn(name:Bs)(l:List Hold):List Ev:=l.map fun h=>⟨1,h.proc,name,h.amt⟩
theorem f257_ok(name:Bs)(l:List Hold)(h:l.length≤1000000):Ac C0 257 [.v (.string (str name)),AB l] [] (T8 (Cn name l)) []:=by
 refine Ac.go f257 ?_;unfold f257;refine gO ?_;refine Aa (α:=Nat) (fun i=>⟨[(6,I i),(5,.sl (.own 1728 0) 7 ((Cn name (l.take i)).map Ev.c)),(0,.v (.string (str name))),(1,AB l)],[]⟩) (fun i=>i≤(l).length∧True) (fun i=>(l).length-i) 0 ⟨by omega,trivial⟩ ?_ ?_
 ·refine Imp.weak ?_ ?_
  all_goals(try simp(disch:=omega)only[go_sem])
  all_goals(try(repeat'(with_reducible apply And.intro)))
  all_goals(first|exact .AA (by omega)|exact .Az (by omega)|exact .sl (by simp[Cn])|exact .int (by simp[Cn])|exact .eq (by simp[Cn]))
 rintro i ⟨hi,hP⟩ J hJ;refine gO ?_;refine ⟨fun hlt=>?_,fun hge=>?_⟩;rotate_left;have hil:i=(l).length:=by simp at hge;omega
 rotate_left;obtain⟨b,hb⟩:∃ b,(l)[i]?=some b:=⟨_,gE (by simp at hlt;omega)⟩;have hbm:=mG hb;have hlt2:i<(l).length:=by simp at hlt;omega
 ·have hbd:(Cn name (l.take i)).length+1≤4294967296:=by simp[Cn];omega
  refine Aq 14 [([],[5]),([],[1]),([],[6]),([],[14,15]),([],[16]),([],[17]),([],[0]),([],[1]),([],[6]),([],[20,21]),([],[22]),([],[23]),([],[18,19,24]),([],[25])] fol ?_;simp(disch:=omega)only[go_sem,gm,hb];refine hJ _ (i+1) ⟨by simp at hlt;omega,trivial⟩ (by simp at hlt;omega) (Imp.weak ?_ ?_)
  all_goals(try simp(disch:=omega)only[go_sem])
  all_goals(try(repeat'(with_reducible apply And.intro)))
  all_goals(first|exact .AA (by omega)|exact .Az (by omega)|exact .sl (by simp[Cn,take_add_one,hb,Ev.c])|exact .int (by simp[Cn,take_add_one,hb,Ev.c])|exact .eq (by simp[Cn,take_add_one,hb,Ev.c]))
 ·subst hil;rw[take_length];refine CT ⟨[],[],[1728]⟩ _ ?_;simp(disch:=omega)only[go_sem]
theorem f173_ok(a l2:List Atom):Ac C0 173 [Bn a,Bn l2] [] (B (decide (a=l2))) []:=by
 refine Ac.lens f173 fun hlen=>?_
 simp only[Fz,lens,List.length_map,and_true,true_and]at hlen;refine Ac.go f173 ?_;unfold f173
 by_cases hl:a.length=l2.length
 rotate_left
 ·have e1:((a.length:Int) !=l2.length)=true:=by simp;omega
  simp(disch:=omega)only[go_sem,e1];refine Ap _ ?_;exact wb (by have:a≠l2:=fun e=>hl (by rw[e]);simp[this])
 have e1:((a.length:Int) !=l2.length)=false:=by simp[hl]
 simp(disch:=omega)only[go_sem,e1];refine Aa (α:=Nat) (fun i=>⟨[(5,I i),(0,Bn a),(1,Bn l2)],[]⟩) (fun i=>i≤(a).length∧a.take i=l2.take i) (fun i=>(a).length-i) 0 ⟨by omega,rfl⟩ ?_ ?_
 ·exact Ca
 rintro i ⟨hi,hP⟩ J hJ;refine gO ?_;refine ⟨fun hlt=>?_,fun hge=>?_⟩;rotate_left;have hil:i=(a).length:=by simp at hge;omega
 rotate_left;obtain⟨b,hb⟩:∃ b,(a)[i]?=some b:=⟨_,gE (by simp at hlt;omega)⟩;have hbm:=mG hb;have hlt2:i<(a).length:=by simp at hlt;omega
 refine Aq 8 [([],[0]),([],[5]),([],[17,18]),([],[19]),([],[1]),([],[5]),([],[21,22]),([],[23])] fol ?_;simp(disch:=omega)only[go_sem,gm,hb]
 ·obtain⟨c,hc⟩:∃ c,l2[i]?=some c:=⟨_,gE (by omega)⟩;simp(disch:=omega)only[go_sem,gm,hb,hc]
  by_cases hbc:b=c
  ·simp(disch:=omega)only[go_sem,hbc,decide_true];refine hJ _ (i+1) ⟨by simp at hlt;omega,(by rw[take_add_one,take_add_one,hb,hc,hP,hbc])⟩ (by simp at hlt;omega) AK
  ·simp(disch:=omega)only[go_sem,hbc,decide_false];refine Ap _ ?_;refine wb ?_;have:a≠l2:=fun h=>hbc (by rw[h,hc]at hb;simpa using hb.symm)
   simp[this]
 ·subst hil;rw[take_length,hl,take_length]at hP;refine Ap _ ?_;exact wb (by simp[hP])
def F8(t:List Queue)(p:Proc):List Atom:=t.filterMap fun q=>if (Ak q.holds p).zero then none else some ⟨q.res.name,Ak q.holds p⟩
def DP(t:List Queue)(p:Proc):List Atom:=t.filterMap fun q=>(Aj q p).map fun a=>⟨q.res.name,a⟩
theorem WR{α β:Type}{f:α→Option β}{l:List α}{i:Nat}{b:α}(hb:l[i]?=some b):(l.take (i+1)).filterMap f=(l.take i).filterMap f++(f b).toList:=by
 rw[take_add_one,hb,List.filterMap_append];cases h:f b<;>simp[h]
theorem Zb{α β:Type}{f:α→Option β}(l:List α)(i:Nat):((l.take i).filterMap f).length≤l.length :=
 Nat.le_trans (List.length_filterMap_le _ _) (by simp;omega)
theorem f174_ok(t:List Queue)(p:Proc)(h:CU t):Ac C0 174 [Ay t,.agg p.c] [] (Bn (F8 t p)) []:=by
 have hn:=h.n;refine Ac.go f174 ?_;unfold f174;refine gO ?_;refine Aa (α:=Nat) (fun i=>⟨[(6,I i),(5,.sl (.own 2112 0) 3 ((F8 (t.take i) p).map Atom.c)),(0,Ay t),(3,.ptr 192 0)],[(192,p.c)]⟩) (fun i=>i≤(t).length∧True) (fun i=>(t).length-i) 0 ⟨by omega,trivial⟩ ?_ ?_
 ·refine Imp.weak ?_ ?_
  all_goals(try simp(disch:=omega)only[go_sem])
  all_goals(try(repeat'(with_reducible apply And.intro)))
  all_goals(first|exact .AA (by omega)|exact .Az (by omega)|exact .sl (by simp[F8])|exact .int (by simp[F8])|exact .eq (by simp[F8]))
 rintro i ⟨hi,hP⟩ J hJ;refine gO ?_;refine ⟨fun hlt=>?_,fun hge=>?_⟩;rotate_left;have hil:i=(t).length:=by simp at hge;omega
 rotate_left;obtain⟨b,hb⟩:∃ b,(t)[i]?=some b:=⟨_,gE (by simp at hlt;omega)⟩;have hbm:=mG hb;have hlt2:i<(t).length:=by simp at hlt;omega
 ·have hl:(F8 (t.take i) p).length≤t.length:=Zb t i;have hbd:(F8 (t.take i) p).length+1≤4294967296:=by omega
  obtain⟨q1,q2,q3⟩:=Bw (h.q b hbm);have hx:F8 (t.take (i+1)) p=F8 (t.take i) p++(if (Ak b.holds p).zero then none else some (⟨b.res.name,Ak b.holds p⟩:Atom)).toList:=WR hb;generalize hL:F8 (t.take i) p=L at hbd hx;refine Aq 7 [([],[0]),([],[6]),([],[14,15]),([],[16]),([],[3]),([],[17,18]),([],[])] fol ?_;simp(disch:=omega)only[go_sem,gm,hb]
  first|(refine Ab (f163_ok b p q1) ?_)|(refine Al (f163_ok b p q1) ?_)
  refine gO ?_;refine Ab (f162_ok (Ak b.holds p)) ?_;cases hz:(Ak b.holds p).zero
  ·simp(disch:=omega)only[go_sem,Bool.not_false];refine Aq 10 [([],[5]),([],[0]),([],[6]),([],[24,25]),([],[26]),([],[27]),([],[28]),([],[7]),([],[29,30]),([],[31])] fol ?_;simp(disch:=omega)only[go_sem,gm,hb];rw[hz]at hx;refine hJ _ (i+1) ⟨by simp at hlt;omega,trivial⟩ (by simp at hlt;omega) (Imp.weak ?_ ?_)
   all_goals(try simp(disch:=omega)only[go_sem])
   all_goals(try(repeat'(with_reducible apply And.intro)))
   all_goals(first|exact .AA (by omega)|exact .Az (by omega)|exact .sl (by simp[hx,Atom.c])|exact .int (by simp[hx,Atom.c])|exact .eq (by simp[hx,Atom.c]))
  ·simp(disch:=omega)only[go_sem,Bool.not_true];rw[hz]at hx;refine hJ _ (i+1) ⟨by simp at hlt;omega,trivial⟩ (by simp at hlt;omega) (Imp.weak ?_ ?_)
   all_goals(try simp(disch:=omega)only[go_sem])
   all_goals(try(repeat'(with_reducible apply And.intro)))
   all_goals(first|exact .AA (by omega)|exact .Az (by omega)|exact .sl (by simp[hx])|exact .int (by simp[hx])|exact .eq (by simp[hx]))
 ·subst hil;rw[take_length];refine CT ⟨[],[],[2112]⟩ _ ?_;simp(disch:=omega)only[go_sem]
theorem f175_ok(t:List Queue)(p:Proc)(h:CU t):Ac C0 175 [Ay t,.agg p.c] [] (Bn (DP t p)) []:=by
 have hn:=h.n;refine Ac.go f175 ?_;unfold f175;refine gO ?_;refine Aa (α:=Nat) (fun i=>⟨[(6,I i),(5,.sl (.own 2240 0) 3 ((DP (t.take i) p).map Atom.c)),(0,Ay t),(3,.ptr 192 0)],[(192,p.c)]⟩) (fun i=>i≤(t).length∧True) (fun i=>(t).length-i) 0 ⟨by omega,trivial⟩ ?_ ?_
 ·refine Imp.weak ?_ ?_
  all_goals(try simp(disch:=omega)only[go_sem])
  all_goals(try(repeat'(with_reducible apply And.intro)))
  all_goals(first|exact .AA (by omega)|exact .Az (by omega)|exact .sl (by simp[DP])|exact .int (by simp[DP])|exact .eq (by simp[DP]))
 rintro i ⟨hi,hP⟩ J hJ;refine gO ?_;refine ⟨fun hlt=>?_,fun hge=>?_⟩;rotate_left;have hil:i=(t).length:=by simp at hge;omega
 rotate_left;obtain⟨b,hb⟩:∃ b,(t)[i]?=some b:=⟨_,gE (by simp at hlt;omega)⟩;have hbm:=mG hb;have hlt2:i<(t).length:=by simp at hlt;omega
 ·have hl:(DP (t.take i) p).length≤t.length:=Zb t i;have hbd:(DP (t.take i) p).length+1≤4294967296:=by omega
  obtain⟨q1,q2,q3⟩:=Bw (h.q b hbm);have hx:DP (t.take (i+1)) p=DP (t.take i) p++((Aj b p).map fun a=>(⟨b.res.name,a⟩:Atom)).toList:=WR hb;generalize hL:DP (t.take i) p=L at hbd hx;refine Dt 4095 [(0,1,0),(1,2,0),(2,4,3),(3,8,4),(4,16,0),(5,32,24),(6,64,32),(7,128,64),(8,256,64),(9,512,0),(10,1024,767),(11,2048,2047)] [0,1,2,16,512,3,17,513,18,514,528,7,19,515,529,530,15,23,519,531,31,527,535,63,543,127,575,255,383,639,511,767,895,1023,1791,2047,4095] (fun m=>⟨sel m [(1,16,Ay t),(2,17,I i),(4,18,.ep .no i b.c 0),(8,19,.agg b.c),(16,20,.agg p.c),(32,21,.tup [.agg ((Aj b p).getD ⟨0,0⟩).c,B (Aj b p).isSome]),(64,15,.tup [.agg ((Aj b p).getD ⟨0,0⟩).c,B (Aj b p).isSome]),(128,22,.agg ((Aj b p).getD ⟨0,0⟩).c),(256,23,B (Aj b p).isSome),(512,7,.ptr 448 0),(2048,8,B (Aj b p).isSome)]++[(6,I i),(5,.sl (.own 2240 0) 3 (L.map Atom.c)),(0,Ay t),(3,.ptr 192 0)],((if m / 512%2=1 then [(448,(if m / 1024%2=1 then ((Aj b p).getD ⟨0,0⟩).c else (⟨0,0⟩:Amt).c))] else [])++[(192,p.c)])⟩) ?_ ?_ ?_ fol
  ·exact AK
  ·simp (maxSteps:=100000000)only[Ds,Dr,Ek,Ej,and_true,Nat.reduceDiv,Nat.reduceMod,Nat.reduceAnd,Nat.reduceEqDiff,reduceIte,true_and,and_false,false_and,and_self]
   repeat'(with_reducible refine And.intro ?_ ?_)
   all_goals simp(disch:=omega)only[go_sem,gm,hb,nil_append]
   all_goals first|exact Imp.weak gI (by simp(disch:=omega)only[go_sem,nil_append,cons_append])|(refine Ab (f98_ok b p q2 q3) ?_;simp(disch:=omega)only[go_sem];exact Imp.weak gI (by simp(disch:=omega)only[go_sem,nil_append,cons_append]))
  cases hw:Aj b p with
  |none =>
   rw[hw]at hx;simp(disch:=omega)only[go_sem,hw,Option.isSome_none,nil_append,cons_append];refine hJ _ (i+1) ⟨by simp at hlt;omega,trivial⟩ (by simp at hlt;omega) (Imp.weak ?_ ?_)
   all_goals(try simp(disch:=omega)only[go_sem])
   all_goals(try(repeat'(with_reducible apply And.intro)))
   all_goals(first|exact .AA (by omega)|exact .Az (by omega)|exact .sl (by simp[hx])|exact .int (by simp[hx])|exact .eq (by simp[hx]))
  |some a =>
   rw[hw]at hx;simp(disch:=omega)only[go_sem,hw,Option.isSome_some,Option.getD_some,nil_append,cons_append];refine Aq 10 [([],[5]),([],[0]),([],[6]),([],[26,27]),([],[28]),([],[29]),([],[30]),([],[7]),([],[31,32]),([],[33])] fol ?_;simp(disch:=omega)only[go_sem,gm,hb];refine hJ _ (i+1) ⟨by simp at hlt;omega,trivial⟩ (by simp at hlt;omega) (Imp.weak ?_ ?_)
   all_goals(try simp(disch:=omega)only[go_sem])
   all_goals(try(repeat'(with_reducible apply And.intro)))
   all_goals(first|exact .AA (by omega)|exact .Az (by omega)|exact .sl (by simp[hx,Atom.c])|exact .int (by simp[hx,Atom.c])|exact .eq (by simp[hx,Atom.c]))
 ·subst hil;rw[take_length];refine CT ⟨[],[],[2240]⟩ _ ?_;simp(disch:=omega)only[go_sem]
end Go.Rd
