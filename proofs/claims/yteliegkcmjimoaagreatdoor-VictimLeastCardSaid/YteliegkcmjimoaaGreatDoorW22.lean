/- part 22 of the proof -/
import Derived.Test.YteliegkcmjimoaaGreatDoorW21
set_option linter.all false
open Go Go.Abs Go.Proofs
set_option maxRecDepth 100000
namespace Go.Rd
set_option maxHeartbeats 8000000
open List (cons_append nil_append take_add_one take_length)
open Tryz
def No(a b:UInt8)(x y:Bs):BD (a::x) (b::y)=(decide (a<b)||(a==b&&BD x y)):=by simp[BD,Op.bytesLess]
theorem Th(x:Bs):BD x []=false:=by grind[BD,Op.bytesLess]
theorem Ij:∀ n:Bs,BD n n=false
 |[]=>Th []
 | a::x=>by rw[No,Ij x];simp
theorem GL:∀ {a b c:Bs},BD a b=true->BD b c=true->BD a c=true
 | a,[],c,h,_=>by grind[Th]
 | a,b::y,[],_,h=>by grind[Th]
 |[],b::y,c::z,_,_=>by simp[BD,Op.bytesLess]
 | a::x,b::y,c::z,h1,h2=>by
  rw[No,Bool.or_eq_true,Bool.and_eq_true,decide_eq_true_eq,beq_iff_eq]at h1 h2 ⊢;rcases h1 with h1|⟨rfl,h1⟩
  ·grind
  ·rcases h2 with h2|⟨rfl,h2⟩
   ·grind
   ·exact .inr ⟨rfl,GL h1 h2⟩
structure TF(p:Ac)(q q':Queue):Prop where
 val:valid q'=true
 res:q'.res=q.res
 sa:∀ x,JY q' x->JY q x\/x=p
 other:∀ y l,y≠p->Kq q y l->Kq q' y l
def TF.refl{p:Ac}{q:Queue}(h:valid q=true):TF p q q:=⟨h,rfl,λ_ hx=>.inl hx,λ_ _ _ hk=>hk⟩
def MI{p:Ac}{q q1:Queue}(h:Sound q1)(hr:q1.res=q.res)(hi:∀ x,JY q1 x->JY q x\/x=p)(ho:∀ y,y≠p->Ar q1 y=Ar q y/\Am q1.holds y=Am q.holds y):TF p q (Ee q1) where
 val:=SM h
 res:=(jZ q1).trans hr
 sa:=λx hx=>hi x ((SL q1 x).1 hx)
 other:=λy l hy hk=>by grind[qE,Kq]
def Z0{q:Queue}{p y:Ac}(h:y≠p):Ar (Dw q p) y=Ar q y:=by simp_all[Ar,Dw,NN]
def XO(q:Queue)(p:Ac):Ar (Dw q p) p=none:=by grind[Ar,Dw,Ws]
theorem WL{q:Queue}{p x:Ac}(h:JY (Dw q p) x):JY q x:=by
 rcases h with h|⟨w,h,h2⟩|⟨w,h,h2⟩
 ·exact .inl h
 ·simp only[Dw,Bv,List.mem_filter]at h;exact .inr (.inl ⟨w,h.1,h2⟩)
 ·simp only[Dw,Bv,List.mem_filter]at h;exact .inr (.inr ⟨w,h.1,h2⟩)
def H6{q:Queue}{p:Ac}(hv:valid q=true)(hw:(Ar q p).isSome=true):(Bd q p).2.2=0/\TF p q (Bd q p).1/\Ar (Bd q p).1 p=none/\Am (Bd q p).1.holds p=Am q.holds p:=by
 have hs:=((BN q).1 hv).1;have e:Bd q p=(Ee (Dw q p),(Co (Dw q p)).2,0):=by grind[Bd]
 rw[e];obtain⟨a,b⟩:=de (XO q p);exact⟨rfl,MI (Pc hs p) rfl (λx hx=>.inl (WL hx)) (λy hy=>⟨Z0 hy,rfl⟩),a,b⟩
def AbM{q:Queue}{p x:Ac}{a:BR}(h:∃ y∈CO q.holds p a,y.proc=x):(∃ y∈q.holds,y.proc=x)\/x=p:=by
 obtain⟨y,hy,hx⟩:=h;unfold CO at hy;split at hy
 ·grind[AR]
 ·simp at hy;rcases hy with hy|rfl|hy
  ·grind[AR]
  ·grind
  grind[AR]
def bw{q:Queue}{p x:Ac}{a:BR}(h:JY (Hc q p a) x):JY q x\/x=p:=by
 rcases h with h|h|h
 ·rcases AbM h with h|h
  ·exact .inl (.inl h)
  grind
 ·exact .inl (.inr (.inl h))
 ·exact .inl (.inr (.inr h))
def HQ{q:Queue}{p:Ac}{a:BR}(hv:valid q=true)(hz:(Am q.holds p).zero=false)(hw:Ar q p=none)(hc:q.res.covers (Am q.holds p) a=true):(AD q p a).2.2=0/\TF p q (AD q p a).1/\Ar (AD q p a).1 p=none/\Am (AD q p a).1.holds p=a:=by
 have hs:=((BN q).1 hv).1
 by_cases he:Am q.holds p=a
 ·have e:AD q p a=(q,[],0):=by
   simp_all[AD]
  rw[e];exact⟨rfl,.refl hv,hw,he⟩
 ·have e:AD q p a=(Ee (Hc q p a),(Co (Hc q p a)).2,0):=by
   simp_all[AD]
  rw[e];have WI:Ar (Hc q p a) p=none:=hw;obtain⟨b1,b2⟩:=de WI;refine⟨rfl,MI (Tz hs hz hw hc) rfl (λx hx=>bw hx) (λy hy=>⟨rfl,FY hy⟩),b1,?_⟩;rw[b2];exact LF
def ZZ{q:Queue}{p y:Ac}{a:BR}(h:y≠p):Ar (HJ q p a) y=Ar q y:=by
 have hd:decide (p=y)=false:=by grind
 unfold Ar HJ;simp[hd]
theorem rj(l:List Bh)(y:Ac):((l.map iP).find? λw=>decide (w.proc=y)).map (·.AH)=(l.find? λw=>decide (w.proc=y)).map (·.AH):=by
 induction l with
 | nil=>rfl
 | cons w l ih =>
  simp only[List.map_cons,List.find?_cons,show (iP w).proc=w.proc from rfl];cases decide (w.proc=y)
  ·omega
  ·rfl
def sT{α β:Type}(f:α->β)(a b:Option α):(a.or b).map f=(a.map f).or (b.map f):=by grind
def rk{l:List Bh}{w:Bh}{y:Ac}(h:y≠w.proc):((N5 l w).find? λx=>decide (x.proc=y)).map (·.AH)=(l.find? λx=>decide (x.proc=y)).map (·.AH):=by
 have hd:decide (w.proc=y)=false:=by grind
 rw[eY]
 conv=>rhs;rw[<- List.take_append_drop (Gq l w l.length) l]
 simp only[List.find?_append,List.find?_cons,hd,sT,rj]
def Z1{q:Queue}{p y:Ac}{a:BR}{prio:Int}(h:y≠p):Ar (Ik q p a prio) y=Ar q y:=by simp_all[Ar,Ik,sT,rk]
def dI{q:Queue}{p x:Ac}{a:BR}(h:JY (HJ q p a) x):JY q x\/x=p:=by
 rcases h with h|⟨w,h,h2⟩|h
 ·exact .inl (.inl h)
 ·simp[HJ]at h;rcases h with h|rfl
  ·exact .inl (.inr (.inl ⟨w,h,h2⟩))
  grind
 ·exact .inl (.inr (.inr h))
def dJ{q:Queue}{p x:Ac}{a:BR}{prio:Int}(h:JY (Ik q p a prio) x):JY q x\/x=p:=by
 rcases h with h|h|⟨w,h,h2⟩
 ·exact .inl (.inl h)
 ·exact .inl (.inr (.inl h))
 ·rcases O5 h with rfl|h|⟨y,hy,_,rfl⟩
  ·grind
  ·exact .inl (.inr (.inr ⟨w,h,h2⟩))
  ·exact .inl (.inr (.inr ⟨y,hy,h2⟩))
def TW{q:Queue}{p:Ac}{a:BR}{prio:Int}{l:BR}(hg:Am q.holds p=l)(h0:(BA q p a prio).2.2=0):TF p q (BA q p a prio).1/\Kq (BA q p a prio).1 p l:=by
 revert h0;unfold BA;split
 ·grind
 rename_i hv;have hv:valid q=true:=by grind
 have hs:=((BN q).1 hv).1;split
 ·intro h;grind
 rename_i hp;split
 ·intro h;grind
 rename_i iJ;split
 ·intro h;grind
 rename_i og;split
 ·intro h;grind
 rename_i hf;split
 ·intro h;grind
 rename_i hw;have hw:Ar q p=none:=F4 (by grind);have hf:q.res.fits a=true:=by grind
 split
 ·intro _;exact⟨.refl hv,λh=>by omega,.inl hg⟩
 rename_i hc;have hc:q.res.covers (Am q.holds p) a=false:=by grind
 split
 ·rename_i hz;have hz:(Am q.holds p).zero=false:=by grind
  intro _;have h1:=Q0 hs hf hw hz hc;exact⟨MI (q1:=HJ q p a) h1 rfl (λx hx=>dI hx) (λy hy=>⟨ZZ hy,rfl⟩),qE (q:=HJ q p a) h1 ⟨λ_=>hg,.inl hg⟩⟩
 rename_i hz;have hz:(Am q.holds p).zero=true:=by grind
 split
 ·intro h;grind
 rename_i h8;intro _;simp only[decide_eq_true_eq]at h8 iJ og;have h1:=TA hs (p:=p) (a:=a) (prio:=prio) (by grind) ⟨by omega,by omega⟩ hf hw hz (by omega);exact⟨MI (q1:=Ik q p a prio) h1 rfl (λx hx=>dJ hx) (λy hy=>⟨Z1 hy,rfl⟩),qE (q:=Ik q p a prio) h1 ⟨λ_=>hg,.inl hg⟩⟩
def fU{q:Queue}{p y:Ac}(h:y≠p):Ar (B8 q p) y=Ar q y:=by simp_all[Ar,B8,NN]
structure Fa(t:List Queue):Prop where
 n:t.length<=100
 q:∀ q∈t,BS q<=100
def IH(t:List Queue):Bool:=C5 t&&decide ((AM t).length<=8)
def Rw(t:List Queue)(h:Fa t):Ad C0 111 [AN t] [] (B (IH t)) []:=by
 refine Ad.go f111 ?_;unfold f111;refine gO ?_;refine Ab (re t h.q) ?_;cases hq:C5 t
 ·simp(disch:=omega)only[go_sem];refine Al _ ?_;exact wb (by simp[IH,hq])
 refine gO ?_;refine By ⟨⟨[],[],[]⟩,[(0,448)],[]⟩ (aW t h.n h.q) gI rfl trivial (.inl rfl) ?_;refine gO ?_;refine Al _ ?_;exact wb (by simp[IH,hq];omega)
def CG(t:List Queue)(name:Bs):Option Nat:=t.findIdx? λq=>q.res.name==name
def XZ(o:Option Nat):Int:=match o with|some i=>i|none=>-1
def IT(l:List Queue)(name:Bs)(hl:l.length<=1000000):Ad C0 160 [AN l,.v (.string (str name))] [] (I (XZ (CG l name))) []:=ky l name hl
def D2{t:List Queue}{n:Bs}{i:Nat}(h:CG t n=some i):i<t.length/\∃ q,t[i]?=some q/\q.res.name=n:=by
 unfold CG at h;rw[List.findIdx?_eq_some_iff_getElem]at h;obtain⟨h1,h2,_⟩:=h;exact⟨h1,t[i],gE h1,by simpa using h2⟩
theorem RD(t:List Queue)(i:Nat)(q:Queue)(h:t.length<=100)(hi:i<t.length):Ad C0 294 [AN t,I i,.agg q.c] [] (AN (t.set i q)) []:=by
 obtain⟨b,hb⟩:∃ b,t[i]?=some b:=⟨_,gE hi⟩;refine Ad.go f294 ?_;unfold f294;simp(disch:=omega)only[go_sem,gm,hb];refine CU ⟨[],[],[640]⟩ _ ?_;refine gO ?_;exact .sl (by rw[List.map_set];rfl)
def Dy(name:Bs)(l:List A9):List Ev:=l.map λh=>⟨1,h.proc,name,h.AH⟩
def PA(name:Bs)(l:List A9)(h:l.length<=1000000):Ad C0 295 [.v (.string (str name)),Bg l] [] (dh (Dy name l)) []:=by
 refine Ad.go f295 ?_;unfold f295;refine gO ?_;refine AF (l) (λi=>⟨[(6,I i),(5,.sl (.own 1728 0) 7 ((Dy name (l.take i)).map Ev.c)),(0,.v (.string (str name))),(1,Bg l)],[]⟩) (λi=>True) trivial ?_ ?_
 ·refine AT.Aq ?_ ?_
  all_goals(try simp(disch:=omega)only[go_sem])
  all_goals(try(repeat'(with_reducible apply And.intro)))
  all_goals(first|exact .Cr (by omega)|exact .A8 (by omega)|exact .sl (by simp[Dy])|exact .int (by simp[Dy])|exact .eq (by simp[Dy]))
 rintro i ⟨hi,hP⟩ J hJ;refine gO ?_;refine Bo hi (λAP b hb Cg AX=>?_) λBa=>?_
 ·have ID:(Dy name (l.take i)).length+1<=4294967296:=by simp[Dy];omega
  refine Ay 14 [([],[5]),([],[1]),([],[6]),([],[14,15]),([],[16]),([],[17]),([],[0]),([],[1]),([],[6]),([],[20,21]),([],[22]),([],[23]),([],[18,19,24]),([],[25])] B6 ?_;simp(disch:=omega)only[go_sem,gm,hb];refine hJ _ (i+1) ⟨by omega,trivial⟩ (by omega) (AT.Aq ?_ ?_)
  all_goals(try simp(disch:=omega)only[go_sem])
  all_goals(try(repeat'(with_reducible apply And.intro)))
  all_goals(first|exact .Cr (by omega)|exact .A8 (by omega)|exact .sl (by simp[Dy,take_add_one,hb,Ev.c])|exact .int (by simp[Dy,take_add_one,hb,Ev.c])|exact .eq (by simp[Dy,take_add_one,hb,Ev.c]))
 ·subst Ba;rw[take_length];refine CU ⟨[],[],[1728]⟩ _ ?_;simp(disch:=omega)only[go_sem]
def vD(a l2:List Atom):Ad C0 162 [BG a,BG l2] [] (B (decide (a=l2))) []:=by
 refine Ad.lens f162 λhlen=>?_
 simp only[FZ,lens,List.length_map,and_true,true_and]at hlen;refine Ad.go f162 ?_;unfold f162
 by_cases hl:a.length=l2.length
 rotate_left
 ·have e1:((a.length:Int) !=l2.length)=true:=by simp;omega
  simp(disch:=omega)only[go_sem,e1];refine Al _ ?_;exact wb (by have:a≠l2:=λe=>hl (by rw[e]);simp[this])
 have e1:((a.length:Int) !=l2.length)=false:=by simp[hl]
 simp(disch:=omega)only[go_sem,e1];refine AF (a) (λi=>⟨[(5,I i),(0,BG a),(1,BG l2)],[]⟩) (λi=>a.take i=l2.take i) rfl ?_ ?_
 ·exact Ce
 rintro i ⟨hi,hP⟩ J hJ;refine gO ?_;refine Bo hi (λAP b hb Cg AX=>?_) λBa=>?_
 refine Ay 8 [([],[0]),([],[5]),([],[17,18]),([],[19]),([],[1]),([],[5]),([],[21,22]),([],[23])] B6 ?_;simp(disch:=omega)only[go_sem,gm,hb]
 ·obtain⟨c,hc⟩:∃ c,l2[i]?=some c:=⟨_,gE (by omega)⟩;simp(disch:=omega)only[go_sem,gm,hb,hc]
  by_cases hbc:b=c
  ·simp(disch:=omega)only[go_sem,hbc,decide_true];refine hJ _ (i+1) ⟨by omega,(by rw[take_add_one,take_add_one,hb,hc,hP,hbc])⟩ (by omega) AK
  ·simp(disch:=omega)only[go_sem,hbc,decide_false];refine Al _ ?_;refine wb ?_;have:a≠l2:=λh=>hbc (by rw[h,hc]at hb;simpa using hb.symm)
   simp[this]
 ·subst Ba;rw[take_length,hl,take_length]at hP;refine Al _ ?_;exact wb (by simp[hP])
def Jt(t:List Queue)(p:Ac):List Atom:=t.filterMap λq=>if (Am q.holds p).zero then none else some ⟨q.res.name,Am q.holds p⟩
def GY(t:List Queue)(p:Ac):List Atom:=t.filterMap λq=>(Ar q p).map λa=>⟨q.res.name,a⟩
def lB{α β:Type}{f:α->Option β}{l:List α}{i:Nat}{b:α}(hb:l[i]?=some b):(l.take (i+1)).filterMap f=(l.take i).filterMap f++(f b).toList:=by
 rw[take_add_one,hb,List.filterMap_append];cases h:f b<;>simp[h]
def rl{α β:Type}{f:α->Option β}(l:List α)(i:Nat):((l.take i).filterMap f).length<=l.length :=
 Nat.le_trans (List.length_filterMap_le _ _) (by simp;omega)
def vE(t:List Queue)(p:Ac)(h:Fa t):Ad C0 163 [AN t,.agg p.c] [] (BG (Jt t p)) []:=by
 have hn:=h.n;refine Ad.go f163 ?_;unfold f163;refine gO ?_;refine AF (t) (λi=>⟨[(6,I i),(5,.sl (.own 2112 0) 3 ((Jt (t.take i) p).map Atom.c)),(0,AN t),(3,.ptr 192 0)],[(192,p.c)]⟩) (λi=>True) trivial ?_ ?_
 ·have Q4:=@Jt.eq_1;exact Gd
 rintro i ⟨hi,hP⟩ J hJ;refine gO ?_;refine Bo hi (λAP b hb Cg AX=>?_) λBa=>?_
 ·have hl:(Jt (t.take i) p).length<=t.length:=rl t i;have ID:(Jt (t.take i) p).length+1<=4294967296:=by omega
  obtain⟨q1,q2,q3⟩:=Bt (h.q b Cg);have hx:Jt (t.take (i+1)) p=Jt (t.take i) p++(if (Am b.holds p).zero then none else some (⟨b.res.name,Am b.holds p⟩:Atom)).toList:=lB hb;generalize hL:Jt (t.take i) p=L at ID hx;refine Ay 7 [([],[0]),([],[6]),([],[14,15]),([],[16]),([],[3]),([],[17,18]),([],[])] B6 ?_;simp(disch:=omega)only[go_sem,gm,hb]
  first|(refine Ab (E0 b p q1) ?_)|(refine Ax (E0 b p q1) ?_)
  refine gO ?_;refine Ab (Fp (Am b.holds p)) ?_;cases hz:(Am b.holds p).zero
  ·simp(disch:=omega)only[go_sem,Bool.not_false];refine Ay 10 [([],[5]),([],[0]),([],[6]),([],[24,25]),([],[26]),([],[27]),([],[28]),([],[7]),([],[29,30]),([],[31])] B6 ?_;simp(disch:=omega)only[go_sem,gm,hb];rw[hz]at hx;have Q4:=@Atom.c.eq_1;refine hJ _ (i+1) ⟨by omega,trivial⟩ (by omega) Gd
  ·simp(disch:=omega)only[go_sem,Bool.not_true];rw[hz]at hx;refine hJ _ (i+1) ⟨by omega,trivial⟩ (by omega) Gd
 ·subst Ba;rw[take_length];refine CU ⟨[],[],[2112]⟩ _ ?_;simp(disch:=omega)only[go_sem]
def vF(t:List Queue)(p:Ac)(h:Fa t):Ad C0 164 [AN t,.agg p.c] [] (BG (GY t p)) []:=by
 have hn:=h.n;refine Ad.go f164 ?_;unfold f164;refine gO ?_;refine AF (t) (λi=>⟨[(6,I i),(5,.sl (.own 2240 0) 3 ((GY (t.take i) p).map Atom.c)),(0,AN t),(3,.ptr 192 0)],[(192,p.c)]⟩) (λi=>True) trivial ?_ ?_
 ·have Q4:=@GY.eq_1;exact Gd
 rintro i ⟨hi,hP⟩ J hJ;refine gO ?_;refine Bo hi (λAP b hb Cg AX=>?_) λBa=>?_
 ·have hl:(GY (t.take i) p).length<=t.length:=rl t i;have ID:(GY (t.take i) p).length+1<=4294967296:=by omega
  obtain⟨q1,q2,q3⟩:=Bt (h.q b Cg);have hx:GY (t.take (i+1)) p=GY (t.take i) p++((Ar b p).map λa=>(⟨b.res.name,a⟩:Atom)).toList:=lB hb;generalize hL:GY (t.take i) p=L at ID hx;refine Dj 4095 [(0,1,0),(1,2,0),(2,4,3),(3,8,4),(4,16,0),(5,32,24),(6,64,32),(7,128,64),(8,256,64),(9,512,0),(10,1024,767),(11,2048,2047)] [0,1,2,16,512,3,17,513,18,514,528,7,19,515,529,530,15,23,519,531,31,527,535,63,543,127,575,255,383,639,511,767,895,1023,1791,2047,4095] (λm=>⟨XE m [(1,16,AN t),(2,17,I i),(4,18,.ep .no i b.c 0),(8,19,.agg b.c),(16,20,.agg p.c),(32,21,.BC [.agg ((Ar b p).getD ⟨0,0⟩).c,B (Ar b p).isSome]),(64,15,.BC [.agg ((Ar b p).getD ⟨0,0⟩).c,B (Ar b p).isSome]),(128,22,.agg ((Ar b p).getD ⟨0,0⟩).c),(256,23,B (Ar b p).isSome),(512,7,.ptr 448 0),(2048,8,B (Ar b p).isSome)]++[(6,I i),(5,.sl (.own 2240 0) 3 (L.map Atom.c)),(0,AN t),(3,.ptr 192 0)],((if m / 512%2=1 then [(448,(if m / 1024%2=1 then ((Ar b p).getD ⟨0,0⟩).c else (⟨0,0⟩:BR).c))] else [])++[(192,p.c)])⟩) ?_ ?_ ?_ B6
  ·exact AK
  ·simp (maxSteps:=100000000)only[Di,Dh,D0,DZ,and_true,Nat.reduceDiv,Nat.reduceMod,Nat.reduceAnd,Nat.reduceEqDiff,reduceIte,true_and,and_false,false_and,and_self]
   repeat'(with_reducible refine And.intro ?_ ?_)
   all_goals simp(disch:=omega)only[go_sem,gm,hb,nil_append]
   all_goals first|exact AT.Aq gI (by simp(disch:=omega)only[go_sem,nil_append,cons_append])|(refine Ab (Nc b p q2 q3) ?_;simp(disch:=omega)only[go_sem];exact AT.Aq gI (by simp(disch:=omega)only[go_sem,nil_append,cons_append]))
  cases hw:Ar b p with
  |none =>
   rw[hw]at hx;simp(disch:=omega)only[go_sem,hw,Option.isSome_none,nil_append,cons_append];refine hJ _ (i+1) ⟨by omega,trivial⟩ (by omega) Gd
  |some a =>
   rw[hw]at hx;simp(disch:=omega)only[go_sem,hw,Option.isSome_some,Option.getD_some,nil_append,cons_append];refine Ay 10 [([],[5]),([],[0]),([],[6]),([],[26,27]),([],[28]),([],[29]),([],[30]),([],[7]),([],[31,32]),([],[33])] B6 ?_;simp(disch:=omega)only[go_sem,gm,hb];have Q4:=@Atom.c.eq_1;refine hJ _ (i+1) ⟨by omega,trivial⟩ (by omega) Gd
 ·subst Ba;rw[take_length];refine CU ⟨[],[],[2240]⟩ _ ?_;simp(disch:=omega)only[go_sem]
end Go.Rd
