/- part 39 of the proof -/
import Derived.Test.YteliegkcmjimoaaGreatDoorY38
set_option linter.all false
open Go Go.Abs Go.Proofs
set_option maxRecDepth 100000
namespace Go.Rd
set_option maxHeartbeats 8000000
open List (length_cons length_map map_map take_add_one take_length)
open Bool (and_eq_true false_eq_true)
open Tryz
def EC(s:WS)(l:List C1):CD s l=true↔AI s=true/\l.length<=40/\∀ o∈l,Cc o=true/\o.proc∈(Ca s).2:=by
 simp[CD,and_eq_true,decide_eq_true_eq,List.all_eq_true,Iq,Br];grind
theorem PM{o:C1}(h:Cc o=true):o.lower.length<=8:=by simp_all[Cc]
def JT(opts:List C1):Int->List Ac->List Int->Bool
 |_,_,[]=>true
 | last,V,i::S=>if i<=last then false else match opts[i.toNat]? with
  |some o=>if Br V o.proc then false else JT opts i (V++[o.proc]) S
  |none=>false
def GU(s:WS)(opts:List C1)(S:List Int):Bool:=CD s opts&&(JT opts (-1) [] S&&EF s opts (S.map Int.toNat))
def Zw{opts:List C1}:∀ (S:List Int) (last:Int) (V:List Ac),-1<=last->JT opts last V S=true->∀ i∈S,0<=i/\i.toNat<opts.length
 |[],_,_,_,_,i,hi=>by grind
 | k::S,last,V,hl,h,i,hi=>by
  simp only[JT]at h;split at h
  ·cases h
  ·rename_i hk;split at h
   ·rename_i o ho;split at h
    ·cases h
    ·rcases List.mem_cons.1 hi with rfl|hi
     ·grind
     ·exact Zw S k _ (by omega) h i hi
   grind
def sf{opts:List C1}{S:List Int}(h:∀ i∈S,0<=i/\i.toNat<opts.length):Ju S=E3 (S.map Int.toNat):=by
 unfold Ju E3;rw[map_map];congr 1;refine List.map_congr_left λi hi=>?_
 have:=(h i hi).1;simp only[Function.comp,Fq];rw[Int.toNat_of_nonneg this]
def jX{α:Type}{S:List α}{i:Nat}{k:α}(h:S[i]?=some k):S.drop i=k::S.drop (i+1):=by
 obtain⟨hl,rfl⟩:=List.getElem?_eq_some_iff.1 h;simp
def Qy(s:WS)(opts:List C1)(S:List Int)(h:Iy s)(hl:opts.length<=1000000)(hS:S.length<=1000000):Ad C0 20 [.agg s.c,Cw opts,Ju S] [] (B (GU s opts S)) []:=by
 refine Ad.go f20 ?_;unfold f20;refine gO ?_;refine Ab (gX s opts h hl) ?_;cases hv:CD s opts
 ·refine gO ?_;refine Al _ ?_;exact wb (by simp[GU,hv])
 obtain⟨v1,v2,v3⟩:=(EC s opts).1 hv;refine gO ?_;refine Ao (α:=Nat × Int × List Ac) (λx=>⟨[(1,Cw opts),(2,Ju S),(3,.ptr 192 0),(7,I x.2.1),(8,.sl (.own 3008 0) 3 (x.2.2.map Ac.c)),(15,Ju S),(16,I S.length),(17,I x.1)],[(192,s.c)]⟩) (λx=>x.1<=S.length/\x.2.2.length=x.1/\-1<=x.2.1/\JT opts x.2.1 x.2.2 (S.drop x.1)=JT opts (-1) [] S) (λx=>S.length-x.1) (0,-1,[]) ⟨by simp,rfl,by simp,rfl⟩ AK ?_;rintro⟨i,last,V⟩ ⟨j1,j2,j3,j4⟩ J hJ;simp only at j1 j2 j3 j4
 by_cases AP:i<S.length
 ·have e1:((i:Int)<(S.length:Int))=True:=eq_true (by omega);obtain⟨k,hk⟩:∃ k,S[i]?=some k:=⟨_,gE AP⟩;rw[jX hk]at j4;simp only[JT]at j4
  by_cases c1:k<=last
  ·rw[if_pos c1]at j4;simp only[go_sem,e1,hk,eq_true c1];refine Al _ ?_;exact wb (by grind[GU])
  rw[if_neg c1]at j4
  by_cases c2:(opts.length:Int)<=k
  ·have c3:opts[k.toNat]?=none:=List.getElem?_eq_none (by omega);rw[c3]at j4;simp only[go_sem,e1,hk,eq_false c1,eq_true c2];refine Al _ ?_;exact wb (by grind[GU])
  obtain⟨n,rfl⟩:∃ n:Nat,k=n:=⟨k.toNat,by omega⟩;obtain⟨o,ho⟩:∃ o,opts[n]?=some o:=⟨_,gE (by omega)⟩;rw[Int.toNat_natCast,ho]at j4;simp only at j4;refine gS ?_;refine B4 [3008] (KE V o.proc (by omega)) gI rfl trivial ?_;cases hd:Br V o.proc
  ·rw[hd]at j4;simp at j4;have ID:V.length+1<=4294967296:=by omega
   refine gS ?_;refine hJ _ (i+1,n,V++[o.proc]) ⟨AP,by grind,by grind,j4⟩ (by omega) (AT.Aq ?_ gI);refine gO ?_;exact .sl (by simp[Ac.c])
  ·rw[hd]at j4;simp only[if_true]at j4;refine gO ?_;refine Al _ ?_;exact wb (by grind[GU])
 ·have e1:((i:Int)<(S.length:Int))=False:=eq_false (by omega);rw[List.drop_eq_nil_of_le (by omega)]at j4;simp only[JT]at j4;have Hf:=Zw S (-1) [] (by omega) j4.symm;rw[sf Hf];refine gS ?_;refine Ab (ia s opts (S.map Int.toNat) v1 hl (by grind) (λi hi=>by grind) (λo ho=>by grind[PM])) ?_ (hx:=by refine gO ?_;exact .sl (by grind));refine gO ?_;refine Al _ ?_;exact wb (by grind[GU])
def CE(s:WS)(opts:List C1)(S:List Int)(h:Iy s)(hl:opts.length<=1000000)(hS:S.length<=1000000):Ad C0 21 [.agg s.c,Cw opts,Ju S] [] (B (GU s opts S)) []:=by
 refine Ad.go f21 ?_;unfold f21;refine gO ?_;refine Ab (Aam s opts h hl) ?_;cases hv:CD s opts
 ·refine gO ?_;refine Al _ ?_;exact wb (by simp[GU,hv])
 obtain⟨v1,v2,v3⟩:=(EC s opts).1 hv;refine gO ?_;refine Ao (α:=Nat × Int × List Ac) (λx=>⟨[(1,Cw opts),(2,Ju S),(3,.ptr 192 0),(7,.sl (.own 3712 0) 3 (x.2.2.map Ac.c)),(14,Ju S),(15,I S.length),(16,I x.1)],[(192,s.c)]⟩) (λx=>x.1<=S.length/\x.2.2.length=x.1/\-1<=x.2.1/\(x.1=0->x.2.1 = -1)/\(∀ k,x.1=k+1->S[k]?=some x.2.1)/\JT opts x.2.1 x.2.2 (S.drop x.1)=JT opts (-1) [] S) (λx=>S.length-x.1) (0,-1,[]) ⟨by simp,rfl,by simp,λ_=>rfl,λ_ h=>by omega,rfl⟩ AK ?_;rintro⟨i,last,V⟩ ⟨j1,j2,j3,j5,j6,j4⟩ J hJ;simp only at j1 j2 j3 j4 j5 j6
 by_cases AP:i<S.length
 ·have e1:((i:Int)<(S.length:Int))=True:=eq_true (by omega);obtain⟨k,hk⟩:∃ k,S[i]?=some k:=⟨_,gE AP⟩;rw[jX hk]at j4;simp only[JT]at j4
  by_cases c0:k<0
  ·rw[if_pos (by omega)]at j4;simp only[go_sem,e1,hk,eq_true c0];refine Al _ ?_;exact wb (by grind[GU])
  by_cases c2:(opts.length:Int)<=k
  ·have c3:opts[k.toNat]?=none:=List.getElem?_eq_none (by omega);rw[c3]at j4;simp only[ite_self]at j4;simp only[go_sem,e1,hk,eq_false c0,eq_true c2];refine Al _ ?_;exact wb (by grind[GU])
  obtain⟨n,rfl⟩:∃ n:Nat,k=n:=⟨k.toNat,by omega⟩;obtain⟨o,ho⟩:∃ o,opts[n]?=some o:=⟨_,gE (by omega)⟩;rw[Int.toNat_natCast,ho]at j4;simp only at j4;have two:∀ {K:Prop},(last<(n:Int)->(if Br V o.proc then false else JT opts (n:Int) (V++[o.proc]) (S.drop (i+1)))=JT opts (-1) [] S->K)->((n:Int)<=last->false=JT opts (-1) [] S->K)->K:=λ{K} h1 h2=>by
   by_cases c1:(n:Int)<=last
   ·rw[if_pos c1]at j4;exact h2 c1 j4
   ·rw[if_neg c1]at j4;exact h1 (by omega) j4
  clear j4;cases i with
  | zero =>
   have uC:=j5 rfl;subst uC;refine two (λ_ j4=>?_) (λc _=>by omega);have S7:((0:Int)<(S.length:Int))=True:=eq_true (by omega);simp only[go_sem,S7,hk,eq_false c0,eq_false c2,ho];refine B4 [3712] (KG V o.proc (by omega)) gI rfl trivial ?_;cases hd:Br V o.proc
   ·rw[hd]at j4;simp only[false_eq_true,if_false]at j4;have ID:V.length+1<=4294967296:=by omega
    simp(disch:=omega)only[go_sem,ho];refine hJ _ (0+1,n,V++[o.proc]) ⟨AP,by grind,by grind,λh=>by omega,λk h=>?_,j4⟩ (by omega) (AT.Aq ?_ gI)
    ·grind
    ·refine gO ?_;exact .sl (by simp[Ac.c])
   ·rw[hd]at j4;simp only[if_true]at j4;refine gO ?_;refine Al _ ?_;exact wb (by grind[GU])
  | succ i =>
   have Kk:=j6 i rfl;have QJ:IntKind.i64.wrap (((i:Int)+1)-1)=(i:Int):=by grind[wrap64]
   have S7:((0:Int)<(i:Int)+1)=True:=eq_true (by omega);have e1':((i:Int)+1<(S.length:Int))=True:=eq_true (by omega);refine two (λc1 j4=>?_) (λc1 j4=>?_)
   ·have od:((n:Int)<=last)=False:=eq_false (by omega);simp only[go_sem,e1',S7,QJ,od,hk,Kk,eq_false c0,eq_false c2,ho];refine B4 [3712] (KG V o.proc (by omega)) gI rfl trivial ?_;cases hd:Br V o.proc
    ·rw[hd]at j4;simp at j4;have ID:V.length+1<=4294967296:=by omega
     simp(disch:=omega)only[go_sem,ho];refine hJ _ (i+1+1,n,V++[o.proc]) ⟨AP,by grind,by grind,λh=>by omega,λk h=>?_,j4⟩ (by omega) (AT.Aq ?_ gI)
     ·grind
     ·refine gO ?_;exact .sl (by simp[Ac.c])
    ·rw[hd]at j4;simp only[if_true]at j4;refine gO ?_;refine Al _ ?_;exact wb (by grind[GU])
   ·have od:((n:Int)<=last)=True:=eq_true c1;simp only[go_sem,e1',S7,QJ,od,hk,Kk,eq_false c0,eq_false c2];refine Al _ ?_;exact wb (by grind[GU])
 ·have e1:((i:Int)<(S.length:Int))=False:=eq_false (by omega);rw[List.drop_eq_nil_of_le (by omega)]at j4;simp only[JT]at j4;have Hf:=Zw S (-1) [] (by omega) j4.symm;rw[sf Hf];refine gS ?_;refine Ab (Aav s opts (S.map Int.toNat) v1 hl (by grind) (λi hi=>by grind) (λo ho=>by grind[PM])) ?_ (hx:=by refine gO ?_;exact .sl (by grind));refine gO ?_;refine Al _ ?_;exact wb (by grind[GU])
def U5(c:List Nat × Int):List AV:=[E3 c.1,I c.2]
attribute [go_sem] U5
def dc{s:WS}(hv:AI s=true):(Bl s).length<=8:=by
 have hg:=Be hv;have h1:=BP _ _ (V9 s hg) (Jo _ s hg (Nat.le_refl _));have h2:=((GQ s).1 hv).2.2;omega
def tH{s:WS}{l:List C1}{i:Nat}{o:C1}(h:l[i]?=some o):(Az s l).gv i=o.proc/\(Az s l).cost i=o.cost:=by simp[Az,h]
theorem JC{s:WS}{l:List C1}(hv:CD s l=true){i:Nat}(hi:i<l.length):∃ o,l[i]?=some o/\o∈l/\Cc o=true/\o.proc∈Bl s/\(Az s l).gv i=o.proc/\(Az s l).cost i=o.cost:=by
 have h1:=gE hi;have hm:=mG h1;obtain⟨_,_,h3⟩:=(EC s l).1 hv;exact⟨_,h1,hm,(h3 _ hm).1,(h3 _ hm).2,tH h1⟩
def R6{o:C1}(h:Cc o=true):1<=o.cost/\o.cost<=1073741824:=by simp_all[Cc]
def HV{s:WS}{l:List C1}(hv:CD s l=true):∀ i,i<(Az s l).n->1<=(Az s l).cost i/\(Az s l).cost i<=1073741824:=λi hi=>by
 obtain⟨o,_,_,h1,_,_,h2⟩:=JC hv hi;simp_all[R6]
def U6{P:Srch}(hc:∀ i,i<P.n->1<=P.cost i/\P.cost i<=1073741824):∀ {S:List Nat},(∀ i∈S,i<P.n)->0<=Bj P.cost S/\Bj P.cost S<=1073741824*S.length
 |[],_=>by simp[Bj]
 | i::S,h=>by
  have h1:=hc i (h i (by simp));have h2:=U6 hc (S:=S) λj hj=>h j (by grind)
  simp only[Bj,length_cons];omega
def MF{P:Srch}{S:List Nat}(h:isSet P S):S.length<=P.n:=by
 have:=BP S (List.range P.n) (h.1.imp λh=>by omega) λx hx=>List.mem_range.2 (h.2.1 x hx)
 simpa using this
def mJ{s:WS}{l:List C1}(hv:CD s l=true){S:List Nat}{i:Nat}(hi:i<l.length):Sp (Bl s) (S.map (Az s l).gv) &&& GX (Bl s) ((Az s l).gv i)=0↔again (Az s l) S i=false:=by grind[JC,fS,LU]
def jQ(a b:Nat)(ha:a<4611686018427387904)(hb:b<4611686018427387904):bits .and .i64 (a:Int) (b:Int)=((a &&& b:Nat):Int):=by
 have hx:a &&& b<2 ^ 62:=Nat.and_lt_two_pow _ (by omega);have h1:(BitVec.ofInt 64 (a:Int)).toNat=a:=by grind
 have h2:(BitVec.ofInt 64 (b:Int)).toNat=b:=by grind
 show IntKind.i64.wrap ((BitVec.ofInt 64 (a:Int) &&& BitVec.ofInt 64 (b:Int)).toNat:Int)=_;grind[IntKind.wrap_i64]
def Ab9(a b:Nat)(ha:a<4611686018427387904)(hb:b<4611686018427387904):bits .or .i64 (a:Int) (b:Int)=((a ||| b:Nat):Int):=by
 have hx:a ||| b<2 ^ 62:=Nat.or_lt_two_pow (by omega) (by omega);have h1:(BitVec.ofInt 64 (a:Int)).toNat=a:=by grind
 have h2:(BitVec.ofInt 64 (b:Int)).toNat=b:=by grind
 show IntKind.i64.wrap ((BitVec.ofInt 64 (a:Int) ||| BitVec.ofInt 64 (b:Int)).toNat:Int)=_;grind[IntKind.wrap_i64]
def Kc(s:WS)(st:List Ac):List Nat->List AV
 |[]=>[]
 | k::l=>I k::B (OI s st k)::Kc s st l
def Zm(s:WS)(st:List Ac)(v:Nat):∀ l,Kc s st l++[I v,B (OI s st v)]=Kc s st (l++[v])
 |[]=>rfl
 | k::l=>by simp only[Kc,List.cons_append,Zm s st v l]
@[go_sem] theorem sv(f:AV->AV)(s:WS)(st:List Ac):∀ l,F0 f (Kc s st l)=Kc s st l
 |[]=>rfl
 | k::l=>by simp only[Kc,F0,AV.Cz,sv f s st l]
def QC(s:WS)(st:List Ac)(v:Nat):∀ l:List Nat,if v∈l then ∃ j,Ie false [1] [.int .i64 v] (Kc s st l)=some (some (j,B (OI s st v))) else Ie false [1] [.int .i64 v] (Kc s st l)=some none
 |[]=>by simp[Kc,Ie]
 | k::l=>by
  have ih:=QC s st v l
  by_cases hk:v=k
  ·subst hk;rw[if_pos (by simp)];simp_all[Kc,Ie,Hs,BT]
  ·have CZ:((v:Int)==(k:Int))=false:=by grind
   by_cases hm:v∈l
   ·rw[if_pos hm]at ih;obtain⟨j,hj⟩:=ih;rw[if_pos (by grind)];exact⟨j+1,by grind[Kc,Ie,Hs,BT]⟩
   ·rw[if_neg hm]at ih;rw[if_neg (by grind)];grind[Kc,Ie,Hs,BT]
theorem xD{s:WS}{st:List Ac}{v:Nat}{l:List Nat}(h:v∈l):HP C0.P 151 (Kc s st l) (I v)=some (.BC [B (OI s st v),B true]):=by
 have:=QC s st v l;rw[if_pos h]at this;obtain⟨j,hj⟩:=this;have hm:et C0.P 151=some (3,false,[1],4):=F.zm;unfold HP;rw[hm];simp only[Hs,false_eq_true,if_false,hj];rfl
theorem so{s:WS}{st:List Ac}{v:Nat}{l:List Nat}(h:v∉l):HP C0.P 151 (Kc s st l) (I v)=some (.BC [B false,B false])/\∀ x,PH C0.P 151 (Kc s st l) (I v) x=some (Kc s st l++[I v,x]):=by
 have hj:=QC s st v l;rw[if_neg h]at hj;have hm:et C0.P 151=some (3,false,[1],4):=F.zm;unfold HP PH;rw[hm];have hz:ga C0.P 4=some (B false):=by kernel_rfl
 refine⟨?_,λx=>?_⟩
 ·simp only[Hs,false_eq_true,if_false,hj,hz,Option.map_some];rfl
 ·simp only[Hs,false_eq_true,if_false,hj];rfl
def Tg(l:List Nat)(v:Nat):List Nat:=if v∈l then l else l++[v]
def AaL(s:WS)(st:List Ac)(l:List Nat)(v:Nat)(hv:AI s=true)(GR:st.length<=62)(hbv:v<4611686018427387904) :
 Ad C0 93 [I v,.ptr 63 0,.ptr 127 0,.ptr 191 0] [(63,[.mp 31]),(127,s.c),(191,[AL st]),(31,Kc s st l)] (B (OI s st v)) [(63,[.mp 31]),(127,s.c),(191,[AL st]),(31,Kc s st (Tg l v))]:=by
 have hf:=GF hv;have Sv:=De hf;refine Ad.go f93 ?_;unfold f93;refine gO ?_
 by_cases hk:v∈l
 ·have hl:=xD (s:=s) (st:=st) hk;have e:Tg l v=l:=by simp[Tg,hk]
  rw[e];refine gS ?_;refine AY ⟨[],[(63,63),(127,127),(191,191),(31,31)],[]⟩ _ (by(try simp only[go_sem,Cx,Gv])<;>rfl) ⟨rfl,rfl⟩ (by simp[lk]) ?_ ?_
  ·exact gI
  ·exact gI
 obtain⟨hl,Hf⟩:=so (s:=s) (st:=st) hk;have e:Tg l v=l++[v]:=by simp[Tg,hk]
 rw[e];refine gS ?_;refine Ab (LB s hf) (gO ?_);refine AF ((Ag s)) (λi=>⟨[(0,I v),(1,.ptr 63 0),(2,.ptr 127 0),(3,.ptr 191 0),(6,B false),(8,.sl (.own 2496 0) 3 (((Ag s).take i).filter (λp=>decide (v &&& GX st p=0)) |>.map Ac.c)),(24,AL (Ag s)),(25,I (Ag s).length),(26,I i)],[(63,[.mp 31]),(127,s.c),(191,[AL st]),(31,Kc s st l)]⟩) (λi=>True) trivial ?_ ?_
 ·exact Ce
 rintro i ⟨hi,hP⟩ J hJ;refine gO ?_;refine Bo hi (λAP b hb Cg AX=>?_) λBa=>?_
 simp(disch:=omega)only[go_sem,hb]
 ·refine Ab (ic st b GR) ?_;have hbl:=U4 GR b;have hand:=jQ v (GX st b) hbv (by omega);have ID:((List.filter (λp=>decide (v &&& GX st p=0)) (List.take i (Ag s)))).length+1<=4294967296:=by grind
  have e1:(List.take (i+1) (Ag s)).filter (λp=>decide (v &&& GX st p=0))=(if v &&& GX st b=0 then (List.take i (Ag s)).filter (λp=>decide (v &&& GX st p=0))++[b] else (List.take i (Ag s)).filter (λp=>decide (v &&& GX st p=0))):=by
   rw[take_add_one,hb];grind
  simp(disch:=omega)only[go_sem,hand];refine⟨λh=>?_,λh=>?_⟩
  ·have h0:v &&& GX st b=0:=by grind
   rw[if_pos h0]at e1;refine hJ _ (i+1) ⟨by omega,trivial⟩ (by omega) (AT.Aq ?_ gI);rw[e1];simp only[go_sem,List.map_append]
  ·have h0:¬ v &&& GX st b=0:=by grind
   rw[if_neg h0]at e1;refine hJ _ (i+1) ⟨by omega,trivial⟩ (by omega) (AT.Aq ?_ gI);rw[e1];exact gI
 ·subst Ba;rw[take_length];have cL:(KZ s st v).length<=1000000:=by grind[KZ]
  refine FU [2496] (AaM s (KZ s st v) hf cL) (by simp only[go_sem,KZ]) rfl ?_;have e2:HG s (KZ s st v)=(Fw s (KZ s st v),0):=by simp[HG,hv]
  have Qn:=jJ hv (KZ s st v);have e3:GS (Fw s (KZ s st v))=Ca (Fw s (KZ s st v)):=DW Qn;have hh:OI s st v=decide ((Ca (Fw s (KZ s st v))).2=[]):=rfl;rw[e2];refine gO ?_;refine Ab (gZ (Fw s (KZ s st v)) (GF Qn)) ?_;rw[e3];have hd:(((Ca (Fw s (KZ s st v))).2.length:Int)==0)=OI s st v:=by
   rw[hh];cases (Ca (Fw s (KZ s st v))).2<;>simp
   omega
  simp only[go_sem,hd,Hf];refine AY ⟨[],[(63,63),(127,127),(191,191),(31,31)],[]⟩ _ (by(try simp only[go_sem,Cx,Gv])<;>rfl) ⟨rfl,rfl⟩ (by simp[lk]) ?_ ?_
  ·exact gI
  ·simp only[go_sem,Zm]
def Aaw(s:WS)(st:List Ac):Ad C0 46 [.agg s.c,AL st] [] (.fn 93 [.ptr 0 0,.ptr 1 0,.ptr 2 0]) [(0,[.mp 62]),(1,s.c),(2,[AL st]),(62,[])]:=by
 refine Ad.go f46 ?_;unfold f46;simp only[go_sem,jl];refine AY ⟨[],[(320,0),(128,1),(192,2),(446,62)],[]⟩ _ (by(try simp only[go_sem,Cx,Gv])<;>rfl) ⟨rfl,rfl⟩ (by grind) ?_ ?_
 ·exact gI
 ·exact gI
def DV:Nat->Expr->Bool
 | 0,_=>false
 | d+1,e=>decide (e.kids.length<=10)&&e.kids.all (DV d)
def Aao:∀ (d:Nat),d<=1000->∀ e:Expr,Ad C0 27 [.agg e.c,I d] [] (B (DV d e)) []:=by
 intro d
 induction d with
 | zero =>
  intro _ e;refine Ad.go f27 ?_;unfold f27;refine gO ?_;refine Al _ ?_;exact .eq (by simp[DV])
 | succ d ih =>
  intro hd e;have z1:((d:Int)+1==0)=false:=by simp;omega
  by_cases h1:10<e.kids.length
  ·have e1:(10<(e.kids.length:Int))=True:=eq_true (by omega);refine Ad.go f27 ?_;unfold f27;simp(disch:=omega)only[go_sem,z1,Expr.Dg,length_map,e1,decide_true];refine Al _ ?_;exact .eq (by simp[DV];omega)
  have e1:(10<(e.kids.length:Int))=False:=eq_false (by omega);refine Ad.go f27 ?_;unfold f27;simp(disch:=omega)only[go_sem,z1,Expr.Dg,length_map,e1,decide_false];refine AF (e.kids) (λi=>⟨[(5,I i),(1,I ((d:Int)+1)),(2,.ptr 128 0)],[(128,e.c)]⟩) (λi=>(e.kids.take i).all (DV d)=true) rfl ?_ ?_
  ·exact Ce
  rintro i ⟨hi,hP⟩ J hJ;refine gO ?_;refine Bo hi (λAP b hb Cg AX=>?_) λBa=>?_
  simp(disch:=omega)only[go_sem,gm,hb]
  ·refine Ab (ih (by omega) b) ?_ (hx:=by simp(disch:=omega)only[go_sem,Expr.Dg];exact .int (by omega));cases ZX:DV d b
   ·simp(disch:=omega)only[go_sem];refine Al _ ?_;exact .eq (by simp[DV,all_false Cg ZX])
   ·simp(disch:=omega)only[go_sem];refine hJ _ (i+1) ⟨by omega,by rw[H4 hb,hP,ZX];rfl⟩ (by omega) (AT.Aq gI (by simp(disch:=omega)only[go_sem,Expr.Dg]))
  ·subst Ba;rw[take_length]at hP;refine Al _ ?_;exact .eq (by simp only[DV,hP];simp;omega)
def RF(q:Queue):Bool:=decide (q.holds.length<=10)&&decide (q.As.length<=10)&&decide (q.waits.length<=10)
def Hv(s:WS):Bool:=decide (s.Aa.length<=10)&&decide (s.Aw.length<=10)&&s.Aa.all RF&&s.Aw.all (λn=>DV 5 n.expr)
def nC{s:WS}(h:Hv s=true):Iy s:=by
 simp only[Hv,RF,and_eq_true,decide_eq_true_eq,List.all_eq_true]at h;refine⟨by omega,by omega,λq hq=>?_⟩;have:=h.1.2 q hq;unfold BS B7;omega
def Aak(s:WS):Ad C0 10 [.agg s.c] [] (B (Hv s)) []:=by
 refine Ad.lens f10 λhlen=>?_
 simp only[FZ,lens,WS.c,length_map,and_true,true_and]at hlen;refine Ad.go f10 ?_;unfold f10
 by_cases h1:10<s.Aa.length
 ·have e1:(10<(s.Aa.length:Int))=True:=eq_true (by omega);have e:Hv s=false:=by simp[Hv];omega
  simp(disch:=omega)only[go_sem,length_map,e1,decide_true];refine Al _ ?_;exact wb (by rw[e])
 have e1:(10<(s.Aa.length:Int))=False:=eq_false (by omega)
 by_cases h2:10<s.Aw.length
 ·have e2:(10<(s.Aw.length:Int))=True:=eq_true (by omega);have e:Hv s=false:=by simp[Hv];omega
  simp(disch:=omega)only[go_sem,length_map,e1,e2,decide_false,decide_true];refine Al _ ?_;exact wb (by rw[e])
 have e2:(10<(s.Aw.length:Int))=False:=eq_false (by omega);simp(disch:=omega)only[go_sem,length_map,e1,e2,decide_false];refine AF (s.Aa) (λi=>⟨[(3,I i),(1,.ptr 64 0)],[(64,s.c)]⟩) (λi=>(s.Aa.take i).all RF=true) rfl ?_ ?_
 ·exact Ce
 rintro i ⟨hi,hP⟩ J hJ;refine gO ?_;refine Bo hi (λAP b hb Cg AX=>?_) λBa=>?_
 simp(disch:=omega)only[go_sem,gm,hb]
 ·have bad:RF b=false->Hv s=false:=λh=>by simp only[Hv,all_false Cg h,Bool.and_false,Bool.false_and]
  by_cases k1:10<b.holds.length
  ·have d1:(10<(b.holds.length:Int))=True:=eq_true (by omega);simp(disch:=omega)only[go_sem,d1,length_map,decide_true];refine Al _ ?_;exact wb (by rw[bad (by simp[RF];omega)])
  have d1:(10<(b.holds.length:Int))=False:=eq_false (by omega)
  by_cases k2:10<b.As.length
  ·have d2:(10<(b.As.length:Int))=True:=eq_true (by omega);simp(disch:=omega)only[go_sem,d1,d2,decide_false,decide_true,gm,hb,length_map];refine Al _ ?_;exact wb (by rw[bad (by simp[RF];omega)])
  have d2:(10<(b.As.length:Int))=False:=eq_false (by omega)
  by_cases k3:10<b.waits.length
  ·have d3:(10<(b.waits.length:Int))=True:=eq_true (by omega);simp(disch:=omega)only[go_sem,d1,d2,d3,decide_false,decide_true,gm,hb,length_map];refine Al _ ?_;exact wb (by rw[bad (by simp[RF];omega)])
  have d3:(10<(b.waits.length:Int))=False:=eq_false (by omega);have hs:RF b=true:=by simp[RF];omega
  simp(disch:=omega)only[go_sem,d1,d2,d3,decide_false,gm,hb,length_map];refine hJ _ (i+1) ⟨by omega,(by rw[H4 hb,hP,hs];rfl)⟩ (by omega) AK
 subst Ba;rw[take_length]at hP;have hq:=hP;clear hJ hP;refine AF (s.Aw) (λi=>⟨[(4,I i),(1,.ptr 64 0)],[(64,s.c)]⟩) (λi=>(s.Aw.take i).all (λn=>DV 5 n.expr)=true) rfl ?_ ?_
 ·exact Ce
 rintro i ⟨hi,hP⟩ J hJ;refine gO ?_;refine Bo hi (λAP b hb Cg AX=>?_) λBa=>?_
 simp(disch:=omega)only[go_sem,gm,hb]
 ·refine Ab (Aao 5 (by omega) b.expr) ?_;cases ZX:DV 5 b.expr
  ·simp(disch:=omega)only[go_sem];refine Al _ ?_;exact wb (by simp[Hv,all_false (f:=λn:Need=>DV 5 n.expr) Cg ZX])
  ·simp(disch:=omega)only[go_sem];refine hJ _ (i+1) ⟨by omega,(by rw[H4 hb,hP,ZX];rfl)⟩ (by omega) AK
 ·subst Ba;rw[take_length]at hP;refine Al _ ?_;exact wb (by simp only[Hv,hP,hq];simp;omega)
def W3(l:List Bs)(s:Bs):Nat:=(l.takeWhile λx=>BD x s).length
def Gt(l:List Bs)(s:Bs):List Bs:=if l[W3 l s]?=some s then l else l.take (W3 l s)++s::l.drop (W3 l s)
def bI{s:Bs}:∀ {l:List Bs} {i:Nat},i<=l.length->(l.take i).all (λx=>BD x s)=true->(∀ b,l[i]?=some b->BD b s=false)->W3 l s=i
 |[],i,hi,_,_=>by simp at hi;subst hi;rfl
 | x::l,0,_,_,h=>by grind[W3,List.takeWhile_cons]
 | x::l,i+1,hi,ha,h=>by
  rw[List.take_succ_cons,List.all_cons,and_eq_true]at ha;have ih:=bI (s:=s) (l:=l) (i:=i) (by simpa using hi) ha.2 (λb hb=>h b (by simpa using hb));unfold W3 at ih ⊢;rw[List.takeWhile_cons,ha.1];simp[ih]
def kG(l:List Bs)(s:Bs)(hl:l.length<=1000000):Ad C0 199 [MK l,.v (.string (str s))] [] (MK (Gt l s)) []:=by
 refine Ad.go f199 ?_;unfold f199;refine gO ?_;refine Ao (α:=Nat) (λi=>⟨[(5,I i),(0,MK l),(1,.v (.string (str s)))],[]⟩) (λi=>i<=l.length/\(l.take i).all (λx=>BD x s)=true) (λi=>l.length-i) 0 ⟨by omega,rfl⟩ AK ?_;rintro i ⟨hi,hP⟩ J hJ;have four:(∃ x,l[i]?=some x/\i<l.length/\Op.bytesLess x s=true)\/(l[i]?=some s/\i<l.length/\Op.bytesLess s s=false/\Gt l s=l)\/(∃ x,l[i]?=some x/\i<l.length/\Op.bytesLess x s=false/\(x==s)=false/\Gt l s=l.take i++s::l.drop i)\/(¬ i<l.length/\Gt l s=l.take i++s::l.drop i):=by
  by_cases Hf:i<l.length
  ·obtain⟨x,hx⟩:∃ x,l[i]?=some x:=⟨_,gE Hf⟩;cases hc:Op.bytesLess x s
   ·have Ug:W3 l s=i:=bI hi hP (λb hb=>by rw[hx]at hb;injection hb with hb;subst hb;exact hc)
    by_cases he:x=s
    ·subst he;exact .inr (.inl ⟨hx,Hf,hc,by simp_all[Gt]⟩)
    ·exact .inr (.inr (.inl ⟨x,hx,Hf,hc,by grind,by simp_all[Gt]⟩))
   grind
  ·have Ug:W3 l s=i:=bI hi hP (λb hb=>by grind);exact .inr (.inr (.inr ⟨Hf,by simp_all[Gt]⟩))
 rcases four with ⟨x,hx,Hf,hc⟩|⟨hx,Hf,hc,CZ⟩|⟨x,hx,Hf,hc,w8,CZ⟩|⟨Hf,CZ⟩
 ·simp(disch:=omega)only[go_sem,eq_true (show (i:Int)<(l.length:Int) by omega),hx,hc];refine hJ _ (i+1) ⟨by omega,by rw[H4 hx,hP];exact hc⟩ (by omega) AK
 ·have w8:(s==s)=true:=by simp
  simp only[go_sem,eq_true (show (i:Int)<(l.length:Int) by omega),hx,hc];refine Al _ ?_;exact .eq (by rw[CZ])
 simp(disch:=omega)only[go_sem,length_map,eq_true (show (i:Int)<(l.length:Int) by omega),decide_true,gm,hx,hc,w8];rotate_left;simp(disch:=omega)only[go_sem,length_map,eq_false (show ¬ (i:Int)<(l.length:Int) by omega),decide_false]
 all_goals
  have hm:min i l.length=i:=by omega
  have S8:List.take (l.length-i) (List.drop i l)=List.drop i l:=List.take_of_length_le (by simp);have UL:i+1<=4294967296:=by omega
  have Ss:i+1+(l.length-i)<=4294967296:=by omega
  refine F5 [(0,[],[3,8,7]),(1,[],[2,8,3,7]),(2,[1],[3,8,7]),(3,[0,2,1],[7,8]),(4,[],[6,8,7]),(5,[],[6,8,7]),(6,[4,5],[7,8]),(7,[3,6,0,2,4,5,1],[8]),(8,[7,0,1,2,3,4,5,6],[])] [0,1,2,3,4,5,6,7,8] [(0,38,ZR 2368 (l.take i),[3]),(1,39,.v (.string (str s)),[]),(2,40,.sl (.own 2560 0) 1 [[.v (.string (str s))]],[]),(3,41,.sl (.own 2624 0) 1 ((l.take i).map (λs=>[.v (.string (str s))])++[[.v (.string (str s))]]),[7]),(4,42,MK l,[]),(5,43,I i,[]),(6,44,MK (l.drop i),[]),(7,45,.sl (.own 2880 0) 1 ((l.take i).map (λs=>[.v (.string (str s))])++[[.v (.string (str s))]]++(l.drop i).map (λs=>[.v (.string (str s))])),[]),(8,4,.sl (.own 2880 0) 1 ((l.take i).map (λs=>[.v (.string (str s))])++[[.v (.string (str s))]]++(l.drop i).map (λs=>[.v (.string (str s))])),[])] (λb=>[(0,MK l),(1,.v (.string (str s))),(5,I i),(6,if b 3 then .undef else ZR 2368 (l.take i))]) (λb=>[]) ?_ (λb=>?_) (λb=>?_) B6
  ·exact AT.Aq gI gI
  ·simp only[Pf,and_true]
   repeat'(with_reducible refine And.intro ?_ ?_)
   all_goals simp(disch:=omega)only[go_sem,length_map,List.length_take,List.length_append,List.length_drop,length_cons,List.length_nil,hm,S8]
   all_goals(try first|(refine Av [] rfl (by rfl) ?_ ?_ ?_<;>(simp(disch:=omega)only[go_sem];done))|(refine Av [(_,_)] rfl (by rfl) ?_ ?_ ?_<;>(simp(disch:=omega)only[go_sem];done))|(refine Av [(_,_),(_,_)] rfl (by rfl) ?_ ?_ ?_<;>(simp(disch:=omega)only[go_sem];done))|(refine Av [(_,_),(_,_),(_,_)] rfl (by rfl) ?_ ?_ ?_<;>(simp(disch:=omega)only[go_sem];done))|(refine Bz [] rfl (by rfl) ?_ ?_ ?_<;>(simp(disch:=omega)only[go_sem];done))|(refine Bz [(_,_)] rfl (by rfl) ?_ ?_ ?_<;>(simp(disch:=omega)only[go_sem];done)))
  ·simp(disch:=omega)only[go_sem];refine CU ⟨[],[],[2880]⟩ _ (gO ?_);exact .sl (by grind)
def DT(x:Bu)(l:Ledger):List Bs:=(if x.waiting then (Ah x.Bk.expr).map (·.name) else []).foldl Gt (((x.AB.entries.drop l.entries.length).map (·.name)).foldl Gt [])
def N4(x:Bu)(l:Ledger)(label:Int):C1:=⟨x.proc,label,x.cost*((x.AB.entries.length:Int)-l.entries.length+1),(DT x l).map λn=>⟨n,An l.entries n⟩⟩
def se(l:List Bs)(s:Bs):(Gt l s).length<=l.length+1:=by grind[Gt]
theorem Mf:∀ (ns l:List Bs),(ns.foldl Gt l).length<=l.length+ns.length
 |[],l=>by simp
 | n::ns,l=>by
  have:=Mf ns (Gt l n);have:=se l n;simp only[List.foldl_cons,length_cons];omega
theorem kg(x:Bu)(l:Ledger)(label:Int)(h1:l.entries.length<=x.AB.entries.length)(h2:x.AB.entries.length<=1000)(h3:0<=x.cost/\x.cost<=1000):Ad C0 139 [.agg x.c,.agg l.c,I label] [] (.agg (N4 x l label).c) []:=by
 have ha:=Dt x.Bk.expr;obtain⟨D,hD⟩:∃ D,D=x.AB.entries.drop l.entries.length:=⟨_,rfl⟩;have oB:D.length=x.AB.entries.length-l.entries.length:=by rw[hD];simp
 have S8:List.take (x.AB.entries.length-l.entries.length) (List.drop l.entries.length x.AB.entries)=D:=by grind
 have xn:List.take D.length (List.drop l.entries.length (List.map Entry.c x.AB.entries))=List.map Entry.c D:=by rw[<- List.map_drop,<- List.map_take,oB,S8]
 have OR:DT x l=(if x.waiting then (Ah x.Bk.expr).map (·.name) else []).foldl Gt ((D.map (·.name)).foldl Gt []):=by rw[hD];rfl
 obtain⟨N1,hN1⟩:∃ N,N=(D.map (·.name)).foldl Gt []:=⟨_,rfl⟩;have hl1:N1.length<=1000:=by grind[Mf]
 rw[<- hN1]at OR;refine Ad.go f139 ?_;unfold f139;simp(disch:=omega)only[go_sem,Nat.min_self,<- oB];refine AF (D) (λi=>⟨[(2,I label),(3,.ptr 192 0),(4,.ptr 256 0),(6,.ptr 384 0),(7,MK (((D.take i).map (·.name)).foldl Gt [])),(21,Et D),(22,I D.length),(23,I i)],[(192,x.c),(256,l.c),(384,[.v (.int .i64 0),.v (.int .i64 0),.v (.int .i64 0),.v (.int .i64 0),.v (.int .i64 0),.v (.slice none 0 0)])]⟩) (λi=>True) trivial ?_ ?_
 ·refine AT.Aq ?_ ?_
  all_goals(try simp(disch:=omega)only[go_sem])
  all_goals(try(repeat'(with_reducible apply And.intro)))
  all_goals(first|exact .Cr (by omega)|exact .A8 (by omega)|exact .sl (by grind)|exact .int (by simp[xn])|exact .eq (by simp[xn]))
 rintro i ⟨hi,hP⟩ J hJ;refine gO ?_;refine Bo hi (λAP b hb Cg AX=>?_) λBa=>?_
 simp(disch:=omega)only[go_sem,hb]
 ·have Me:=Mf ((D.take i).map (·.name)) [];have e1:((D.take (i+1)).map (·.name)).foldl Gt []=Gt (((D.take i).map (·.name)).foldl Gt []) b.name:=by grind[take_add_one]
  generalize ((D.take i).map (·.name)).foldl Gt []=M at Me e1;simp at Me;refine Ab (kG M b.name (by omega)) (gO ?_);refine hJ _ (i+1) ⟨by omega,trivial⟩ (by omega) (AT.Aq ?_ gI);rw[e1];exact gI
 subst Ba;rw[take_length,<- hN1];clear hJ;have hcb:0<=x.cost*((x.AB.entries.length:Int)-l.entries.length+1)/\x.cost*((x.AB.entries.length:Int)-l.entries.length+1)<=1001000:=by refine⟨Int.mul_nonneg h3.1 (by omega),Int.le_trans (Int.mul_le_mul h3.2 (show _<=(1001:Int) by omega) (by omega) (by omega)) (by omega)⟩
 cases hw:x.waiting
 case' true =>
  refine gO ?_;refine Ab (M7 x.Bk.expr) ?_ (hx:=by exact gI);refine gO ?_;refine AF ((Ah x.Bk.expr)) (λi=>⟨[(2,I label),(3,.ptr 192 0),(4,.ptr 256 0),(6,.ptr 384 0),(7,MK ((((Ah x.Bk.expr).take i).map (·.name)).foldl Gt N1)),(37,BG (Ah x.Bk.expr)),(38,I (Ah x.Bk.expr).length),(39,I i)],[(192,x.c),(256,l.c),(384,[.v (.int .i64 0),.v (.int .i64 0),.v (.int .i64 0),.v (.int .i64 0),.v (.int .i64 0),.v (.slice none 0 0)])]⟩) (λi=>True) trivial ?_ ?_
  ·refine AT.Aq ?_ ?_
   all_goals(try simp(disch:=omega)only[go_sem,hw])
   all_goals(try(repeat'(with_reducible apply And.intro)))
   all_goals(first|exact .Cr (by omega)|exact .A8 (by omega)|exact .sl (by grind)|exact .int (by simp[hw])|exact .eq (by simp[hw]))
  rintro i ⟨hi,hP⟩ J hJ;refine gO ?_;refine Bo hi (λAP b hb Cg AX=>?_) λBa=>?_
  simp(disch:=omega)only[go_sem,hb]
  ·have Me:=Mf (((Ah x.Bk.expr).take i).map (·.name)) N1;have e1:(((Ah x.Bk.expr).take (i+1)).map (·.name)).foldl Gt N1=Gt ((((Ah x.Bk.expr).take i).map (·.name)).foldl Gt N1) b.name:=by grind[take_add_one]
   generalize (((Ah x.Bk.expr).take i).map (·.name)).foldl Gt N1=M at Me e1;simp at Me;refine Ab (kG M b.name (by omega)) (gO ?_);refine hJ _ (i+1) ⟨by omega,trivial⟩ (by omega) (AT.Aq ?_ gI);rw[e1];exact gI
  subst Ba;rw[take_length];clear hJ;have Y4:((Ah x.Bk.expr).map (·.name)).foldl Gt N1=DT x l:=by grind
  have lK:=Mf ((Ah x.Bk.expr).map (·.name)) N1;rw[Y4]at lK ⊢;simp at lK
 case' false =>
  have Y4:N1=DT x l:=by grind
  have lK:(DT x l).length<=N1.length+(Ah x.Bk.expr).length:=by grind
  rw[Y4];refine gO ?_
 all_goals
  have pI:(DT x l).length<=1008:=by omega
  refine AF ((DT x l)) (λi=>⟨[(2,I label),(3,.ptr 192 0),(4,.ptr 256 0),(6,.ptr 384 0),(12,.ptr 768 0),(64,MK (DT x l)),(65,I (DT x l).length),(66,I i)],[(192,x.c),(256,l.c),(384,[.v (.int .i64 0),.v (.int .i64 0),.v (.int .i64 0),.v (.int .i64 0),.v (.int .i64 0),.v (.slice none 0 0)]),(768,[.v (.int .i64 x.proc.site),.v (.int .i64 x.proc.inc),.v (.int .i64 x.proc.num),I label,I (x.cost*((x.AB.entries.length:Int)-l.entries.length+1)),.sl (.own 5056 0) 3 (((DT x l).take i).map λn=>(Atom.mk n (An l.entries n)).c)])]⟩) (λi=>True) trivial ?_ ?_
  ·refine AT.Aq ?_ ?_
   all_goals(try simp(disch:=omega)only[go_sem,hw])
   all_goals(try(repeat'(with_reducible apply And.intro)))
   all_goals(first|exact .Cr (by omega)|exact .A8 (by omega)|exact .sl (by simp[hw])|exact .int (by simp[hw])|exact .eq (by simp[hw]))
  rintro i ⟨hi,hP⟩ J hJ;refine gO ?_;refine Bo hi (λAP b hb Cg AX=>?_) λBa=>?_
  simp(disch:=omega)only[go_sem,hb]
  ·have hm:min i (DT x l).length+1<=4294967296:=by omega
   have e1:(((DT x l).take (i+1)).map λn=>(Atom.mk n (An l.entries n)).c)=(((DT x l).take i).map λn=>(Atom.mk n (An l.entries n)).c)++[(Atom.mk b (An l.entries b)).c]:=by grind[take_add_one]
   obtain⟨n,rfl⟩:∃ n,n=b:=⟨b,rfl⟩;have hlm:(((DT x l).take i).map λn=>(Atom.mk n (An l.entries n)).c).length=min i (DT x l).length:=by simp
   obtain⟨M,hM⟩:∃ M,M=(((DT x l).take i).map λn=>(Atom.mk n (An l.entries n)).c):=⟨_,rfl⟩;rw[<- hM]at e1 hlm;refine F5 [(0,[],[1,10,11,9]),(1,[0],[9,10,11]),(2,[],[7,10,11,8,9]),(3,[],[4,10,11,6,7,9,8]),(4,[3],[6,10,11,7,9,8]),(5,[],[6,10,11,7,9,8]),(6,[4,5,3],[7,9,10,11,8]),(7,[2,6,4,5,3],[8,10,11,9]),(8,[7,2,6,4,5,3],[9,10,11]),(9,[1,8,6,0,7,4,5,2,3],[10,11]),(10,[0,1,2,3,4,5,6,7,8,9],[11]),(11,[10,9,0,1,2,3,4,5,6,7,8],[])] [0,1,2,3,4,5,6,7,8,9,10,11] [(0,70,.ptr 768 5,[]),(1,71,.sl (.own 5056 0) 3 M,[9]),(2,72,.v (.string (str n)),[]),(3,73,.ptr 256 0,[]),(4,74,Et l.entries,[]),(5,75,.v (.string (str n)),[]),(6,76,.agg (An l.entries n).c,[]),(7,77,.agg (Atom.mk n (An l.entries n)).c,[]),(8,78,.sl (.own 4992 0) 3 [(Atom.mk n (An l.entries n)).c],[]),(9,79,.sl (.own 5056 0) 3 (M++[(Atom.mk n (An l.entries n)).c]),[]),(10,80,.ptr 768 5,[])] (λb=>[(2,I label),(3,.ptr 192 0),(4,.ptr 256 0),(6,.ptr 384 0),(12,.ptr 768 0),(14,.v (.string (str n))),(64,MK (DT x l)),(65,I (DT x l).length),(66,I i)]) (λb=>[(192,x.c),(256,l.c),(384,[.v (.int .i64 0),.v (.int .i64 0),.v (.int .i64 0),.v (.int .i64 0),.v (.int .i64 0),.v (.slice none 0 0)]),(768,[.v (.int .i64 x.proc.site),.v (.int .i64 x.proc.inc),.v (.int .i64 x.proc.num),I label,I (x.cost*((x.AB.entries.length:Int)-l.entries.length+1)),if b 11 then .sl (.own 5056 0) 3 (M++[(Atom.mk n (An l.entries n)).c]) else if b 9 then .undef else .sl (.own 5056 0) 3 M])]) ?_ (λb=>?_) (λb=>?_) B6
   ·exact AT.Aq gI (by simp(disch:=omega)only[go_sem,hw];exact .sl (by rw[hM];rfl))
   ·simp only[Pf,and_true]
    repeat'(with_reducible refine And.intro ?_ ?_)
    all_goals simp(disch:=omega)only[go_sem,hlm]
    all_goals(try first|(refine Av [] rfl (by rfl) ?_ ?_ ?_<;>(simp(disch:=omega)only[go_sem];done))|(refine Av [(_,_)] rfl (by rfl) ?_ ?_ ?_<;>(simp(disch:=omega)only[go_sem];done))|(refine Av [(_,_),(_,_)] rfl (by rfl) ?_ ?_ ?_<;>(simp(disch:=omega)only[go_sem];done))|(refine Av [(_,_),(_,_),(_,_)] rfl (by rfl) ?_ ?_ ?_<;>(simp(disch:=omega)only[go_sem];done))|(refine Bz [] rfl (by rfl) ?_ ?_ ?_<;>(simp(disch:=omega)only[go_sem];done))|(refine Bz [(_,_)] rfl (by rfl) ?_ ?_ ?_<;>(simp(disch:=omega)only[go_sem];done)))
    refine Ab (Ib l.entries n) ?_;simp(disch:=omega)only[go_sem]
    all_goals(try first|(refine Av [] rfl (by rfl) ?_ ?_ ?_<;>(simp(disch:=omega)only[go_sem];done))|(refine Av [(_,_)] rfl (by rfl) ?_ ?_ ?_<;>(simp(disch:=omega)only[go_sem];done))|(refine Av [(_,_),(_,_)] rfl (by rfl) ?_ ?_ ?_<;>(simp(disch:=omega)only[go_sem];done))|(refine Av [(_,_),(_,_),(_,_)] rfl (by rfl) ?_ ?_ ?_<;>(simp(disch:=omega)only[go_sem];done))|(refine Bz [] rfl (by rfl) ?_ ?_ ?_<;>(simp(disch:=omega)only[go_sem];done))|(refine Bz [(_,_)] rfl (by rfl) ?_ ?_ ?_<;>(simp(disch:=omega)only[go_sem];done)))
   ·simp(disch:=omega)only[go_sem];refine hJ _ (i+1) ⟨by omega,trivial⟩ (by omega) (AT.Aq gI ?_);rw[e1];simp(disch:=omega)only[go_sem,hw]
  subst Ba;rw[take_length];clear hJ;refine CU ⟨[],[],[5056]⟩ _ ?_;refine .agg (Ae.AJ ?_);simp(disch:=omega)only[go_sem,N4];exact .sl (by rw[map_map];rfl)
def NV(x:Bu)(s:Save):C1:=N4 x (BQ x.AB s.label).1 s.label
def fP(x:Bu)(s:Save):Bool:=decide ((BQ x.AB s.label).2.2=0)
def KM(x:Bu):Bool:=x.proc.ok&&decide (1<=x.cost)&&decide (x.cost<=1000)&&Bx x.AB&&(!x.waiting||Hm x.Bk)
def IJ(x:Bu):List C1:=x.AB.AA.reverse.map (NV x)++[N4 x CI (-1)]
def Gn(x:Bu):List C1:=if KM x&&x.AB.AA.all (fP x)&&(IJ x).all Cc then IJ x else []
def tW(l:Ledger)(n:Int):(BQ l n).1.entries.length<=l.entries.length:=by grind[BQ,CI,PZ]
def oO{x:Bu}(h:KM x=false):Gn x=[]:=by simp[Gn,h]
def AaI(x:Bu):Ad C0 86 [.agg x.c] [] (Cw (Gn x)) []:=by
 have bad:KM x=false->∀ st',Cx C0 st' [ResultVar.tmp 2]=some [.v (.slice none 0 0)]->Xx ⟨C0,[]⟩ [ResultVar.tmp 2] (Cw (Gn x)) [] .ret st':=λh st' hr=>by
  rw[oO h];exact AY ⟨[],[],[]⟩ _ hr ⟨rfl,rfl⟩ (by simp) (.A8 (by omega)) trivial
 refine Ad.go f86 ?_;unfold f86;refine gO ?_;refine Ab (KI x.proc) ?_;cases h1:x.proc.ok
 ·refine gO ?_;exact bad (by simp[KM,h1]) _ (by simp only[go_sem,Cx,Gv])
 by_cases h2:x.cost<1
 ·refine gS ?_;exact bad (by grind[KM]) _ (by simp only[go_sem,Cx,Gv])
 by_cases h3:1000<x.cost
 ·refine gS ?_;exact bad (by grind[KM]) _ (by simp only[go_sem,Cx,Gv])
 refine gS ?_;refine Ab (M6 x.AB) ?_;cases h4:Bx x.AB
 ·refine gO ?_;exact bad (by simp[KM,h4]) _ (by simp only[go_sem,Cx,Gv])
 have mc:x.AB.entries.length<=72/\x.AB.AA.length<=4:=by simp_all[Bx]
 cases h5:x.waiting
 case' true =>
  refine gO ?_;refine Ab (Vf x.Bk) ?_;cases h6:Hm x.Bk
  ·refine gO ?_;exact bad (by grind[KM]) _ (by simp only[go_sem,Cx,Gv])
  have hg:KM x=true:=by grind[KM]
  refine gO ?_
 case' false =>
  have hg:KM x=true:=by grind[KM]
  refine gO ?_
 all_goals
  refine Ao (α:=Nat) (λk=>⟨[(1,.ptr 64 0),(3,.sl (.own 4928 0) 6 (((x.AB.AA.reverse.take k).map λs=>(NV x s).c))),(4,I ((x.AB.AA.length:Int)-1-k))],[(64,x.c)]⟩) (λk=>k<=x.AB.AA.length/\(x.AB.AA.reverse.take k).all (fP x)=true) (λk=>x.AB.AA.length-k) 0 ⟨by omega,rfl⟩ ?_ ?_
  ·refine AT.Aq (by simp(disch:=omega)only[go_sem];exact .int (by omega)) (by simp(disch:=omega)only[go_sem,h5])
  rintro k ⟨hk,hP⟩ J hJ
  by_cases X7:k<x.AB.AA.length
  ·obtain⟨n,hn⟩:∃ n:Nat,n=x.AB.AA.length-1-k:=⟨_,rfl⟩;have Ok:(x.AB.AA.length:Int)-1-k=(n:Int):=by omega
   obtain⟨s,hs⟩:∃ s,x.AB.AA[n]?=some s:=⟨_,gE (by omega)⟩;have hr:x.AB.AA.reverse[k]?=some s:=by grind
   have e1:((0:Int)<=(n:Int))=True:=eq_true (by omega);have rX:s∈x.AB.AA:=mG hs;have ID:k+1<=4294967296:=by omega
   have pJ:=tW x.AB s.label;have V0:NV x s=N4 x (BQ x.AB s.label).1 s.label:=rfl;have huo:fP x s=decide ((BQ x.AB s.label).2.2=0):=rfl;have hf:=kf x.AB s.label;have yX:((((x.AB.AA.reverse.take k).map λs=>(NV x s).c))).length=k:=by grind
   have hOW:((((x.AB.AA.reverse.take (k+1)).map λs=>(NV x s).c)))=(((x.AB.AA.reverse.take k).map λs=>(NV x s).c))++[(NV x s).c]:=by grind[take_add_one]
   obtain⟨M,hM⟩:∃ M,M=(((x.AB.AA.reverse.take k).map λs=>(NV x s).c)):=⟨_,rfl⟩;rw[<- hM]at yX hOW;generalize BQ x.AB s.label=u at pJ V0 huo hf;obtain⟨u1,u2,u3⟩:=u;simp only at pJ V0 huo hf;simp(disch:=omega)only[go_sem,Ok,e1,decide_true];refine F5 [(0,[],[1,15,16,17,9,10,11,12,13]),(1,[0],[9,15,16,17,10,11,12,13]),(2,[],[3,15,16,17,4,6,7,8,9,10,11,12,13]),(3,[2],[4,15,16,17,6,7,8,9,10,11,12,13]),(4,[3,2],[6,15,16,17,7,8,9,10,11,12,13]),(5,[],[6,15,16,17,7,8,9,10,11,12,13]),(6,[4,5,3,2],[7,15,16,17,8,9,10,11,12,13]),(7,[6,4,5,3,2],[8,15,16,17,9,10,11,12,13]),(8,[7,6,4,5,3,2],[9,15,16,17,10,11,12,13]),(9,[1,8,0,7,6,4,5,3,2],[10,15,16,17,11,12,13]),(10,[9,1,8,0,7,6,4,5,3,2],[11,12,13,15,16,17]),(11,[10,9,1,8,0,7,6,4,5,3,2],[15,16,17]),(12,[10,9,1,8,0,7,6,4,5,3,2],[16,17]),(13,[10,9,1,8,0,7,6,4,5,3,2],[17]),(14,[],[15,16,17]),(15,[14,11,9,0,1,2,3,4,5,6,7,8,10],[16,17]),(16,[12,15,0,1,2,3,4,5,6,7,8,9,10,11,14],[17]),(17,[13,16,0,1,2,3,4,5,6,7,8,9,10,11,12,14,15],[])] [0,1,2,3,4,5,6,7,8,9,10,11,12,13,14,15,16,17] [(0,50,.ptr 64 4,[]),(1,51,.agg x.AB.c,[]),(2,52,.ptr 64 4,[]),(3,53,.ptr 64 5,[]),(4,54,NA x.AB.AA,[]),(5,55,I n,[]),(6,56,.ep .no n s.c 0,[]),(7,57,.ep .no n s.c 0,[]),(8,58,I s.label,[]),(9,59,.BC [.agg u1.c,BG u2,I u3],[]),(10,49,.BC [.agg u1.c,BG u2,I u3],[]),(11,60,.agg u1.c,[]),(12,61,BG u2,[]),(13,62,I u3,[]),(14,5,.ptr 320 0,[]),(16,6,BG u2,[]),(17,7,I u3,[])] (λb=>[(1,.ptr 64 0),(3,.sl (.own 4928 0) 6 M),(4,I n)]) (λb=>if b 14 then [(320,if b 15 then u1.c else [.v (.slice none 0 0),.v (.slice none 0 0)]),(64,x.c)] else [(64,x.c)]) ?_ (λb=>?_) (λb=>?_) B6
   ·exact AT.Aq (by simp(disch:=omega)only[go_sem];exact .sl (by rw[hM];rfl)) gI
   ·simp only[Pf,and_true];cases h14:b 14
    all_goals repeat'(with_reducible refine And.intro ?_ ?_)
    all_goals simp(disch:=omega)only[go_sem,gm,hs,h14]
    all_goals(try first|(refine Av [] rfl (by rfl) ?_ ?_ ?_<;>(simp(disch:=omega)only[go_sem];done))|(refine Av [(_,_)] rfl (by rfl) ?_ ?_ ?_<;>(simp(disch:=omega)only[go_sem];done))|(refine Av [(_,_),(_,_)] rfl (by rfl) ?_ ?_ ?_<;>(simp(disch:=omega)only[go_sem];done))|(refine Av [(_,_),(_,_),(_,_)] rfl (by rfl) ?_ ?_ ?_<;>(simp(disch:=omega)only[go_sem];done))|(refine Bz [] rfl (by rfl) ?_ ?_ ?_<;>(simp(disch:=omega)only[go_sem];done))|(refine Bz [(_,_)] rfl (by rfl) ?_ ?_ ?_<;>(simp(disch:=omega)only[go_sem];done)))
    all_goals(refine Ab hf ?_)
    all_goals simp(disch:=omega)only[go_sem]
    all_goals(try first|(refine Av [] rfl (by rfl) ?_ ?_ ?_<;>(simp(disch:=omega)only[go_sem];done))|(refine Av [(_,_)] rfl (by rfl) ?_ ?_ ?_<;>(simp(disch:=omega)only[go_sem];done))|(refine Av [(_,_),(_,_)] rfl (by rfl) ?_ ?_ ?_<;>(simp(disch:=omega)only[go_sem];done))|(refine Av [(_,_),(_,_),(_,_)] rfl (by rfl) ?_ ?_ ?_<;>(simp(disch:=omega)only[go_sem];done))|(refine Bz [] rfl (by rfl) ?_ ?_ ?_<;>(simp(disch:=omega)only[go_sem];done))|(refine Bz [(_,_)] rfl (by rfl) ?_ ?_ ?_<;>(simp(disch:=omega)only[go_sem];done)))
   by_cases hx:u3=0
   rotate_left
   ·have Vt:(u3 !=0)=true:=by grind
    have Y5:Gn x=[]:=by grind[Gn]
    simp(disch:=omega)only[go_sem,Vt];rw[Y5];refine Al _ ?_;exact .A8 (by omega)
   subst hx;refine gO ?_;refine F5 [(0,[],[12,13]),(1,[],[10,13,11,12]),(2,[],[10,13,11,12]),(3,[],[4,13,5,7,8,9,10,11,12]),(4,[3],[5,13,7,8,9,10,11,12]),(5,[4,3],[7,13,8,9,10,11,12]),(6,[],[7,13,8,9,10,11,12]),(7,[5,6,4,3],[8,13,9,10,11,12]),(8,[7,5,6,4,3],[9,13,10,11,12]),(9,[8,7,5,6,4,3],[10,13,11,12]),(10,[1,2,9,8,7,5,6,4,3],[11,12,13]),(11,[10,1,2,9,8,7,5,6,4,3],[12,13]),(12,[0,11,10,1,2,9,8,7,5,6,4,3],[13]),(13,[12,0,1,2,3,4,5,6,7,8,9,10,11],[])] [0,1,2,3,4,5,6,7,8,9,10,11,12,13] [(0,65,.sl (.own 4928 0) 6 M,[12]),(1,66,.agg x.c,[]),(2,67,.agg u1.c,[]),(3,68,.ptr 64 4,[]),(4,69,.ptr 64 5,[]),(5,70,NA x.AB.AA,[]),(6,71,I n,[]),(7,72,.ep .no n s.c 0,[]),(8,73,.ep .no n s.c 0,[]),(9,74,I s.label,[]),(10,75,.agg (N4 x u1 s.label).c,[]),(11,76,.sl (.own 4864 0) 6 [(N4 x u1 s.label).c],[]),(12,77,.sl (.own 4928 0) 6 (M++[(N4 x u1 s.label).c]),[]),(13,3,.sl (.own 4928 0) 6 (M++[(N4 x u1 s.label).c]),[])] (λb=>[(1,.ptr 64 0),(3,if b 12 then .undef else .sl (.own 4928 0) 6 M),(4,I n),(5,.ptr 320 0)]) (λb=>[(320,u1.c),(64,x.c)]) ?_ (λb=>?_) (λb=>?_) B6
   ·exact AT.Aq gI gI
   ·simp only[Pf,and_true]
    repeat'(with_reducible refine And.intro ?_ ?_)
    all_goals simp(disch:=omega)only[go_sem,gm,hs,yX]
    all_goals(try first|(refine Av [] rfl (by rfl) ?_ ?_ ?_<;>(simp(disch:=omega)only[go_sem];done))|(refine Av [(_,_)] rfl (by rfl) ?_ ?_ ?_<;>(simp(disch:=omega)only[go_sem];done))|(refine Av [(_,_),(_,_)] rfl (by rfl) ?_ ?_ ?_<;>(simp(disch:=omega)only[go_sem];done))|(refine Av [(_,_),(_,_),(_,_)] rfl (by rfl) ?_ ?_ ?_<;>(simp(disch:=omega)only[go_sem];done))|(refine Bz [] rfl (by rfl) ?_ ?_ ?_<;>(simp(disch:=omega)only[go_sem];done))|(refine Bz [(_,_)] rfl (by rfl) ?_ ?_ ?_<;>(simp(disch:=omega)only[go_sem];done)))
    refine Ab (kg x u1 s.label pJ (by omega) (by omega)) ?_;simp(disch:=omega)only[go_sem]
    all_goals(try first|(refine Av [] rfl (by rfl) ?_ ?_ ?_<;>(simp(disch:=omega)only[go_sem];done))|(refine Av [(_,_)] rfl (by rfl) ?_ ?_ ?_<;>(simp(disch:=omega)only[go_sem];done))|(refine Av [(_,_),(_,_)] rfl (by rfl) ?_ ?_ ?_<;>(simp(disch:=omega)only[go_sem];done))|(refine Av [(_,_),(_,_),(_,_)] rfl (by rfl) ?_ ?_ ?_<;>(simp(disch:=omega)only[go_sem];done))|(refine Bz [] rfl (by rfl) ?_ ?_ ?_<;>(simp(disch:=omega)only[go_sem];done))|(refine Bz [(_,_)] rfl (by rfl) ?_ ?_ ?_<;>(simp(disch:=omega)only[go_sem];done)))
   refine gO ?_;refine hJ _ (k+1) ⟨by omega,by grind[H4]⟩ (by omega) (AT.Aq ?_ gI);rw[hOW,V0];refine gO ?_;exact .int (by omega)
  have Nt:k=x.AB.AA.length:=by omega
  subst Nt;have htl:List.take x.AB.AA.length x.AB.AA.reverse=x.AB.AA.reverse:=by grind[List.length_reverse]
  rw[htl]at hP ⊢;rw[List.all_reverse]at hP;have e1:((0:Int)<=(x.AB.AA.length:Int)-1-(x.AB.AA.length:Int))=False:=eq_false (by omega);have ID:x.AB.AA.length+1<=4294967296:=by omega
  clear hJ;simp(disch:=omega)only[go_sem,e1,decide_false];refine Ab (kg x CI (-1) (by simp[CI]) (by omega) (by omega)) ?_ (hx:=by simp(disch:=omega)only[go_sem,CI];exact .agg (Ae.AJ ⟨.A8 (by omega),.A8 (by omega),trivial⟩));simp(disch:=omega)only[go_sem,length_map,List.length_reverse];have Ka:IJ x=x.AB.AA.reverse.map (NV x)++[N4 x CI (-1)]:=rfl;have ft:(IJ x).map C1.c=x.AB.AA.reverse.map (λs=>(NV x s).c)++[(N4 x CI (-1)).c]:=by simp_all
  have QG:(IJ x).length=x.AB.AA.length+1:=by grind
  have AhZ:Gn x=if (IJ x).all Cc then IJ x else []:=by grind[Gn]
  refine AF ((IJ x)) (λi=>⟨[(3,.sl (.own 5312 0) 6 ((IJ x).map C1.c)),(84,.sl (.own 5312 0) 6 ((IJ x).map C1.c)),(85,I (IJ x).length),(86,I i)],[(64,x.c)]⟩) (λi=>((IJ x).take i).all Cc=true) rfl ?_ ?_
  ·refine AT.Aq ?_ ?_
   all_goals(try simp(disch:=omega)only[go_sem,ft,QG])
   all_goals(try(repeat'(with_reducible apply And.intro)))
   all_goals(first|exact .Cr (by omega)|exact .A8 (by omega)|exact .sl (by simp[ft,QG])|exact .int (by simp[ft,QG])|exact .eq (by simp[ft,QG]))
  rintro i ⟨hi,hP⟩ J hJ;refine gO ?_;refine Bo hi (λAP b hb Cg AX=>?_) λBa=>?_
  simp(disch:=omega)only[go_sem,hb]
  ·refine Ab (hZ b) ?_;cases ix:Cc b
   ·have:Gn x=[]:=by grind
    rw[this];refine gO ?_;refine Al _ ?_;exact .A8 (by omega)
   ·simp(disch:=omega)only[go_sem];refine hJ _ (i+1) ⟨by omega,(by grind[H4])⟩ (by omega) AK
  subst Ba;rw[take_length]at hP;rw[AhZ,hP,if_pos rfl];refine CU ⟨[],[],[5312]⟩ _ ?_;simp(disch:=omega)only[go_sem]
end Go.Rd
