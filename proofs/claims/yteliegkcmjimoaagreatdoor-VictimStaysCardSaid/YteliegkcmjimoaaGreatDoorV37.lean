/- part 37 of the proof -/
import Derived.Test.YteliegkcmjimoaaGreatDoorV36
set_option linter.all false
open Go Go.Abs Go.Proofs
set_option maxRecDepth 100000
namespace Go.Rd
set_option maxHeartbeats 8000000
open List (cons_append length_cons length_map map_cons map_map map_nil mem_cons nil_append take_add_one take_length)
open Bool (and_eq_true false_eq_true)
open Option (toList_some)
open Nat (le_refl)
open Tryz
def YI{s:WS}{o:Ip}(hv:A7 s=true)(h:(Fe s o).2=0):A7 (Fe s o).1=true:=by
 unfold Fe at h ⊢;rw[if_pos hv]at h ⊢;split at h
 ·rename_i ho;split at h
  ·rename_i hp;rw[if_pos ho,if_pos hp];exact Yo hv (by simpa [BL]using hp)
  ·simp at h
 ·simp at h
def Yg(x:WS × List Ad):Bool:=(DH x.1 x.2).all λp=>BL x.2 p
theorem aH(s:WS)(opts:List Ip)(S:List Nat):HX s opts S=match Sm opts S (s,[]) with
 |some x=>Yg x
 |none=>false:=by
 unfold HX Yg;cases Sm opts S (s,[])<;>rfl
def bE(s:WS)(opts:List Ip)(S:List Nat)(hv:A7 s=true)(hl:opts.length<=1000000)(hS:S.length<=1000000)(hi:∀ i∈S,i<opts.length)(hw:∀ o∈opts,o.lower.length<=1000000):Ac C0 44 [.agg s.c,ID opts,NQ S] [] (B (HX s opts S)) []:=by
 rw[aH];refine Ac.go f44 ?_;unfold f44;refine gO ?_;refine Ao (α:=Nat × WS × List Ad) (λx=>⟨[(1,ID opts),(16,NQ S),(17,I S.length),(18,I x.1),(3,.ptr 192 0),(7,.sl (.own 2624 0) 3 (x.2.2.map Ad.c))],[(192,x.2.1.c)]⟩) (λx=>x.1<=S.length/\A7 x.2.1=true/\x.2.2.length=x.1/\Sm opts (S.drop x.1) x.2=Sm opts S (s,[])) (λx=>S.length-x.1) (0,s,[]) ⟨by simp,hv,rfl,rfl⟩ ?_ ?_
 ·refine AQ.An ?_ gI;simp(disch:=omega)only[go_sem]
 rintro⟨i,t,V⟩ ⟨j1,j2,j3,j4⟩ J hJ
 replace j1:i<=S.length:=j1
 replace j2:A7 t=true:=j2
 replace j3:V.length=i:=j3
 replace j4:Sm opts (S.drop i) (t,V)=Sm opts S (s,[]):=j4
 by_cases Au:i<S.length
 ·have e1:((i:Int)<(S.length:Int))=True:=eq_true (by omega);obtain⟨k,hk⟩:∃ k,S[i]?=some k:=⟨_,gE Au⟩;have bV:=hi k (mG hk);obtain⟨o,Ce⟩:∃ o,opts[k]?=some o:=⟨_,gE bV⟩;simp(disch:=omega)only[go_sem,e1,gm,hk,decide_true];have hf:=Lq j2;have CZ:Sm opts (S.drop i) (t,V)=if (Fe t o).2=0 then Sm opts (S.drop (i+1)) ((Fe t o).1,V++[o.proc]) else none:=by
   have e:S.drop i=k::S.drop (i+1):=by
    rw[List.drop_eq_getElem_cons Au];rw[gE Au]at hk;rw[Option.some.inj hk]
   rw[e];simp only[Sm,Ce]
  have hval:=YI (o:=o) j2;generalize hA:Fe t o=c at CZ hval;obtain⟨u,x⟩:=c;refine C8 4095 [(0,1,0),(1,2,0),(2,4,0),(3,8,6),(4,16,8),(5,32,17),(6,64,32),(7,128,64),(8,256,64),(9,512,0),(10,1024,767),(11,2048,2047)] [0,1,2,4,512,3,5,513,6,514,516,7,515,517,14,518,15,519,30,526,31,527,542,63,543,127,575,255,383,639,511,767,895,1023,1791,2047,4095] (λm=>⟨Vm m [(1,23,.agg t.c),(2,24,ID opts),(4,25,I k),(8,26,.ep .no k o.c 0),(16,27,.agg o.c),(32,28,.Bl [.agg u.c,I x]),(64,22,.Bl [.agg u.c,I x]),(128,29,.agg u.c),(256,30,I x),(512,10,.ptr 640 0),(2048,11,I x)]++[(1,ID opts),(16,NQ S),(17,I S.length),(18,I i),(3,.ptr 192 0),(7,.sl (.own 2624 0) 3 (V.map Ad.c)),(9,I k)],((if m / 512%2=1 then [(640,(if m / 1024%2=1 then u.c else Qs.c))] else [])++[(192,t.c)])⟩) ?_ ?_ ?_ B7
  ·exact AQ.An gI gI
  ·simp (maxSteps:=100000000)only[C7,C6,DS,DR,and_true,Nat.reduceDiv,Nat.reduceMod,Nat.reduceAnd,Nat.reduceEqDiff,reduceIte,true_and,and_false,false_and,and_self]
   repeat'(with_reducible refine And.intro ?_ ?_)
   all_goals simp(disch:=omega)only[go_sem,gm,Ce,nil_append,Qs]
   all_goals first|exact AQ.An gI (by simp(disch:=omega)only[go_sem,nil_append,cons_append,Qs];try(repeat'(with_reducible apply And.intro));all_goals exact .AD (by omega))|exact AQ.An gI (by simp(disch:=omega)only[go_sem,nil_append,cons_append])|(refine Ab (tw t o hf (hw o (mG Ce))) ?_;rw[hA];simp(disch:=omega)only[go_sem];exact AQ.An gI (by simp(disch:=omega)only[go_sem,nil_append,cons_append]))
  by_cases hx:x=0
  ·subst hx;have IY:V.length+1<=4294967296:=by omega
   simp(disch:=omega)only[go_sem,gm,Ce,nil_append,cons_append,length_map];refine hJ _ (i+1,u,V++[o.proc]) ⟨Au,hval rfl,by simp[j3],by rw[<- j4,CZ];simp⟩ (by simp;omega) (AQ.An ?_ gI);refine gO ?_;exact .sl (by simp[Ad.c])
  ·have UQ:(x==0)=false:=by simpa using hx
   have yq:(x !=0)=true:=by simpa using hx
   rw[<- j4,CZ,if_neg hx];simp(disch:=omega)only[go_sem,UQ,yq,nil_append,cons_append];exact AM _
 ·have e1:((i:Int)<(S.length:Int))=False:=eq_false (by omega);simp(disch:=omega)only[go_sem,e1,decide_false];have hf:=Lq j2;have AaS:Sm opts S (s,[])=some (t,V):=by
   rw[<- j4,List.drop_eq_nil_of_le (by omega)];rfl
  rw[AaS];refine FC [2624] (Xr t V hf (by omega)) gI rfl ?_;have e:EN t V=(DH t V,0):=by simp[EN,j2]
  rw[e];have XU:(DH t V).length<=20000:=by
   have h1:=(R7 (Am t).length t V (Dq j2) (le_refl _)).2.2.1;exact Nat.le_trans (Dg _ _ (LG _) h1) (Da hf)
  refine gO ?_;clear hJ;refine AH ((DH t V)) (λi=>⟨[(53,I i),(52,I (DH t V).length),(51,AA (DH t V)),(7,AA V)],[]⟩) (λi=>((DH t V).take i).all (λp=>BL V p)=true) rfl ?_ ?_
  ·exact B9
  rintro i ⟨hi,hP⟩ J hJ;refine gO ?_;refine Bp hi (λAu b hb Cc AR=>?_) λBf=>?_
  simp(disch:=omega)only[go_sem,gm,hb]
  ·refine Ab (Jd V b (by omega)) ?_;cases QT:BL V b
   ·simp(disch:=omega)only[go_sem];refine Aj _ ?_;exact wb (by
     have:(DH t V).all (λp=>BL V p)=false:=by rw[List.all_eq_false];exact⟨b,Cc,by simp[QT]⟩
     simp[Yg,this])
   ·simp(disch:=omega)only[go_sem];refine hJ _ (i+1) ⟨by omega,(by rw[take_add_one,hb];simp[hP,QT])⟩ (by omega) AS
  ·subst Bf;rw[take_length]at hP;refine Aj _ ?_;exact wb (by simp[Yg,hP])
def OX(s:WS)(l:List Ip):GI s l=true↔A7 s=true/\l.length<=40/\∀ o∈l,EM o=true/\o.proc∈(C2 s).2:=by
 simp only[GI,and_eq_true,decide_eq_true_eq,List.all_eq_true,N3,BL];constructor
 ·rintro⟨⟨a,b⟩,c⟩;exact⟨a,b,λo ho=>⟨(c o ho).1,by simpa using (c o ho).2⟩⟩
 ·rintro⟨a,b,c⟩;exact⟨⟨a,b⟩,λo ho=>⟨(c o ho).1,by simpa using (c o ho).2⟩⟩
def Wv{o:Ip}(h:EM o=true):o.lower.length<=8:=by
 simp only[EM,and_eq_true,decide_eq_true_eq]at h;exact h.1.2
def MS(opts:List Ip):Int->List Ad->List Int->Bool
 |_,_,[]=>true
 | last,V,i::S=>if i<=last then false else match opts[i.toNat]? with
  |some o=>if BL V o.proc then false else MS opts i (V++[o.proc]) S
  |none=>false
def JB(s:WS)(opts:List Ip)(S:List Int):Bool:=GI s opts&&(MS opts (-1) [] S&&HX s opts (S.map Int.toNat))
def Wu{opts:List Ip}:∀ (S:List Int) (last:Int) (V:List Ad),-1<=last->MS opts last V S=true->∀ i∈S,0<=i/\i.toNat<opts.length
 |[],_,_,_,_,i,hi=>by cases hi
 | k::S,last,V,hl,h,i,hi=>by
  simp only[MS]at h;split at h
  ·cases h
  ·rename_i hk;split at h
   ·rename_i o ho;split at h
    ·cases h
    ·rcases mem_cons.1 hi with rfl|hi
     ·exact⟨by omega,(List.getElem?_eq_some_iff.1 ho).1⟩
     ·exact Wu S k _ (by omega) h i hi
   ·cases h
def kY{opts:List Ip}{S:List Int}(h:∀ i∈S,0<=i/\i.toNat<opts.length):JN S=NQ (S.map Int.toNat):=by
 unfold JN NQ;rw[map_map];congr 1;refine List.map_congr_left λi hi=>?_
 have:=(h i hi).1;simp only[Function.comp,uN];rw[Int.toNat_of_nonneg this]
def nv{α:Type}{S:List α}{i:Nat}{k:α}(h:S[i]?=some k):S.drop i=k::S.drop (i+1):=by
 obtain⟨hl,rfl⟩:=List.getElem?_eq_some_iff.1 h;exact List.drop_eq_getElem_cons hl
def jR(s:WS)(opts:List Ip)(S:List Int)(h:Iq s)(hl:opts.length<=1000000)(hS:S.length<=1000000):Ac C0 20 [.agg s.c,ID opts,JN S] [] (B (JB s opts S)) []:=by
 refine Ac.go f20 ?_;unfold f20;refine gO ?_;refine Ab (bC s opts h hl) ?_;cases hv:GI s opts
 ·simp(disch:=omega)only[go_sem];refine Aj _ ?_;exact wb (by simp[JB,hv])
 obtain⟨v1,v2,v3⟩:=(OX s opts).1 hv;refine gO ?_;refine Ao (α:=Nat × Int × List Ad) (λx=>⟨[(1,ID opts),(2,JN S),(3,.ptr 192 0),(7,I x.2.1),(8,.sl (.own 3008 0) 3 (x.2.2.map Ad.c)),(15,JN S),(16,I S.length),(17,I x.1)],[(192,s.c)]⟩) (λx=>x.1<=S.length/\x.2.2.length=x.1/\-1<=x.2.1/\MS opts x.2.1 x.2.2 (S.drop x.1)=MS opts (-1) [] S) (λx=>S.length-x.1) (0,-1,[]) ⟨by simp,rfl,by simp,rfl⟩ AS ?_;rintro⟨i,last,V⟩ ⟨j1,j2,j3,j4⟩ J hJ;simp only at j1 j2 j3 j4
 by_cases Au:i<S.length
 ·have e1:((i:Int)<(S.length:Int))=True:=eq_true (by omega);obtain⟨k,hk⟩:∃ k,S[i]?=some k:=⟨_,gE Au⟩;rw[nv hk]at j4;simp only[MS]at j4
  by_cases c1:k<=last
  ·rw[if_pos c1]at j4;simp(disch:=omega)only[go_sem,e1,gm,hk,eq_true c1,decide_true];refine Aj _ ?_;exact wb (by simp[JB,<- j4])
  rw[if_neg c1]at j4
  by_cases c2:(opts.length:Int)<=k
  ·have c3:opts[k.toNat]?=none:=List.getElem?_eq_none (by omega);rw[c3]at j4;simp(disch:=omega)only[go_sem,e1,gm,hk,eq_false c1,eq_true c2,decide_true,decide_false,length_map];refine Aj _ ?_;exact wb (by simp[JB,<- j4])
  obtain⟨n,rfl⟩:∃ n:Nat,k=n:=⟨k.toNat,by omega⟩;obtain⟨o,ho⟩:∃ o,opts[n]?=some o:=⟨_,gE (by omega)⟩;rw[Int.toNat_natCast,ho]at j4;simp only at j4;simp(disch:=omega)only[go_sem,e1,gm,hk,eq_false c1,eq_false c2,decide_true,decide_false,length_map,ho];refine Cb [3008] (Jd V o.proc (by omega)) gI rfl trivial ?_;cases hd:BL V o.proc
  ·rw[hd]at j4;simp only[false_eq_true,if_false]at j4;have IY:V.length+1<=4294967296:=by omega
   simp(disch:=omega)only[go_sem,gm,ho,length_map];refine hJ _ (i+1,n,V++[o.proc]) ⟨Au,by simp[j2],by simp only;omega,j4⟩ (by simp;omega) (AQ.An ?_ gI);refine gO ?_;exact .sl (by simp[Ad.c])
  ·rw[hd]at j4;simp only[if_true]at j4;refine gO ?_;refine Aj _ ?_;exact wb (by simp[JB,<- j4])
 ·have e1:((i:Int)<(S.length:Int))=False:=eq_false (by omega);rw[List.drop_eq_nil_of_le (by omega)]at j4;simp only[MS]at j4;have HT:=Wu S (-1) [] (by omega) j4.symm;rw[kY HT];simp(disch:=omega)only[go_sem,e1,decide_false];refine Ab (bE s opts (S.map Int.toNat) v1 hl (by simpa using hS) (λi hi=>by obtain⟨k,hk,rfl⟩:=List.mem_map.1 hi;exact(HT k hk).2) (λo ho=>by have:=Wv (v3 o ho).1;omega)) ?_ (hx:=by simp(disch:=omega)only[go_sem];exact .sl (by rw[map_map]));refine gO ?_;refine Aj _ ?_;exact wb (by simp[JB,hv,<- j4])
def Xf(c:List Nat × Int):List AV:=[NQ c.1,I c.2]
attribute [go_sem] Xf
def jA{s:WS}(hv:A7 s=true):(FE s).length<=8:=by
 have hg:=Dq hv;have h1:=Dg _ _ (bx s hg) (jB _ s hg (le_refl _));have h2:=((GJ s).1 hv).2.2;omega
def mj{s:WS}{l:List Ip}{i:Nat}{o:Ip}(h:l[i]?=some o):(BP s l).aT i=o.proc/\(BP s l).cost i=o.cost:=by
 simp[BP,h]
def Qj{s:WS}{l:List Ip}(hv:GI s l=true){i:Nat}(hi:i<l.length):∃ o,l[i]?=some o/\o∈l/\EM o=true/\o.proc∈FE s/\(BP s l).aT i=o.proc/\(BP s l).cost i=o.cost:=by
 have h1:=gE hi;have hm:=mG h1;obtain⟨_,_,h3⟩:=(OX s l).1 hv;exact⟨_,h1,hm,(h3 _ hm).1,(h3 _ hm).2,mj h1⟩
def Z7{o:Ip}(h:EM o=true):1<=o.cost/\o.cost<=1073741824:=by
 simp only[EM,and_eq_true,decide_eq_true_eq]at h;exact⟨h.1.1.1.2,h.1.1.2⟩
def iA{s:WS}{l:List Ip}(hv:GI s l=true):∀ i,i<(BP s l).n->1<=(BP s l).cost i/\(BP s l).cost i<=1073741824:=λi hi=>by
 obtain⟨o,_,_,h1,_,_,h2⟩:=Qj hv hi;rw[h2];exact Z7 h1
def c8{P:Srch}(hc:∀ i,i<P.n->1<=P.cost i/\P.cost i<=1073741824):∀ {S:List Nat},(∀ i∈S,i<P.n)->0<=Fk P.cost S/\Fk P.cost S<=1073741824*S.length
 |[],_=>by simp[Fk]
 | i::S,h=>by
  have h1:=hc i (h i (by simp));have h2:=c8 hc (S:=S) λj hj=>h j (by simp[hj])
  simp only[Fk,length_cons];omega
def mi{P:Srch}{S:List Nat}(h:isSet P S):S.length<=P.n:=by
 have:=Dg S (List.range P.n) (h.1.imp λh=>by omega) λx hx=>List.mem_range.2 (h.2.1 x hx)
 simpa using this
def fB{s:WS}{l:List Ip}(hv:GI s l=true){S:List Nat}{i:Nat}(hi:i<l.length):NS (FE s) (S.map (BP s l).aT) &&& FW (FE s) ((BP s l).aT i)=0↔again (BP s l) S i=false:=by
 obtain⟨o,_,_,_,h1,h2,_⟩:=Qj hv hi;rw[mA,h2];cases ha:again (BP s l) S i with
 | true =>
  rw[Vs,h2]at ha;simp[h1,ha]
 | false =>
  have:¬ o.proc∈S.map (BP s l).aT:=λhm=>by
   rw[<- h2,<- Vs]at hm;rw[ha]at hm;cases hm
  simp[this]
def c7(a b:Nat)(ha:a<4611686018427387904)(hb:b<4611686018427387904):bits .and .i64 (a:Int) (b:Int)=((a &&& b:Nat):Int):=by
 have hx:a &&& b<2 ^ 62:=Nat.and_lt_two_pow _ (by omega);have h1:(BitVec.ofInt 64 (a:Int)).toNat=a:=by
  rw[BitVec.ofInt_natCast,BitVec.toNat_ofNat];exact Nat.mod_eq_of_lt (by omega)
 have h2:(BitVec.ofInt 64 (b:Int)).toNat=b:=by
  rw[BitVec.ofInt_natCast,BitVec.toNat_ofNat];exact Nat.mod_eq_of_lt (by omega)
 show IntKind.i64.wrap ((BitVec.ofInt 64 (a:Int) &&& BitVec.ofInt 64 (b:Int)).toNat:Int)=_;rw[BitVec.toNat_and,h1,h2,IntKind.wrap_i64];omega
def vb(a b:Nat)(ha:a<4611686018427387904)(hb:b<4611686018427387904):bits .or .i64 (a:Int) (b:Int)=((a ||| b:Nat):Int):=by
 have hx:a ||| b<2 ^ 62:=Nat.or_lt_two_pow (by omega) (by omega);have h1:(BitVec.ofInt 64 (a:Int)).toNat=a:=by
  rw[BitVec.ofInt_natCast,BitVec.toNat_ofNat];exact Nat.mod_eq_of_lt (by omega)
 have h2:(BitVec.ofInt 64 (b:Int)).toNat=b:=by
  rw[BitVec.ofInt_natCast,BitVec.toNat_ofNat];exact Nat.mod_eq_of_lt (by omega)
 show IntKind.i64.wrap ((BitVec.ofInt 64 (a:Int) ||| BitVec.ofInt 64 (b:Int)).toNat:Int)=_;rw[BitVec.toNat_or,h1,h2,IntKind.wrap_i64];omega
def GV(s:WS)(st:List Ad):List Nat->List AV
 |[]=>[]
 | k::l=>I k::B (PK s st k)::GV s st l
def Wk(s:WS)(st:List Ad)(v:Nat):∀ l,GV s st l++[I v,B (PK s st v)]=GV s st (l++[v])
 |[]=>rfl
 | k::l=>by simp only[GV,cons_append,Wk s st v l]
@[go_sem] theorem l4(ρ:Rn)(s:WS)(st:List Ad):∀ l,E2 ρ (GV s st l)=GV s st l
 |[]=>rfl
 | k::l=>by simp only[GV,E2,AV.BS,l4 ρ s st l]
@[go_sem] theorem gS(r m:List Nat)(s:WS)(st:List Ad):∀ l,EK r m (GV s st l)=GV s st l
 |[]=>rfl
 | k::l=>by simp only[GV,EK,AV.kill,gS r m s st l]
@[go_sem] theorem Zo(S:List Nat)(s:WS)(st:List Ad):∀ l,DF S (GV s st l)=GV s st l
 |[]=>rfl
 | k::l=>by simp only[GV,DF,AV.freeze,Zo S s st l]
def OB(s:WS)(st:List Ad)(v:Nat):∀ l:List Nat,if v∈l then ∃ j,G4 false [1] [.int .i64 v] (GV s st l)=some (some (j,B (PK s st v))) else G4 false [1] [.int .i64 v] (GV s st l)=some none
 |[]=>by simp[GV,G4]
 | k::l=>by
  have ih:=OB s st v l
  by_cases hk:v=k
  ·subst hk;rw[if_pos (by simp)];exact⟨0,by simp[GV,G4,Gs,BD]⟩
  ·have Ca:((v:Int)==(k:Int))=false:=by simp;omega
   by_cases hm:v∈l
   ·rw[if_pos hm]at ih;obtain⟨j,hj⟩:=ih;rw[if_pos (by simp[hm])];exact⟨j+1,by simp[GV,G4,Gs,BD,Ca,hj]⟩
   ·rw[if_neg hm]at ih;rw[if_neg (by simp[hk,hm])];simp[GV,G4,Gs,BD,Ca,ih]
theorem qb{s:WS}{st:List Ad}{v:Nat}{l:List Nat}(h:v∈l):GR C0.P 151 (GV s st l) (I v)=some (.Bl [B (PK s st v),B true]):=by
 have:=OB s st v l;rw[if_pos h]at this;obtain⟨j,hj⟩:=this;have hm:ZR C0.P 151=some (3,false,[1],4):=F.rU;unfold GR;rw[hm];simp only[Gs,false_eq_true,if_false,hj];rfl
theorem lj{s:WS}{st:List Ad}{v:Nat}{l:List Nat}(h:v∉l):GR C0.P 151 (GV s st l) (I v)=some (.Bl [B false,B false])/\∀ x,Ny C0.P 151 (GV s st l) (I v) x=some (GV s st l++[I v,x]):=by
 have hj:=OB s st v l;rw[if_neg h]at hj;have hm:ZR C0.P 151=some (3,false,[1],4):=F.rU;unfold GR Ny;rw[hm];have hz:aW C0.P 4=some (B false):=by kernel_rfl
 refine⟨?_,λx=>?_⟩
 ·simp only[Gs,false_eq_true,if_false,hj,hz,Option.map_some];rfl
 ·simp only[Gs,false_eq_true,if_false,hj];rfl
def Q3(l:List Nat)(v:Nat):List Nat:=if v∈l then l else l++[v]
def tx(s:WS)(st:List Ad)(l:List Nat)(v:Nat)(hv:A7 s=true)(HH:st.length<=62)(hbv:v<4611686018427387904) :
 Ac C0 93 [I v,.ptr 63 0,.ptr 127 0,.ptr 191 0] [(63,[.mp 31]),(127,s.c),(191,[AA st]),(31,GV s st l)] (B (PK s st v)) [(63,[.mp 31]),(127,s.c),(191,[AA st]),(31,GV s st (Q3 l v))]:=by
 have hf:=Lq hv;have NP:=Da hf;refine Ac.go f93 ?_;unfold f93;refine gO ?_
 by_cases hk:v∈l
 ·have hl:=qb (s:=s) (st:=st) hk;have e:Q3 l v=l:=by simp[Q3,hk]
  rw[e];simp(disch:=omega)only[go_sem,hl];refine AZ ⟨[],[(63,63),(127,127),(191,191),(31,31)],[]⟩ _ (by(try simp(disch:=omega)only[go_sem,Cr,GH])<;>rfl) ⟨rfl,rfl⟩ (by simp[lk]) ?_ ?_
  ·exact gI
  ·exact gI
 obtain⟨hl,HT⟩:=lj (s:=s) (st:=st) hk;have e:Q3 l v=l++[v]:=by simp[Q3,hk]
 rw[e];simp(disch:=omega)only[go_sem,hl];refine Ab (J6 s hf) ?_;simp(disch:=omega)only[go_sem,length_map];refine AH ((Am s)) (λi=>⟨[(0,I v),(1,.ptr 63 0),(2,.ptr 127 0),(3,.ptr 191 0),(6,B false),(8,.sl (.own 2496 0) 3 (((Am s).take i).filter (λp=>decide (v &&& FW st p=0)) |>.map Ad.c)),(24,AA (Am s)),(25,I (Am s).length),(26,I i)],[(63,[.mp 31]),(127,s.c),(191,[AA st]),(31,GV s st l)]⟩) (λi=>True) trivial ?_ ?_
 ·exact B9
 rintro i ⟨hi,hP⟩ J hJ;refine gO ?_;refine Bp hi (λAu b hb Cc AR=>?_) λBf=>?_
 simp(disch:=omega)only[go_sem,gm,hb]
 ·refine Ab (bG st b HH) ?_;have zB:=Su HH b;have hand:=c7 v (FW st b) hbv (by simpa using zB);have IY:((List.filter (λp=>decide (v &&& FW st p=0)) (List.take i (Am s)))).length+1<=4294967296:=by
   have h1:=List.length_filter_le (λp=>decide (v &&& FW st p=0)) (List.take i (Am s));rw[List.length_take]at h1;omega
  have e1:(List.take (i+1) (Am s)).filter (λp=>decide (v &&& FW st p=0))=(if v &&& FW st b=0 then (List.take i (Am s)).filter (λp=>decide (v &&& FW st p=0))++[b] else (List.take i (Am s)).filter (λp=>decide (v &&& FW st p=0))):=by
   rw[take_add_one,hb];simp only[toList_some,List.filter_append,List.filter_cons,List.filter_nil,decide_eq_true_eq];split<;>simp
  simp(disch:=omega)only[go_sem,hand,length_map];refine⟨λh=>?_,λh=>?_⟩
  ·have h0:v &&& FW st b=0:=by simp only[beq_iff_eq]at h;omega
   rw[if_pos h0]at e1;refine hJ _ (i+1) ⟨by omega,trivial⟩ (by omega) (AQ.An ?_ gI);rw[e1];simp(disch:=omega)only[go_sem,List.map_append,map_cons,map_nil]
  ·have h0:¬ v &&& FW st b=0:=by simp only[beq_eq_false_iff_ne,ne_eq]at h;omega
   rw[if_neg h0]at e1;refine hJ _ (i+1) ⟨by omega,trivial⟩ (by omega) (AQ.An ?_ gI);rw[e1];simp(disch:=omega)only[go_sem]
 ·subst Bf;rw[take_length];have ye:(JT s st v).length<=1000000:=by
   have h1:=List.length_filter_le (λp=>decide (v &&& FW st p=0)) (Am s);unfold JT;omega
  refine FC [2496] (tz s (JT s st v) hf ye) (by simp(disch:=omega)only[go_sem,JT]) rfl ?_;have e2:GK s (JT s st v)=(GW s (JT s st v),0):=by simp[GK,hv]
  have pL:=cW hv (JT s st v);have e3:IF (GW s (JT s st v))=C2 (GW s (JT s st v)):=J1 pL;have hh:PK s st v=decide ((C2 (GW s (JT s st v))).2=[]):=rfl;rw[e2];refine gO ?_;refine Ab (bD (GW s (JT s st v)) (Lq pL)) ?_;rw[e3];have hd:(((C2 (GW s (JT s st v))).2.length:Int)==0)=PK s st v:=by
   rw[hh];cases (C2 (GW s (JT s st v))).2<;>simp
   omega
  simp(disch:=omega)only[go_sem,length_map,hd,HT];refine AZ ⟨[],[(63,63),(127,127),(191,191),(31,31)],[]⟩ _ (by(try simp(disch:=omega)only[go_sem,Cr,GH])<;>rfl) ⟨rfl,rfl⟩ (by simp[lk]) ?_ ?_
  ·exact gI
  ·simp(disch:=omega)only[go_sem,Wk]
def ta(s:WS)(st:List Ad):Ac C0 46 [.agg s.c,AA st] [] (.fn 93 [.ptr 0 0,.ptr 1 0,.ptr 2 0]) [(0,[.mp 62]),(1,s.c),(2,[AA st]),(62,[])]:=by
 refine Ac.go f46 ?_;unfold f46;simp(disch:=omega)only[go_sem,cD];refine AZ ⟨[],[(320,0),(128,1),(192,2),(446,62)],[]⟩ _ (by(try simp(disch:=omega)only[go_sem,Cr,GH])<;>rfl) ⟨rfl,rfl⟩ (by simp[lk]) ?_ ?_
 ·exact gI
 ·exact gI
def Dc:Nat->Expr->Bool
 | 0,_=>false
 | d+1,e=>decide (e.kids.length<=10)&&e.kids.all (Dc d)
def sV:∀ (d:Nat),d<=1000->∀ e:Expr,Ac C0 27 [.agg e.c,I d] [] (B (Dc d e)) []:=by
 intro d
 induction d with
 | zero =>
  intro _ e;refine Ac.go f27 ?_;unfold f27;refine gO ?_;refine Aj _ ?_;exact .eq (by simp[Dc])
 | succ d ih =>
  intro hd e;have z1:((d:Int)+1==0)=false:=by simp;omega
  by_cases h1:10<e.kids.length
  ·have e1:(10<(e.kids.length:Int))=True:=eq_true (by omega);refine Ac.go f27 ?_;unfold f27;simp(disch:=omega)only[go_sem,z1,Expr.Cf,length_map,e1,decide_true];refine Aj _ ?_;exact .eq (by simp[Dc];omega)
  have e1:(10<(e.kids.length:Int))=False:=eq_false (by omega);refine Ac.go f27 ?_;unfold f27;simp(disch:=omega)only[go_sem,z1,Expr.Cf,length_map,e1,decide_false];refine AH (e.kids) (λi=>⟨[(5,I i),(1,I ((d:Int)+1)),(2,.ptr 128 0)],[(128,e.c)]⟩) (λi=>(e.kids.take i).all (Dc d)=true) rfl ?_ ?_
  ·exact B9
  rintro i ⟨hi,hP⟩ J hJ;refine gO ?_;refine Bp hi (λAu b hb Cc AR=>?_) λBf=>?_
  simp(disch:=omega)only[go_sem,gm,hb]
  ·refine Ab (ih (by omega) b) ?_ (hx:=by simp(disch:=omega)only[go_sem,Expr.Cf];exact .int (by omega));cases xO:Dc d b
   ·simp(disch:=omega)only[go_sem];refine Aj _ ?_;exact .eq (by simp[Dc,all_false Cc xO])
   ·simp(disch:=omega)only[go_sem];refine hJ _ (i+1) ⟨by omega,by rw[Ko hb,hP,xO];rfl⟩ (by omega) (AQ.An gI (by simp(disch:=omega)only[go_sem,Expr.Cf]))
  ·subst Bf;rw[take_length]at hP;refine Aj _ ?_;exact .eq (by simp only[Dc,hP];simp;omega)
def PB(q:Queue):Bool:=decide (q.holds.length<=10)&&decide (q.Ak.length<=10)&&decide (q.waits.length<=10)
def Gv(s:WS):Bool:=decide (s.Aa.length<=10)&&decide (s.AB.length<=10)&&s.Aa.all PB&&s.AB.all (λn=>Dc 5 n.expr)
def gd{s:WS}(h:Gv s=true):Iq s:=by
 simp only[Gv,PB,and_eq_true,decide_eq_true_eq,List.all_eq_true]at h;refine⟨by omega,by omega,λq hq=>?_⟩;have:=h.1.2 q hq;unfold BC BJ;omega
def sQ(s:WS):Ac C0 10 [.agg s.c] [] (B (Gv s)) []:=by
 refine Ac.lens f10 λhlen=>?_
 simp only[E0,lens,WS.c,length_map,and_true,true_and]at hlen;refine Ac.go f10 ?_;unfold f10
 by_cases h1:10<s.Aa.length
 ·have e1:(10<(s.Aa.length:Int))=True:=eq_true (by omega);have e:Gv s=false:=by simp[Gv];omega
  simp(disch:=omega)only[go_sem,length_map,e1,decide_true];refine Aj _ ?_;exact wb (by rw[e])
 have e1:(10<(s.Aa.length:Int))=False:=eq_false (by omega)
 by_cases h2:10<s.AB.length
 ·have e2:(10<(s.AB.length:Int))=True:=eq_true (by omega);have e:Gv s=false:=by simp[Gv];omega
  simp(disch:=omega)only[go_sem,length_map,e1,e2,decide_false,decide_true];refine Aj _ ?_;exact wb (by rw[e])
 have e2:(10<(s.AB.length:Int))=False:=eq_false (by omega);simp(disch:=omega)only[go_sem,length_map,e1,e2,decide_false];refine AH (s.Aa) (λi=>⟨[(3,I i),(1,.ptr 64 0)],[(64,s.c)]⟩) (λi=>(s.Aa.take i).all PB=true) rfl ?_ ?_
 ·exact B9
 rintro i ⟨hi,hP⟩ J hJ;refine gO ?_;refine Bp hi (λAu b hb Cc AR=>?_) λBf=>?_
 simp(disch:=omega)only[go_sem,gm,hb]
 ·have bad:PB b=false->Gv s=false:=λh=>by simp only[Gv,all_false Cc h,Bool.and_false,Bool.false_and]
  by_cases k1:10<b.holds.length
  ·have d1:(10<(b.holds.length:Int))=True:=eq_true (by omega);simp(disch:=omega)only[go_sem,d1,length_map,decide_true];refine Aj _ ?_;exact wb (by rw[bad (by simp[PB];omega)])
  have d1:(10<(b.holds.length:Int))=False:=eq_false (by omega)
  by_cases k2:10<b.Ak.length
  ·have d2:(10<(b.Ak.length:Int))=True:=eq_true (by omega);simp(disch:=omega)only[go_sem,d1,d2,decide_false,decide_true,gm,hb,length_map];refine Aj _ ?_;exact wb (by rw[bad (by simp[PB];omega)])
  have d2:(10<(b.Ak.length:Int))=False:=eq_false (by omega)
  by_cases k3:10<b.waits.length
  ·have d3:(10<(b.waits.length:Int))=True:=eq_true (by omega);simp(disch:=omega)only[go_sem,d1,d2,d3,decide_false,decide_true,gm,hb,length_map];refine Aj _ ?_;exact wb (by rw[bad (by simp[PB];omega)])
  have d3:(10<(b.waits.length:Int))=False:=eq_false (by omega);have hs:PB b=true:=by simp[PB];omega
  simp(disch:=omega)only[go_sem,d1,d2,d3,decide_false,gm,hb,length_map];refine hJ _ (i+1) ⟨by omega,(by rw[Ko hb,hP,hs];rfl)⟩ (by omega) AS
 subst Bf;rw[take_length]at hP;have hq:=hP;clear hJ hP;refine AH (s.AB) (λi=>⟨[(4,I i),(1,.ptr 64 0)],[(64,s.c)]⟩) (λi=>(s.AB.take i).all (λn=>Dc 5 n.expr)=true) rfl ?_ ?_
 ·exact B9
 rintro i ⟨hi,hP⟩ J hJ;refine gO ?_;refine Bp hi (λAu b hb Cc AR=>?_) λBf=>?_
 simp(disch:=omega)only[go_sem,gm,hb]
 ·refine Ab (sV 5 (by omega) b.expr) ?_;cases xO:Dc 5 b.expr
  ·simp(disch:=omega)only[go_sem];refine Aj _ ?_;exact wb (by simp[Gv,all_false (f:=λn:Need=>Dc 5 n.expr) Cc xO])
  ·simp(disch:=omega)only[go_sem];refine hJ _ (i+1) ⟨by omega,(by rw[Ko hb,hP,xO];rfl)⟩ (by omega) AS
 ·subst Bf;rw[take_length]at hP;refine Aj _ ?_;exact wb (by simp only[Gv,hP,hq];simp;omega)
def sS(l:List Int)(hl:l.length<=1000000):Ac C0 13 [JN l] [] (AA (l.map KS)) []:=by
 refine Ac.go f13 ?_;unfold f13;refine gO ?_;refine AH (l) (λi=>⟨[(4,I i),(0,JN l),(3,.sl (.own 1152 0) 3 ((l.take i).map λx=>(KS x).c))],[]⟩) (λi=>True) trivial ?_ ?_
 ·exact B9
 rintro i ⟨hi,hP⟩ J hJ;refine gO ?_;refine Bp hi (λAu b hb Cc AR=>?_) λBf=>?_
 simp(disch:=omega)only[go_sem,gm,hb]
 ·have hm:min i l.length+1<=4294967296:=by omega
  refine Ab (jT b) ?_;simp(disch:=omega)only[go_sem,length_map,List.length_take];refine hJ _ (i+1) ⟨by omega,trivial⟩ (by omega) (AQ.An ?_ gI);refine gO ?_;exact .sl (by rw[take_add_one,hb];simp[Ad.c])
 ·subst Bf;rw[take_length];refine CK ⟨[],[],[1152]⟩ _ ?_;refine gO ?_;exact .sl (by simp[Ad.c])
def jX(name:Bs)(p q:Ad):Ac C0 64 [.v (.string (str name)),.agg p.c,.agg q.c,.ptr 63 0] [(63,wA.c)] (.agg (KH name p q).c) [(63,wA.c)]:=by
 refine Ac.go f64 ?_;unfold f64;simp(disch:=omega)only[go_sem,wA];refine AZ ⟨[],[(63,63)],[832,1088]⟩ _ (by(try simp(disch:=omega)only[go_sem,Cr,GH])<;>rfl) ⟨rfl,rfl⟩ (by simp[lk]) ?_ ?_
 ·simp(disch:=omega)only[go_sem,KH,wA];exact .agg (Af.AI (by simp(disch:=omega)only[go_sem,KH,wA,AY,BZ,map_cons,map_nil]))
 ·simp(disch:=omega)only[go_sem,wA]
def jY(p:Ad)(name:Bs):Ac C0 65 [.agg p.c,.v (.string (str name)),.ptr 63 0] [(63,wA.c)] (.agg (KM p name).c) [(63,wA.c)]:=by
 refine Ac.go f65 ?_;unfold f65;simp(disch:=omega)only[go_sem,wA];refine AZ ⟨[],[(63,63)],[]⟩ _ (by(try simp(disch:=omega)only[go_sem,Cr,GH])<;>rfl) ⟨rfl,rfl⟩ (by simp[lk]) ?_ ?_
 ·simp(disch:=omega)only[go_sem,KM,wA];exact .agg (Af.AI (by simp(disch:=omega)only[go_sem,KM,wA,Expr.k,Expr.atom,Expr.kids,map_nil]))
 ·simp(disch:=omega)only[go_sem,wA]
def zA(name:Bs):Atom:=⟨name,⟨0,0⟩⟩
def DQ:List Ip:=[⟨BK 0,-1,10,[zA [97],zA [98]]⟩,⟨BK 1,-1,6,[zA [97],zA [98]]⟩]
def sW:Ac C0 28 [] [] (.Bl [.agg Dw.c,ID DQ]) []:=by
 refine Ac.go f28 ?_;unfold f28;simp(disch:=omega)only[go_sem];refine Ab (jU 0) ?_;simp(disch:=omega)only[go_sem];refine Ab (jU 1) ?_;simp(disch:=omega)only[go_sem];refine VF [(0,[],[3,18,19,7,8,11,16,14,15]),(1,[],[3,18,19,7,8,11,16,14,15]),(2,[],[3,18,19,7,8,11,16,14,15]),(3,[0,1,2],[7,8,18,19,11,16,14,15]),(4,[],[7,18,19,8,11,16,14,15]),(5,[],[7,18,19,8,11,16,14,15]),(6,[],[7,18,19,8,11,16,14,15]),(7,[4,5,6,3,0,1,2],[8,11,18,19,16,14,15]),(8,[3,7,0,1,2,4,5,6],[16,18,19]),(9,[],[11,18,19,14,15,16]),(10,[],[11,18,19,14,15,16]),(11,[9,10,7,4,5,6,3,0,1,2],[14,15,18,19,16]),(12,[],[14,18,19,15,16]),(13,[],[14,18,19,15,16]),(14,[12,13,11,9,10,7,4,5,6,3,0,1,2],[15,18,19,16]),(15,[11,14,9,10,7,12,13,4,5,6,3,0,1,2],[16,18,19]),(16,[8,15,3,7,11,14,0,1,2,4,5,6,9,10,12,13],[18,19]),(17,[],[19]),(18,[16,14,0,1,2,3,4,5,6,7,8,9,10,11,12,13,15],[19]),(19,[17,18,0,1,2,3,4,5,6,7,8,9,10,11,12,13,14,15,16],[])] [0,1,2,3,4,5,6,7,8,9,10,11,12,13,14,15,16,17,18,19] [(0,24,.fn 64 [.ptr 256 0],[]),(1,25,.agg (BK 0).c,[]),(2,26,.agg (BK 1).c,[]),(3,27,.agg (KH [97] (BK 0) (BK 1)).c,[]),(4,28,.fn 64 [.ptr 256 0],[]),(5,29,.agg (BK 1).c,[]),(6,30,.agg (BK 0).c,[]),(7,31,.agg (KH [98] (BK 1) (BK 0)).c,[]),(8,32,.sl (.own 2048 0) 8 [(KH [97] (BK 0) (BK 1)).c,(KH [98] (BK 1) (BK 0)).c],[]),(9,33,.fn 65 [.ptr 256 0],[]),(10,34,.agg (BK 0).c,[]),(11,35,.agg (KM (BK 0) [98]).c,[]),(12,36,.fn 65 [.ptr 256 0],[]),(13,37,.agg (BK 1).c,[]),(14,38,.agg (KM (BK 1) [97]).c,[]),(15,39,.sl (.own 2496 0) 9 [(KM (BK 0) [98]).c,(KM (BK 1) [97]).c],[]),(16,40,.agg [.sl (.own 2048 0) 8 [(KH [97] (BK 0) (BK 1)).c,(KH [98] (BK 1) (BK 0)).c],.sl (.own 2496 0) 9 [(KM (BK 0) [98]).c,(KM (BK 1) [97]).c]],[]),(17,41,.sl (.own 1472 0) 6 (DQ.map Ip.c),[]),(19,1,.sl (.own 1472 0) 6 (DQ.map Ip.c),[])] (λb=>[(0,.ptr 0 0),(2,.ptr 128 0),(3,.ptr 192 0),(5,.fn 64 [.ptr 256 0]),(6,.fn 65 [.ptr 256 0]),(7,.sl (.own 1472 0) 6 (DQ.map Ip.c))]) (λb=>[(0,if b 18 then [.sl (.own 2048 0) 8 [(KH [97] (BK 0) (BK 1)).c,(KH [98] (BK 1) (BK 0)).c],.sl (.own 2496 0) 9 [(KM (BK 0) [98]).c,(KM (BK 1) [97]).c]] else [.v (.slice none 0 0),.v (.slice none 0 0)]),(128,(BK 0).c),(192,(BK 1).c),(256,wA.c)]) ?_ (λb=>?_) (λb=>?_) B7
 ·exact AQ.An (by simp(disch:=omega)only[go_sem];exact .sl rfl) (by simp(disch:=omega)only[go_sem,wA])
 ·simp only[Ym,and_true]
  repeat'(with_reducible refine And.intro ?_ ?_)
  all_goals simp(disch:=omega)only[go_sem]
  all_goals(try first|(refine Ch [] rfl (by rfl) ?_ ?_ ?_<;>(simp(disch:=omega)only[go_sem];done))|(refine Ch [(_,_)] rfl (by rfl) ?_ ?_ ?_<;>(simp(disch:=omega)only[go_sem];done))|(refine Ch [(_,_),(_,_)] rfl (by rfl) ?_ ?_ ?_<;>(simp(disch:=omega)only[go_sem];done))|(refine Ch [(_,_),(_,_),(_,_)] rfl (by rfl) ?_ ?_ ?_<;>(simp(disch:=omega)only[go_sem];done))|(refine E5 [] rfl (by rfl) ?_ ?_ ?_<;>(simp(disch:=omega)only[go_sem];done))|(refine E5 [(_,_)] rfl (by rfl) ?_ ?_ ?_<;>(simp(disch:=omega)only[go_sem];done)))
  ·refine call2 ⟨⟨[],[(256,63)],[]⟩,[],[]⟩ (jX [97] (BK 0) (BK 1)) ?_ (hx:=by simp(disch:=omega)only[go_sem];exact .eq rfl);simp(disch:=omega)only[go_sem]
   all_goals(try first|(refine Ch [] rfl (by rfl) ?_ ?_ ?_<;>(simp(disch:=omega)only[go_sem];done))|(refine Ch [(_,_)] rfl (by rfl) ?_ ?_ ?_<;>(simp(disch:=omega)only[go_sem];done))|(refine Ch [(_,_),(_,_)] rfl (by rfl) ?_ ?_ ?_<;>(simp(disch:=omega)only[go_sem];done))|(refine Ch [(_,_),(_,_),(_,_)] rfl (by rfl) ?_ ?_ ?_<;>(simp(disch:=omega)only[go_sem];done))|(refine E5 [] rfl (by rfl) ?_ ?_ ?_<;>(simp(disch:=omega)only[go_sem];done))|(refine E5 [(_,_)] rfl (by rfl) ?_ ?_ ?_<;>(simp(disch:=omega)only[go_sem];done)))
  ·refine call2 ⟨⟨[],[(256,63)],[]⟩,[],[]⟩ (jX [98] (BK 1) (BK 0)) ?_ (hx:=by simp(disch:=omega)only[go_sem];exact .eq rfl);simp(disch:=omega)only[go_sem]
   all_goals(try first|(refine Ch [] rfl (by rfl) ?_ ?_ ?_<;>(simp(disch:=omega)only[go_sem];done))|(refine Ch [(_,_)] rfl (by rfl) ?_ ?_ ?_<;>(simp(disch:=omega)only[go_sem];done))|(refine Ch [(_,_),(_,_)] rfl (by rfl) ?_ ?_ ?_<;>(simp(disch:=omega)only[go_sem];done))|(refine Ch [(_,_),(_,_),(_,_)] rfl (by rfl) ?_ ?_ ?_<;>(simp(disch:=omega)only[go_sem];done))|(refine E5 [] rfl (by rfl) ?_ ?_ ?_<;>(simp(disch:=omega)only[go_sem];done))|(refine E5 [(_,_)] rfl (by rfl) ?_ ?_ ?_<;>(simp(disch:=omega)only[go_sem];done)))
  ·refine call2 ⟨⟨[],[(256,63)],[]⟩,[],[]⟩ (jY (BK 0) [98]) ?_ (hx:=by simp(disch:=omega)only[go_sem];exact .eq rfl);simp(disch:=omega)only[go_sem]
   all_goals(try first|(refine Ch [] rfl (by rfl) ?_ ?_ ?_<;>(simp(disch:=omega)only[go_sem];done))|(refine Ch [(_,_)] rfl (by rfl) ?_ ?_ ?_<;>(simp(disch:=omega)only[go_sem];done))|(refine Ch [(_,_),(_,_)] rfl (by rfl) ?_ ?_ ?_<;>(simp(disch:=omega)only[go_sem];done))|(refine Ch [(_,_),(_,_),(_,_)] rfl (by rfl) ?_ ?_ ?_<;>(simp(disch:=omega)only[go_sem];done))|(refine E5 [] rfl (by rfl) ?_ ?_ ?_<;>(simp(disch:=omega)only[go_sem];done))|(refine E5 [(_,_)] rfl (by rfl) ?_ ?_ ?_<;>(simp(disch:=omega)only[go_sem];done)))
  ·refine call2 ⟨⟨[],[(256,63)],[]⟩,[],[]⟩ (jY (BK 1) [97]) ?_ (hx:=by simp(disch:=omega)only[go_sem];exact .eq rfl);simp(disch:=omega)only[go_sem]
   all_goals(try first|(refine Ch [] rfl (by rfl) ?_ ?_ ?_<;>(simp(disch:=omega)only[go_sem];done))|(refine Ch [(_,_)] rfl (by rfl) ?_ ?_ ?_<;>(simp(disch:=omega)only[go_sem];done))|(refine Ch [(_,_),(_,_)] rfl (by rfl) ?_ ?_ ?_<;>(simp(disch:=omega)only[go_sem];done))|(refine Ch [(_,_),(_,_),(_,_)] rfl (by rfl) ?_ ?_ ?_<;>(simp(disch:=omega)only[go_sem];done))|(refine E5 [] rfl (by rfl) ?_ ?_ ?_<;>(simp(disch:=omega)only[go_sem];done))|(refine E5 [(_,_)] rfl (by rfl) ?_ ?_ ?_<;>(simp(disch:=omega)only[go_sem];done)))
 ·simp(disch:=omega)only[go_sem];refine CK ⟨[],[],[1472,2048,2496]⟩ _ ?_;refine .Bl (Af.AI ?_);simp(disch:=omega)only[go_sem]
  first|exact .eq rfl|exact⟨.eq rfl,.rfl⟩|exact⟨.eq rfl,.eq rfl⟩
def xi(s:WS)(opts:List Ip)(h:Iq s)(hl:opts.length<=1000000)(hv:GI s opts=true)(hd:FE s≠[])(K:List Cand->Prop)(μ:List Cand->Nat)(R:List Nat × Int)(hI0:K [Gx (BP s opts) []])
 (hI:∀ hp,K hp->hp.length<=1000/\Heap AK hp/\NL hp/\∃ S,isSet (BP s opts) S/\hp[0]?=some (Gx (BP s opts) S) /\
  (HX s opts S=true->PK s (C2 s).2 (NS (C2 s).2 (S.map (BP s opts).aT))=true/\R=(S,Fk (BP s opts).cost S)) /\
  (HX s opts S=false->(Hh ((IP AK hp).take (hp.length-1)) (kids (BP s opts) S ((BP s opts).n-Hb S))).length<=1000/\K (Hh ((IP AK hp).take (hp.length-1)) (kids (BP s opts) S ((BP s opts).n-Hb S)))/\μ (Hh ((IP AK hp).take (hp.length-1)) (kids (BP s opts) S ((BP s opts).n-Hb S)))<μ hp)):Ac C0 22 [.agg s.c,ID opts] [] (.Bl [.agg (Xf R),I 0]) []:=by
 refine Ac.go f22 ?_;unfold f22;refine gO ?_;refine Ab (bC s opts h hl) ?_;rw[hv];obtain⟨v1,v2,v3⟩:=(OX s opts).1 hv;have xM:=jA v1;refine gO ?_;refine Ab (bD s h) ?_;rw[J1 v1];have bS:(((C2 s).2.length:Int)==0)=false:=by
  have:(C2 s).2.length≠0:=λh0=>hd (List.eq_nil_of_length_eq_zero h0)
  simp;exact λh0=>hd h0
 simp(disch:=omega)only[go_sem,length_map,bS];refine call2 ⟨⟨[],[],[]⟩,[],[(0,2049),(1,2050),(2,2051),(62,2110)]⟩ (ta s (C2 s).2) ?_;refine gO ?_;have hn:(BP s opts).n=opts.length:=rfl;refine Ao (α:=List Cand × List Nat) (λx=>⟨[(1,ID opts),(2,.ptr 128 0),(4,.ptr 256 0),(7,AA (C2 s).2),(8,.fn 93 [.ptr 2049 0,.ptr 2050 0,.ptr 2051 0]),(9,.ptr 2240 0)],[(128,s.c),(256,[.v (.slice none 0 0),.v (.int .i64 0)]),(2240,[.sl (.own 2176 0) 2 (x.1.map Cand.c)]),(2049,[.mp 2110]),(2050,s.c),(2051,[AA (C2 s).2]),(2110,GV s (C2 s).2 x.2)]⟩) (λx=>K x.1) (λx=>μ x.1) ([Gx (BP s opts) []],[]) hI0 ?_ ?_
 ·refine AQ.An gI ?_;simp(disch:=omega)only[go_sem,map_cons,map_nil,Gx,Fk,code,GV];exact .sl (by simp)
 rintro⟨hp,kn⟩ hF J0 hJ0;simp only at hF;obtain⟨hlen,hhp,Kb,S,hS,zC,rm,um⟩:=hI hp hF;refine gO ?_;refine Cb [2176] (bF hp) gI rfl trivial ?_;have h0:hp≠[]:=λh0=>by rw[h0]at zC;cases zC
 have pE:0<hp.length:=List.length_pos_iff.2 h0;have e0:((0:Int)<(hp.length:Int))=True:=eq_true (by omega);obtain⟨p1,p2,p3,p4,p5⟩:=lU Lc Ld hhp zC;simp(disch:=omega)only[go_sem,e0,decide_true];have yc:=tc hp (Gx (BP s opts) S) p1 h0 (by omega) Kb;have mN:NL ((IP AK hp).take (hp.length-1)):=λc hc=>Kb c (p3.mem_iff.2 (by simp[hc]))
 generalize (IP AK hp).take (hp.length-1)=g0 at yc p2 p3 um mN;refine call2 ⟨⟨[(2176,0)],[(2240,63)],[]⟩,[],[]⟩ yc ?_;have hco:C0.P.concrete 95=true:=F.Aar;simp(disch:=omega)only[go_sem,Gx,↓hco];have HH:(C2 s).2.length<=62:=Nat.le_trans xM (by omega);have vP:∀ i∈S,i<opts.length:=hS.2.1;have hSl:=mi hS;refine Ab (td (Fk (BP s opts).cost S) S hS.1 (λi hi=>by have:=vP i hi;omega)) ?_;simp(disch:=omega)only[go_sem,length_map];refine AH (S) (λi=>⟨[(1,ID opts),(2,.ptr 128 0),(4,.ptr 256 0),(7,AA (C2 s).2),(8,.fn 93 [.ptr 2049 0,.ptr 2050 0,.ptr 2051 0]),(9,.ptr 2240 0),(10,.ptr 640 0),(11,NQ S),(12,I (NS (C2 s).2 ((S.take i).map (BP s opts).aT))),(47,NQ S),(48,I S.length),(49,I i)],[(128,s.c),(256,[.v (.slice none 0 0),.v (.int .i64 0)]),(2240,[.sl (.own 2176 0) 2 (g0.map Cand.c)]),(2049,[.mp 2110]),(2050,s.c),(2051,[AA (C2 s).2]),(2110,GV s (C2 s).2 kn),(640,[I (Fk (BP s opts).cost S),U (code S)])]⟩) (λi=>True) trivial ?_ ?_
 ·refine AQ.An ?_ ?_
  all_goals(try simp(disch:=omega)only[go_sem])
  all_goals(try(repeat'(with_reducible apply And.intro)))
  all_goals(first|exact .AU (by omega)|exact .AD (by omega)|exact .sl (by simp[NS])|exact .int (by simp[NS])|exact .eq (by simp[NS]))
 rintro i ⟨hi,hP⟩ J hJ;refine gO ?_;refine Bp hi (λAu b hb Cc AR=>?_) λBf=>?_
 simp(disch:=omega)only[go_sem,gm,hb]
 ·obtain⟨o,ho,hom,Ce,vX,uH,rr⟩:=Qj hv (vP b Cc);simp(disch:=omega)only[go_sem,gm,ho];refine Ab (bG (C2 s).2 o.proc HH) ?_;have e1:NS (C2 s).2 ((S.take (i+1)).map (BP s opts).aT)=NS (C2 s).2 ((S.take i).map (BP s opts).aT) ||| FW (C2 s).2 o.proc:=by
   rw[take_add_one,hb,toList_some,List.map_append,map_cons,map_nil,uH,iJ]
  have hor:=vb _ _ (ft HH ((S.take i).map (BP s opts).aT)) (Su HH o.proc);simp(disch:=omega)only[go_sem,hor];refine hJ _ (i+1) ⟨by omega,trivial⟩ (by omega) (AQ.An ?_ gI);rw[e1];simp(disch:=omega)only[go_sem]
 subst Bf;rw[take_length];clear hJ;have uF:=ft HH (S.map (BP s opts).aT);obtain⟨v,kO⟩:∃ v,v=NS (C2 s).2 (S.map (BP s opts).aT):=⟨_,rfl⟩;rw[<- kO]at uF ⊢;refine call2 ⟨⟨[],[(2049,63),(2050,127),(2051,191),(2110,31)],[]⟩,[],[]⟩ (tx s (C2 s).2 kn v v1 HH uF) ?_;obtain⟨kn',V4⟩:∃ k,k=Q3 kn v:=⟨_,rfl⟩;rw[<- V4];have zM:∀ o∈opts,o.lower.length<=1000000:=λo ho=>by have:=Wv (v3 o ho).1;omega
 cases hs:HX s opts S;rotate_left
 ·obtain⟨hh,hR⟩:=rm hs;rw[<- kO]at hh;rw[hh,hR];refine gO ?_;refine Ab (bE s opts S v1 hl (by omega) vP zM) ?_;rw[hs];refine gO ?_;exact AM _
 obtain⟨vW,um,NW⟩:=um hs;have hlp:=ag g0 (kids (BP s opts) S ((BP s opts).n-Hb S)) p2;generalize hFd:Hh g0 (kids (BP s opts) S ((BP s opts).n-Hb S))=Z at um hlp vW NW;have NN:code S<18446744073709551616:=Pf (n:=64) λi hi=>by have:=vP i hi;omega
 have Aeg:=c8 (iA hv) vP;cases hh:PK s (C2 s).2 v
 all_goals simp(disch:=omega)only[go_sem]
 rotate_left;refine Ab (bE s opts S v1 hl (by omega) vP zM) ?_;rw[hs];simp(disch:=omega)only[go_sem]
 all_goals
  refine Ab (te (code S) NN) ?_;rw[gT hS.1];refine gO ?_;refine Ao (α:=Nat × List Cand) (λx=>⟨[(1,ID opts),(2,.ptr 128 0),(4,.ptr 256 0),(7,AA (C2 s).2),(8,.fn 93 [.ptr 2049 0,.ptr 2050 0,.ptr 2051 0]),(9,.ptr 2240 0),(10,.ptr 640 0),(12,I v),(15,I x.1)],[(128,s.c),(256,[.v (.slice none 0 0),.v (.int .i64 0)]),(2240,[.sl (.own 2176 0) 2 (x.2.map Cand.c)]),(2049,[.mp 2110]),(2050,s.c),(2051,[AA (C2 s).2]),(2110,GV s (C2 s).2 kn'),(640,[I (Fk (BP s opts).cost S),U (code S)])]⟩) (λx=>Hb S<=x.1/\x.1<=opts.length/\Heap AK x.2/\NL x.2/\Hh x.2 (kids (BP s opts) S (opts.length-x.1))=Z) (λx=>opts.length-x.1) (Hb S,g0) ⟨le_refl _,pX hS,p2,mN,hFd⟩ AS ?_;rintro⟨i,g⟩ ⟨i1,i2,i3,i4,i5⟩ J hJ;simp only at i1 i2 i3 i4 i5
  by_cases HT:i<opts.length
  rotate_left
  ·have hei:opts.length-i=0:=by omega
   rw[hei]at i5;have hgF:g=Z:=i5;subst hgF;have e1:((i:Int)<(opts.length:Int))=False:=eq_false (by omega);simp(disch:=omega)only[go_sem,e1,decide_false,length_map];exact hJ0 _ (g,kn') um (by simp only;omega) AS
  have e1:((i:Int)<(opts.length:Int))=True:=eq_true (by omega);obtain⟨o,ho,hom,Ce,vX,uH,rr⟩:=Qj hv HT;have hoc:=Z7 Ce;simp(disch:=omega)only[go_sem,e1,decide_true,length_map,gm,ho];refine Ab (bG (C2 s).2 o.proc HH) ?_;have hand:=c7 v (FW (C2 s).2 o.proc) uF (Su HH o.proc);have LS:=fB (S:=S) hv HT;rw[uH]at LS;have xB:v &&& FW (C2 s).2 o.proc=0↔again (BP s opts) S i=false:=by rw[kO];exact LS
  obtain⟨f,hf⟩:∃ f,opts.length-i=f+1:=⟨opts.length-i-1,by omega⟩;have eL:(BP s opts).n-(f+1)=i:=by omega
  have eJ:opts.length-(i+1)=f:=by omega
  rw[hf]at i5;simp only[kids,eL]at i5;simp(disch:=omega)only[go_sem,hand];refine⟨λhb=>?_,λhb=>?_⟩
  ·have h0:v &&& FW (C2 s).2 o.proc=0:=by simp only[beq_iff_eq]at hb;omega
   have ha:=xB.1 h0;rw[ha]at i5;simp only[false_eq_true,if_false,List.singleton_append,Hh]at i5;refine Av 17 [([],[9]),([],[95]),([],[10]),([],[97]),([],[1]),([],[15]),([],[99,100]),([],[101]),([],[102]),([],[98,103]),([],[10]),([],[105]),([],[15]),([],[107]),([],[106,108]),([],[104,109]),([],[110])] B7 ?_;have AaP:C0.P.concrete 92=true:=F.Aaq;obtain⟨z,hz⟩:∃ z,z=2 ^ i:=⟨_,rfl⟩;have uI:z<18446744073709551616:=by
    have h1:z<2 ^ 64:=by rw[hz];exact Nat.pow_lt_pow_right (by decide) (by omega)
    exact h1
   have Abv:IntKind.u64.wrap (1*2 ^ min i 64)=(z:Int):=by
    rw[show min i 64=i by omega,Int.one_mul,show ((2:Int) ^ i)=((z:Nat):Int) by rw[hz,Int.natCast_pow];rfl,Ju uI]
   have AaK:=bits_or_u64_nat (code S) z NN uI;have ui:((i:Int)<0)=False:=eq_false (by omega);have Jg:(Gx (BP s opts) (S++[i]))=⟨Fk (BP s opts).cost S+o.cost,code S ||| z⟩:=by
    simp only[Gx,Pl,Fk,rr,VA,hz,Int.add_zero]
   have TW:=ag _ (kids (BP s opts) S f) (Rf Lc Ld i3 (Gx (BP s opts) (S++[i]))).1;have mO:=(Rf Lc Ld i3 (Gx (BP s opts) (S++[i])));have eM:=mO.2.length_eq;rw[i5]at TW;simp only[length_cons]at eM;have rG:code S ||| z<18446744073709551616:=Nat.or_lt_two_pow (n:=64) NN uI;have vY:NL (Uw AK g (Gx (BP s opts) (S++[i]))):=λc hc=>by
    rcases mem_cons.1 (mO.2.mem_iff.1 hc) with h1|h1
    ·rw[h1,Jg];exact rG
    ·exact i4 c h1
   rw[Jg]at i5 mO eM TW vY;simp(disch:=omega)only[go_sem,↓hco,↓AaP,gm,ho,ui,Abv,AaK];refine call2 ⟨⟨[(2176,0)],[(2240,63)],[]⟩,[],[]⟩ (tf g ⟨Fk (BP s opts).cost S+o.cost,code S ||| z⟩ (by omega) i4 rG) ?_;refine gO ?_;exact hJ _ (i+1,Uw AK g ⟨Fk (BP s opts).cost S+o.cost,code S ||| z⟩) ⟨by simp only;omega,HT,mO.1,vY,by simp only;rw[eJ];exact i5⟩ (by simp only;omega) AS
  ·have h0:¬ v &&& FW (C2 s).2 o.proc=0:=by simp only[beq_eq_false_iff_ne,ne_eq]at hb;omega
   have ha:again (BP s opts) S i=true:=by
    cases h:again (BP s opts) S i with
    | true=>rfl
    | false=>exact absurd (xB.2 h) h0
   rw[ha]at i5;simp only[if_true,nil_append]at i5;refine hJ _ (i+1,g) ⟨by simp only;omega,HT,i3,i4,by simp only;rw[eJ];exact i5⟩ (by simp only;omega) AS
theorem YS:GI Dw DQ=true:=by kernel_rfl
theorem jf:EN Dw [BK 0]=([BK 0,BK 1],0):=by kernel_rfl
theorem jd:JB Dw DQ [0]=true:=by kernel_rfl
theorem sm:JB Dw DQ []=false:=by kernel_rfl
def awZ:List Cand:=[⟨6,2⟩,⟨10,1⟩]
def Zu:Heap AK ([]:List Cand):=λk _ a b ha _=>by simp at ha
def fF:Ac C0 22 [.agg Dw.c,ID DQ] [] (.Bl [.agg (Xf ([1],6)),I 0]) []:=by
 have hd:FE Dw≠[]:=λh=>by
  have h2:(FE Dw).length=2:=by kernel_rfl
  rw[h]at h2;cases h2
 refine xi Dw DQ RG.1 (by decide) YS hd (λhp=>hp=[Gx (BP Dw DQ) []]\/hp=awZ) (λhp=>2-hp.length) ([1],6) (Or.inl rfl) ?_;have e1:Hh ((IP AK [Gx (BP Dw DQ) []]).take 0) (kids (BP Dw DQ) [] ((BP Dw DQ).n-Hb []))=awZ:=by kernel_rfl
 rintro hp (rfl|rfl)
 ·refine⟨by decide,(IQ [Gx (BP Dw DQ) []] [] Zu).1,?_,[],⟨.nil,λi hi=>(List.not_mem_nil hi).elim,.nil⟩,rfl,λh=>?_,λ_=>?_⟩
  ·intro c hc;rw[List.mem_singleton.1 hc];decide
  ·rw[show HX Dw DQ []=false by kernel_rfl]at h;cases h
  ·simp only[List.length_singleton,Nat.sub_self];rw[e1];exact⟨by decide,Or.inr rfl,by decide⟩
 ·refine⟨by decide,?_,?_,[1],⟨by simp,by simp;decide,by simp⟩,by kernel_rfl,λ_=>⟨by kernel_rfl,by kernel_rfl⟩,λh=>?_⟩
  ·rw[<- e1];exact(IQ _ _ Zu).1
  ·intro c hc;simp only[awZ,mem_cons,List.not_mem_nil,or_false]at hc;rcases hc with rfl|rfl<;>decide
  ·rw[show HX Dw DQ [1]=true by kernel_rfl]at h;cases h
def Zh:Ac C0 11 [] [] (B true) []:=by
 have hf:=RG.1;have hc:=fF;have hs:=Xr Dw [BK 0] hf (by decide);have h1:=jR Dw DQ [0] hf (by decide) (by decide);have h2:=jR Dw DQ [] hf (by decide) (by decide);rw[jf]at hs;rw[jd]at h1;rw[sm]at h2;refine Ac.go f11 ?_;unfold f11;refine Ab sW ?_;refine gO ?_;refine Ab hc ?_;refine gO ?_;obtain⟨o,ho,ZA⟩:∃ o:Ip,DQ[0]?=some o/\o.proc=BK 0:=⟨_,rfl,rfl⟩;have kH:DQ.length=2:=rfl;refine VF [(0,[],[6,10,11,7,8,9]),(1,[],[2,10,11,3,4,5,6,7,8,9]),(2,[1],[3,10,11,4,5,6,7,8,9]),(3,[2,1],[4,10,11,5,6,7,8,9]),(4,[3,2,1],[5,10,11,6,7,8,9]),(5,[4,3,2,1],[6,10,11,7,8,9]),(6,[0,5,4,3,2,1],[7,10,11,8,9]),(7,[6,0,5,4,3,2,1],[8,9,10,11]),(8,[7,6,0,5,4,3,2,1],[10,11]),(9,[7,6,0,5,4,3,2,1],[11]),(10,[8,6,0,1,2,3,4,5,7],[11]),(11,[9,10,0,1,2,3,4,5,6,7,8],[])] [0,1,2,3,4,5,6,7,8,9,10,11] [(0,18,.agg Dw.c,[]),(1,19,ID DQ,[]),(2,20,.ep .no 0 o.c 0,[]),(3,21,.ep .no 0 o.c 0,[]),(4,22,.agg o.proc.c,[]),(5,23,.sl (.own 1472 0) 3 [o.proc.c],[6]),(6,24,.Bl [AA [BK 0,BK 1],I 0],[]),(7,17,.Bl [AA [BK 0,BK 1],I 0],[]),(8,25,AA [BK 0,BK 1],[]),(9,26,I 0,[]),(10,5,AA [BK 0,BK 1],[]),(11,6,I 0,[])] (λb=>[(0,B false),(1,.ptr 64 0),(2,ID DQ),(3,.ptr 192 0),(4,I 0)]) (λb=>[(64,Dw.c),(192,[.sl .no 1 [[I 1]],I 6])]) ?_ (λb=>?_) (λb=>?_) B7
 ·exact AQ.An gI gI
 ·simp only[Ym,and_true]
  repeat'(with_reducible refine And.intro ?_ ?_)
  all_goals simp(disch:=omega)only[go_sem,gm,ho]
  all_goals(try first|(refine Ch [] rfl (by rfl) ?_ ?_ ?_<;>(simp(disch:=omega)only[go_sem];done))|(refine Ch [(_,_)] rfl (by rfl) ?_ ?_ ?_<;>(simp(disch:=omega)only[go_sem];done))|(refine Ch [(_,_),(_,_)] rfl (by rfl) ?_ ?_ ?_<;>(simp(disch:=omega)only[go_sem];done))|(refine Ch [(_,_),(_,_),(_,_)] rfl (by rfl) ?_ ?_ ?_<;>(simp(disch:=omega)only[go_sem];done))|(refine E5 [] rfl (by rfl) ?_ ?_ ?_<;>(simp(disch:=omega)only[go_sem];done))|(refine E5 [(_,_)] rfl (by rfl) ?_ ?_ ?_<;>(simp(disch:=omega)only[go_sem];done)))
  refine FC [1472] hs ?_ rfl ?_
  ·simp(disch:=omega)only[go_sem,ZA,map_cons,map_nil];exact .sl rfl
  ·simp(disch:=omega)only[go_sem,selb];exact AQ.An (by simp(disch:=omega)only[go_sem];(repeat'(with_reducible apply And.intro))<;>exact .eq rfl) gI
 ·simp(disch:=omega)only[go_sem,map_cons,map_nil,length_cons,List.length_nil];refine Ab (bC Dw DQ hf (by decide)) ?_;rw[YS];refine gO ?_;refine Cb [4096] h1 ?_ rfl trivial ?_
  ·simp(disch:=omega)only[go_sem,map_cons,map_nil];exact .sl rfl
  refine gO ?_;refine Ab h2 ?_ (hx:=by simp(disch:=omega)only[go_sem,map_nil];exact .AD (by omega));refine gO ?_;exact AM _
end Go.Rd
