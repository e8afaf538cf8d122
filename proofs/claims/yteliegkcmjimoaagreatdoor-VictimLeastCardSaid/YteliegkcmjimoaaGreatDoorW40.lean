/- part 40 of the proof -/
import Derived.Test.YteliegkcmjimoaaGreatDoorW39
set_option linter.all false
open Go Go.Abs Go.Proofs
set_option maxRecDepth 100000
namespace Go.Rd
set_option maxHeartbeats 8000000
open List (cons_append length_map map_append map_cons map_nil mem_cons nil_append take_add_one take_length)
open Bool (false_eq_true)
open Nat (le_refl)
open Tryz
def Aav(s:WS)(opts:List C1)(S:List Nat)(hv:AI s=true)(hl:opts.length<=1000000)(hS:S.length<=1000000)(hi:∀ i∈S,i<opts.length)(hw:∀ o∈opts,o.lower.length<=1000000):Ad C0 45 [.agg s.c,Cw opts,E3 S] [] (B (EF s opts S)) []:=by
 rw[Uz];refine Ad.go f45 ?_;unfold f45;refine gO ?_;refine Ao (α:=Nat × WS × List Ac) (λx=>⟨[(1,Cw opts),(14,E3 S),(15,I S.length),(16,I x.1),(3,.ptr 192 0),(7,.sl (.own 2496 0) 3 (x.2.2.map Ac.c))],[(192,x.2.1.c)]⟩) (λx=>x.1<=S.length/\AI x.2.1=true/\x.2.2.length=x.1/\Fy opts (S.drop x.1) x.2=Fy opts S (s,[])) (λx=>S.length-x.1) (0,s,[]) ⟨by simp,hv,rfl,rfl⟩ ?_ ?_
 ·refine AT.Aq ?_ gI;simp(disch:=omega)only[go_sem]
 rintro⟨i,t,V⟩ ⟨j1,j2,j3,j4⟩ J hJ
 replace j1:i<=S.length:=j1
 replace j2:AI t=true:=j2
 replace j3:V.length=i:=j3
 replace j4:Fy opts (S.drop i) (t,V)=Fy opts S (s,[]):=j4
 by_cases AP:i<S.length
 ·have e1:((i:Int)<(S.length:Int))=True:=eq_true (by omega);obtain⟨k,hk⟩:∃ k,S[i]?=some k:=⟨_,gE AP⟩;have X7:=hi k (mG hk);obtain⟨o,CC⟩:∃ o,opts[k]?=some o:=⟨_,gE X7⟩;simp(disch:=omega)only[go_sem,e1,gm,hk,decide_true];have hf:=GF j2;have GI:Fy opts (S.drop i) (t,V)=if (Cm t o).2=0 then Fy opts (S.drop (i+1)) ((Cm t o).1,V++[o.proc]) else none:=by
   have e:S.drop i=k::S.drop (i+1):=by
    rw[List.drop_eq_getElem_cons AP];rw[gE AP]at hk;rw[Option.some.inj hk]
   rw[e];simp only[Fy,CC]
  have hval:=Oi (o:=o) j2;generalize hA:Cm t o=c at GI hval;obtain⟨u,x⟩:=c;refine Dj 4095 [(0,1,0),(1,2,0),(2,4,0),(3,8,6),(4,16,8),(5,32,17),(6,64,32),(7,128,64),(8,256,64),(9,512,0),(10,1024,767),(11,2048,2047)] [0,1,2,4,512,3,5,513,6,514,516,7,515,517,14,518,15,519,30,526,31,527,542,63,543,127,575,255,383,639,511,767,895,1023,1791,2047,4095] (λm=>⟨XE m [(1,21,.agg t.c),(2,22,Cw opts),(4,23,I k),(8,24,.ep .no k o.c 0),(16,25,.agg o.c),(32,26,.BC [.agg u.c,I x]),(64,20,.BC [.agg u.c,I x]),(128,27,.agg u.c),(256,28,I x),(512,10,.ptr 640 0),(2048,11,I x)]++[(1,Cw opts),(14,E3 S),(15,I S.length),(16,I i),(3,.ptr 192 0),(7,.sl (.own 2496 0) 3 (V.map Ac.c)),(9,I k)],((if m / 512%2=1 then [(640,(if m / 1024%2=1 then u.c else N9.c))] else [])++[(192,t.c)])⟩) ?_ ?_ ?_ B6
  ·exact AT.Aq gI gI
  ·simp (maxSteps:=100000000)only[Di,Dh,D0,DZ,and_true,Nat.reduceDiv,Nat.reduceMod,Nat.reduceAnd,Nat.reduceEqDiff,reduceIte,true_and,and_false,false_and,and_self]
   repeat'(with_reducible refine And.intro ?_ ?_)
   all_goals simp(disch:=omega)only[go_sem,gm,CC,nil_append,N9]
   all_goals first|exact AT.Aq gI (by simp(disch:=omega)only[go_sem,nil_append,cons_append,N9];try(repeat'(with_reducible apply And.intro));all_goals exact .A8 (by omega))|exact AT.Aq gI (by simp(disch:=omega)only[go_sem,nil_append,cons_append])|(refine Ab (qR t o hf (hw o (mG CC))) ?_;rw[hA];simp(disch:=omega)only[go_sem];exact AT.Aq gI (by simp(disch:=omega)only[go_sem,nil_append,cons_append]))
  by_cases hx:x=0
  ·subst hx;have ID:V.length+1<=4294967296:=by omega
   simp(disch:=omega)only[go_sem,gm,CC,nil_append,cons_append,length_map];refine Dj 2047 [(0,1,0),(1,2,0),(2,4,0),(3,8,0),(4,16,12),(5,32,16),(6,64,32),(7,128,64),(8,256,130),(9,512,257),(10,1024,1023)] [0,1,2,4,8,3,5,9,6,10,12,7,11,13,14,28,15,29,30,60,31,61,62,124,63,125,126,252,127,253,254,255,510,511,1023,2047] (λm=>⟨XE m [(1,31,.agg u.c),(2,32,(if m / 256%2=1 then .undef else .sl (.own 2496 0) 3 (V.map Ac.c))),(4,33,Cw opts),(8,34,I k),(16,35,.ep .no k o.c 0),(32,36,.ep .no k o.c 0),(64,37,.agg o.proc.c),(128,38,.sl (.own 2432 0) 3 [o.proc.c]),(256,39,.sl (.own 2496 0) 3 ((V++[o.proc]).map Ac.c))]++[(1,Cw opts),(14,E3 S),(15,I S.length),(16,I i),(3,.ptr 192 0),(10,.ptr 640 0),(7,if m / 256%2=1 then (if m / 1024%2=1 then .sl (.own 2496 0) 3 ((V++[o.proc]).map Ac.c) else .undef) else .sl (.own 2496 0) 3 (V.map Ac.c)),(9,I k)],[(640,u.c),(192,if m / 512%2=1 then u.c else t.c)]⟩) ?_ ?_ ?_ B6
   ·exact AT.Aq gI gI
   ·simp (maxSteps:=100000000)only[Di,Dh,D0,DZ,and_true,Nat.reduceDiv,Nat.reduceMod,Nat.reduceAnd,Nat.reduceEqDiff,reduceIte,true_and,and_false,false_and,and_self]
    repeat'(with_reducible refine And.intro ?_ ?_)
    all_goals simp(disch:=omega)only[go_sem,gm,CC,length_map,map_append,map_cons,map_nil]
    all_goals exact AT.Aq (by simp(disch:=omega)only[go_sem,map_append,map_cons,map_nil]) gI
   refine gO ?_;refine hJ _ (i+1,u,V++[o.proc]) ⟨AP,hval rfl,by simp[j3],by rw[<- j4,GI];simp⟩ (by simp;omega) (AT.Aq ?_ gI);simp(disch:=omega)only[go_sem]
  ·have Vt:(x==0)=false:=by simpa using hx
   have Xj:(x !=0)=true:=by simpa using hx
   rw[<- j4,GI,if_neg hx];simp(disch:=omega)only[go_sem,Vt,Xj,nil_append,cons_append];exact AQ _
 ·have e1:((i:Int)<(S.length:Int))=False:=eq_false (by omega);simp(disch:=omega)only[go_sem,e1,decide_false];have hf:=GF j2;have Aa9:Fy opts S (s,[])=some (t,V):=by
   rw[<- j4,List.drop_eq_nil_of_le (by omega)];rfl
  rw[Aa9];refine FU [2496] (Aat t V hf j2 (by omega)) gI rfl ?_;have gr:(Dq t V).length<=20000:=by
   have h1:=(JD (Ag t).length t V (Be j2) (le_refl _)).2.2.1;exact Nat.le_trans (BP _ _ (Nz _) h1) (De hf)
  refine gO ?_;clear hJ;refine AF ((Dq t V)) (λi=>⟨[(45,I i),(44,I (Dq t V).length),(43,AL (Dq t V)),(7,AL V)],[]⟩) (λi=>((Dq t V).take i).all (λp=>Br V p)=true) rfl ?_ ?_
  ·exact Ce
  rintro i ⟨hi,hP⟩ J hJ;refine gO ?_;refine Bo hi (λAP b hb Cg AX=>?_) λBa=>?_
  simp(disch:=omega)only[go_sem,gm,hb]
  ·refine Ab (KG V b (by omega)) ?_;cases Ss:Br V b
   ·simp(disch:=omega)only[go_sem];refine Al _ ?_;exact wb (by
     have:(Dq t V).all (λp=>Br V p)=false:=by rw[List.all_eq_false];exact⟨b,Cg,by simp[Ss]⟩
     simp[Tw,this])
   ·simp(disch:=omega)only[go_sem];refine hJ _ (i+1) ⟨by omega,(by rw[take_add_one,hb];simp[hP,Ss])⟩ (by omega) AK
  ·subst Ba;rw[take_length]at hP;refine Al _ ?_;exact wb (by simp[Tw,hP])
def EC(s:WS)(l:List C1):CD s l=true↔AI s=true/\l.length<=40/\∀ o∈l,Cc o=true/\o.proc∈(Ca s).2:=by
 simp[CD,Bool.and_eq_true,decide_eq_true_eq,List.all_eq_true,Iq,Br];grind
theorem PM{o:C1}(h:Cc o=true):o.lower.length<=8:=by simp_all[Cc]
def JT(opts:List C1):Int->List Ac->List Int->Bool
 |_,_,[]=>true
 | last,V,i::S=>if i<=last then false else match opts[i.toNat]? with
  |some o=>if Br V o.proc then false else JT opts i (V++[o.proc]) S
  |none=>false
def GU(s:WS)(opts:List C1)(S:List Int):Bool:=CD s opts&&(JT opts (-1) [] S&&EF s opts (S.map Int.toNat))
def Zw{opts:List C1}:∀ (S:List Int) (last:Int) (V:List Ac),-1<=last->JT opts last V S=true->∀ i∈S,0<=i/\i.toNat<opts.length
 |[],_,_,_,_,i,hi=>by grind
 | k::S,last,V,hl,h,i,hi=>by
  simp only[JT]at h;split at h
  ·cases h
  ·rename_i hk;split at h
   ·rename_i o ho;split at h
    ·cases h
    ·rcases mem_cons.1 hi with rfl|hi
     ·grind
     ·exact Zw S k _ (by omega) h i hi
   grind
def sf{opts:List C1}{S:List Int}(h:∀ i∈S,0<=i/\i.toNat<opts.length):Ju S=E3 (S.map Int.toNat):=by
 unfold Ju E3;rw[List.map_map];congr 1;refine List.map_congr_left λi hi=>?_
 have:=(h i hi).1;simp only[Function.comp,Fq];rw[Int.toNat_of_nonneg this]
def jX{α:Type}{S:List α}{i:Nat}{k:α}(h:S[i]?=some k):S.drop i=k::S.drop (i+1):=by
 obtain⟨hl,rfl⟩:=List.getElem?_eq_some_iff.1 h;simp
def Qy(s:WS)(opts:List C1)(S:List Int)(h:Iy s)(hl:opts.length<=1000000)(hS:S.length<=1000000):Ad C0 20 [.agg s.c,Cw opts,Ju S] [] (B (GU s opts S)) []:=by
 refine Ad.go f20 ?_;unfold f20;refine gO ?_;refine Ab (gX s opts h hl) ?_;cases hv:CD s opts
 ·refine gO ?_;refine Al _ ?_;exact wb (by simp[GU,hv])
 obtain⟨v1,v2,v3⟩:=(EC s opts).1 hv;refine gO ?_;refine Ao (α:=Nat × Int × List Ac) (λx=>⟨[(1,Cw opts),(2,Ju S),(3,.ptr 192 0),(7,I x.2.1),(8,.sl (.own 3008 0) 3 (x.2.2.map Ac.c)),(15,Ju S),(16,I S.length),(17,I x.1)],[(192,s.c)]⟩) (λx=>x.1<=S.length/\x.2.2.length=x.1/\-1<=x.2.1/\JT opts x.2.1 x.2.2 (S.drop x.1)=JT opts (-1) [] S) (λx=>S.length-x.1) (0,-1,[]) ⟨by simp,rfl,by simp,rfl⟩ AK ?_;rintro⟨i,last,V⟩ ⟨j1,j2,j3,j4⟩ J hJ;simp only at j1 j2 j3 j4
 by_cases AP:i<S.length
 ·have e1:((i:Int)<(S.length:Int))=True:=eq_true (by omega);obtain⟨k,hk⟩:∃ k,S[i]?=some k:=⟨_,gE AP⟩;rw[jX hk]at j4;simp only[JT]at j4
  by_cases c1:k<=last
  ·rw[if_pos c1]at j4;simp only[go_sem,e1,hk,eq_true c1];refine Al _ ?_;exact wb (by grind[GU])
  rw[if_neg c1]at j4
  by_cases c2:(opts.length:Int)<=k
  ·have c3:opts[k.toNat]?=none:=List.getElem?_eq_none (by omega);rw[c3]at j4;simp only[go_sem,e1,hk,eq_false c1,eq_true c2];refine Al _ ?_;exact wb (by grind[GU])
  obtain⟨n,rfl⟩:∃ n:Nat,k=n:=⟨k.toNat,by omega⟩;obtain⟨o,ho⟩:∃ o,opts[n]?=some o:=⟨_,gE (by omega)⟩;rw[Int.toNat_natCast,ho]at j4;simp only at j4;refine gS ?_;refine B4 [3008] (KE V o.proc (by omega)) gI rfl trivial ?_;cases hd:Br V o.proc
  ·rw[hd]at j4;simp at j4;have ID:V.length+1<=4294967296:=by omega
   refine gS ?_;refine hJ _ (i+1,n,V++[o.proc]) ⟨AP,by grind,by grind,j4⟩ (by omega) (AT.Aq ?_ gI);refine gO ?_;exact .sl (by simp[Ac.c])
  ·rw[hd]at j4;simp only[if_true]at j4;refine gO ?_;refine Al _ ?_;exact wb (by grind[GU])
 ·have e1:((i:Int)<(S.length:Int))=False:=eq_false (by omega);rw[List.drop_eq_nil_of_le (by omega)]at j4;simp only[JT]at j4;have Hf:=Zw S (-1) [] (by omega) j4.symm;rw[sf Hf];refine gS ?_;refine Ab (ia s opts (S.map Int.toNat) v1 hl (by grind) (λi hi=>by grind) (λo ho=>by grind[PM])) ?_ (hx:=by refine gO ?_;exact .sl (by grind));refine gO ?_;refine Al _ ?_;exact wb (by grind[GU])
def U5(c:List Nat × Int):List AV:=[E3 c.1,I c.2]
attribute [go_sem] U5
def CE(s:WS)(l:List C1):(List Nat × Int) × Int:=if CD s l then (if Bl s=[] then (([],0),14) else match best (Az s l) with
 |some S=>((S,Bj (Az s l).cost S),0)
 |none=>(([],0),10)) else (([],0),2)
def dc{s:WS}(hv:AI s=true):(Bl s).length<=8:=by
 have hg:=Be hv;have h1:=BP _ _ (V9 s hg) (Jo _ s hg (le_refl _));have h2:=((GQ s).1 hv).2.2;omega
def tH{s:WS}{l:List C1}{i:Nat}{o:C1}(h:l[i]?=some o):(Az s l).gv i=o.proc/\(Az s l).cost i=o.cost:=by simp[Az,h]
theorem JC{s:WS}{l:List C1}(hv:CD s l=true){i:Nat}(hi:i<l.length):∃ o,l[i]?=some o/\o∈l/\Cc o=true/\o.proc∈Bl s/\(Az s l).gv i=o.proc/\(Az s l).cost i=o.cost:=by
 have h1:=gE hi;have hm:=mG h1;obtain⟨_,_,h3⟩:=(EC s l).1 hv;exact⟨_,h1,hm,(h3 _ hm).1,(h3 _ hm).2,tH h1⟩
def R6{o:C1}(h:Cc o=true):1<=o.cost/\o.cost<=1073741824:=by simp_all[Cc]
def HV{s:WS}{l:List C1}(hv:CD s l=true):∀ i,i<(Az s l).n->1<=(Az s l).cost i/\(Az s l).cost i<=1073741824:=λi hi=>by
 obtain⟨o,_,_,h1,_,_,h2⟩:=JC hv hi;simp_all[R6]
def U6{P:Srch}(hc:∀ i,i<P.n->1<=P.cost i/\P.cost i<=1073741824):∀ {S:List Nat},(∀ i∈S,i<P.n)->0<=Bj P.cost S/\Bj P.cost S<=1073741824*S.length
 |[],_=>by simp[Bj]
 | i::S,h=>by
  have h1:=hc i (h i (by simp));have h2:=U6 hc (S:=S) λj hj=>h j (by grind)
  simp only[Bj,List.length_cons];omega
def MF{P:Srch}{S:List Nat}(h:isSet P S):S.length<=P.n:=by
 have:=BP S (List.range P.n) (h.1.imp λh=>by omega) λx hx=>List.mem_range.2 (h.2.1 x hx)
 simpa using this
def TV{s:WS}{l:List C1}(hv:CD s l=true)(hd:Bl s≠[]){S:List Nat}(h:JN (Az s l) (some S)):CE s l=((S,Bj (Az s l).cost S),0):=by
 have hb:=Yp h (U3 λi hi=>(HV hv i hi).1);simp[CE,hv,if_true,if_neg hd,<- hb]
def TU{s:WS}{l:List C1}(hv:CD s l=true)(hd:Bl s≠[])(h:JN (Az s l) none):CE s l=(([],0),10):=by
 have hb:=Yp h (U3 λi hi=>(HV hv i hi).1);simp[CE,hv,if_true,if_neg hd,<- hb]
def mJ{s:WS}{l:List C1}(hv:CD s l=true){S:List Nat}{i:Nat}(hi:i<l.length):Sp (Bl s) (S.map (Az s l).gv) &&& GX (Bl s) ((Az s l).gv i)=0↔again (Az s l) S i=false:=by grind[JC,fS,LU]
def H8(c:Nat->Int):Option (List Nat)->Int
 |some S=>Bj c S
 |none=>0
def Eg(s:WS)(l:List C1)(b:Option (List Nat)):List AV:=[AN s.Aa,Io s.Aw,Cw l,B b.isSome,E3 (b.getD []),I (H8 (Az s l).cost b)]
theorem ta(P:Srch)(S:List Nat)(b:Option (List Nat)):prune P S b=(b.isSome&&(decide (H8 P.cost b<Bj P.cost S)||(decide (Bj P.cost S=H8 P.cost b)&&decide ((b.getD []).length<=S.length)))):=by cases b<;>rfl
def inT(P:Srch)(b:Option (List Nat)):Prop:=∀ T,b=some T->(∀ y∈T,y<P.n)/\T.length<=P.n
theorem iz{P:Srch}:∀ (f:Nat) (S:List Nat) (b:Option (List Nat)),f<=P.n->(∀ x∈S,x<P.n)->S.length+f<=P.n->inT P b->inT P (goN P f S b)
 | 0,_,_,_,_,_,hb=>hb
 | f+1,S,b,hf,hS,hl,hb=>by
  have nL:∀ x∈S++[P.n-(f+1)],x<P.n:=λx hx=>by
   rcases List.mem_append.1 hx with h|h
   ·exact hS x h
   ·simp at h;omega
  rw[a8];refine iz f S _ (by omega) hS (by omega) ?_;split
  ·exact hb
  ·unfold N6;split
   ·exact hb
   ·split
    ·intro T hT;simp only[Option.some.injEq]at hT;subst hT;exact⟨nL,by simp;omega⟩
    ·exact iz f _ b (by omega) nL (by simp;omega) hb
def yk{P:Srch}(f:Nat)(S:List Nat)(b:Option (List Nat))(hf:f<=P.n)(hS:∀ x∈S,x<P.n)(hl:S.length+f<=P.n)(hb:inT P b):inT P (N6 P f S b):=by
 unfold N6;split
 ·omega
 ·split
  ·intro T hT;grind
  grind[iz]
def AaB(s:WS)(l:List C1)(hv:CD s l=true):∀ (f:Nat) (S:List Nat) (b:Option (List Nat)),f<=l.length->(∀ x∈S,x<l.length)->S.length+f<=l.length->(∀ T,b=some T->(∀ x∈T,x<l.length)/\T.length<=l.length) ->
 Ad C0 53 [.ptr 63 0,I (l.length-f:Nat),E3 S,I (Bj (Az s l).cost S)] [(63,Eg s l b)] (.BC []) [(63,Eg s l (N6 (Az s l) f S b))]:=by
 obtain⟨v1,v2,v3⟩:=(EC s l).1 hv;have my:∀ o∈l,o.lower.length<=1000000:=λo ho=>by grind[PM]
 intro f
 induction f using Nat.strongRecOn with
 |_ f ih =>
 intro S b hf hS hSl hb;have Aa6:=U6 (HV hv) hS;have key:N6 (Az s l) f S b=if prune (Az s l) S b then b else if EF s l S then some S else goN (Az s l) f S b:=rfl
 rw[ta]at key;obtain⟨Y,hY⟩:∃ Y,Y=Eg s l (N6 (Az s l) f S b):=⟨_,rfl⟩;rw[<- hY];refine Ad.go f53 ?_;unfold f53;simp only[go_sem,Eg];have Aha:(b.isSome=true/\H8 (Az s l).cost b<Bj (Az s l).cost S)\/(b.isSome=true/\¬ H8 (Az s l).cost b<Bj (Az s l).cost S/\(Bj (Az s l).cost S==H8 (Az s l).cost b)=true/\(b.getD []).length<=S.length)\/b.isSome=false\/(b.isSome=true/\¬ H8 (Az s l).cost b<Bj (Az s l).cost S/\(Bj (Az s l).cost S==H8 (Az s l).cost b)=false)\/(b.isSome=true/\¬ H8 (Az s l).cost b<Bj (Az s l).cost S/\(Bj (Az s l).cost S==H8 (Az s l).cost b)=true/\¬ (b.getD []).length<=S.length):=by grind
 have hbq:decide (Bj (Az s l).cost S=H8 (Az s l).cost b)=(Bj (Az s l).cost S==H8 (Az s l).cost b):=by grind
 rw[hbq]at key;rcases Aha with ⟨XR,c1⟩|⟨XR,c1,c2,c3⟩|XR|⟨XR,c1,c2⟩|⟨XR,c1,c2,c3⟩
 ·simp only[go_sem,XR,eq_true c1];refine AY ⟨[],[(63,63)],[]⟩ [] rfl ⟨rfl,rfl⟩ (by simp[lk]) ?_ ?_
  ·exact gI
  ·rw[hY,key];simp[XR,c1,decide_true,Bool.true_or,Bool.and_self,if_true];simp only[go_sem,Eg,XR]
 ·simp(disch:=omega)only[go_sem,XR,eq_false c1,decide_false,c2,eq_true (show ((b.getD []).length:Int)<=(S.length:Int) by omega)];refine AY ⟨[],[(63,63)],[]⟩ [] rfl ⟨rfl,rfl⟩ (by simp[lk]) ?_ ?_
  ·exact gI
  ·rw[hY,key];simp[XR,c2,c3,decide_true,Bool.true_and,Bool.or_true,if_true];simp only[go_sem,Eg,XR]
 simp only[XR,Bool.false_and,false_eq_true,if_false]at key;simp(disch:=omega)only[go_sem,XR];rotate_left;simp only[XR,c1,c2,decide_false,Bool.true_and,Bool.false_or,Bool.false_and,false_eq_true,if_false]at key;simp(disch:=omega)only[go_sem,XR,eq_false c1,decide_false,c2];rotate_left;simp only[XR,c1,c2,c3,decide_false,Bool.true_and,Bool.false_or,false_eq_true,if_false]at key;simp(disch:=omega)only[go_sem,XR,eq_false c1,decide_false,c2,eq_false (show ¬ ((b.getD []).length:Int)<=(S.length:Int) by omega)];rotate_left
 all_goals
  refine Ay 9 [([],[0]),([],[44]),([],[45]),([],[46]),([],[0]),([],[48]),([],[49]),([],[50]),([],[2])] B6 ?_;simp(disch:=omega)only[go_sem];refine Ab (Aav s l S v1 (by omega) (by omega) hS my) ?_;cases hs:EF s l S;rotate_left
  ·rw[hs]at key;simp only[if_true]at key;refine gO ?_;refine AY ⟨[],[(63,63)],[3648]⟩ [] rfl ⟨rfl,rfl⟩ (by simp[lk]) ?_ ?_
   ·exact gI
   ·rw[hY,key];simp(disch:=omega)only[go_sem,Eg,Option.isSome,Option.getD,H8]
  rw[hs]at key;simp only[false_eq_true,if_false]at key;refine gO ?_;refine Ao (α:=Nat × Option (List Nat)) (λx=>⟨[(0,.ptr 63 0),(1,I x.1),(2,E3 S),(3,I (Bj (Az s l).cost S))],[(63,Eg s l x.2)]⟩) (λx=>l.length-f<=x.1/\x.1<=l.length/\(∀ T,x.2=some T->(∀ y∈T,y<l.length)/\T.length<=l.length)/\goN (Az s l) (l.length-x.1) S x.2=N6 (Az s l) f S b) (λx=>l.length-x.1) (l.length-f,b) ⟨le_refl _,by omega,hb,by grind⟩ ?_ ?_
  ·refine AT.Aq gI ?_;simp(disch:=omega)only[go_sem,Eg,XR]
  rintro⟨n,b2⟩ ⟨i1,i2,i3,i4⟩ J0 pB;simp only at i1 i2 i3 i4
  by_cases Hf:n<l.length
  rotate_left
  ·have e1:((n:Int)<(l.length:Int))=False:=eq_false (by omega);have h0:l.length-n=0:=by omega
   rw[h0]at i4;have i5:b2=N6 (Az s l) f S b:=i4;simp(disch:=omega)only[go_sem,Eg,e1,decide_false,length_map];refine AY ⟨[],[(63,63)],[]⟩ [] rfl ⟨rfl,rfl⟩ (by simp[lk]) ?_ ?_
   ·exact gI
   ·rw[hY,<- i5];simp(disch:=omega)only[go_sem,Eg]
  have e1:((n:Int)<(l.length:Int))=True:=eq_true (by omega);obtain⟨o,ho,hom,CC,xl,iO,P4⟩:=JC hv Hf;simp(disch:=omega)only[go_sem,Eg,e1,decide_true,length_map];refine AF (S) (λi=>⟨[(0,.ptr 63 0),(1,I n),(2,E3 S),(3,I (Bj (Az s l).cost S)),(8,B (again (Az s l) (S.take i) n)),(73,E3 S),(74,I S.length),(75,I i)],[(63,[AN s.Aa,Io s.Aw,Cw l,B b2.isSome,E3 (b2.getD []),I (H8 (Az s l).cost b2)])]⟩) (λi=>True) trivial ?_ ?_
  ·have Q4:=@again.eq_1;exact Gd
  rintro i ⟨hi,hP⟩ J hJ;refine gO ?_;refine Bo hi (λAP b hb Cg AX=>?_) λBa=>?_
  simp(disch:=omega)only[go_sem,hb]
  ·obtain⟨o2,y8,_,_,_,Ae4,_⟩:=JC hv (hS b Cg);have ea:again (Az s l) (S.take (i+1)) n=(again (Az s l) (S.take i) n||decide (o2.proc=o.proc)):=by
    unfold again;rw[take_add_one,hb,Option.toList_some,List.any_append,List.any_cons,List.any_nil,Ae4,iO,Bool.or_false]
   cases ha:again (Az s l) (S.take i) n
   ·rw[ha]at ea;refine Ay 18 [([],[8]),([],[79]),([],[0,80]),([],[81,80]),([],[82,80]),([],[83,80]),([],[10,80]),([],[84,85,80]),([],[86,80]),([],[87,80]),([],[0,80]),([],[89,80]),([],[90,80]),([],[91,80]),([],[1,80]),([],[92,93,80]),([],[94,80]),([],[95,80])] B6 ?_;simp(disch:=omega)only[go_sem,gm,ho,y8];refine hJ _ (i+1) ⟨by omega,trivial⟩ (by omega) (AT.Aq ?_ gI);rw[ea];simp(disch:=omega)only[go_sem,Bool.false_or]
   ·rw[ha]at ea;refine Ay 18 [([],[8]),([],[79]),([],[0,80]),([],[81,80]),([],[82,80]),([],[83,80]),([],[10,80]),([],[84,85,80]),([],[86,80]),([],[87,80]),([],[0,80]),([],[89,80]),([],[90,80]),([],[91,80]),([],[1,80]),([],[92,93,80]),([],[94,80]),([],[95,80])] B6 ?_;simp(disch:=omega)only[go_sem];refine hJ _ (i+1) ⟨by omega,trivial⟩ (by omega) (AT.Aq ?_ gI);rw[ea];simp(disch:=omega)only[go_sem,Bool.true_or]
  subst Ba;rw[take_length];clear hJ;obtain⟨k,hk⟩:∃ k,l.length-n=k+1:=⟨l.length-n-1,by omega⟩;have X8:(Az s l).n-(k+1)=n:=by show l.length-(k+1)=n;omega
  have XS:l.length-(n+1)=k:=by omega
  rw[hk,a8,X8]at i4;cases ha:again (Az s l) S n;rotate_left
  ·rw[ha]at i4;simp only[if_true]at i4;refine gO ?_;refine pB _ (n+1,b2) ⟨by omega,by omega,i3,by grind⟩ (by omega) (AT.Aq gI ?_);simp(disch:=omega)only[go_sem,Eg]
  rw[ha]at i4;simp only[false_eq_true,if_false]at i4;have nL:∀ x∈S++[n],x<l.length:=λx hx=>by grind
  have hih:=ih k (by omega) (S++[n]) b2 (by omega) nL (by grind) i3;have AeH:=yk (P:=Az s l) k (S++[n]) b2 (by show k<=l.length;omega) nL (by show (S++[n]).length+k<=l.length;grind) i3;have yX:((l.length-k:Nat):Int)=(n:Int)+1:=by omega
  have RN:Bj (Az s l).cost (S++[n])=Bj (Az s l).cost S+o.cost:=by rw[H9];grind[Bj]
  have hoc:=R6 CC;rw[yX,RN]at hih;generalize N6 (Az s l) k (S++[n]) b2=b3 at hih AeH i4;refine gO ?_;refine F5 [(0,[],[18]),(1,[],[2,18]),(2,[1],[18]),(3,[],[4,7,18]),(4,[3],[7,18]),(5,[],[6,7,18]),(6,[5],[7,18]),(7,[4,6,3,5],[18]),(8,[],[17,18]),(9,[],[10,11,12,14,15,16,17,18]),(10,[9],[11,12,14,15,16,17,18]),(11,[10,9],[12,14,15,16,17,18]),(12,[11,10,9],[14,15,16,17,18]),(13,[],[14,15,16,17,18]),(14,[12,13,11,10,9],[15,16,17,18]),(15,[14,12,13,11,10,9],[16,17,18]),(16,[15,14,12,13,11,10,9],[17,18]),(17,[8,16,15,14,12,13,11,10,9],[18]),(18,[0,2,7,17,1,4,6,8,16,3,5,15,14,12,13,11,10,9],[])] [0,1,2,3,4,5,6,7,8,9,10,11,12,13,14,15,16,17,18] [(0,102,.ptr 63 0,[]),(1,103,I n,[]),(2,104,I ((n:Int)+1),[]),(3,105,E3 S,[]),(4,106,.sl (.own 6784 0) 1 (S.map Fq),[7]),(5,107,I n,[]),(6,108,.sl (.own 6912 0) 1 [Fq n],[]),(7,109,.sl (.own 6976 0) 1 (S.map Fq++[Fq n]),[18]),(8,110,I (Bj (Az s l).cost S),[]),(9,111,.ptr 63 0,[]),(10,112,.ptr 63 0,[]),(11,113,.ptr 63 2,[]),(12,114,Cw l,[]),(13,115,I n,[]),(14,116,.ep .no n o.c 0,[]),(15,117,.ep .no n o.c 4,[]),(16,118,I o.cost,[]),(17,119,I (Bj (Az s l).cost S+o.cost),[]),(18,120,.BC [],[])] (λb=>[(0,.ptr 63 0),(1,I n),(2,E3 S),(3,I (Bj (Az s l).cost S))]) (λb=>if b 18 then [(63,[AN s.Aa,Io s.Aw,Cw l,B b3.isSome,E3 (b3.getD []),I (H8 (Az s l).cost b3)])] else [(63,[AN s.Aa,Io s.Aw,Cw l,B b2.isSome,E3 (b2.getD []),I (H8 (Az s l).cost b2)])]) ?_ (λb=>?_) (λb=>?_) B6
  ·exact AT.Aq gI gI
  ·simp only[Pf,and_true]
   repeat'(with_reducible refine And.intro ?_ ?_)
   all_goals simp(disch:=omega)only[go_sem,gm,ho,length_map]
   all_goals(try first|(refine Av [] rfl (by rfl) ?_ ?_ ?_<;>(simp(disch:=omega)only[go_sem];done))|(refine Av [(_,_)] rfl (by rfl) ?_ ?_ ?_<;>(simp(disch:=omega)only[go_sem];done))|(refine Av [(_,_),(_,_)] rfl (by rfl) ?_ ?_ ?_<;>(simp(disch:=omega)only[go_sem];done))|(refine Av [(_,_),(_,_),(_,_)] rfl (by rfl) ?_ ?_ ?_<;>(simp(disch:=omega)only[go_sem];done))|(refine Bz [] rfl (by rfl) ?_ ?_ ?_<;>(simp(disch:=omega)only[go_sem];done))|(refine Bz [(_,_)] rfl (by rfl) ?_ ?_ ?_<;>(simp(disch:=omega)only[go_sem];done)))
   refine Rg [6976] ⟨⟨[],[(63,63)],[]⟩,[],[]⟩ hih ?_ (by rfl) ?_ (.inl rfl) ?_
   ·simp(disch:=omega)only[go_sem];exact .sl (by simp[Fq])
   ·simp(disch:=omega)only[go_sem,Eg]
   ·simp(disch:=omega)only[go_sem,selb,Eg];exact AK
  ·simp(disch:=omega)only[go_sem];exact pB _ (n+1,b3) ⟨by omega,by omega,AeH,by grind⟩ (by omega) (AT.Aq gI (by simp(disch:=omega)only[go_sem,Eg]))
def TE(e:Int):Ci (.BC [.agg [.v (.slice none 0 0),.v (.int .i64 0)],.v (.int .i64 e)]) (.BC [.agg [E3 [],I 0],I e]) :=
 .BC (Ae.AJ ⟨.agg (Ae.AJ ⟨.A8 (by omega),.rfl,trivial⟩),.rfl,trivial⟩)
def qP(s:WS)(opts:List C1)(h:Iy s)(hl:opts.length<=1000000):Ad C0 23 [.agg s.c,Cw opts] [] (.BC [.agg (U5 (CE s opts).1),I (CE s opts).2]) []:=by
 refine Ad.go f23 ?_;unfold f23;refine gO ?_;refine Ab (Aam s opts h hl) ?_;cases hv:CD s opts
 ·have e:CE s opts=(([],0),2):=by simp[CE,hv]
  rw[e];refine gO ?_;refine Al _ ?_;exact TE _
 obtain⟨v1,v2,v3⟩:=(EC s opts).1 hv;refine gO ?_;refine Ab (Wk s h) ?_;rw[DW v1]
 by_cases hd:Bl s=[]
 ·have e:CE s opts=(([],0),14):=by grind[CE]
  have cj:(Ca s).2=[]:=hd;rw[e];refine gS ?_;refine Al _ ?_;exact TE _
 have cj:(((Ca s).2.length:Int)==0)=false:=by
  have:(Ca s).2.length≠0:=λh0=>hd (List.eq_nil_of_length_eq_zero h0)
  simp;grind
 refine gS ?_;have hf:=AaB s opts hv opts.length [] none (le_refl _) (λ_ h=>by cases h) (by simp) (λ_ h=>by cases h);have hb:N6 (Az s opts) opts.length [] none=best (Az s opts):=rfl;have hc:CE s opts=match best (Az s opts) with
  |some S=>((S,Bj (Az s opts).cost S),0)
  |none=>(([],0),10):=by simp[CE,hv,if_true,if_neg hd]<;>rfl
 rw[hb,Nat.sub_self]at hf;rw[hc];refine call2 ⟨⟨[],[(1664,63)],[]⟩,[],[]⟩ hf ?_ (hx:=by simp only[go_sem,Bj];exact .A8 (by omega)) (hh:=by simp only[go_sem,Eg,H8];exact .A8 (by omega));cases best (Az s opts) with
 |none =>
  simp only[go_sem,Eg,H8];refine Al _ ?_;exact TE _
 |some S =>
  simp only[go_sem,Eg,H8];exact AQ _
def jQ(a b:Nat)(ha:a<4611686018427387904)(hb:b<4611686018427387904):bits .and .i64 (a:Int) (b:Int)=((a &&& b:Nat):Int):=by
 have hx:a &&& b<2 ^ 62:=Nat.and_lt_two_pow _ (by omega);have h1:(BitVec.ofInt 64 (a:Int)).toNat=a:=by grind
 have h2:(BitVec.ofInt 64 (b:Int)).toNat=b:=by grind
 show IntKind.i64.wrap ((BitVec.ofInt 64 (a:Int) &&& BitVec.ofInt 64 (b:Int)).toNat:Int)=_;grind[IntKind.wrap_i64]
def Ab9(a b:Nat)(ha:a<4611686018427387904)(hb:b<4611686018427387904):bits .or .i64 (a:Int) (b:Int)=((a ||| b:Nat):Int):=by
 have hx:a ||| b<2 ^ 62:=Nat.or_lt_two_pow (by omega) (by omega);have h1:(BitVec.ofInt 64 (a:Int)).toNat=a:=by grind
 have h2:(BitVec.ofInt 64 (b:Int)).toNat=b:=by grind
 show IntKind.i64.wrap ((BitVec.ofInt 64 (a:Int) ||| BitVec.ofInt 64 (b:Int)).toNat:Int)=_;grind[IntKind.wrap_i64]
def Kc(s:WS)(st:List Ac):List Nat->List AV
 |[]=>[]
 | k::l=>I k::B (OI s st k)::Kc s st l
def Zm(s:WS)(st:List Ac)(v:Nat):∀ l,Kc s st l++[I v,B (OI s st v)]=Kc s st (l++[v])
 |[]=>rfl
 | k::l=>by simp only[Kc,cons_append,Zm s st v l]
@[go_sem] theorem sv(f:AV->AV)(s:WS)(st:List Ac):∀ l,F0 f (Kc s st l)=Kc s st l
 |[]=>rfl
 | k::l=>by simp only[Kc,F0,AV.Cz,sv f s st l]
def QC(s:WS)(st:List Ac)(v:Nat):∀ l:List Nat,if v∈l then ∃ j,Ie false [1] [.int .i64 v] (Kc s st l)=some (some (j,B (OI s st v))) else Ie false [1] [.int .i64 v] (Kc s st l)=some none
 |[]=>by simp[Kc,Ie]
 | k::l=>by
  have ih:=QC s st v l
  by_cases hk:v=k
  ·subst hk;rw[if_pos (by simp)];simp_all[Kc,Ie,Hs,BT]
  ·have CZ:((v:Int)==(k:Int))=false:=by grind
   by_cases hm:v∈l
   ·rw[if_pos hm]at ih;obtain⟨j,hj⟩:=ih;rw[if_pos (by grind)];exact⟨j+1,by grind[Kc,Ie,Hs,BT]⟩
   ·rw[if_neg hm]at ih;rw[if_neg (by grind)];grind[Kc,Ie,Hs,BT]
theorem xD{s:WS}{st:List Ac}{v:Nat}{l:List Nat}(h:v∈l):HP C0.P 151 (Kc s st l) (I v)=some (.BC [B (OI s st v),B true]):=by
 have:=QC s st v l;rw[if_pos h]at this;obtain⟨j,hj⟩:=this;have hm:et C0.P 151=some (3,false,[1],4):=F.zm;unfold HP;rw[hm];simp only[Hs,false_eq_true,if_false,hj];rfl
theorem so{s:WS}{st:List Ac}{v:Nat}{l:List Nat}(h:v∉l):HP C0.P 151 (Kc s st l) (I v)=some (.BC [B false,B false])/\∀ x,PH C0.P 151 (Kc s st l) (I v) x=some (Kc s st l++[I v,x]):=by
 have hj:=QC s st v l;rw[if_neg h]at hj;have hm:et C0.P 151=some (3,false,[1],4):=F.zm;unfold HP PH;rw[hm];have hz:ga C0.P 4=some (B false):=by kernel_rfl
 refine⟨?_,λx=>?_⟩
 ·simp only[Hs,false_eq_true,if_false,hj,hz,Option.map_some];rfl
 ·simp only[Hs,false_eq_true,if_false,hj];rfl
def Tg(l:List Nat)(v:Nat):List Nat:=if v∈l then l else l++[v]
def AaL(s:WS)(st:List Ac)(l:List Nat)(v:Nat)(hv:AI s=true)(GR:st.length<=62)(hbv:v<4611686018427387904) :
 Ad C0 93 [I v,.ptr 63 0,.ptr 127 0,.ptr 191 0] [(63,[.mp 31]),(127,s.c),(191,[AL st]),(31,Kc s st l)] (B (OI s st v)) [(63,[.mp 31]),(127,s.c),(191,[AL st]),(31,Kc s st (Tg l v))]:=by
 have hf:=GF hv;have Sv:=De hf;refine Ad.go f93 ?_;unfold f93;refine gO ?_
 by_cases hk:v∈l
 ·have hl:=xD (s:=s) (st:=st) hk;have e:Tg l v=l:=by simp[Tg,hk]
  rw[e];refine gS ?_;refine AY ⟨[],[(63,63),(127,127),(191,191),(31,31)],[]⟩ _ (by(try simp only[go_sem,Cx,Gv])<;>rfl) ⟨rfl,rfl⟩ (by simp[lk]) ?_ ?_
  ·exact gI
  ·exact gI
 obtain⟨hl,Hf⟩:=so (s:=s) (st:=st) hk;have e:Tg l v=l++[v]:=by simp[Tg,hk]
 rw[e];refine gS ?_;refine Ab (LB s hf) (gO ?_);refine AF ((Ag s)) (λi=>⟨[(0,I v),(1,.ptr 63 0),(2,.ptr 127 0),(3,.ptr 191 0),(6,B false),(8,.sl (.own 2496 0) 3 (((Ag s).take i).filter (λp=>decide (v &&& GX st p=0)) |>.map Ac.c)),(24,AL (Ag s)),(25,I (Ag s).length),(26,I i)],[(63,[.mp 31]),(127,s.c),(191,[AL st]),(31,Kc s st l)]⟩) (λi=>True) trivial ?_ ?_
 ·exact Ce
 rintro i ⟨hi,hP⟩ J hJ;refine gO ?_;refine Bo hi (λAP b hb Cg AX=>?_) λBa=>?_
 simp(disch:=omega)only[go_sem,hb]
 ·refine Ab (ic st b GR) ?_;have hbl:=U4 GR b;have hand:=jQ v (GX st b) hbv (by omega);have ID:((List.filter (λp=>decide (v &&& GX st p=0)) (List.take i (Ag s)))).length+1<=4294967296:=by grind
  have e1:(List.take (i+1) (Ag s)).filter (λp=>decide (v &&& GX st p=0))=(if v &&& GX st b=0 then (List.take i (Ag s)).filter (λp=>decide (v &&& GX st p=0))++[b] else (List.take i (Ag s)).filter (λp=>decide (v &&& GX st p=0))):=by
   rw[take_add_one,hb];grind
  simp(disch:=omega)only[go_sem,hand];refine⟨λh=>?_,λh=>?_⟩
  ·have h0:v &&& GX st b=0:=by grind
   rw[if_pos h0]at e1;refine hJ _ (i+1) ⟨by omega,trivial⟩ (by omega) (AT.Aq ?_ gI);rw[e1];simp only[go_sem,map_append]
  ·have h0:¬ v &&& GX st b=0:=by grind
   rw[if_neg h0]at e1;refine hJ _ (i+1) ⟨by omega,trivial⟩ (by omega) (AT.Aq ?_ gI);rw[e1];exact gI
 ·subst Ba;rw[take_length];have hrl:(KZ s st v).length<=1000000:=by grind[KZ]
  refine FU [2496] (AaM s (KZ s st v) hf hrl) (by simp only[go_sem,KZ]) rfl ?_;have e2:HG s (KZ s st v)=(Fw s (KZ s st v),0):=by simp[HG,hv]
  have W8:=jJ hv (KZ s st v);have e3:GS (Fw s (KZ s st v))=Ca (Fw s (KZ s st v)):=DW W8;have hh:OI s st v=decide ((Ca (Fw s (KZ s st v))).2=[]):=rfl;rw[e2];refine gO ?_;refine Ab (gZ (Fw s (KZ s st v)) (GF W8)) ?_;rw[e3];have hd:(((Ca (Fw s (KZ s st v))).2.length:Int)==0)=OI s st v:=by
   rw[hh];cases (Ca (Fw s (KZ s st v))).2<;>simp
   omega
  simp only[go_sem,hd,Hf];refine AY ⟨[],[(63,63),(127,127),(191,191),(31,31)],[]⟩ _ (by(try simp only[go_sem,Cx,Gv])<;>rfl) ⟨rfl,rfl⟩ (by simp[lk]) ?_ ?_
  ·exact gI
  ·simp only[go_sem,Zm]
def Aaw(s:WS)(st:List Ac):Ad C0 46 [.agg s.c,AL st] [] (.fn 93 [.ptr 0 0,.ptr 1 0,.ptr 2 0]) [(0,[.mp 62]),(1,s.c),(2,[AL st]),(62,[])]:=by
 refine Ad.go f46 ?_;unfold f46;simp only[go_sem,jl];refine AY ⟨[],[(320,0),(128,1),(192,2),(446,62)],[]⟩ _ (by(try simp only[go_sem,Cx,Gv])<;>rfl) ⟨rfl,rfl⟩ (by grind) ?_ ?_
 ·exact gI
 ·exact gI
def XQ(e:Int):Ci (.BC [.agg [.v (.slice none 0 0),.v (.int .i64 0)],.v (.int .i64 e)]) (.BC [.agg [E3 [],I 0],I e]) :=
 .BC (Ae.AJ ⟨.agg (Ae.AJ ⟨.A8 (by omega),.rfl,trivial⟩),.rfl,trivial⟩)
def nG{P:Srch}(hn:P.n<=64){h:List Cand}(hF:Front P h):P0 h:=λc hc=>by
 obtain⟨S,hS,rfl⟩:=hF.yd c hc;exact Pl (n:=64) λi hi=>by have:=hS.2.1 i hi;omega
def gY(s:WS)(opts:List C1)(h:Iy s)(hl:opts.length<=1000000)(D:Nat)(hD:CD s opts=true->∀ T,isSet (Az s opts) T->T.length<=D)(hM:(opts.length+1) ^ D<=4000000000):Ad C0 22 [.agg s.c,Cw opts] [] (.BC [.agg (U5 (CE s opts).1),I (CE s opts).2]) []:=by
 refine Ad.go f22 ?_;unfold f22;refine gO ?_;refine Ab (gX s opts h hl) ?_;cases hv:CD s opts
 ·have e:CE s opts=(([],0),2):=by simp[CE,hv]
  rw[e];refine gO ?_;refine Al _ ?_;exact XQ _
 obtain⟨v1,v2,v3⟩:=(EC s opts).1 hv;have ud:=dc v1;refine gO ?_;refine Ab (gZ s h) ?_;rw[DW v1]
 by_cases hd:Bl s=[]
 ·have e:CE s opts=(([],0),14):=by grind[CE]
  have cj:(Ca s).2=[]:=hd;rw[e];refine gS ?_;refine Al _ ?_;exact XQ _
 have cj:(((Ca s).2.length:Int)==0)=false:=by
  have:(Ca s).2.length≠0:=λh0=>hd (List.eq_nil_of_length_eq_zero h0)
  simp;grind
 refine gS ?_;refine call2 ⟨⟨[],[],[]⟩,[],[(0,2049),(1,2050),(2,2051),(62,2110)]⟩ (Aaw s (Ca s).2) (gO ?_);have hn:(Az s opts).n=opts.length:=rfl;have hD:=hD hv;refine Ao (α:=List Cand × List Nat) (λx=>⟨[(1,Cw opts),(2,.ptr 128 0),(4,.ptr 256 0),(7,AL (Ca s).2),(8,.fn 93 [.ptr 2049 0,.ptr 2050 0,.ptr 2051 0]),(9,.ptr 2240 0)],[(128,s.c),(256,[.v (.slice none 0 0),.v (.int .i64 0)]),(2240,[.sl (.own 2176 0) 2 (x.1.map Cand.c)]),(2049,[.mp 2110]),(2050,s.c),(2051,[AL (Ca s).2]),(2110,Kc s (Ca s).2 x.2)]⟩) (λx=>Front (Az s opts) x.1/\wG (Az s opts).n D x.1<=4000000000) (λx=>wG (Az s opts).n D x.1) ([Dv (Az s opts) []],[]) ⟨AaU _,by grind[wG0]⟩ ?_ ?_
 ·refine AT.Aq gI ?_;simp only[go_sem,Dv,Bj,code,Kc];exact .sl (by simp)
 rintro⟨hp,kn⟩ ⟨hF,hW⟩ J0 pB;simp only at hF hW;have hlen:=sh (Az s opts).n D hp;have Md:=nG (by omega) hF;refine gO ?_;refine B4 [2176] (ib hp) gI rfl trivial ?_
 by_cases h0:hp=[]
 ·subst h0;refine gO ?_;refine Al _ ?_;rw[TU hv hd (nF hF)];exact XQ _
 have uC:0<hp.length:=List.length_pos_iff.2 h0;have e0:((0:Int)<(hp.length:Int))=True:=eq_true (by omega);obtain⟨c0,eG⟩:∃ c0,hp[0]?=some c0:=⟨_,gE uC⟩;obtain⟨S,hS,rfl⟩:=hF.yd c0 (mG eG);obtain⟨p1,p2,p3,p4,p5⟩:=R8 Hy Hz hF.heap eG;refine gS ?_;have AeU:=Aax hp (Dv (Az s opts) S) p1 h0 (by omega) Md;have uE:=λhs=>iy (by omega) hF hS eG hs
 have Me:=ix (by omega) hD hF hS eG;have uw:P0 ((LL AU hp).take (hp.length-1)):=λc hc=>Md c (p3.mem_iff.2 (by grind))
 generalize (LL AU hp).take (hp.length-1)=g0 at AeU p2 p3 uE Me uw;refine call2 ⟨⟨[(2176,0)],[(2240,63)],[]⟩,[],[]⟩ AeU ?_;have hco:C0.P.concrete 95=true:=F.AgY;simp only[go_sem,Dv,↓hco];have GR:(Ca s).2.length<=62:=Nat.le_trans ud (by omega);have nL:∀ i∈S,i<opts.length:=hS.2.1;have hSl:=MF hS;refine Ab (Aay (Bj (Az s opts).cost S) S hS.1 (λi hi=>by grind)) ?_;refine gO ?_;refine AF (S) (λi=>⟨[(1,Cw opts),(2,.ptr 128 0),(4,.ptr 256 0),(7,AL (Ca s).2),(8,.fn 93 [.ptr 2049 0,.ptr 2050 0,.ptr 2051 0]),(9,.ptr 2240 0),(10,.ptr 640 0),(11,E3 S),(12,I (Sp (Ca s).2 ((S.take i).map (Az s opts).gv))),(47,E3 S),(48,I S.length),(49,I i)],[(128,s.c),(256,[.v (.slice none 0 0),.v (.int .i64 0)]),(2240,[.sl (.own 2176 0) 2 (g0.map Cand.c)]),(2049,[.mp 2110]),(2050,s.c),(2051,[AL (Ca s).2]),(2110,Kc s (Ca s).2 kn),(640,[I (Bj (Az s opts).cost S),U (code S)])]⟩) (λi=>True) trivial ?_ ?_
 ·have Q4:=@Sp.eq_1;exact Gd
 rintro i ⟨hi,hP⟩ J hJ;refine gO ?_;refine Bo hi (λAP b hb Cg AX=>?_) λBa=>?_
 simp(disch:=omega)only[go_sem,gm,hb]
 ·obtain⟨o,ho,hom,CC,xl,iO,P4⟩:=JC hv (nL b Cg);simp only[go_sem,ho];refine Ab (ic (Ca s).2 o.proc GR) ?_;have e1:Sp (Ca s).2 ((S.take (i+1)).map (Az s opts).gv)=Sp (Ca s).2 ((S.take i).map (Az s opts).gv) ||| GX (Ca s).2 o.proc:=by grind[take_add_one,pq]
  have hor:=Ab9 _ _ (mA GR ((S.take i).map (Az s opts).gv)) (U4 GR o.proc);simp(disch:=omega)only[go_sem,hor];refine hJ _ (i+1) ⟨by omega,trivial⟩ (by omega) (AT.Aq ?_ gI);rw[e1];exact gI
 subst Ba;rw[take_length];clear hJ;have hvl:=mA GR (S.map (Az s opts).gv);obtain⟨v,r6⟩:∃ v,v=Sp (Ca s).2 (S.map (Az s opts).gv):=⟨_,rfl⟩;rw[<- r6]at hvl ⊢;refine call2 ⟨⟨[],[(2049,63),(2050,127),(2051,191),(2110,31)],[]⟩,[],[]⟩ (AaL s (Ca s).2 kn v v1 GR hvl) ?_;obtain⟨kn',X8⟩:∃ k,k=Tg kn v:=⟨_,rfl⟩;rw[<- X8];have my:∀ o∈opts,o.lower.length<=1000000:=λo ho=>by grind[PM]
 cases hs:EF s opts S;rotate_left
 ·have hh:OI s (Ca s).2 v=true:=by rw[r6];exact xi hv nL hs
  rw[hh,TV hv hd (iw (by omega) (λi hi=>(HV hv i hi).1) hF hS eG hs)];refine gO ?_;refine Ab (ia s opts S v1 hl (by omega) nL my) ?_;rw[hs];refine gO ?_;exact AQ _
 have uE:=uE hs;have hlp:=eX g0 (kids (Az s opts) S ((Az s opts).n-Em S)) p2;have rL:=sh (Az s opts).n D (Jd g0 (kids (Az s opts) S ((Az s opts).n-Em S)));generalize hFd:Jd g0 (kids (Az s opts) S ((Az s opts).n-Em S))=Z at uE hlp rL Me;have RN:code S<18446744073709551616:=Pl (n:=64) λi hi=>by grind
 have Aa6:=U6 (HV hv) nL;cases hh:OI s (Ca s).2 v
 all_goals simp(disch:=omega)only[go_sem]
 rotate_left;refine Ab (ia s opts S v1 hl (by omega) nL my) ?_;rw[hs];simp(disch:=omega)only[go_sem]
 all_goals
  refine Ab (Aaz (code S) RN) ?_;rw[oq hS.1];refine gO ?_;refine Ao (α:=Nat × List Cand) (λx=>⟨[(1,Cw opts),(2,.ptr 128 0),(4,.ptr 256 0),(7,AL (Ca s).2),(8,.fn 93 [.ptr 2049 0,.ptr 2050 0,.ptr 2051 0]),(9,.ptr 2240 0),(10,.ptr 640 0),(12,I v),(15,I x.1)],[(128,s.c),(256,[.v (.slice none 0 0),.v (.int .i64 0)]),(2240,[.sl (.own 2176 0) 2 (x.2.map Cand.c)]),(2049,[.mp 2110]),(2050,s.c),(2051,[AL (Ca s).2]),(2110,Kc s (Ca s).2 kn'),(640,[I (Bj (Az s opts).cost S),U (code S)])]⟩) (λx=>Em S<=x.1/\x.1<=opts.length/\Heap AU x.2/\P0 x.2/\Jd x.2 (kids (Az s opts) S (opts.length-x.1))=Z) (λx=>opts.length-x.1) (Em S,g0) ⟨le_refl _,lU hS,p2,uw,hFd⟩ AK ?_;rintro⟨i,g⟩ ⟨i1,i2,i3,i4,i5⟩ J hJ;simp only at i1 i2 i3 i4 i5
  by_cases Hf:i<opts.length
  rotate_left
  ·have hei:opts.length-i=0:=by omega
   rw[hei]at i5;have hgF:g=Z:=i5;subst hgF;have e1:((i:Int)<(opts.length:Int))=False:=eq_false (by omega);simp(disch:=omega)only[go_sem,e1,decide_false,length_map];exact pB _ (g,kn') ⟨uE,by grind⟩ (by omega) AK
  have e1:((i:Int)<(opts.length:Int))=True:=eq_true (by omega);obtain⟨o,ho,hom,CC,xl,iO,P4⟩:=JC hv Hf;have hoc:=R6 CC;simp(disch:=omega)only[go_sem,e1,decide_true,length_map,gm,ho];refine Ab (ic (Ca s).2 o.proc GR) ?_;have hand:=jQ v (GX (Ca s).2 o.proc) hvl (U4 GR o.proc);have LP:=mJ (S:=S) hv Hf;rw[iO]at LP;have wZ:v &&& GX (Ca s).2 o.proc=0↔again (Az s opts) S i=false:=by rw[r6];exact LP
  obtain⟨f,hf⟩:∃ f,opts.length-i=f+1:=⟨opts.length-i-1,by omega⟩;have gA:(Az s opts).n-(f+1)=i:=by omega
  have yS:opts.length-(i+1)=f:=by omega
  rw[hf]at i5;simp only[kids,gA]at i5;simp(disch:=omega)only[go_sem,hand];refine⟨λhb=>?_,λhb=>?_⟩
  ·have h0:v &&& GX (Ca s).2 o.proc=0:=by grind
   have ha:=wZ.1 h0;rw[ha]at i5;simp only[false_eq_true,if_false,List.singleton_append,Jd]at i5;refine Ay 17 [([],[9]),([],[95]),([],[10]),([],[97]),([],[1]),([],[15]),([],[99,100]),([],[101]),([],[102]),([],[98,103]),([],[10]),([],[105]),([],[15]),([],[107]),([],[106,108]),([],[104,109]),([],[110])] B6 ?_;have Ahq:C0.P.concrete 92=true:=F.AgX;obtain⟨z,hz⟩:∃ z,z=2 ^ i:=⟨_,rfl⟩;have xu:z<18446744073709551616:=by
    have h1:z<2 ^ 64:=by rw[hz];exact Nat.pow_lt_pow_right (by decide) (by omega)
    exact h1
   have Ah7:IntKind.u64.wrap (1*2 ^ min i 64)=(z:Int):=by rw[show min i 64=i by omega,Int.one_mul,show ((2:Int) ^ i)=((z:Nat):Int) by grind,K7 xu]
   have Ahm:=bits_or_u64_nat (code S) z RN xu;have n9:((i:Int)<0)=False:=eq_false (by omega);have UP:(Dv (Az s opts) (S++[i]))=⟨Bj (Az s opts).cost S+o.cost,code S ||| z⟩:=by simp only[Dv,H9,Bj,P4,Yu,hz,Int.add_zero]
   have WE:=eX _ (kids (Az s opts) S f) (Tt Hy Hz i3 (Dv (Az s opts) (S++[i]))).1;have uB:=(Tt Hy Hz i3 (Dv (Az s opts) (S++[i])));have iE:=uB.2.length_eq;rw[i5]at WE;simp only[List.length_cons]at iE;have gF:code S ||| z<18446744073709551616:=Nat.or_lt_two_pow (n:=64) RN xu;have gG:P0 (Xr AU g (Dv (Az s opts) (S++[i]))):=λc hc=>by
    rcases mem_cons.1 (uB.2.mem_iff.1 hc) with h1|h1
    ·grind
    ·exact i4 c h1
   rw[UP]at i5 uB iE WE gG;simp(disch:=omega)only[go_sem,↓hco,↓Ahq,gm,ho,n9,Ah7,Ahm];refine call2 ⟨⟨[(2176,0)],[(2240,63)],[]⟩,[],[]⟩ (AaA g ⟨Bj (Az s opts).cost S+o.cost,code S ||| z⟩ (by omega) i4 gF) (gO ?_);exact hJ _ (i+1,Xr AU g ⟨Bj (Az s opts).cost S+o.cost,code S ||| z⟩) ⟨by omega,Hf,uB.1,gG,by grind⟩ (by omega) AK
  ·have h0:¬ v &&& GX (Ca s).2 o.proc=0:=by grind
   have ha:again (Az s opts) S i=true:=by grind
   rw[ha]at i5;simp only[if_true,nil_append]at i5;refine hJ _ (i+1,g) ⟨by omega,Hf,i3,i4,by grind⟩ (by omega) AK
def qQ(S T:List Nat)(hl:S.length<=1000000)(hm:T.length<=1000000):Ad C0 24 [E3 S,E3 T] [] (B (decide (S=T))) []:=by
 refine Ad.go f24 ?_;unfold f24;simp(disch:=omega)only[go_sem,length_map];refine⟨λh=>?_,λh=>?_⟩
 ·have CZ:¬ S=T:=λe=>by subst e;simp at h
  refine Al _ ?_;exact .eq (by simp[CZ])
 have hlen:S.length=T.length:=by simp at h;omega
 refine AF (S) (λi=>⟨[(5,I i),(0,E3 S),(1,E3 T)],[]⟩) (λi=>S.take i=T.take i) rfl ?_ ?_
 ·exact Ce
 rintro i ⟨hi,hP⟩ J hJ;refine gO ?_;refine Bo hi (λAP b hb Cg AX=>?_) λBa=>?_
 refine Ay 8 [([],[0]),([],[5]),([],[17,18]),([],[19]),([],[1]),([],[5]),([],[21,22]),([],[23])] B6 ?_;simp(disch:=omega)only[go_sem,gm,hb]
 ·obtain⟨c,hc⟩:∃ c,T[i]?=some c:=⟨_,gE (by omega)⟩;simp(disch:=omega)only[go_sem,gm,hb,hc];refine⟨λh=>?_,λh=>?_⟩
  ·have CZ:¬ S=T:=λe=>by subst e;rw[hb]at hc;injection hc with hc;subst hc;simp at h
   refine Al _ ?_;exact .eq (by simp[CZ])
  ·have he:b=c:=by simp at h;omega
   subst he;refine hJ _ (i+1) ⟨by omega,(by rw[take_add_one,take_add_one,hP,hb,hc])⟩ (by omega) AK
 ·subst Ba;rw[take_length,hlen,take_length]at hP;refine Al _ ?_;exact .eq (by simp[hP])
def DV:Nat->Expr->Bool
 | 0,_=>false
 | d+1,e=>decide (e.kids.length<=10)&&e.kids.all (DV d)
def Aao:∀ (d:Nat),d<=1000->∀ e:Expr,Ad C0 27 [.agg e.c,I d] [] (B (DV d e)) []:=by
 intro d
 induction d with
 | zero =>
  intro _ e;refine Ad.go f27 ?_;unfold f27;refine gO ?_;refine Al _ ?_;exact .eq (by simp[DV])
 | succ d ih =>
  intro hd e;have z1:((d:Int)+1==0)=false:=by simp;omega
  by_cases h1:10<e.kids.length
  ·have e1:(10<(e.kids.length:Int))=True:=eq_true (by omega);refine Ad.go f27 ?_;unfold f27;simp(disch:=omega)only[go_sem,z1,Expr.Dg,length_map,e1,decide_true];refine Al _ ?_;exact .eq (by simp[DV];omega)
  have e1:(10<(e.kids.length:Int))=False:=eq_false (by omega);refine Ad.go f27 ?_;unfold f27;simp(disch:=omega)only[go_sem,z1,Expr.Dg,length_map,e1,decide_false];refine AF (e.kids) (λi=>⟨[(5,I i),(1,I ((d:Int)+1)),(2,.ptr 128 0)],[(128,e.c)]⟩) (λi=>(e.kids.take i).all (DV d)=true) rfl ?_ ?_
  ·exact Ce
  rintro i ⟨hi,hP⟩ J hJ;refine gO ?_;refine Bo hi (λAP b hb Cg AX=>?_) λBa=>?_
  simp(disch:=omega)only[go_sem,gm,hb]
  ·refine Ab (ih (by omega) b) ?_ (hx:=by simp(disch:=omega)only[go_sem,Expr.Dg];exact .int (by omega));cases hfb:DV d b
   ·simp(disch:=omega)only[go_sem];refine Al _ ?_;exact .eq (by simp[DV,all_false Cg hfb])
   ·simp(disch:=omega)only[go_sem];refine hJ _ (i+1) ⟨by omega,by rw[H4 hb,hP,hfb];rfl⟩ (by omega) (AT.Aq gI (by simp(disch:=omega)only[go_sem,Expr.Dg]))
  ·subst Ba;rw[take_length]at hP;refine Al _ ?_;exact .eq (by simp only[DV,hP];simp;omega)
def RF(q:Queue):Bool:=decide (q.holds.length<=10)&&decide (q.As.length<=10)&&decide (q.waits.length<=10)
def Hv(s:WS):Bool:=decide (s.Aa.length<=10)&&decide (s.Aw.length<=10)&&s.Aa.all RF&&s.Aw.all (λn=>DV 5 n.expr)
def nC{s:WS}(h:Hv s=true):Iy s:=by
 simp only[Hv,RF,Bool.and_eq_true,decide_eq_true_eq,List.all_eq_true]at h;refine⟨by omega,by omega,λq hq=>?_⟩;have:=h.1.2 q hq;unfold BS B7;omega
def Aak(s:WS):Ad C0 10 [.agg s.c] [] (B (Hv s)) []:=by
 refine Ad.lens f10 λhlen=>?_
 simp only[FZ,lens,WS.c,length_map,and_true,true_and]at hlen;refine Ad.go f10 ?_;unfold f10
 by_cases h1:10<s.Aa.length
 ·have e1:(10<(s.Aa.length:Int))=True:=eq_true (by omega);have e:Hv s=false:=by simp[Hv];omega
  simp(disch:=omega)only[go_sem,length_map,e1,decide_true];refine Al _ ?_;exact wb (by rw[e])
 have e1:(10<(s.Aa.length:Int))=False:=eq_false (by omega)
 by_cases h2:10<s.Aw.length
 ·have e2:(10<(s.Aw.length:Int))=True:=eq_true (by omega);have e:Hv s=false:=by simp[Hv];omega
  simp(disch:=omega)only[go_sem,length_map,e1,e2,decide_false,decide_true];refine Al _ ?_;exact wb (by rw[e])
 have e2:(10<(s.Aw.length:Int))=False:=eq_false (by omega);simp(disch:=omega)only[go_sem,length_map,e1,e2,decide_false];refine AF (s.Aa) (λi=>⟨[(3,I i),(1,.ptr 64 0)],[(64,s.c)]⟩) (λi=>(s.Aa.take i).all RF=true) rfl ?_ ?_
 ·exact Ce
 rintro i ⟨hi,hP⟩ J hJ;refine gO ?_;refine Bo hi (λAP b hb Cg AX=>?_) λBa=>?_
 simp(disch:=omega)only[go_sem,gm,hb]
 ·have bad:RF b=false->Hv s=false:=λh=>by simp only[Hv,all_false Cg h,Bool.and_false,Bool.false_and]
  by_cases k1:10<b.holds.length
  ·have d1:(10<(b.holds.length:Int))=True:=eq_true (by omega);simp(disch:=omega)only[go_sem,d1,length_map,decide_true];refine Al _ ?_;exact wb (by rw[bad (by simp[RF];omega)])
  have d1:(10<(b.holds.length:Int))=False:=eq_false (by omega)
  by_cases k2:10<b.As.length
  ·have d2:(10<(b.As.length:Int))=True:=eq_true (by omega);simp(disch:=omega)only[go_sem,d1,d2,decide_false,decide_true,gm,hb,length_map];refine Al _ ?_;exact wb (by rw[bad (by simp[RF];omega)])
  have d2:(10<(b.As.length:Int))=False:=eq_false (by omega)
  by_cases k3:10<b.waits.length
  ·have d3:(10<(b.waits.length:Int))=True:=eq_true (by omega);simp(disch:=omega)only[go_sem,d1,d2,d3,decide_false,decide_true,gm,hb,length_map];refine Al _ ?_;exact wb (by rw[bad (by simp[RF];omega)])
  have d3:(10<(b.waits.length:Int))=False:=eq_false (by omega);have hs:RF b=true:=by simp[RF];omega
  simp(disch:=omega)only[go_sem,d1,d2,d3,decide_false,gm,hb,length_map];refine hJ _ (i+1) ⟨by omega,(by rw[H4 hb,hP,hs];rfl)⟩ (by omega) AK
 subst Ba;rw[take_length]at hP;have hq:=hP;clear hJ hP;refine AF (s.Aw) (λi=>⟨[(4,I i),(1,.ptr 64 0)],[(64,s.c)]⟩) (λi=>(s.Aw.take i).all (λn=>DV 5 n.expr)=true) rfl ?_ ?_
 ·exact Ce
 rintro i ⟨hi,hP⟩ J hJ;refine gO ?_;refine Bo hi (λAP b hb Cg AX=>?_) λBa=>?_
 simp(disch:=omega)only[go_sem,gm,hb]
 ·refine Ab (Aao 5 (by omega) b.expr) ?_;cases hfb:DV 5 b.expr
  ·simp(disch:=omega)only[go_sem];refine Al _ ?_;exact wb (by simp[Hv,all_false (f:=λn:Need=>DV 5 n.expr) Cg hfb])
  ·simp(disch:=omega)only[go_sem];refine hJ _ (i+1) ⟨by omega,(by rw[H4 hb,hP,hfb];rfl)⟩ (by omega) AK
 ·subst Ba;rw[take_length]at hP;refine Al _ ?_;exact wb (by simp only[Hv,hP,hq];simp;omega)
end Go.Rd
