/- part 13 of the proof -/
import Derived.Shelf.SlSortCmp.NoneTotal
import Derived.Test.YteliegkcmjimoaaGreatDoorV12
set_option linter.all false
namespace Go.Abs
open Go.Proofs Go.Shelf Go.RowKit Go.Lib Go.Sort
variable {P:Program} {ρ:Go.Shelf.Ren} {α:Type} [Inhabited α]
def gz{w w':World}(hs:w.heap.size<=w'.heap.size)(ho:∀ b,b<w.heap.size->w'.heap[b]?=w.heap[b]?):w'.heap=w.heap++w'.heap.extract w.heap.size w'.heap.size:=by
 apply Array.ext_getElem?;intro b
 by_cases hb:b<w.heap.size
 ·rw[ho b hb,Array.getElem?_append_left hb]
 ·rw[Array.getElem?_append_right (by omega),Array.getElem?_extract]
  by_cases LU:b<w'.heap.size
  ·rw[if_pos (by omega)];congr 1;omega
  ·rw[if_neg (by omega),Array.getElem?_eq_none (by omega)]
def fN{C:Ctx}{g:Nat}{xs:List AV}{us:List Value}{v:Value}(h:Ac C g xs [] (.v v) [])(G:Gh)(W:World)(hG:Glob C G W)(V7:∀ b,G.own b=.ro\/G.own b=.other)(hx:Az G W xs us) :
 Calls C.P g us.toArray W λe w'=>e=.returned v/\∃ q os',w'=grow (W.drewN q) os':=by
 refine Calls.mono (h.2 G W us hG hx λ_ _ h=>by cases h) λe w' ⟨u,g',he,Gq,hy,_⟩=>?_
 simp only[VR]at hy;subst hy;refine⟨he,w'.drawn-W.drawn,w'.heap.extract W.heap.size w'.heap.size,?_⟩;have hh:=gz (w:=W) (w':=w') Gq.size λb hb=>(Gq.EE b hb (V7 b)).1
 obtain⟨ht,hd⟩:=Gq.tape;have ho:=Gq.os;have hp:=Gq.output;cases w' with
 | mk heap tape drawn os output =>
  simp only at hh ht hd ho hp;simp only[grow,World.drewN];rw[<- hh,ht,ho,hp];congr 1;omega
def Rh(G:Gh):Gh:={ G with own:=λb=>match G.own b with
 |.ro=>.ro
 |_=>.other }
def S4.sort{C:Ctx}(hC:C.P=P)(L:SlLaysF0.n6 P ρ)(k:Nat)(kB:0<k)(aE:∀ w,(isAgg (ρ.t 24)).run P w=.ok true w)(zE:∀ w,(Go.sizeOf (ρ.t 24)).run P w=.ok k w)(enc:α->List Value)(hk:∀ x,(enc x).length=k)
 (h1:∀ x,∀ v∈enc x,v.oneCell'=true) (cf:α->α->Int) (hO:SWO (ltOf cf)) (hT:∀ x y,(ltOf cf) x y=false->(ltOf cf) y x=false->x=y) (g0:Nat)
 (xI:∀ x y,Ac C g0 [.agg (vals (enc x)),.agg (vals (enc y))] [] (.v (.int .i64 (cf x y))) []) (hf:∃ fn c,P.funcs[ρ.f 6]?=some fn/\(fn.name=="runtime.NumGoroutine")=false/\fn.body=some c) (ps:List α) (Ec:ps.length<4611686018427387904) :
 S4 C (ρ.f 6) k (ps.map λx=>vals (enc x)) [.fn g0 []] ((ps.mergeSort λx y=>!(ltOf cf) y x).map λx=>vals (enc x)):=by
 subst hC;refine⟨hf,λG w r u us hG hu hv=>?_⟩
 match us,hv with
 |[fv],hv =>
  simp only[Az,VR,and_true]at hv;obtain⟨cs,rfl,RR⟩:=hv;have AaQ:cs = #[]:=by
   cases hl:cs.toList with
   | nil=>exact Array.toList_eq_nil_iff.1 hl
   | cons a b=>rw[hl]at RR;simp[Az]at RR
  subst AaQ;obtain⟨_,⟨rfl,iP⟩|⟨h0,_⟩|⟨cap,cur,T,rfl,h2,h3,h5,h6,h7,h8⟩⟩:=hu
  ·have Vf:ps=[]:=by simpa using iP
   subst Vf;exact Calls.mono (AnyF.slices_SortFunc_none L none 0 _ w) λe w' ⟨he,hw⟩=>⟨he,.inl ⟨by simp,by subst hw;exact⟨rfl,⟨rfl,Nat.le_refl _⟩,rfl,Nat.le_refl _,λ_ _=>rfl⟩⟩⟩
  ·omega
  ·simp only[Nat.zero_mul,Nat.zero_add]at h7 h8;have Au:G.row r<w.heap.size:=Ee h6;obtain⟨fn0,c0,AaV,ug,iO⟩:=(xI default default).1;have eg:∀ args w,(callFunc g0 args).run C.P w=.ok (.enter g0 args) w:=λargs w=>KU AaV ug iO args w
   have Hu:∀ i x,ps[i]?=some x->∀ j v,(enc x)[j]?=some v->w.cell? ⟨G.row r,i*k+j,none⟩=some v:=λi x hx j v hj=>by
    obtain⟨e1,e2⟩:=CH.at_ _ _ k 0 h8 i (vals (enc x)) (by rw[List.getElem?_map,hx];rfl);obtain⟨us,k1,k2⟩:=Cu.list _ _ _ e2;obtain⟨v',L8,hp⟩:=B3.get k1 j (.v v) (by simp[vals,hj]);simp only[PR]at hp;have:=k2 j v' L8;rw[add_lit]at this;rw[hp.1]at this;simpa using this
   have hH:HoldsK enc k w (G.row r) 0 ps.toArray:=λj hj=>by
    have V3:j<ps.length*k:=by simpa using hj
    have hd:j / k<ps.length:=Nat.div_lt_of_lt_mul (by rwa [Nat.mul_comm]);have hm:j%k<k:=Nat.mod_lt _ kB;rw[get_flatK enc k _ j (by simpa using V3)];have hx:ps[j / k]?=some ps[j / k]:=List.getElem?_eq_getElem hd;have hv:(enc ps[j / k])[j%k]?=some (enc ps[j / k])[j%k]!:=by
     rw[List.getElem?_eq_getElem (by rw[hk];exact hm),getElem!_pos _ _ (by rw[hk];exact hm)]
    have hc:=Hu (j / k) _ hx (j%k) _ hv;rw[Nat.div_add_mod' j k]at hc;have hp:ps.toArray[j / k]! = ps[j / k]:=by rw[getElem!_pos _ _ (by simpa using hd)];simp
    rw[Nat.zero_add,hp];refine⟨hc,?_⟩;simp[World.frozen?,h6]
   have xZ:CmpLays C.P g0 #[] enc k cf (G.row r) 0 ps.toArray.size w:=λm os dk xL x y=>by
    have hold:∀ b,b<w.heap.size->BX G b->BX (Rh G) b/\(sortWorldK enc k w (G.row r) 0 m dk os).heap[b]?=w.heap[b]?:=λb hb hr=>by
     have Ca:G.row r≠b:=λe=>by rw[PT,<- e,h5]at hr;cases hr
     refine⟨by simp only[PT,Rh]at hr ⊢;rw[hr],?_⟩;simp only[sortWorldK,grow,putRowK,putRow,mapBlock,ahead];rw[Array.getElem?_append_left (by simpa using hb),Array.getElem?_modify,if_neg Ca];rfl
    have hG':Glob C (Rh G) (sortWorldK enc k w (G.row r) 0 m dk os):=λi cs hi=>by
     obtain⟨q1,q2,q3⟩:=hG i cs hi;refine⟨q1,by simp only[PT,Rh]at q2 ⊢;rw[q2],Cu.mono hold _ ⟨i,0,none⟩ 0 q2 q3⟩
    have:=fN (xI x y) (Rh G) _ hG' (λb=>by simp only[Rh];cases G.own b<;>simp) (us:=[.agg (enc x).toArray,.agg (enc y).toArray]) (by
     simp only[Az,VR,and_true];exact⟨⟨_,rfl,H0 _⟩,⟨_,rfl,H0 _⟩⟩)
    exact this
   have hlen:(ps.map λx=>vals (enc x)).length=ps.toArray.size:=by simp
   rw[hlen,Nat.zero_mul];refine Calls.mono (AnyQ.slices_SortFunc_total L k aE zE enc hk h1 cf hO g0 #[] (G.row r) 0 cap ps.toArray w eg xZ hH Au (by simpa using Ec) hT) λe w' ⟨he,n,os,hw⟩=>?_
   refine⟨he,.inr ?_⟩;generalize Yu:(ps.mergeSort λx y=>!(ltOf cf) y x)=qs at hw;have hql:qs.length=ps.length:=by rw[<- Yu];simp
   have RR:cap*k<=cur.size:=h7;have hle:ps.length*k<=cur.size:=Nat.le_trans (Nat.mul_le_mul_right _ (by simpa using h2)) RR;refine⟨cur,putCells id 0 (flatK enc k qs.toArray) cur,T,⟨h5,h6,by simp[putCells],λp hp=>?_,?_⟩,?_⟩
   ·have V5:ps.length*k<=p:=by
     rcases hp with h|h
     ·omega
     ·simpa [hql]using h
    simp only[putCells,Array.getElem?_mapIdx,size_flatK,List.size_toArray,hql];cases cur[p]? with
    |none=>rfl
    |some y =>
     simp only[Option.map_some];rw[if_neg (by omega)]
   ·refine CH.Z5 _ _ _ 0 λi e SR=>?_
    rw[List.getElem?_map]at SR;obtain⟨x,hx,rfl⟩:=Option.map_eq_some_iff.1 SR;refine⟨by simp[vals,hk],?_⟩;refine Cu.Dt _ (enc x) _ _ (Mb _ ?_) λj v hj=>?_
    ·have:∀ zs:List Value,(∀ v∈zs,v.oneCell'=true)->Cx (vals zs)=true:=by
      intro zs
      induction zs with
      | nil=>intro _;rfl
      | cons z zs ih =>
       intro hz;have:=ih λv hv=>hz v (by simp[hv])
       simp only[vals,List.map_cons,Cx,Jm,Bool.and_eq_true]at this ⊢;exact⟨hz z (by simp),this⟩
     exact this _ (h1 x)
    ·have hi:i<qs.length:=by
      rcases Nat.lt_or_ge i qs.length with h|h
      ·exact h
      ·rw[List.getElem?_eq_none h]at hx;cases hx
     have Zx:j<k:=by
      rcases Nat.lt_or_ge j (enc x).length with h|h
      ·rwa [hk]at h
      ·rw[List.getElem?_eq_none h]at hj;cases hj
     have AR:i*k+j<qs.length*k:=by
      have:(i+1)*k<=qs.length*k:=Nat.mul_le_mul_right _ hi;rw[Nat.add_mul]at this;omega
     simp only[Nat.zero_mul,Nat.zero_add,add_lit];rw[cell_of_row _ _ _ _ _ _ (setRow_heap w _ cur _ T _ h6)];simp only[putCells,Array.getElem?_mapIdx,size_flatK,List.size_toArray];rw[Array.getElem?_eq_getElem (by rw[hql]at AR;omega),Option.map_some,if_pos ⟨Nat.zero_le _,by omega⟩,Nat.sub_zero,get_flatK enc k _ _ (by simpa using AR)];have e1:(i*k+j) / k=i:=by rw[Nat.mul_comm,Nat.mul_add_div kB,Nat.div_eq_of_lt Zx,Nat.add_zero]
     have e2:(i*k+j)%k=j:=by rw[Nat.mul_comm,Nat.mul_add_mod,Nat.mod_eq_of_lt Zx]
     have e3:qs.toArray[i]! = x:=by
      have e4:qs.toArray[i]! = qs[i]:=by rw[getElem!_pos _ _ (by simpa using hi)];simp
      rw[e4];rw[List.getElem?_eq_getElem hi]at hx;exact Option.some.inj hx
     rw[e1,e2,e3];rw[List.getElem?_eq_getElem (by rw[hk];exact Zx)]at hj;injection hj with hj
     rw[getElem!_pos _ _ (by rw[hk];exact Zx),hj];rfl
   ·subst hw;refine⟨rfl,⟨rfl,Nat.le_add_right _ _⟩,rfl,?_,λb hb=>?_⟩
    ·simp[sortWorldK,grow,putRowK,putRow,mapBlock,ahead,World.setRow]
    ·have LU:b<w.heap.size:=by simpa [World.setRow]using hb
     simp only[sortWorldK,grow,putRowK,putRow,mapBlock,ahead];rw[Array.getElem?_append_left (by simpa using LU),Array.getElem?_modify]
     by_cases hbr:G.row r=b
     ·subst hbr;have e:(Go.Sort.ahead w n).heap[G.row r]?=some (.cells cur T (0,0)):=h6;rw[if_pos rfl,e,setRow_heap w _ cur _ T _ h6];rfl
     ·rw[if_neg hbr,setRow_other w _ _ _ (Ne.symm hbr)];rfl
 |[],hv=>simp[Az]at hv
 |_::_::_,hv=>simp[Az]at hv
end Go.Abs
open Go Go.Abs Go.Proofs
set_option maxRecDepth 100000
namespace Go.Rd
set_option maxHeartbeats 8000000
open List (drop_drop getElem_mem length_drop length_map length_take map_set mem_cons pairwise_cons take_add_one take_length)
open Bool (not_eq_true')
open Option (toList_some)
open Nat (lt_succ_self)
open Tryz
instance:Inhabited Ad:=⟨p0⟩
theorem JD(p q:Ad):Go.Proofs.ltOf Bw p q=decide (Bw p q<0):=rfl
def HB(p q:Ad):(Bw p q = -1/\(p.site<q.site\/p.site=q.site/\(p.inc<q.inc\/p.inc=q.inc/\p.num<q.num)))\/(Bw p q=1/\(q.site<p.site\/p.site=q.site/\(q.inc<p.inc\/p.inc=q.inc/\q.num<p.num)))\/(Bw p q=0/\p=q):=by
 unfold Bw
 repeat' split
 all_goals first
  |(left;refine⟨rfl,?_⟩;omega)
  |(right;left;refine⟨rfl,?_⟩;omega)
  |(right;right;refine⟨rfl,?_⟩;cases p;cases q;simp at *;omega)
def Ds(p q:Ad):Bw q p = - Bw p q:=by
 rcases HB p q with ⟨h,h1⟩|⟨h,h1⟩|⟨h,h1⟩<;>rcases HB q p with ⟨k,k1⟩|⟨k,k1⟩|⟨k,k1⟩<;>first|omega|(subst h1;omega)|(subst k1;omega)
def FX{p q:Ad}(h:Bw p q=0):p=q:=by
 rcases HB p q with ⟨k,_⟩|⟨k,_⟩|⟨_,k⟩
 ·omega
 ·omega
 ·exact k
def DN(p:Ad):Bw p p=0:=by
 have:=Ds p p;omega
def DP{p q r:Ad}(h1:Bw p q<0)(h2:Bw q r<0):Bw p r<0:=by
 rcases HB p q with ⟨_,a⟩|⟨a,_⟩|⟨a,_⟩
 ·rcases HB q r with ⟨_,b⟩|⟨b,_⟩|⟨b,_⟩
  ·rcases HB p r with ⟨c,_⟩|⟨_,c⟩|⟨_,c⟩
   ·omega
   ·omega
   ·subst c;omega
  ·omega
  ·omega
 ·omega
 ·omega
def AbZ:Go.Sort.SWO (Go.Proofs.ltOf Bw) where
 irrefl p:=by rw[JD,DN];rfl
 trans p q r h1 h2:=by rw[JD]at *;simp only[decide_eq_true_eq]at *;exact DP h1 h2
 ntrans p q r h1 h2:=by
  rw[JD]at *;simp only[decide_eq_false_iff_not]at *;intro h
  by_cases e:Bw q p<0
  ·exact h2 (DP e h)
  ·have:Bw p q=0:=by have:=Ds p q;omega
   rw[FX this]at h;exact h2 h
def Ab2(p q:Ad)(h1:Go.Proofs.ltOf Bw p q=false)(h2:Go.Proofs.ltOf Bw q p=false):p=q:=by
 rw[JD]at *;simp only[decide_eq_false_iff_not]at *;refine FX ?_;have:=Ds p q;omega
def Ad.vs(p:Ad):List Value:=[.int .i64 p.site,.int .i64 p.inc,.int .i64 p.num]
def M7(ps:List Ad):List Ad:=ps.mergeSort λx y=>!(Go.Proofs.ltOf Bw) y x
def jL(ps:List Ad)(h:ps.length<=1000000):S4 C0 132 3 (ps.map Ad.c) [.fn 74 []] ((M7 ps).map Ad.c):=by
 have:=S4.sort (C:=C0) rfl Tryz.y9 3 (by omega) (λw=>Go.Abs.I0 F.Aal) (λw=>Go.Abs.run_sizeOf F.Ab0) Ad.vs (λ_=>rfl) (λx v hv=>by simp[Ad.vs]at hv;rcases hv with rfl|rfl|rfl<;>rfl) Bw AbZ Ab2 74
  (λx y=>J7 x y) ⟨f132,f132.body.getD .skip,by kernel_rfl,by kernel_rfl,by kernel_rfl⟩ ps (by omega)
 exact this
def DI:List Ad->List Ad
 |[]=>[]
 |[a]=>[a]
 | a::b::l=>if a=b then DI (b::l) else a::DI (b::l)
def Oq:∀ (l:List Ad) (a b:Ad),DI (l++[a]++[b])=if a=b then DI (l++[a]) else DI (l++[a])++[b]
 |[],a,b=>by
  by_cases h:a=b<;>simp[DI,h]
 |[x],a,b=>by
  have:=Oq [] a b;simp only[List.nil_append,List.cons_append]at this ⊢;simp only[DI]at this ⊢
  by_cases h:a=b<;>by_cases h':x=a<;>simp[h,h']at this ⊢<;>(try simp[DI])<;>simp_all
 | x::y::l,a,b=>by
  have:=Oq (y::l) a b;simp only[List.cons_append]at this ⊢;simp only[DI]
  by_cases h:x=y
  ·simp only[h,if_true];exact this
  ·simp only[h,if_false];rw[this]
   by_cases h':a=b<;>simp[h']
def Pg:∀ l:List Ad,(DI l).length<=l.length
 |[]=>by simp[DI]
 |[a]=>by simp[DI]
 | a::b::l=>by
  have:=Pg (b::l);simp only[DI];split
  ·simp at this ⊢;omega
  ·simp at this ⊢;omega
theorem Il{l:List Ad}{i:Nat}{b:Ad}(hb:l[i]?=some b):l.take (i+1)=l.take i++[b]:=by rw[take_add_one,hb];rfl
def Ot{l:List Ad}{i:Nat}{a b:Ad}(ha:l[i]?=some a)(hb:l[i+1]?=some b):DI (l.take (i+2))=if a=b then DI (l.take (i+1)) else DI (l.take (i+1))++[b]:=by
 rw[Il hb,Il ha,Oq]
@[reducible] def MW(r:Nat)(l:List Ad):AV:=.sl (.own r 0) 3 (l.map Ad.c)
theorem ie(k:Nat)(cs es:List (List AV)):(over 0 k cs es).take k=es.take k:=by
 refine List.ext_getElem? λi=>?_
 rw[List.getElem?_take,List.getElem?_take];split
 ·rename_i h;have hn:¬ (k<=i):=by omega
  simp only[over,List.getElem?_mapIdx,Nat.zero_add,hn,if_false];cases es[i]?<;>rfl
 ·rfl
def Zq{α:Type}{l cur:List α}{d i:Nat}(h:cur.drop d=l.drop d)(hi:d<=i):cur[i]?=l[i]?:=by
 have:=congrArg (λx=>x[i-d]?) h;simp only[List.getElem?_drop]at this
 rwa [show d+(i-d)=i by omega]at this
def nK(l:List Ad)(hl:l.length<=1000000):Ac C0 133 [MW 0 l] [] (MW 1 (DI l)) []:=by
 refine Ac.go f133 ?_;unfold f133
 by_cases h2:l.length<2
 ·have e1:((l.length:Int)<2)=True:=eq_true (by omega);have e:DI l=l:=by
   match l,h2 with
   |[],_=>rfl
   |[a],_=>rfl
   | a::b::l,h=>simp at h;omega
  simp(disch:=omega)only[go_sem,e1];refine AZ ⟨[(0,1)],[],[]⟩ _ rfl ⟨rfl,rfl⟩ (by simp[lk]) ?_ trivial;simp(disch:=omega)only[go_sem,e]
 have e1:((l.length:Int)<2)=False:=eq_false (by omega);simp(disch:=omega)only[go_sem,e1,decide_false];refine Ao (α:=Nat) (λi=>⟨[(3,I (i+1:Nat)),(0,MW 0 l)],[]⟩) (λi=>i+1<=l.length/\DI (l.take (i+1))=l.take (i+1)) (λi=>l.length-i) 0 ⟨by omega,by
  match l,h2 with
  | a::b::l,_=>rfl
  |[a],h=>exact absurd (by simp) h
  |[],h=>exact absurd (by simp) h⟩ ?_ ?_
 ·exact AQ.An gI gI
 rintro i ⟨hi,hc⟩ J hJ
 by_cases Au:i+1<l.length
 ·have z1:(((i+1:Nat):Int)<l.length)=True:=eq_true (by omega);obtain⟨a,ha⟩:∃ a,l[i]?=some a:=⟨_,gE (by omega)⟩;obtain⟨b,hb⟩:∃ b,l[i+1]?=some b:=⟨_,gE (by omega)⟩;have z2:((i:Int)+1<l.length)=True:=eq_true (by omega);have z3:((i:Int)+1-1)=(i:Int):=by omega
  have z4:((i:Int)+1)=((i+1:Nat):Int):=rfl;simp(disch:=omega)only[go_sem,z1,z2];refine Av 9 [([],[0]),([],[3]),([],[16,17]),([],[18]),([],[0]),([],[3]),([],[21]),([],[20,22]),([],[23])] B7 ?_;simp(disch:=omega)only[go_sem,z3,gm,ha,hb];refine⟨λh=>?_,λh=>?_⟩;rotate_left
  ·have Ca:a≠b:=λe=>by simp[e]at h
   refine hJ _ (i+1) ⟨by omega,?_⟩ (by omega) AS;rw[Ot ha hb,if_neg Ca,hc,<- Il hb]
  have LS:a=b:=by simp at h;exact h.symm
  have rn:DI (l.take (i+1+1))=l.take (i+1):=by rw[Ot ha hb,if_pos LS,hc]
  clear hJ h hb z1 z2 z3 z4 ha LS hc;generalize hm:i+1=m at Au rn;refine Ao (α:=List Ad × Nat × Nat) (λx=>⟨[(5,I x.2.2),(3,I x.2.1),(4,.sl (.own 0 m) 3 ((x.1.drop m).map Ad.c)),(0,MW 0 x.1)],[]⟩)
   (λx=>x.1.length=l.length/\1<=x.2.2/\m+x.2.2<=l.length/\m<=x.2.1/\x.2.1+1<=m+x.2.2/\x.1.take x.2.1=DI (l.take (m+x.2.2))/\x.1.drop (m+x.2.2-1)=l.drop (m+x.2.2-1)) (λx=>l.length-m-x.2.2) (l,m,1) ⟨rfl,by simp,by simp;omega,by simp,by simp,by simp[rn],rfl⟩ ?_ ?_
  ·refine AQ.An ?_ gI;simp(disch:=omega)only[go_sem,hm];refine⟨.int (by omega),.sl ?_⟩;rw[List.map_drop];exact List.take_of_length_le (by simp)
  rintro⟨cur,k,j⟩ ⟨i1,i2,i3,i4,i5,i6,i7⟩ J hJ
  replace i1:cur.length=l.length:=i1
  replace i2:1<=j:=i2
  replace i3:m+j<=l.length:=i3
  replace i4:m<=k:=i4
  replace i5:k+1<=m+j:=i5
  replace i6:cur.take k=DI (l.take (m+j)):=i6
  replace i7:cur.drop (m+j-1)=l.drop (m+j-1):=i7
  obtain⟨j,rfl⟩:∃ j',j=j'+1:=⟨j-1,by omega⟩
  by_cases hj:m+(j+1)<l.length
  ·have y1:((j:Int)+1<((l.length-m:Nat):Int))=True:=eq_true (by omega);obtain⟨x,hx⟩:∃ x,l[m+(j+1)]?=some x:=⟨_,gE hj⟩;obtain⟨y,hy⟩:∃ y,l[m+j]?=some y:=⟨_,gE (by omega)⟩;have cx:cur[m+(j+1)]?=some x:=by rw[Zq i7 (by omega),hx]
   have cy:cur[m+j]?=some y:=by rw[Zq i7 (by omega),hy]
   have HH:=Ot hy hx;have y3:((j:Int)+1-1)=(j:Int):=by omega
   obtain⟨z,hz⟩:∃ z,cur[k]?=some z:=⟨_,gE (by omega)⟩;have y4:(m<=k)=True:=eq_true i4;simp(disch:=omega)only[go_sem,length_drop,i1,y1];refine Av 9 [([],[4]),([],[5]),([],[35,36]),([],[37]),([],[4]),([],[5]),([],[40]),([],[39,41]),([],[42])] B7 ?_;simp(disch:=omega)only[go_sem,y3,y4,gm,List.getElem?_drop,cx,cy,hz,length_drop,i1];refine⟨λh=>?_,λh=>?_⟩
   ·have Ca:y≠x:=λe=>by simp[e]at h
    rw[if_neg Ca]at HH;refine hJ _ (cur.set k x,k+1,j+1+1) ⟨by simp[i1],by simp,by simp;omega,by simp;omega,by simp;omega,?_,?_⟩ (by simp;omega) (AQ.An ?_ gI)
    ·rw[show m+(j+1+1)=m+j+2 by omega,HH,show m+j+1=m+(j+1) by omega,<- i6];rw[take_add_one,List.getElem?_set_self (by omega),List.take_set_of_le (by omega)];rfl
    ·rw[show m+(j+1+1)-1=m+(j+1) by omega,List.drop_set_of_lt (by omega)];have:=congrArg (List.drop 1) i7;rw[drop_drop,drop_drop,show m+(j+1)-1+1=m+(j+1) by omega]at this;exact this
    ·simp(disch:=omega)only[go_sem];have gM:(cur.set k x).drop m=(cur.drop m).set (k-m) x:=by rw[List.drop_set,if_neg (by omega)]
     refine⟨.sl ?_,.sl ?_⟩
     ·rw[gM,map_set];rfl
     ·rw[map_set];rfl
   ·have Ca:y=x:=by simp at h;exact h.symm
    rw[if_pos Ca]at HH;refine hJ _ (cur,k,j+1+1) ⟨i1,by simp,by simp;omega,i4,by simp;omega,?_,?_⟩ (by simp;omega) AS
    ·rw[show m+(j+1+1)=m+j+2 by omega,HH,show m+j+1=m+(j+1) by omega,<- i6]
    ·rw[show m+(j+1+1)-1=m+(j+1) by omega];have:=congrArg (List.drop 1) i7;rw[drop_drop,drop_drop,show m+(j+1)-1+1=m+(j+1) by omega]at this;exact this
  ·have y1:((j:Int)+1<((l.length-m:Nat):Int))=False:=eq_false (by omega);have hmj:m+(j+1)=l.length:=by omega
   rw[hmj,take_length]at i6;have bV:k<=l.length:=by omega
   have y4:(k<=l.length)=True:=eq_true bV;have y5:(over 0 k (List.replicate (l.length-k) [.v (.int .i64 0),.v (.int .i64 0),.v (.int .i64 0)]) (cur.map Ad.c)).take k=(DI l).map Ad.c:=by rw[ie,<- List.map_take,i6]
   clear hJ;simp(disch:=omega)only[go_sem,length_drop,i1,y1,decide_false,y4,Nat.sub_zero,Ig,length_take,Nat.min_self];refine AZ ⟨[(0,1)],[],[]⟩ _ rfl ⟨rfl,rfl⟩ (by simp[lk]) ?_ trivial;simp(disch:=omega)only[go_sem,y5]
 ·have Bf:i+1=l.length:=by omega
  have z1:((i:Int)+1<l.length)=False:=eq_false (by omega);rw[Bf,take_length]at hc;simp(disch:=omega)only[go_sem,z1,decide_false];refine AZ ⟨[(0,1)],[],[]⟩ _ rfl ⟨rfl,rfl⟩ (by simp[lk]) ?_ trivial;simp(disch:=omega)only[go_sem,hc]
theorem lQ{cs es:List (List AV)}(h:cs.length=es.length):over 0 0 cs es=cs:=by
 refine List.ext_getElem? λi=>?_
 simp only[over,List.getElem?_mapIdx,Nat.zero_add,Nat.zero_le,if_true,Nat.sub_zero]
 by_cases hi:i<es.length
 ·rw[gE hi,gE (by omega)];simp
 ·rw[List.getElem?_eq_none (l:=es) (by omega),List.getElem?_eq_none (l:=cs) (by omega)];rfl
def Jv(l:List Ad):Prop:=l.Pairwise λa b=>Bw a b<0
def Q8(x:Ad):∀ l:List Ad,x∈DI l↔x∈l
 |[]=>by simp[DI]
 |[a]=>by simp[DI]
 | a::b::l=>by
  have:=Q8 x (b::l);simp only[DI];split
  ·rename_i h;subst h;rw[this];simp
  ·simp only[mem_cons]at this ⊢;rw[this]
def YM:∀ l:List Ad,(l.Pairwise λa b=>Bw a b<=0)->Jv (DI l)
 |[],_=>by simp[DI,Jv]
 |[a],_=>by simp[DI,Jv]
 | a::b::l,h=>by
  have hp:=pairwise_cons.1 h;have ih:=YM (b::l) hp.2;simp only[DI];split
  ·exact ih
  ·rename_i Ca;refine pairwise_cons.2 ⟨λx hx=>?_,ih⟩;rw[Q8]at hx;have h1:=hp.1 x hx;have h2:=hp.1 b (by simp);have hb:Bw b x<=0:=by
    rcases mem_cons.1 hx with e|e
    ·subst e;rw[DN];omega
    ·exact(pairwise_cons.1 hp.2).1 x e
   have LS:Bw a b<0:=by
    rcases Int.lt_or_eq_of_le h2 with h|h
    ·exact h
    ·exact absurd (FX h) Ca
   rcases Int.lt_or_eq_of_le hb with h|h
   ·exact DP LS h
   ·rw[<- FX h];exact LS
def gY(x:Ad)(l:List Ad):x∈M7 l↔x∈l:=by
 unfold M7;exact List.mem_mergeSort
def cT(l:List Ad):(M7 l).Pairwise λa b=>Bw a b<=0:=by
 have:=List.pairwise_mergeSort (le:=λx y=>!(Go.Proofs.ltOf Bw) y x) (λa b c h1 h2=>by
  rw[JD]at *;simp only[not_eq_true',decide_eq_false_iff_not]at *;intro h;have e1:=Ds a b;have e2:=Ds b c
  by_cases h3:Bw a b=0
  ·rw[FX h3]at h;exact h2 h
  ·exact h2 (DP h (by omega))) (λa b=>by
  rw[JD,JD];have:=Ds a b;simp only[Bool.or_eq_true,not_eq_true',decide_eq_false_iff_not];omega) l
 refine List.Pairwise.imp (λ{a b} h=>?_) this;rw[JD]at h;have:=Ds a b;simp only[not_eq_true',decide_eq_false_iff_not]at h;omega
def O7:∀ {l m:List Ad},Jv l->Jv m->(∀ x,x∈l↔x∈m)->l=m
 |[],[],_,_,_=>rfl
 |[],b::m,_,_,h=>by have:=(h b).2 (by simp);cases this
 | a::l,[],_,_,h=>by have:=(h a).1 (by simp);cases this
 | a::l,b::m,hl,hm,h=>by
  have h1:=pairwise_cons.1 hl;have h2:=pairwise_cons.1 hm;have LS:a=b:=by
   have ha:=(h a).1 (by simp);have hb:=(h b).2 (by simp);rcases mem_cons.1 ha with e|e
   ·exact e
   ·rcases mem_cons.1 hb with e'|e'
    ·exact e'.symm
    ·have k1:=h2.1 a e;have k2:=h1.1 b e';have:=Ds a b;omega
  subst LS;have:l=m:=O7 h1.2 h2.2 λx=>by
   have hx:=h x;simp only[mem_cons]at hx;constructor
   ·intro iS;rcases hx.1 (.inr iS) with e|e
    ·subst e;have:=h1.1 x iS;rw[DN]at this;omega
    ·exact e
   ·intro iS;rcases hx.2 (.inr iS) with e|e
    ·subst e;have:=h2.1 x iS;rw[DN]at this;omega
    ·exact e
  rw[this]
def IU{l:List Ad}(h:Jv l):l.Nodup:=by
 refine List.Pairwise.imp (λ{a b} h e=>?_) h;subst e;rw[DN]at h;omega
def ZC(p:Ad):List Ad->List Ad
 |[]=>[p]
 | x::l=>if Bw p x<0 then p::x::l else if p=x then x::l else x::ZC p l
def ZD:List Ad->List Ad
 |[]=>[]
 | p::l=>ZC p (ZD l)
def Ul(p x:Ad):∀ l:List Ad,x∈ZC p l↔x=p\/x∈l
 |[]=>by simp[ZC]
 | y::l=>by
  have:=Ul p x l;simp only[ZC];split
  ·simp
  ·split
   ·rename_i h;subst h;simp
   ·simp only[mem_cons,this];constructor
    ·rintro(h|h|h)
     ·exact .inr (.inl h)
     ·exact .inl h
     ·exact .inr (.inr h)
    ·rintro(h|h|h)
     ·exact .inr (.inl h)
     ·exact .inl h
     ·exact .inr (.inr h)
def YO(p:Ad):∀ l:List Ad,Jv l->Jv (ZC p l)
 |[],_=>by simp[ZC,Jv]
 | y::l,h=>by
  have hp:=pairwise_cons.1 h;simp only[ZC];split
  ·rename_i Au;refine pairwise_cons.2 ⟨λx hx=>?_,h⟩;rcases mem_cons.1 hx with e|e
   ·rw[e];exact Au
   ·exact DP Au (hp.1 x e)
  ·split
   ·exact h
   ·rename_i h1 h2;refine pairwise_cons.2 ⟨λx hx=>?_,YO p l hp.2⟩;rcases(Ul p x l).1 hx with e|e
    ·subst e;have h3:=Ds x y;have h4:Bw x y≠0:=λe=>h2 (FX e)
     omega
    ·exact hp.1 x e
def Um(x:Ad):∀ l:List Ad,x∈ZD l↔x∈l
 |[]=>by simp[ZD]
 | y::l=>by simp only[ZD,Ul,Um x l,mem_cons]
def Tb:∀ l:List Ad,Jv (ZD l)
 |[]=>by simp[ZD,Jv]
 | y::l=>YO y _ (Tb l)
def Tp(l:List Ad):DI (M7 l)=ZD l:=O7 (YM _ (cT l)) (Tb l) λx=>by rw[Q8,gY,Um]
def L0(l:List Ad):List Ad:=ZD l
def IZ(x:Ad)(l:List Ad):x∈L0 l↔x∈l:=Um x l
def E7(l:List Ad):Jv (L0 l):=Tb l
def LJ(l:List Ad):(M7 l).length=l.length:=by simp[M7]
def bI(l:List Ad)(hl:l.length<=1000000):Ac C0 80 [AA l] [] (AA (L0 l)) []:=by
 refine Ac.go f80 ?_;unfold f80;have hb:l.length<=4294967296:=by omega
 simp(disch:=omega)only[go_sem];refine jl (jL l hl) rfl ?_;have ho:over 0 0 ((M7 l).map Ad.c) (l.map Ad.c)=(M7 l).map Ad.c:=lQ (by simp[LJ]);simp(disch:=omega)only[go_sem,ho];refine Bh ⟨⟨[(320,0)],[],[]⟩,[(1,576)],[]⟩ (nK (M7 l) (by rw[LJ];exact hl)) gI rfl trivial (.inl rfl) ?_;simp(disch:=omega)only[go_sem];refine CK ⟨[],[],[576]⟩ _ ?_;simp(disch:=omega)only[go_sem,L0,Tp]
def nI(l:List Ad)(p:Ad)(hl:l.length<=1000000):Ac C0 126 [AA l,.agg p.c] [] (I (match l.findIdx? (λx=>decide (x=p)) with|some i=>i|none=>-1)) []:=by
 refine Ac.go f126 ?_;unfold f126;refine gO ?_;refine AH (l) (λi=>⟨[(8,I i),(7,I l.length),(0,AA l),(3,.ptr 192 0)],[(192,p.c)]⟩) (λi=>(l.take i).find? (λx=>decide (x=p))=none) rfl ?_ ?_
 ·exact B9
 rintro i ⟨hi,hP⟩ J hJ;refine gO ?_;refine Bp hi (λAu b hb Cc AR=>?_) λBf=>?_
 refine Av 5 [([],[3]),([],[0]),([],[5]),([],[12,13]),([],[14])] B7 ?_;simp(disch:=omega)only[go_sem,gm,hb]
 ·refine⟨λh=>?_,λh=>?_⟩
  ·have e:l.findIdx? (λx=>decide (x=p))=some i:=Gk hP b hb (by simp at h;simp[h]);simp(disch:=omega)only[go_sem,e];exact AM _
  ·refine hJ _ (i+1) ⟨by omega,(by rw[B4 hP hb];simp at h;simp[Ne.symm h])⟩ (by omega) AS
 ·subst Bf;rw[take_length]at hP;have e:l.findIdx? (λx=>decide (x=p))=none:=by
   rw[List.findIdx?_eq_none_iff];rw[List.find?_eq_none]at hP;intro x hx;simpa using hP x hx
  simp(disch:=omega)only[go_sem,e];exact AM _
def tr(l:List Ad)(p:Ad)(hl:l.length<=1000000):Ac C0 76 [AA l,.agg p.c] [] (B (BL l p)) []:=by
 refine Ac.go f76 ?_;unfold f76;refine gO ?_;refine Ab (nI l p hl) ?_;refine gO ?_;refine AZ ⟨[],[],[]⟩ _ rfl ⟨rfl,rfl⟩ (by simp) ?_ trivial;refine wb ?_;unfold BL;cases h:l.findIdx? (λx=>decide (x=p)) with
 |none =>
  rw[List.findIdx?_eq_none_iff]at h;have:p∉l:=λhp=>by simpa using h p hp
  simp[this]
 |some i =>
  have:=(List.findIdx?_eq_some_iff_getElem.1 h);obtain⟨h1,h2,_⟩:=this;have hm:p∈l:=by simp at h2;rw[<- h2];exact getElem_mem h1
  simp[hm]
def Jd(l:List Ad)(p:Ad)(hl:l.length<=1000000):Ac C0 34 [AA l,.agg p.c] [] (B (BL l p)) []:=by
 refine Ac.go f34 ?_;unfold f34;refine gO ?_;refine Ab (tr l p hl) ?_;refine gO ?_;exact AM _
def jO(l:List AX)(hl:l.length<=1000000):Ac C0 182 [AY l] [] (MW 0 (Dn l)) []:=by
 refine Ac.go f182 ?_;unfold f182;refine gO ?_;refine AH (l) (λi=>⟨[(8,I i),(7,I l.length),(6,AY l),(3,.sl (.own 1024 0) 3 ((Dn (l.take i)).map Ad.c))],[]⟩) (λi=>True) trivial ?_ ?_
 ·exact B9
 rintro i ⟨hi,hP⟩ J hJ;refine gO ?_;refine Bp hi (λAu b hb Cc AR=>?_) λBf=>?_
 simp(disch:=omega)only[go_sem,gm,hb]
 ·simp(disch:=omega)only[go_sem,Dn];refine hJ _ (i+1) ⟨by omega,trivial⟩ (by omega) (AQ.An ?_ ?_)
  all_goals(try simp(disch:=omega)only[go_sem])
  all_goals(try(repeat'(with_reducible apply And.intro)))
  all_goals(first|exact .AU (by omega)|exact .AD (by omega)|exact .sl (by simp[Dn,take_add_one,hb,Ad.c])|exact .int (by simp[Dn,take_add_one,hb,Ad.c])|exact .eq (by simp[Dn,take_add_one,hb,Ad.c]))
 ·subst Bf;refine AZ ⟨[(1024,0)],[],[]⟩ _ rfl ⟨rfl,rfl⟩ (by simp[lk]) ?_ trivial;simp(disch:=omega)only[go_sem,take_length]
def B6(q:Queue):List Ad:=L0 (Dn q.holds++Ct (q.Ak++q.waits))
def Xo(q:Queue)(h:BC q<=1000000):Ac C0 130 [.agg q.c] [] (AA (B6 q)) []:=by
 have h1:q.holds.length<=1000000:=by unfold BC at h;omega
 have h2:q.Ak.length+q.waits.length<=1000000:=by unfold BC BJ at h;omega
 have h3:(Dn q.holds).length+(Ct (q.Ak++q.waits)).length<=1000000:=by simp[Dn,Ct];unfold BC BJ at h;omega
 have h4:(Dn q.holds).length+(Ct (q.Ak++q.waits)).length<=4294967296:=by omega
 refine Ac.go f130 ?_;unfold f130;refine gO ?_;refine Av 4 [([],[1]),([],[3]),([],[4]),([],[1])] B7 ?_;refine gO ?_;refine AF ⟨⟨[],[],[]⟩,[(0,320)],[]⟩ (jO q.holds h1) gI rfl rfl trivial (.inl rfl) ?_;refine gO ?_;refine Ab (oa q h2) ?_;refine gO ?_;refine FC [512] (bI (Dn q.holds++Ct (q.Ak++q.waits)) (by simpa using h3)) (by simp(disch:=omega)only[go_sem];exact .sl (by simp)) rfl ?_;refine gO ?_;refine CD _ ?_;simp(disch:=omega)only[go_sem,B6]
def q0:Queue:=⟨⟨[],0,0,0⟩,[],[],[],0⟩
def FN(q:Queue)(p:Ad):Queue × List AX × Int:=if valid q then (if BL (B6 q) p then (DA (B2 q p),(B0 (B2 q p)).2,0) else (q0,[],10)) else (q0,[],2)
def QD(l:List Ad):(L0 l).length<=l.length:=by
 have:=Pg (M7 l);rw[LJ,Tp]at this;exact this
def Jq(q:Queue):(B6 q).length<=BC q:=by
 have:=QD (Dn q.holds++Ct (q.Ak++q.waits));unfold B6 BC BJ;simp[Dn,Ct]at this ⊢;omega
def nJ(q:Queue)(p:Ad)(h:BC q+1<=1000000):Ac C0 131 [.agg q.c,.agg p.c] [] (.Bl [.agg (FN q p).1.c,AY (FN q p).2.1,I (FN q p).2.2]) []:=by
 have h1:q.holds.length<=1000000:=by unfold BC at h;omega
 have h2:q.Ak.length<=1000000:=by unfold BC BJ at h;omega
 have h3:q.waits.length<=1000000:=by unfold BC BJ at h;omega
 refine Ac.go f131 ?_;unfold f131;refine gO ?_;refine Ab (TG q h1 h3) ?_;cases hv:valid q
 ·have e:FN q p=(q0,[],2):=by simp[FN,hv]
  simp(disch:=omega)only[go_sem,Bool.not_false,e,q0];refine Aj _ ?_;refine .Bl (Af.AI ?_);simp(disch:=omega)only[go_sem]
  repeat'(with_reducible apply And.intro)
  all_goals(first|exact .AD (by omega)|exact .agg (Af.AI gI))
 simp(disch:=omega)only[go_sem,Bool.not_true];refine Av 3 [([],[2]),([],[12]),([],[3])] B7 ?_;refine gO ?_;refine Aq (Xo q (by omega)) ?_;refine gO ?_;refine Ab (Jd (B6 q) p (by have:=Jq q;omega)) ?_;refine gO ?_;refine And.intro (λhh=>?_) (λhh=>?_)
 ·have hh':BL (B6 q) p=false:=by simpa using hh
  have e:FN q p=(q0,[],10):=by simp[FN,hv,hh']
  simp(disch:=omega)only[go_sem,e,q0];refine Aj _ ?_;refine .Bl (Af.AI ?_);simp(disch:=omega)only[go_sem]
  repeat'(with_reducible apply And.intro)
  all_goals(first|exact .AD (by omega)|exact .agg (Af.AI gI))
 have hh':BL (B6 q) p=true:=by simpa using hh
 have e:FN q p=(DA (B2 q p),(B0 (B2 q p)).2,0):=by simp[FN,hv,hh']
 simp(disch:=omega)only[go_sem,e];refine Ab (Xu q h1 h2 h3) ?_;refine gO ?_;refine Bh ⟨⟨[],[(448,63),(192,127)],[]⟩,[],[]⟩ (oc q p h) gI rfl gI (.inl rfl) ?_;refine gO ?_;exact AM _
structure Iq(s:WS):Prop where
 nq:s.Aa.length<=100
 nn:s.AB.length<=100
 aq:∀ q∈s.Aa,BC q<=100
def AT(l:List Queue):List Ad:=L0 (l.flatMap B6)
def CJ(l:List Need):List Ad:=l.map (·.proc)
def Am(s:WS):List Ad:=L0 (AT s.Aa++CJ s.AB)
def MA{l:List Queue}(h:∀ q∈l,BC q<=100):(l.flatMap B6).length<=l.length*100:=by
 induction l with
 | nil=>simp
 | cons q l ih =>
  have h1:=Jq q;have h2:=h q (by simp);have h3:=ih λq' hq=>h q' (by simp[hq])
  simp only[List.flatMap_cons,List.length_append,List.length_cons];omega
def tt(l:List Queue)(h1:l.length<=100)(h2:∀ q∈l,BC q<=100):Ac C0 79 [AW l] [] (AA (AT l)) []:=by
 refine Ac.go f79 ?_;unfold f79;refine gO ?_;refine AH (l) (λi=>⟨[(8,I i),(7,I l.length),(6,AW l),(3,.sl (.own 960 0) 3 (((l.take i).flatMap B6).map Ad.c))],[]⟩) (λi=>True) trivial ?_ ?_
 ·exact B9
 rintro i ⟨hi,hP⟩ J hJ;refine gO ?_;refine Bp hi (λAu b hb Cc AR=>?_) λBf=>?_
 simp(disch:=omega)only[go_sem,gm,hb]
 ·have NW:=MA (l:=l.take i) λq hq=>h2 q (List.mem_of_mem_take hq)
  have hq:=Jq b;have QT:=h2 b Cc;have IY:((l.take i).flatMap B6).length+(B6 b).length<=4294967296:=by simp only[length_take]at NW;omega
  refine Ab (Xo b (by omega)) ?_;refine gO ?_;refine hJ _ (i+1) ⟨by omega,trivial⟩ (by omega) (AQ.An ?_ ?_)
  all_goals(try simp(disch:=omega)only[go_sem])
  all_goals(try(repeat'(with_reducible apply And.intro)))
  all_goals(first|exact .AU (by omega)|exact .AD (by omega)|exact .sl (by simp[take_add_one,hb])|exact .int (by simp[take_add_one,hb])|exact .eq (by simp[take_add_one,hb]))
 ·subst Bf;have NW:=MA h2;refine FC [960] (bI (l.flatMap B6) (by omega)) (by simp(disch:=omega)only[go_sem,take_length]) rfl ?_;refine gO ?_;refine CD _ ?_;simp(disch:=omega)only[go_sem,AT]
def MX{l:List Queue}(h:∀ q∈l,BC q<=100):(AT l).length<=l.length*100:=Nat.le_trans (QD _) (MA h)
def J6(s:WS)(h:Iq s):Ac C0 36 [.agg s.c] [] (AA (Am s)) []:=by
 have hq:=MX h.aq;have h1:=h.nq;have h2:=h.nn;have IY:(AT s.Aa).length<=4294967296:=by omega
 refine Ac.go f36 ?_;unfold f36;refine gO ?_;refine Ab (tt s.Aa h.nq h.aq) ?_;refine gO ?_;refine AH (s.AB) (λi=>⟨[(13,I i),(12,I s.AB.length),(11,MP s.AB),(3,.sl (.own 1344 0) 3 ((AT s.Aa++CJ (s.AB.take i)).map Ad.c))],[]⟩) (λi=>True) trivial ?_ ?_
 ·refine AQ.BS ⟨[(576,1344)],[],[]⟩ ⟨rfl,rfl⟩ (by simp[lk]) ?_ ?_
  all_goals(try simp(disch:=omega)only[go_sem])
  all_goals(try(repeat'(with_reducible apply And.intro)))
  all_goals(first|exact .AU (by omega)|exact .AD (by omega)|exact .sl (by simp[CJ])|exact .int (by simp[CJ])|exact .eq (by simp[CJ]))
 rintro i ⟨hi,hP⟩ J hJ;refine gO ?_;refine Bp hi (λAu b hb Cc AR=>?_) λBf=>?_
 simp(disch:=omega)only[go_sem,gm,hb]
 ·have pq:(AT s.Aa).length+(CJ (s.AB.take i)).length+1<=4294967296:=by simp[CJ];omega
  simp(disch:=omega)only[go_sem,CJ];refine hJ _ (i+1) ⟨by omega,trivial⟩ (by omega) (AQ.An ?_ ?_)
  all_goals(try simp(disch:=omega)only[go_sem])
  all_goals(try(repeat'(with_reducible apply And.intro)))
  all_goals(first|exact .AU (by omega)|exact .AD (by omega)|exact .sl (by simp[CJ,take_add_one,hb,Ad.c])|exact .int (by simp[CJ,take_add_one,hb,Ad.c])|exact .eq (by simp[CJ,take_add_one,hb,Ad.c]))
 ·subst Bf;refine FC [1344] (bI (AT s.Aa++CJ s.AB) (by simp[CJ];omega)) (by simp(disch:=omega)only[go_sem,take_length]) rfl ?_;refine gO ?_;refine CD _ ?_;simp(disch:=omega)only[go_sem,Am]
def Cm(q:Queue)(p:Ad):Queue:=if valid q&&BL (B6 q) p then { DA (B2 q p) with gen:=q.gen } else q
def Hs(l:List Need)(p:Ad):List Need:=l.filter λn=>decide (n.proc≠p)
def BU(s:WS)(p:Ad):WS:=⟨s.Aa.map λq=>Cm q p,Hs s.AB p⟩
@[reducible] def sh:List AV:=[.sl .no 8 [],.sl .no 9 []]
@[go_sem] theorem zn(p q:Ad):(Bw p q !=0) = !decide (p=q):=by
 by_cases h:p=q
 ·subst h;simp[DN]
 ·have:Bw p q≠0:=λe=>h (FX e)
  simp[h,this]
@[go_sem] theorem w9(p q:Ad):(Bw p q==0)=decide (p=q):=by
 by_cases h:p=q
 ·subst h;simp[DN]
 ·have:Bw p q≠0:=λe=>h (FX e)
  simp[h,this]
def XF(s:WS)(p:Ad)(h:Iq s):Ac C0 78 [.agg s.c,.agg p.c] [] (.agg (BU s p).c) []:=by
 have gH:=h.nq;have bX:=h.nn;refine Ac.go f78 ?_;unfold f78;refine gO ?_;refine AH (s.Aa) (λi=>⟨[(17,I i),(16,I s.Aa.length),(15,AW s.Aa),(2,.ptr 128 0),(3,.ptr 192 0),(5,.ptr 320 0),(4,.ptr 256 0)],[(128,s.c),(192,p.c),(256,sh),(320,[.sl (.own 2752 0) 8 (((s.Aa.take i).map λq=>Cm q p).map Queue.c),.v (.slice none 0 0)])]⟩) (λi=>True) trivial ?_ ?_
 ·exact B9
 rintro i ⟨hi,hP⟩ J hJ;refine gO ?_;refine Bp hi (λAu b hb Cc AR=>?_) λBf=>?_
 simp(disch:=omega)only[go_sem,gm,hb]
 ·have ha:=h.aq b Cc;have IY:i+1<=4294967296:=by omega
  have xC:min i s.Aa.length+1<=4294967296:=by omega
  have fin:∀ q,Cm b p=q->∀ st',AQ ⟨C0,[],[]⟩ st' ⟨[(17,I (i+1:Nat)),(16,I s.Aa.length),(15,AW s.Aa),(2,.ptr 128 0),(3,.ptr 192 0),(5,.ptr 320 0),(4,.ptr 256 0)],[(128,s.c),(192,p.c),(256,sh),(320,[.sl (.own 2752 0) 8 (((s.Aa.take i).map λq=>Cm q p).map Queue.c++[q.c]),.v (.slice none 0 0)])]⟩->J st':=λq hq st' h=>by
   refine hJ st' (i+1) ⟨by omega,trivial⟩ (by omega) ?_;have e:((s.Aa.take (i+1)).map λq=>Cm q p).map Queue.c=((s.Aa.take i).map λq=>Cm q p).map Queue.c++[q.c]:=by
    rw[take_add_one,hb];simp[hq]
   rw[e];exact h
  clear hJ;refine Av 3 [([],[7]),([],[21]),([],[3])] B7 ?_;refine gO ?_;refine Aq (Xo b (by omega)) ?_;refine gO ?_;refine Ab (Jd (B6 b) p (by have:=Jq b;omega)) ?_;cases hp:BL (B6 b) p
  ·simp(disch:=omega)only[go_sem,length_map,length_take];refine fin b (by simp[Cm,hp]) _ (AQ.An gI ?_);simp(disch:=omega)only[go_sem]
  refine gO ?_;refine Ab (nJ b p (by omega)) ?_;cases hv:valid b
  ·have e:FN b p=(q0,[],2):=by simp[FN,hv]
   simp(disch:=omega)only[go_sem,e,length_map,length_take];refine fin b (by simp[Cm,hv]) _ (AQ.An gI ?_);simp(disch:=omega)only[go_sem]
  ·have e:FN b p=(DA (B2 b p),(B0 (B2 b p)).2,0):=by simp[FN,hv,hp]
   simp(disch:=omega)only[go_sem,e,length_map,length_take];refine fin { DA (B2 b p) with gen:=b.gen } (by simp[Cm,hv,hp]) _ (AQ.An gI ?_);simp(disch:=omega)only[go_sem]
 subst Bf;rw[take_length];clear hJ;refine AH (s.AB) (λi=>⟨[(49,I i),(48,I s.AB.length),(47,MP s.AB),(3,.ptr 192 0),(5,.ptr 320 0),(4,.ptr 256 0)],[(192,p.c),(256,sh),(320,[.sl (.own 2752 0) 8 ((s.Aa.map λq=>Cm q p).map Queue.c),.sl (.own 3968 0) 9 ((Hs (s.AB.take i) p).map Need.c)])]⟩) (λi=>True) trivial ?_ ?_
 ·exact B9
 rintro i ⟨hi,hP⟩ J hJ;refine gO ?_;refine Bp hi (λAu b hb Cc AR=>?_) λBf=>?_
 simp(disch:=omega)only[go_sem,gm,hb]
 ·have IY:(Hs (s.AB.take i) p).length+1<=4294967296:=by
   have:(Hs (s.AB.take i) p).length<=(s.AB.take i).length:=List.length_filter_le _ _;rw[length_take]at this;omega
  refine Ab (J7 b.proc p) ?_;refine gO ?_;have e1:Hs (s.AB.take (i+1)) p=if b.proc=p then Hs (s.AB.take i) p else Hs (s.AB.take i) p++[b]:=by
   simp only[Hs,take_add_one,hb,toList_some,List.filter_append,List.filter_cons,List.filter_nil]
   by_cases h:b.proc=p<;>simp[h]
  refine And.intro (λhh=>?_) (λhh=>?_)
  ·have Ca:¬ b.proc=p:=by simpa using hh
   rw[if_neg Ca]at e1;refine hJ _ (i+1) ⟨by omega,trivial⟩ (by omega) (AQ.An gI ?_);rw[e1];refine gO ?_;exact .sl (by simp[Need.c])
  ·have Ca:b.proc=p:=by simpa using hh
   rw[if_pos Ca]at e1;refine hJ _ (i+1) ⟨by omega,trivial⟩ (by omega) (AQ.An gI ?_);rw[e1];simp(disch:=omega)only[go_sem]
 ·subst Bf;simp(disch:=omega)only[go_sem,take_length];refine CK ⟨[],[],[2752,3968]⟩ _ ?_;simp(disch:=omega)only[go_sem,BU];exact .eq (by simp)
def Es(l:List Atom)(a:Atom):List Atom:=if a∈l then l else l++[a]
mutual
def fP:List Atom->Expr->List Atom
 | l,.mk _ a kids=>if kids.length=0 then Es l a else fQ l kids
def fQ:List Atom->List Expr->List Atom
 | l,[]=>l
 | l,e::es=>fQ (fP l e) es
end
theorem Y4(l:List Atom)(e:Expr):fP l e=if e.kids.length=0 then Es l e.atom else fQ l e.kids:=by
 cases e;simp only[fP];rfl
def Al(e:Expr):List Atom:=if BA e then fP [] e else []
def G0(l:List Atom)(a:Atom):Int:=match l.findIdx? (λx=>decide (x=a)) with|some i=>i|none=>-1
def eo(l:List Atom)(p:Atom)(hl:l.length<=1000000):Ac C0 300 [BN l,.agg p.c] [] (I (G0 l p)) []:=by
 refine Ac.go f300 ?_;unfold f300;refine gO ?_;refine AH (l) (λi=>⟨[(8,I i),(7,I l.length),(0,BN l),(3,.ptr 192 0)],[(192,p.c)]⟩) (λi=>(l.take i).find? (λx=>decide (x=p))=none) rfl ?_ ?_
 ·exact B9
 rintro i ⟨hi,hP⟩ J hJ;refine gO ?_;refine Bp hi (λAu b hb Cc AR=>?_) λBf=>?_
 refine Av 5 [([],[3]),([],[0]),([],[5]),([],[12,13]),([],[14])] B7 ?_;simp(disch:=omega)only[go_sem,gm,hb]
 ·refine⟨λh=>?_,λh=>?_⟩
  ·have e:G0 l p=i:=by unfold G0;rw[Gk hP b hb (by simp at h;simp[h])]
   simp(disch:=omega)only[go_sem,e];exact AM _
  ·refine hJ _ (i+1) ⟨by omega,(by rw[B4 hP hb];simp at h;simp[Ne.symm h])⟩ (by omega) AS
 ·subst Bf;rw[take_length]at hP;have e:G0 l p = -1:=by
   unfold G0;have:l.findIdx? (λx=>decide (x=p))=none:=by
    rw[List.findIdx?_eq_none_iff];rw[List.find?_eq_none]at hP;intro x hx;simpa using hP x hx
   rw[this]
  simp(disch:=omega)only[go_sem,e];exact AM _
def YQ(l:List Atom)(p:Atom):decide (0<=G0 l p)=decide (p∈l):=by
 unfold G0;cases h:l.findIdx? (λx=>decide (x=p)) with
 |none =>
  rw[List.findIdx?_eq_none_iff]at h;have:p∉l:=λhp=>by simpa using h p hp
  simp[this]
 |some i =>
  obtain⟨h1,h2,_⟩:=(List.findIdx?_eq_some_iff_getElem.1 h);have hm:p∈l:=by simp at h2;rw[<- h2];exact getElem_mem h1
  simp[hm]
def oY(l:List Atom)(p:Atom)(hl:l.length<=1000000):Ac C0 299 [BN l,.agg p.c] [] (B (decide (p∈l))) []:=by
 refine Ac.go f299 ?_;unfold f299;refine gO ?_;refine Ab (eo l p hl) ?_;have:=YQ l p;simp(disch:=omega)only[go_sem,this];exact AM _
def fe{l:List Atom}{a:Atom}(h:((Fs l a).1==0)=true):(Fs l a).2=Es l a:=by
 unfold Fs at h ⊢;cases hf:l.find? (iR a) with
 |some b =>
  rw[hf]at h;simp only at h ⊢
  by_cases e:a=b
  ·subst e;simp[Es,List.mem_of_find?_eq_some hf]
  ·simp[e]at h
 |none =>
  rw[hf]at h;simp only at h ⊢
  by_cases h8:l.length=8
  ·simp[h8]at h
  ·have:a∉l:=λhm=>by
    rw[List.find?_eq_none]at hf;have:=hf a hm;simp[iR]at this
   simp[h8,Es,this]
def Wy:∀ (es:List Expr) (l:List Atom),(∀ e∈es,∀ l,(prop e l).1=true->fP l e=(prop e l).2)->(CB es l).1=true->fQ l es=(CB es l).2
 |[],l,_,_=>by simp[fQ,CB]
 | e::es,l,hk,h=>by
  simp only[CB]at h ⊢;split at h
  ·rename_i h1;rw[if_pos h1];simp only[fQ];rw[hk e (by simp) l h1];exact Wy es _ (λe' he=>hk e' (by simp[he])) h
  ·cases h
def Jr:∀ (N:Nat) (e:Expr),SizeOf.sizeOf e<N->∀ l:List Atom,(prop e l).1=true->fP l e=(prop e l).2
 | 0,_,h,_,_=>by omega
 | N+1,e,h,l,hp=>by
  rw[D8]at hp ⊢;rw[Y4];split at hp
  ·rename_i hk;rw[if_pos hk,if_pos hk];split at hp
   ·rename_i h1;rw[if_pos h1];exact(fe hp).symm
   ·cases hp
  ·rename_i hk;rw[if_neg hk,if_neg hk];split at hp
   ·cases hp
   ·rename_i h1;rw[if_neg h1];exact Wy _ _ (λe' he l' Vc=>Jr N e' (by have:=D3 he;omega) l' Vc) hp
def ec:∀ (N:Nat) (e:Expr),SizeOf.sizeOf e<N->∀ l:List Atom,l.length<=8->(prop e l).1=true ->
 Ac C0 281 [Di 0 l,.agg e.c] [] (Di 1 (prop e l).2) []
 | 0,_,h,_,_,_=>by omega
 | N+1,e,h,l,hl,XT=>by
  refine Ac.lens f281 λhlen=>?_
  simp only[E0,lens,Expr.Cf,length_map,and_true,true_and]at hlen;have QW:=XT;rw[D8]at XT;refine Ac.go f281 ?_;unfold f281
  by_cases hk:e.kids.length=0
  ·have e1:((e.kids.length:Int)==0)=true:=by simp[hk]
   rw[if_pos hk]at XT;have hc:=Jr (N+1) e h l QW;rw[Y4,if_pos hk]at hc;simp(disch:=omega)only[go_sem,e1];refine Cb [0] (oY l e.atom (by omega)) gI rfl trivial ?_
   by_cases hm:e.atom∈l
   ·have e2:(decide (e.atom∈l))=true:=by simp[hm]
    have e3:(prop e l).2=l:=by rw[<- hc];simp[Es,hm]
    simp(disch:=omega)only[go_sem,e2,e3];refine AZ ⟨[(0,1)],[],[]⟩ _ rfl ⟨rfl,rfl⟩ (by simp[lk]) ?_ trivial;simp(disch:=omega)only[go_sem]
   ·have e2:(decide (e.atom∈l))=false:=by simp[hm]
    have e3:(prop e l).2=l++[e.atom]:=by rw[<- hc];simp[Es,hm]
    simp(disch:=omega)only[go_sem,e2,e3];refine AZ ⟨[(1280,1)],[],[]⟩ _ rfl ⟨rfl,rfl⟩ (by simp[lk]) ?_ trivial;refine gO ?_;exact .sl (by simp[Atom.c])
  have e1:((e.kids.length:Int)==0)=false:=by simp only[beq_eq_false_iff_ne,ne_eq];omega
  rw[if_neg hk]at XT;split at XT
  ·cases XT
  rename_i L5;have ep:prop e l=CB e.kids l:=by rw[D8,if_neg hk,if_neg L5]
  simp(disch:=omega)only[go_sem,e1,ep];refine Ao (α:=Nat × List Atom) (λq=>⟨[(24,I q.1),(23,I e.kids.length),(22,It e.kids),(0,Di 1920 q.2)],[]⟩)
   (λq=>q.1<=e.kids.length/\q.2.length<=8/\(CB (e.kids.drop q.1) q.2).1=true/\CB (e.kids.drop q.1) q.2=CB e.kids l) (λq=>e.kids.length-q.1) (0,l) ⟨by simp,hl,by simpa using XT,by simp⟩ ?_ ?_
  ·refine AQ.BS ⟨[(0,1920)],[],[]⟩ ⟨rfl,rfl⟩ (by simp[lk]) ?_ ?_
   ·exact gI
   ·exact gI
  rintro⟨i,m⟩ ⟨hi,hm,U7,hr⟩ J hJ
  replace hi:i<=e.kids.length:=hi
  replace hm:m.length<=8:=hm
  replace U7:(CB (e.kids.drop i) m).1=true:=U7
  replace hr:CB (e.kids.drop i) m=CB e.kids l:=hr
  refine gO ?_;refine ⟨λAu=>?_,λG9=>?_⟩
  ·have Fx:i<e.kids.length:=by simp at Au;omega
   have hb:e.kids[i]?=some e.kids[i]:=gE Fx;have Ec:=D3 (getElem_mem Fx);have XN:e.kids.drop i=e.kids[i]::e.kids.drop (i+1):=List.drop_eq_getElem_cons Fx;generalize e.kids[i]=b at hb Ec XN;rw[XN]at hr U7;simp only[CB]at hr U7;have UQ:(prop b m).1=true:=by
    split at U7
    ·assumption
    ·cases U7
   rw[if_pos UQ]at hr U7;simp(disch:=omega)only[go_sem,gm,hb];refine Bh ⟨⟨[(1920,0)],[],[]⟩,[(1,1921)],[]⟩ (ec N b (by omega) m hm UQ) gI rfl gI (.inl rfl) ?_;have hx:=S2 N b (by omega) m hm;refine gO ?_;refine hJ _ (i+1,(prop b m).2) ⟨by simp;omega,hx,U7,hr⟩ (by simp;omega) (AQ.BS ⟨[(1921,1920)],[],[]⟩ ⟨rfl,rfl⟩ (by simp[lk]) ?_ ?_)
   ·exact gI
   ·exact gI
  ·have Bf:i=e.kids.length:=by simp at G9;omega
   subst Bf;rw[List.drop_length]at hr;simp only[CB]at hr;simp(disch:=omega)only[go_sem,<- hr];refine AZ ⟨[(1920,1)],[],[]⟩ _ rfl ⟨rfl,rfl⟩ (by simp[lk]) ?_ trivial;simp(disch:=omega)only[go_sem]
def FF{e:Expr}(h:BA e=true):(prop e []).1=true:=by
 simp only[BA,Bool.and_eq_true]at h;exact h.2
def C3(e:Expr):(Al e).length<=8:=by
 unfold Al;split
 ·rename_i h;rw[Jr _ e (lt_succ_self _) [] (FF h)];exact S2 _ e (lt_succ_self _) [] (by simp)
 ·simp
def dQ(e:Expr):Ac C0 235 [.agg e.c] [] (BN (Al e)) []:=by
 refine Ac.go f235 ?_;unfold f235;refine gO ?_;refine Ab (j0 e) ?_;cases h:BA e
 ·have e1:Al e=[]:=by simp[Al,h]
  simp(disch:=omega)only[go_sem,e1];refine AZ ⟨[],[],[]⟩ _ rfl ⟨rfl,rfl⟩ (by simp[lk]) ?_ trivial;exact .AD (by omega)
 ·have hp:=FF h;have e1:Al e=(prop e []).2:=by
   simp only[Al,h,if_true];exact Jr _ e (lt_succ_self _) [] hp
  simp(disch:=omega)only[go_sem,e1];refine Bh ⟨⟨[],[],[]⟩,[(1,448)],[]⟩ (ec _ e (lt_succ_self _) [] (by simp) hp) (by simp(disch:=omega)only[go_sem,Di,List.map_nil]) rfl gI (.inl rfl) ?_;refine gO ?_;refine CK ⟨[],[],[448]⟩ _ ?_;simp(disch:=omega)only[go_sem,Di]
@[reducible] def Jb(l:List Bool):AV:=.sl .no 1 (l.map λb=>[B b])
def Ed(l:List Atom)(set:List Bool)(a:Atom):Bool:=match l.findIdx? (λx=>decide (x=a)) with
 |some i=>set.getD i false
 |none=>false
@[reducible] def Xe(l:List Atom)(set:List Bool):AV:=.agg [BN l,Jb set]
theorem oQ(l:List Atom)(set:List Bool)(a:Atom)(hl:l.length<=1000000):Ac C0 282 [Xe l set,.agg a.c] [] (B (Ed l set a)) []:=by
 refine Ac.go f282 ?_;unfold f282;refine gO ?_;refine Ab (eo l a hl) ?_;cases hi:l.findIdx? (λx=>decide (x=a)) with
 |none =>
  have e1:G0 l a = -1:=by simp[G0,hi]
  have e2:Ed l set a=false:=by simp[Ed,hi]
  simp(disch:=omega)only[go_sem,e1];refine Aj _ ?_;exact wb (by simp[e2])
 |some i =>
  have e1:G0 l a=i:=by simp[G0,hi]
  by_cases h:i<set.length
  ·have e3:((i:Int)<set.length)=True:=eq_true (by omega);have e4:set[i]?=some (set.getD i false):=by rw[gE h];simp[List.getD,h]
   have e2:Ed l set a=set.getD i false:=by simp[Ed,hi]
   simp(disch:=omega)only[go_sem,e1,e3,gm,e4];refine Aj _ ?_;exact wb (by rw[e2])
  ·have e3:((i:Int)<set.length)=False:=eq_false (by omega);have e2:Ed l set a=false:=by simp[Ed,hi,List.getD,h]
   simp(disch:=omega)only[go_sem,e1,e3,decide_false];refine Aj _ ?_;exact wb (by simp[e2])
mutual
def EX(has:Atom->Bool):Expr->Bool
 |.mk k a kids=>if kids.length=0 then has a else decide (k<=CV has kids)
def CV(has:Atom->Bool):List Expr->Int
 |[]=>0
 | e::es=>(if EX has e=true then 1 else 0)+CV has es
end
theorem Kw(has:Atom->Bool)(e:Expr):EX has e=if e.kids.length=0 then has e.atom else decide (e.k<=CV has e.kids):=by
 cases e;simp only[EX];rfl
def Mo(has:Atom->Bool):∀ (l:List Expr) (i:Nat) (b:Expr),l[i]?=some b->CV has (l.take (i+1))=CV has (l.take i)+(if EX has b=true then 1 else 0)
 |[],i,b,h=>by simp at h
 | e::l,0,b,h=>by simp at h;subst h;simp[CV]
 | e::l,i+1,b,h=>by
  have:=Mo has l i b (by simpa using h);simp only[List.take_succ_cons,CV];rw[this];omega
def QE(has:Atom->Bool):∀ l:List Expr,0<=CV has l/\CV has l<=l.length
 |[]=>by simp[CV]
 | e::l=>by
  have:=QE has l;simp only[CV,List.length_cons];split<;>omega
def eh(l:List Atom)(set:List Bool)(hl:l.length<=1000000):∀ (N:Nat) (e:Expr),SizeOf.sizeOf e<N ->
 Ac C0 283 [.agg e.c,.mv 282 [Xe l set]] [] (B (EX (Ed l set) e)) []
 | 0,_,h=>by omega
 | N+1,e,h=>by
  refine Ac.lens f283 λhlen=>?_
  simp only[E0,lens,Expr.Cf,length_map,and_true,true_and]at hlen;refine Ac.go f283 ?_;unfold f283
  by_cases hk:e.kids.length=0
  ·have e1:((e.kids.length:Int)==0)=true:=by simp[hk]
   have ee:EX (Ed l set) e=Ed l set e.atom:=by rw[Kw,if_pos hk]
   simp(disch:=omega)only[go_sem,e1,ee];refine Ab (oQ l set e.atom hl) ?_;refine gO ?_;exact AM _
  have e1:((e.kids.length:Int)==0)=false:=by simp only[beq_eq_false_iff_ne,ne_eq];omega
  have ee:EX (Ed l set) e=decide (e.k<=CV (Ed l set) e.kids):=by rw[Kw,if_neg hk]
  simp(disch:=omega)only[go_sem,e1,ee];refine AH (e.kids) (λi=>⟨[(19,I i),(18,I e.kids.length),(17,It e.kids),(1,.mv 282 [Xe l set]),(2,.ptr 128 0),(5,I (CV (Ed l set) (e.kids.take i)))],[(128,e.c)]⟩) (λi=>True) trivial ?_ ?_
  ·refine AQ.An ?_ ?_
   all_goals(try simp(disch:=omega)only[go_sem])
   all_goals(try(repeat'(with_reducible apply And.intro)))
   all_goals(first|exact .AU (by omega)|exact .AD (by omega)|exact .sl (by simp[CV])|exact .int (by simp[CV])|exact .eq (by simp[CV]))
  rintro i ⟨hi,hP⟩ J hJ;refine gO ?_;refine Bp hi (λAu b hb Cc AR=>?_) λBf=>?_
  simp(disch:=omega)only[go_sem,gm,hb]
  ·have Ec:=D3 Cc;have mM:=Mo (Ed l set) e.kids i b hb;have IY:=QE (Ed l set) (e.kids.take i);have Fx:i<e.kids.length:=by omega
   have XR:(e.kids.take i).length<=i:=by simp;omega
   refine Ab (eh l set hl N b (by omega)) ?_;refine gO ?_;refine And.intro (λhh=>?_) (λhh=>?_)
   ·rw[if_pos hh]at mM;refine hJ _ (i+1) ⟨by omega,trivial⟩ (by omega) (AQ.An ?_ ?_)
    ·simp(disch:=omega)only[go_sem];exact .int mM.symm
    ·simp(disch:=omega)only[go_sem,Expr.Cf]
   ·rw[if_neg (by simp[hh])]at mM;refine hJ _ (i+1) ⟨by omega,trivial⟩ (by omega) (AQ.An ?_ ?_)
    ·simp(disch:=omega)only[go_sem];exact .int (by omega)
    ·simp(disch:=omega)only[go_sem,Expr.Cf]
  ·subst Bf;simp(disch:=omega)only[go_sem,take_length];exact AM _
def Ff(e:Expr)(set:List Bool):Bool:=!decide ((Al e).length=0)&&EX (Ed (Al e) set) e
def oB(e:Expr)(l:List Atom)(set:List Bool)(hl:l.length<=1000000):Ac C0 236 [.agg e.c,BN l,Jb set] [] (B (EX (Ed l set) e)) []:=by
 refine Ac.go f236 ?_;unfold f236;refine gO ?_;refine Ab (eh l set hl _ e (lt_succ_self _)) ?_;refine gO ?_;exact AM _
def n5(e:Expr)(set:List Bool):Ac C0 180 [.agg e.c,Jb set] [] (B (Ff e set)) []:=by
 have hl:=C3 e;refine Ac.go f180 ?_;unfold f180;refine gO ?_;refine Ab (dQ e) ?_
 by_cases h0:(Al e).length=0
 ·have e1:(0<((Al e).length:Int))=False:=eq_false (by omega);simp(disch:=omega)only[go_sem,e1,decide_false];refine Aj _ ?_;exact wb (by simp[Ff,h0])
 ·have e1:(0<((Al e).length:Int))=True:=eq_true (by omega);simp(disch:=omega)only[go_sem,e1,decide_true];refine Ab (oB e (Al e) set (by omega)) ?_;refine gO ?_;refine Aj _ ?_;exact wb (by simp[Ff,h0])
def D1(l:List Queue)(p:Ad)(name:Bs):Bool:=l.foldl (λw q=>if q.res.name==name then (Ar q p).isSome else w) false
theorem Yq{l:List Queue}{i:Nat}{b:Queue}(p:Ad)(name:Bs)(hb:l[i]?=some b):D1 (l.take (i+1)) p name=if b.res.name==name then (Ar b p).isSome else D1 (l.take i) p name:=by
 unfold D1;rw[take_add_one,hb,toList_some,List.foldl_append];rfl
def FI(s:WS)(n:Need):List Bool:=(Al n.expr).map λa=>!D1 s.Aa n.proc a.name
def n9(s:WS)(n:Need)(h:Iq s):Ac C0 181 [.agg s.c,.agg n.c] [] (Jb (FI s n)) []:=by
 have hl:=C3 n.expr;have gH:=h.nq;refine Ac.go f181 ?_;unfold f181;refine gO ?_;refine Ab (dQ n.expr) ?_;refine gO ?_;refine AH ((Al n.expr)) (λi=>⟨[(15,I i),(14,I (Al n.expr).length),(13,BN (Al n.expr)),(2,.ptr 128 0),(3,.ptr 192 0),(5,.sl (.own 2816 0) 1 (((Al n.expr).take i).map λa=>[B (!D1 s.Aa n.proc a.name)]))],[(128,s.c),(192,n.c)]⟩) (λi=>True) trivial ?_ ?_
 ·exact B9
 rintro i ⟨hi,hP⟩ J hJ;refine gO ?_;refine Bp hi (λAu b hb Cc AR=>?_) λBf=>?_
 simp(disch:=omega)only[go_sem,gm,hb]
 ·have step:∀ st',AQ ⟨C0,[],[]⟩ st' ⟨[(15,I (i+1:Nat)),(14,I (Al n.expr).length),(13,BN (Al n.expr)),(2,.ptr 128 0),(3,.ptr 192 0),(5,.sl (.own 2816 0) 1 (((Al n.expr).take i).map (λa=>[B (!D1 s.Aa n.proc a.name)])++[[B (!D1 s.Aa n.proc b.name)]]))],[(128,s.c),(192,n.c)]⟩->J st':=λst' h=>by
   refine hJ st' (i+1) ⟨by simp at Au;omega,trivial⟩ (by simp at Au;omega) ?_;have e:((Al n.expr).take (i+1)).map (λa=>[B (!D1 s.Aa n.proc a.name)])=((Al n.expr).take i).map (λa=>[B (!D1 s.Aa n.proc a.name)])++[[B (!D1 s.Aa n.proc b.name)]]:=by
    rw[take_add_one,hb];simp
   rw[e];exact h
  have IY:min i (Al n.expr).length+1<=4294967296:=by omega
  refine Ao (α:=Nat) (λj=>⟨[(22,I j),(21,I s.Aa.length),(20,AW s.Aa),(8,B (D1 (s.Aa.take j) n.proc b.name)),(7,.ptr 448 0),(15,I i),(14,I (Al n.expr).length),(13,BN (Al n.expr)),(2,.ptr 128 0),(3,.ptr 192 0),(5,.sl (.own 2816 0) 1 (((Al n.expr).take i).map λa=>[B (!D1 s.Aa n.proc a.name)]))],[(448,b.c),(128,s.c),(192,n.c)]⟩) (λj=>j<=s.Aa.length) (λj=>s.Aa.length-j) 0 (by omega) ?_ ?_
  ·refine AQ.An ?_ ?_
   ·simp(disch:=omega)only[go_sem,List.take_zero];exact .eq rfl
   ·exact gI
  rintro j hj J2 SO;refine gO ?_;refine And.intro (λAR=>?_) (λpA=>?_)
  ·obtain⟨q,hq⟩:∃ q,s.Aa[j]?=some q:=⟨_,gE (by simp at AR;omega)⟩;have uw:=mG hq;have hqa:=h.aq q uw;have rJ:q.Ak.length+q.waits.length<=1000000:=by unfold BC BJ at hqa;omega
   have hw:=Yq n.proc b.name hq;simp(disch:=omega)only[go_sem,gm,hq];refine And.intro (λhh=>?_) (λhh=>?_)
   ·refine Ab (dR q n.proc rJ) ?_;refine gO ?_;rw[if_pos hh]at hw;refine SO _ (j+1) (by simp at AR;omega) (by simp at AR;omega) (AQ.An ?_ gI);rw[hw];simp(disch:=omega)only[go_sem]
   ·rw[if_neg (by simp[hh])]at hw;refine SO _ (j+1) (by simp at AR;omega) (by simp at AR;omega) (AQ.An ?_ gI);rw[hw];simp(disch:=omega)only[go_sem]
  ·have xV:j=s.Aa.length:=by simp at pA;omega
   subst xV;clear SO;simp(disch:=omega)only[go_sem,take_length,length_map,length_take];exact step _ AS
 ·subst Bf;refine CK ⟨[],[],[2816]⟩ _ ?_;simp(disch:=omega)only[go_sem,take_length];exact .sl (by simp[FI])
end Go.Rd
