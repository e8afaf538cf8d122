/- part 12 of the proof -/
import Derived.Shelf.SlSortCmp.NoneTotal
import Derived.Test.YteliegkcmjimoaaGreatDoorW11
set_option linter.all false
namespace Go.Abs
open Go.Proofs Go.Shelf Go.RowKit Go.Lib Go.Sort
variable {P:Program} {ρ:Go.Shelf.Ren} {α:Type} [Inhabited α]
def nU{w w':World}(hs:w.heap.size<=w'.heap.size)(ho:∀ b,b<w.heap.size->w'.heap[b]?=w.heap[b]?):w'.heap=w.heap++w'.heap.extract w.heap.size w'.heap.size:=by grind
def mZ{C:Ctx}{g:Nat}{xs:List AV}{us:List Value}{v:Value}(h:Ad C g xs [] (.v v) [])(G:Gh)(W:World)(hG:Glob C G W)(Vr:∀ b,G.own b=.ro\/G.own b=.other)(hx:Bf G W xs us) :
 Calls C.P g us.toArray W λe w'=>e=.returned v/\∃ q os',w'=grow (W.drewN q) os':=by
 refine Calls.mono (h.2 G W us hG hx λ_ _ h=>by cases h) λe w' ⟨u,g',he,Ig,hy,_⟩=>?_
 simp[VR]at hy;subst hy;refine⟨he,w'.drawn-W.drawn,w'.heap.extract W.heap.size w'.heap.size,?_⟩;have hh:=nU (w:=W) (w':=w') Ig.size λb hb=>(Ig.FD b hb (Vr b)).1
 obtain⟨ht,hd⟩:=Ig.tape;have ho:=Ig.os;have hp:=Ig.output;cases w' with
 | mk heap tape drawn os output =>
  simp only at hh ht hd ho hp;simp only[grow,World.drewN];rw[<- hh,ht,ho,hp];congr 1;omega
def Tv(G:Gh):Gh:={ G with own:=λb=>match G.own b with
 |.ro=>.ro
 |_=>.other }
def VG.sort{C:Ctx}(hC:C.P=P)(L:SlLaysF0.n6 P ρ)(k:Nat)(Tn:0<k)(aE:∀ w,(isAgg (ρ.t 24)).run P w=.ok true w)(zE:∀ w,(Go.sizeOf (ρ.t 24)).run P w=.ok k w)(enc:α->List Value)(hk:∀ x,(enc x).length=k)
 (h1:∀ x,∀ v∈enc x,v.oneCell'=true) (cf:α->α->Int) (hO:SWO (ltOf cf)) (hT:∀ x y,(ltOf cf) x y=false->(ltOf cf) y x=false->x=y) (g0:Nat)
 (Aex:∀ x y,Ad C g0 [.agg (vals (enc x)),.agg (vals (enc y))] [] (.v (.int .i64 (cf x y))) []) (hf:∃ fn c,P.funcs[ρ.f 6]?=some fn/\(fn.name=="runtime.NumGoroutine")=false/\fn.body=some c) (ps:List α) (Hb:ps.length<4611686018427387904) :
 VG C (ρ.f 6) k (ps.map λx=>vals (enc x)) [.fn g0 []] ((ps.mergeSort λx y=>!(ltOf cf) y x).map λx=>vals (enc x)):=by
 subst hC;refine⟨hf,λG w r u us hG hu hv=>?_⟩
 match us,hv with
 |[fv],hv =>
  simp[Bf,VR,and_true]at hv;obtain⟨cs,rfl,bc⟩:=hv;have Ahs:cs = #[]:=by grind[Bf]
  subst Ahs;obtain⟨_,⟨rfl,hes⟩|⟨h0,_⟩|⟨cap,cur,T,rfl,h2,h3,h5,h6,h7,h8⟩⟩:=hu
  ·have iL:ps=[]:=by simp_all
   subst iL;exact Calls.mono (AnyF.slices_SortFunc_none L none 0 _ w) λe w' ⟨he,hw⟩=>⟨he,.inl ⟨by simp,by subst hw;exact⟨rfl,⟨rfl,Nat.le_refl _⟩,rfl,Nat.le_refl _,λ_ _=>rfl⟩⟩⟩
  ·omega
  ·simp at h7 h8;have AP:G.row r<w.heap.size:=QO h6;obtain⟨fn0,c0,Ahy,Abo,dK⟩:=(Aex default default).1;have eg:∀ args w,(callFunc g0 args).run C.P w=.ok (.enter g0 args) w:=λargs w=>Mv Ahy Abo dK args w
   have Ue:∀ i x,ps[i]?=some x->∀ j v,(enc x)[j]?=some v->w.cell? ⟨G.row r,i*k+j,none⟩=some v:=λi x hx j v hj=>by
    obtain⟨e1,e2⟩:=Ea.at_ _ _ k 0 h8 i (vals (enc x)) (by grind);obtain⟨us,k1,k2⟩:=EG.list _ _ _ e2;obtain⟨v',Vs,hp⟩:=CR.get k1 j (.v v) (by simp[vals,hj]);grind[PR,add_lit]
   have hH:HoldsK enc k w (G.row r) 0 ps.toArray:=λj hj=>by
    have hj':j<ps.length*k:=by simp_all
    have hd:j / k<ps.length:=Nat.div_lt_of_lt_mul (by grind);have hm:j%k<k:=Nat.mod_lt _ Tn;rw[get_flatK enc k _ j (by omega)];have hx:ps[j / k]?=some ps[j / k]:=List.getElem?_eq_getElem hd;have hv:(enc ps[j / k])[j%k]?=some (enc ps[j / k])[j%k]!:=by grind
    have hc:=Ue (j / k) _ hx (j%k) _ hv;simp_all[Nat.div_add_mod',World.frozen?]
   have AeM:CmpLays C.P g0 #[] enc k cf (G.row r) 0 ps.toArray.size w:=λm os dk hdk x y=>by
    have hold:∀ b,b<w.heap.size->CK G b->CK (Tv G) b/\(sortWorldK enc k w (G.row r) 0 m dk os).heap[b]?=w.heap[b]?:=λb hb hr=>by
     have CZ:G.row r≠b:=λe=>by grind[RV]
     refine⟨by grind[RV,Tv],?_⟩;simp only[sortWorldK,grow,putRowK,putRow,mapBlock];rw[Array.getElem?_append_left (by simp_all),Array.getElem?_modify,if_neg CZ];rfl
    have hG':Glob C (Tv G) (sortWorldK enc k w (G.row r) 0 m dk os):=λi cs hi=>by
     obtain⟨q1,q2,q3⟩:=hG i cs hi;grind[RV,Tv,EG.mono]
    have:=mZ (Aex x y) (Tv G) _ hG' (λb=>by grind[Tv]) (us:=[.agg (enc x).toArray,.agg (enc y).toArray]) (by simp_all[Bf,VR,Kv]);grind
   have hlen:(ps.map λx=>vals (enc x)).length=ps.toArray.size:=by simp
   rw[hlen,Nat.zero_mul];refine Calls.mono (AnyQ.slices_SortFunc_total L k aE zE enc hk h1 cf hO g0 #[] (G.row r) 0 cap ps.toArray w eg AeM hH AP (by omega) hT) λe w' ⟨he,n,os,hw⟩=>?_
   refine⟨he,.inr ?_⟩;generalize lM:(ps.mergeSort λx y=>!(ltOf cf) y x)=qs at hw;have hql:qs.length=ps.length:=by rw[<- lM];simp
   have bc:cap*k<=cur.size:=h7;have hle:ps.length*k<=cur.size:=Nat.le_trans (Nat.mul_le_mul_right _ (by grind)) bc;refine⟨cur,putCells id 0 (flatK enc k qs.toArray) cur,T,⟨h5,h6,by simp[putCells],λp hp=>?_,?_⟩,?_⟩
   ·simp_all[putCells,if_neg]
   ·refine Ea.sP _ _ _ 0 λi e nT=>?_
    rw[List.getElem?_map]at nT;obtain⟨x,hx,rfl⟩:=Option.map_eq_some_iff.1 nT;refine⟨by simp[vals,hk],?_⟩;refine EG.FO _ (enc x) _ _ (Oc _ ?_) λj v hj=>?_
    ·have:∀ zs:List Value,(∀ v∈zs,v.oneCell'=true)->DD (vals zs)=true:=by
      intro zs
      induction zs<;>simp_all[vals,DD,KR]
     grind
    ·have hi:i<qs.length:=by
      grind
     have gl:j<k:=by grind
     have AX:i*k+j<qs.length*k:=by
      have:(i+1)*k<=qs.length*k:=Nat.mul_le_mul_right _ hi;grind
     simp[add_lit];rw[cell_of_row _ _ _ _ _ _ (setRow_heap w _ cur _ T _ h6)];simp only[putCells,Array.getElem?_mapIdx,size_flatK,List.size_toArray];rw[Array.getElem?_eq_getElem (by grind),Option.map_some,if_pos ⟨Nat.zero_le _,by omega⟩,Nat.sub_zero,get_flatK enc k _ _ (by simpa using AX)];have e1:(i*k+j) / k=i:=by rw[Nat.mul_comm,Nat.mul_add_div Tn,Nat.div_eq_of_lt gl,Nat.add_zero]
     have e2:(i*k+j)%k=j:=by rw[Nat.mul_comm,Nat.mul_add_mod,Nat.mod_eq_of_lt gl]
     have e3:qs.toArray[i]! = x:=by
      have e4:qs.toArray[i]! = qs[i]:=by rw[getElem!_pos _ _ (by simpa using hi)];simp
      rw[e4];rw[List.getElem?_eq_getElem hi]at hx;exact Option.some.inj hx
     rw[e1,e2,e3];rw[List.getElem?_eq_getElem (by rw[hk];exact gl)]at hj;injection hj with hj
     rw[getElem!_pos _ _ (by rw[hk];exact gl),hj];rfl
   ·subst hw;refine⟨rfl,⟨rfl,Nat.le_add_right _ _⟩,rfl,?_,λb hb=>?_⟩
    ·simp[sortWorldK,grow,putRowK,putRow,mapBlock,World.setRow]
    ·have N8:b<w.heap.size:=by simpa [World.setRow]using hb
     simp only[sortWorldK,grow,putRowK,putRow,mapBlock,ahead];rw[Array.getElem?_append_left (by simp_all),Array.getElem?_modify]
     by_cases hbr:G.row r=b
     ·subst hbr;have e:(Go.Sort.ahead w n).heap[G.row r]?=some (.cells cur T (0,0)):=h6;rw[if_pos rfl,e,setRow_heap w _ cur _ T _ h6];rfl
     ·rw[if_neg hbr,setRow_other w _ _ _ (Ne.symm hbr)];rfl
 |[],hv=>simp[Bf]at hv
 |_::_::_,hv=>simp[Bf]at hv
end Go.Abs
open Go Go.Abs Go.Proofs
set_option maxRecDepth 100000
namespace Go.Rd
set_option maxHeartbeats 8000000
open List (drop_drop getElem_mem length_drop length_map length_take map_set mem_cons pairwise_cons take_add_one take_length)
open Bool (not_eq_true')
open Nat (lt_succ_self)
open Tryz
instance:Inhabited Ac:=⟨p0⟩
theorem Li(p q:Ac):Go.Proofs.ltOf BF p q=decide (BF p q<0):=rfl
def IP(p q:Ac):(BF p q = -1/\(p.site<q.site\/p.site=q.site/\(p.inc<q.inc\/p.inc=q.inc/\p.num<q.num)))\/(BF p q=1/\(q.site<p.site\/p.site=q.site/\(q.inc<p.inc\/p.inc=q.inc/\q.num<p.num)))\/(BF p q=0/\p=q):=by
 unfold BF
 repeat' split
 all_goals first
  |(left;refine⟨rfl,?_⟩;omega)
  |(right;left;refine⟨rfl,?_⟩;omega)
  |(right;right;refine⟨rfl,?_⟩;cases p;cases q;simp at *;omega)
theorem DP(p q:Ac):BF q p = - BF p q:=by rcases IP p q with ⟨h,h1⟩|⟨h,h1⟩|⟨h,h1⟩<;>rcases IP q p with ⟨k,k1⟩|⟨k,k1⟩|⟨k,k1⟩<;>first|omega|(subst h1;omega)|(subst k1;omega)
theorem FL{p q:Ac}(h:BF p q=0):p=q:=by
 rcases IP p q with ⟨k,_⟩|⟨k,_⟩|⟨_,k⟩
 ·omega
 ·omega
 ·exact k
theorem CJ(p:Ac):BF p p=0:=by
 have:=DP p p;omega
theorem DQ{p q r:Ac}(h1:BF p q<0)(h2:BF q r<0):BF p r<0:=by
 rcases IP p q with ⟨_,a⟩|⟨a,_⟩|⟨a,_⟩
 ·rcases IP q r with ⟨_,b⟩|⟨b,_⟩|⟨b,_⟩
  ·rcases IP p r with ⟨c,_⟩|⟨_,c⟩|⟨_,c⟩
   ·omega
   ·omega
   ·subst c;omega
  ·omega
  ·omega
 ·omega
 ·omega
def AiD:Go.Sort.SWO (Go.Proofs.ltOf BF) where
 irrefl p:=by rw[Li,CJ];rfl
 trans p q r h1 h2:=by rw[Li]at *;simp only[decide_eq_true_eq]at *;exact DQ h1 h2
 ntrans p q r h1 h2:=by
  rw[Li]at *;simp only[decide_eq_false_iff_not]at *;intro h
  by_cases e:BF q p<0
  ·exact h2 (DQ e h)
  ·have:BF p q=0:=by have:=DP p q;omega
   rw[FL this]at h;exact h2 h
def AiE(p q:Ac)(h1:Go.Proofs.ltOf BF p q=false)(h2:Go.Proofs.ltOf BF q p=false):p=q:=by
 rw[Li]at *;simp only[decide_eq_false_iff_not]at *;refine FL ?_;have:=DP p q;omega
def Ac.vs(p:Ac):List Value:=[.int .i64 p.site,.int .i64 p.inc,.int .i64 p.num]
def Pb(ps:List Ac):List Ac:=ps.mergeSort λx y=>!(Go.Proofs.ltOf BF) y x
def qK(ps:List Ac)(h:ps.length<=1000000):VG C0 132 3 (ps.map Ac.c) [.fn 74 []] ((Pb ps).map Ac.c):=by
 have:=VG.sort (C:=C0) rfl Tryz.AfJ 3 (by omega) (λw=>Go.Abs.Kp F.AgU) (λw=>Go.Abs.run_sizeOf F.UY) Ac.vs (λ_=>rfl) (λx v hv=>by simp[Ac.vs]at hv;rcases hv with rfl|rfl|rfl<;>rfl) BF AiD AiE 74
  (λx y=>LC x y) ⟨f132,f132.body.getD .skip,by kernel_rfl,by kernel_rfl,by kernel_rfl⟩ ps (by omega)
 exact this
def Ek:List Ac->List Ac
 |[]=>[]
 |[a]=>[a]
 | a::b::l=>if a=b then Ek (b::l) else a::Ek (b::l)
def Qs:∀ (l:List Ac) (a b:Ac),Ek (l++[a]++[b])=if a=b then Ek (l++[a]) else Ek (l++[a])++[b]
 |[],a,b=>by by_cases h:a=b<;>simp[Ek,h]
 |[x],a,b=>by
  have:=Qs [] a b;simp only[List.nil_append,List.cons_append]at this ⊢;simp only[Ek]at this ⊢
  by_cases h:a=b<;>by_cases h':x=a<;>simp[h,h']at this ⊢<;>(try simp[Ek])<;>simp_all
 | x::y::l,a,b=>by
  have:=Qs (y::l) a b;simp only[List.cons_append]at this ⊢;simp only[Ek]
  by_cases h:x=y
  ·simp only[h,if_true];exact this
  ·simp only[h,if_false];rw[this]
   by_cases h':a=b<;>simp[h']
def Rl:∀ l:List Ac,(Ek l).length<=l.length
 |[]=>by simp[Ek]
 |[a]=>by simp[Ek]
 | a::b::l=>by
  have:=Rl (b::l);simp only[Ek];split
  ·simp at this ⊢;omega
  ·simp at this ⊢;omega
theorem JG{l:List Ac}{i:Nat}{b:Ac}(hb:l[i]?=some b):l.take (i+1)=l.take i++[b]:=by rw[take_add_one,hb];rfl
def Qt{l:List Ac}{i:Nat}{a b:Ac}(ha:l[i]?=some a)(hb:l[i+1]?=some b):Ek (l.take (i+2))=if a=b then Ek (l.take (i+1)) else Ek (l.take (i+1))++[b]:=by rw[JG hb,JG ha,Qs]
@[reducible] def O2(r:Nat)(l:List Ac):AV:=.sl (.own r 0) 3 (l.map Ac.c)
theorem oQ(k:Nat)(cs es:List (List AV)):(over 0 k cs es).take k=es.take k:=by
 refine List.ext_getElem? λi=>?_
 rw[List.getElem?_take,List.getElem?_take];split
 ·rename_i h;have hn:¬ (k<=i):=by omega
  simp only[over,List.getElem?_mapIdx,Nat.zero_add,hn,if_false];cases es[i]?<;>rfl
 ·rfl
def dw{α:Type}{l cur:List α}{d i:Nat}(h:cur.drop d=l.drop d)(hi:d<=i):cur[i]?=l[i]?:=by
 have:=congrArg (λx=>x[i-d]?) h;simp only[List.getElem?_drop]at this
 rwa [show d+(i-d)=i by omega]at this
def vv(l:List Ac)(hl:l.length<=1000000):Ad C0 133 [O2 0 l] [] (O2 1 (Ek l)) []:=by
 refine Ad.go f133 ?_;unfold f133
 by_cases h2:l.length<2
 ·have e1:((l.length:Int)<2)=True:=eq_true (by omega);have e:Ek l=l:=by
   match l,h2 with
   |[],_=>rfl
   |[a],_=>rfl
   | a::b::l,h=>simp at h;omega
  simp(disch:=omega)only[go_sem,e1];refine AY ⟨[(0,1)],[],[]⟩ _ rfl ⟨rfl,rfl⟩ (by simp[lk]) ?_ trivial;simp(disch:=omega)only[go_sem,e]
 have e1:((l.length:Int)<2)=False:=eq_false (by omega);simp(disch:=omega)only[go_sem,e1,decide_false];refine Ao (α:=Nat) (λi=>⟨[(3,I (i+1:Nat)),(0,O2 0 l)],[]⟩) (λi=>i+1<=l.length/\Ek (l.take (i+1))=l.take (i+1)) (λi=>l.length-i) 0 ⟨by omega,by
  match l,h2 with
  | a::b::l,_=>rfl
  |[a],h=>exact absurd (by simp) h
  |[],h=>exact absurd (by simp) h⟩ ?_ ?_
 ·exact AT.Aq gI gI
 rintro i ⟨hi,hc⟩ J hJ
 by_cases AP:i+1<l.length
 ·have z1:(((i+1:Nat):Int)<l.length)=True:=eq_true (by omega);obtain⟨a,ha⟩:∃ a,l[i]?=some a:=⟨_,gE (by omega)⟩;obtain⟨b,hb⟩:∃ b,l[i+1]?=some b:=⟨_,gE (by omega)⟩;have z2:((i:Int)+1<l.length)=True:=eq_true (by omega);have z3:((i:Int)+1-1)=(i:Int):=by omega
  have z4:((i:Int)+1)=((i+1:Nat):Int):=rfl;simp(disch:=omega)only[go_sem,z1,z2];refine Ay 9 [([],[0]),([],[3]),([],[16,17]),([],[18]),([],[0]),([],[3]),([],[21]),([],[20,22]),([],[23])] B6 ?_;simp(disch:=omega)only[go_sem,z3,gm,ha,hb];refine⟨λh=>?_,λh=>?_⟩;rotate_left
  ·have CZ:a≠b:=λe=>by simp[e]at h
   refine hJ _ (i+1) ⟨by omega,?_⟩ (by omega) AK;rw[Qt ha hb,if_neg CZ,hc,<- JG hb]
  have LP:a=b:=by simp at h;exact h.symm
  have eI:Ek (l.take (i+1+1))=l.take (i+1):=by rw[Qt ha hb,if_pos LP,hc]
  clear hJ h hb z1 z2 z3 z4 ha LP hc;generalize hm:i+1=m at AP eI;refine Ao (α:=List Ac × Nat × Nat) (λx=>⟨[(5,I x.2.2),(3,I x.2.1),(4,.sl (.own 0 m) 3 ((x.1.drop m).map Ac.c)),(0,O2 0 x.1)],[]⟩)
   (λx=>x.1.length=l.length/\1<=x.2.2/\m+x.2.2<=l.length/\m<=x.2.1/\x.2.1+1<=m+x.2.2/\x.1.take x.2.1=Ek (l.take (m+x.2.2))/\x.1.drop (m+x.2.2-1)=l.drop (m+x.2.2-1)) (λx=>l.length-m-x.2.2) (l,m,1) ⟨rfl,by simp,by simp;omega,by simp,by simp,by simp[eI],rfl⟩ ?_ ?_
  ·refine AT.Aq ?_ gI;simp(disch:=omega)only[go_sem,hm];refine⟨.int (by omega),.sl ?_⟩;rw[List.map_drop];exact List.take_of_length_le (by simp)
  rintro⟨cur,k,j⟩ ⟨i1,i2,i3,i4,i5,i6,i7⟩ J hJ
  replace i1:cur.length=l.length:=i1
  replace i2:1<=j:=i2
  replace i3:m+j<=l.length:=i3
  replace i4:m<=k:=i4
  replace i5:k+1<=m+j:=i5
  replace i6:cur.take k=Ek (l.take (m+j)):=i6
  replace i7:cur.drop (m+j-1)=l.drop (m+j-1):=i7
  obtain⟨j,rfl⟩:∃ j',j=j'+1:=⟨j-1,by omega⟩
  by_cases hj:m+(j+1)<l.length
  ·have y1:((j:Int)+1<((l.length-m:Nat):Int))=True:=eq_true (by omega);obtain⟨x,hx⟩:∃ x,l[m+(j+1)]?=some x:=⟨_,gE hj⟩;obtain⟨y,hy⟩:∃ y,l[m+j]?=some y:=⟨_,gE (by omega)⟩;have cx:cur[m+(j+1)]?=some x:=by rw[dw i7 (by omega),hx]
   have cy:cur[m+j]?=some y:=by rw[dw i7 (by omega),hy]
   have GR:=Qt hy hx;have y3:((j:Int)+1-1)=(j:Int):=by omega
   obtain⟨z,hz⟩:∃ z,cur[k]?=some z:=⟨_,gE (by omega)⟩;have y4:(m<=k)=True:=eq_true i4;simp(disch:=omega)only[go_sem,length_drop,i1,y1];refine Ay 9 [([],[4]),([],[5]),([],[35,36]),([],[37]),([],[4]),([],[5]),([],[40]),([],[39,41]),([],[42])] B6 ?_;simp(disch:=omega)only[go_sem,y3,y4,gm,List.getElem?_drop,cx,cy,hz,length_drop,i1];refine⟨λh=>?_,λh=>?_⟩
   ·have CZ:y≠x:=λe=>by simp[e]at h
    rw[if_neg CZ]at GR;refine hJ _ (cur.set k x,k+1,j+1+1) ⟨by simp[i1],by simp,by simp;omega,by simp;omega,by simp;omega,?_,?_⟩ (by simp;omega) (AT.Aq ?_ gI)
    ·rw[show m+(j+1+1)=m+j+2 by omega,GR,show m+j+1=m+(j+1) by omega,<- i6];rw[take_add_one,List.getElem?_set_self (by omega),List.take_set_of_le (by omega)];rfl
    ·rw[show m+(j+1+1)-1=m+(j+1) by omega,List.drop_set_of_lt (by omega)];have:=congrArg (List.drop 1) i7;rw[drop_drop,drop_drop,show m+(j+1)-1+1=m+(j+1) by omega]at this;exact this
    ·simp(disch:=omega)only[go_sem];have bt:(cur.set k x).drop m=(cur.drop m).set (k-m) x:=by rw[List.drop_set,if_neg (by omega)]
     refine⟨.sl ?_,.sl ?_⟩
     ·rw[bt,map_set];rfl
     ·rw[map_set];rfl
   ·have CZ:y=x:=by simp at h;exact h.symm
    rw[if_pos CZ]at GR;refine hJ _ (cur,k,j+1+1) ⟨i1,by simp,by simp;omega,i4,by simp;omega,?_,?_⟩ (by simp;omega) AK
    ·rw[show m+(j+1+1)=m+j+2 by omega,GR,show m+j+1=m+(j+1) by omega,<- i6]
    ·rw[show m+(j+1+1)-1=m+(j+1) by omega];have:=congrArg (List.drop 1) i7;rw[drop_drop,drop_drop,show m+(j+1)-1+1=m+(j+1) by omega]at this;exact this
  ·have y1:((j:Int)+1<((l.length-m:Nat):Int))=False:=eq_false (by omega);have hmj:m+(j+1)=l.length:=by omega
   rw[hmj,take_length]at i6;have X7:k<=l.length:=by omega
   have y4:(k<=l.length)=True:=eq_true X7;have y5:(over 0 k (List.replicate (l.length-k) [.v (.int .i64 0),.v (.int .i64 0),.v (.int .i64 0)]) (cur.map Ac.c)).take k=(Ek l).map Ac.c:=by rw[oQ,<- List.map_take,i6]
   clear hJ;simp(disch:=omega)only[go_sem,length_drop,i1,y1,decide_false,y4,Nat.sub_zero,Jy,length_take,Nat.min_self];refine AY ⟨[(0,1)],[],[]⟩ _ rfl ⟨rfl,rfl⟩ (by simp[lk]) ?_ trivial;simp(disch:=omega)only[go_sem,y5]
 ·have Ba:i+1=l.length:=by omega
  have z1:((i:Int)+1<l.length)=False:=eq_false (by omega);rw[Ba,take_length]at hc;simp(disch:=omega)only[go_sem,z1,decide_false];refine AY ⟨[(0,1)],[],[]⟩ _ rfl ⟨rfl,rfl⟩ (by simp[lk]) ?_ trivial;simp(disch:=omega)only[go_sem,hc]
theorem sX{cs es:List (List AV)}(h:cs.length=es.length):over 0 0 cs es=cs:=by
 refine List.ext_getElem? λi=>?_
 simp only[over,List.getElem?_mapIdx,Nat.zero_add,Nat.zero_le,if_true,Nat.sub_zero]
 by_cases hi:i<es.length
 ·rw[gE hi,gE (by omega)];simp
 ·rw[List.getElem?_eq_none (l:=es) (by omega),List.getElem?_eq_none (l:=cs) (by omega)];rfl
def K9(l:List Ac):Prop:=l.Pairwise λa b=>BF a b<0
def Tm(x:Ac):∀ l:List Ac,x∈Ek l↔x∈l
 |[]=>by simp[Ek]
 |[a]=>by simp[Ek]
 | a::b::l=>by
  have:=Tm x (b::l);simp only[Ek];split
  ·rename_i h;subst h;rw[this];simp
  ·simp only[mem_cons]at this ⊢;rw[this]
def cJ:∀ l:List Ac,(l.Pairwise λa b=>BF a b<=0)->K9 (Ek l)
 |[],_=>by simp[Ek,K9]
 |[a],_=>by simp[Ek,K9]
 | a::b::l,h=>by
  have hp:=pairwise_cons.1 h;have ih:=cJ (b::l) hp.2;simp only[Ek];split
  ·exact ih
  ·rename_i CZ;refine pairwise_cons.2 ⟨λx hx=>?_,ih⟩;rw[Tm]at hx;have h1:=hp.1 x hx;have h2:=hp.1 b (by simp);have hb:BF b x<=0:=by
    rcases mem_cons.1 hx with e|e
    ·subst e;rw[CJ];omega
    ·exact(pairwise_cons.1 hp.2).1 x e
   have LP:BF a b<0:=by
    rcases Int.lt_or_eq_of_le h2 with h|h
    ·exact h
    ·exact absurd (FL h) CZ
   rcases Int.lt_or_eq_of_le hb with h|h
   ·exact DQ LP h
   ·rw[<- FL h];exact LP
def oC(x:Ac)(l:List Ac):x∈Pb l↔x∈l:=by
 unfold Pb;exact List.mem_mergeSort
def jF(l:List Ac):(Pb l).Pairwise λa b=>BF a b<=0:=by
 have:=List.pairwise_mergeSort (le:=λx y=>!(Go.Proofs.ltOf BF) y x) (λa b c h1 h2=>by
  rw[Li]at *;simp only[not_eq_true',decide_eq_false_iff_not]at *;intro h;have e1:=DP a b;have e2:=DP b c
  by_cases h3:BF a b=0
  ·rw[FL h3]at h;exact h2 h
  ·exact h2 (DQ h (by omega))) (λa b=>by
  rw[Li,Li];have:=DP a b;simp only[Bool.or_eq_true,not_eq_true',decide_eq_false_iff_not];omega) l
 refine List.Pairwise.imp (λ{a b} h=>?_) this;rw[Li]at h;have:=DP a b;simp only[not_eq_true',decide_eq_false_iff_not]at h;omega
def Rb:∀ {l m:List Ac},K9 l->K9 m->(∀ x,x∈l↔x∈m)->l=m
 |[],[],_,_,_=>rfl
 |[],b::m,_,_,h=>by have:=(h b).2 (by simp);cases this
 | a::l,[],_,_,h=>by have:=(h a).1 (by simp);cases this
 | a::l,b::m,hl,hm,h=>by
  have h1:=pairwise_cons.1 hl;have h2:=pairwise_cons.1 hm;have LP:a=b:=by
   have ha:=(h a).1 (by simp);have hb:=(h b).2 (by simp);rcases mem_cons.1 ha with e|e
   ·exact e
   ·rcases mem_cons.1 hb with e'|e'
    ·exact e'.symm
    ·have k1:=h2.1 a e;have k2:=h1.1 b e';have:=DP a b;omega
  subst LP;have:l=m:=Rb h1.2 h2.2 λx=>by
   have hx:=h x;simp only[mem_cons]at hx;constructor
   ·intro pH;rcases hx.1 (.inr pH) with e|e
    ·subst e;have:=h1.1 x pH;rw[CJ]at this;omega
    ·exact e
   ·intro pH;rcases hx.2 (.inr pH) with e|e
    ·subst e;have:=h2.1 x pH;rw[CJ]at this;omega
    ·exact e
  rw[this]
theorem IL{l:List Ac}(h:K9 l):l.Nodup:=by
 refine List.Pairwise.imp (λ{a b} h e=>?_) h;subst e;rw[CJ]at h;omega
def dM(p:Ac):List Ac->List Ac
 |[]=>[p]
 | x::l=>if BF p x<0 then p::x::l else if p=x then x::l else x::dM p l
def dN:List Ac->List Ac
 |[]=>[]
 | p::l=>dM p (dN l)
def W9(p x:Ac):∀ l:List Ac,x∈dM p l↔x=p\/x∈l
 |[]=>by simp[dM]
 | y::l=>by
  have:=W9 p x l;simp only[dM];split
  ·simp
  ·split
   ·rename_i h;subst h;simp
   ·simp only[mem_cons,this];constructor
    ·rintro(h|h|h)
     ·exact .inr (.inl h)
     ·exact .inl h
     ·exact .inr (.inr h)
    ·rintro(h|h|h)
     ·exact .inr (.inl h)
     ·exact .inl h
     ·exact .inr (.inr h)
def cM(p:Ac):∀ l:List Ac,K9 l->K9 (dM p l)
 |[],_=>by simp[dM,K9]
 | y::l,h=>by
  have hp:=pairwise_cons.1 h;simp only[dM];split
  ·rename_i AP;refine pairwise_cons.2 ⟨λx hx=>?_,h⟩;rcases mem_cons.1 hx with e|e
   ·rw[e];exact AP
   ·exact DQ AP (hp.1 x e)
  ·split
   ·exact h
   ·rename_i h1 h2;refine pairwise_cons.2 ⟨λx hx=>?_,cM p l hp.2⟩;rcases(W9 p x l).1 hx with e|e
    ·subst e;have h3:=DP x y;have h4:BF x y≠0:=λe=>h2 (FL e)
     omega
    ·exact hp.1 x e
def Xa(x:Ac):∀ l:List Ac,x∈dN l↔x∈l
 |[]=>by simp[dN]
 | y::l=>by simp only[dN,W9,Xa x l,mem_cons]
def VN:∀ l:List Ac,K9 (dN l)
 |[]=>by simp[dN,K9]
 | y::l=>cM y _ (VN l)
def V3(l:List Ac):Ek (Pb l)=dN l:=Rb (cJ _ (jF l)) (VN l) λx=>by rw[Tm,oC,Xa]
def NU(l:List Ac):List Ac:=dN l
theorem Mn(x:Ac)(l:List Ac):x∈NU l↔x∈l:=Xa x l
theorem Fk(l:List Ac):K9 (NU l):=VN l
def ND(l:List Ac):(Pb l).length=l.length:=by simp[Pb]
def il(l:List Ac)(hl:l.length<=1000000):Ad C0 80 [AL l] [] (AL (NU l)) []:=by
 refine Ad.go f80 ?_;unfold f80;have hb:l.length<=4294967296:=by omega
 simp(disch:=omega)only[go_sem];refine qg (qK l hl) rfl ?_;have ho:over 0 0 ((Pb l).map Ac.c) (l.map Ac.c)=(Pb l).map Ac.c:=sX (by simp[ND]);simp(disch:=omega)only[go_sem,ho];refine By ⟨⟨[(320,0)],[],[]⟩,[(1,576)],[]⟩ (vv (Pb l) (by rw[ND];exact hl)) gI rfl trivial (.inl rfl) ?_;simp(disch:=omega)only[go_sem];refine CU ⟨[],[],[576]⟩ _ ?_;simp(disch:=omega)only[go_sem,NU,V3]
def vt(l:List Ac)(p:Ac)(hl:l.length<=1000000):Ad C0 126 [AL l,.agg p.c] [] (I (match l.findIdx? (λx=>decide (x=p)) with|some i=>i|none=>-1)) []:=by
 refine Ad.go f126 ?_;unfold f126;refine gO ?_;refine AF (l) (λi=>⟨[(8,I i),(7,I l.length),(0,AL l),(3,.ptr 192 0)],[(192,p.c)]⟩) (λi=>(l.take i).find? (λx=>decide (x=p))=none) rfl ?_ ?_
 ·exact Ce
 rintro i ⟨hi,hP⟩ J hJ;refine gO ?_;refine Bo hi (λAP b hb Cg AX=>?_) λBa=>?_
 refine Ay 5 [([],[3]),([],[0]),([],[5]),([],[12,13]),([],[14])] B6 ?_;simp(disch:=omega)only[go_sem,gm,hb]
 ·refine⟨λh=>?_,λh=>?_⟩
  ·have e:l.findIdx? (λx=>decide (x=p))=some i:=Hj hP b hb (by simp at h;simp[h]);simp(disch:=omega)only[go_sem,e];exact AQ _
  ·refine hJ _ (i+1) ⟨by omega,(by rw[Cp hP hb];simp at h;simp[Ne.symm h])⟩ (by omega) AK
 ·subst Ba;rw[take_length]at hP;have e:l.findIdx? (λx=>decide (x=p))=none:=by
   rw[List.findIdx?_eq_none_iff];rw[List.find?_eq_none]at hP;intro x hx;simpa using hP x hx
  simp(disch:=omega)only[go_sem,e];exact AQ _
def AaF(l:List Ac)(p:Ac)(hl:l.length<=1000000):Ad C0 76 [AL l,.agg p.c] [] (B (Br l p)) []:=by
 refine Ad.go f76 ?_;unfold f76;refine gO ?_;refine Ab (vt l p hl) ?_;refine gO ?_;refine AY ⟨[],[],[]⟩ _ rfl ⟨rfl,rfl⟩ (by simp) ?_ trivial;refine wb ?_;unfold Br;cases h:l.findIdx? (λx=>decide (x=p)) with
 |none =>
  rw[List.findIdx?_eq_none_iff]at h;have:p∉l:=λhp=>by simpa using h p hp
  simp[this]
 |some i =>
  have:=(List.findIdx?_eq_some_iff_getElem.1 h);obtain⟨h1,h2,_⟩:=this;have hm:p∈l:=by simp at h2;rw[<- h2];exact getElem_mem h1
  simp[hm]
def KE(l:List Ac)(p:Ac)(hl:l.length<=1000000):Ad C0 34 [AL l,.agg p.c] [] (B (Br l p)) []:=by
 refine Ad.go f34 ?_;unfold f34;refine gO ?_;refine Ab (AaF l p hl) ?_;refine gO ?_;exact AQ _
def qM(l:List A9)(hl:l.length<=1000000):Ad C0 182 [Bg l] [] (O2 0 (D7 l)) []:=by
 refine Ad.go f182 ?_;unfold f182;refine gO ?_;refine AF (l) (λi=>⟨[(8,I i),(7,I l.length),(6,Bg l),(3,.sl (.own 1024 0) 3 ((D7 (l.take i)).map Ac.c))],[]⟩) (λi=>True) trivial ?_ ?_
 ·exact Ce
 rintro i ⟨hi,hP⟩ J hJ;refine gO ?_;refine Bo hi (λAP b hb Cg AX=>?_) λBa=>?_
 simp(disch:=omega)only[go_sem,gm,hb]
 ·simp(disch:=omega)only[go_sem,D7];refine hJ _ (i+1) ⟨by omega,trivial⟩ (by omega) (AT.Aq ?_ ?_)
  all_goals(try simp(disch:=omega)only[go_sem])
  all_goals(try(repeat'(with_reducible apply And.intro)))
  all_goals(first|exact .Cr (by omega)|exact .A8 (by omega)|exact .sl (by simp[D7,take_add_one,hb,Ac.c])|exact .int (by simp[D7,take_add_one,hb,Ac.c])|exact .eq (by simp[D7,take_add_one,hb,Ac.c]))
 ·subst Ba;refine AY ⟨[(1024,0)],[],[]⟩ _ rfl ⟨rfl,rfl⟩ (by simp[lk]) ?_ trivial;simp(disch:=omega)only[go_sem,take_length]
def BU(q:Queue):List Ac:=NU (D7 q.holds++C3 (q.As++q.waits))
def aG(q:Queue)(h:BS q<=1000000):Ad C0 130 [.agg q.c] [] (AL (BU q)) []:=by
 have h1:q.holds.length<=1000000:=by unfold BS at h;omega
 have h2:q.As.length+q.waits.length<=1000000:=by unfold BS B7 at h;omega
 have h3:(D7 q.holds).length+(C3 (q.As++q.waits)).length<=1000000:=by simp[D7,C3];unfold BS B7 at h;omega
 have h4:(D7 q.holds).length+(C3 (q.As++q.waits)).length<=4294967296:=by omega
 refine Ad.go f130 ?_;unfold f130;refine gO ?_;refine Ay 4 [([],[1]),([],[3]),([],[4]),([],[1])] B6 ?_;refine gO ?_;refine AO ⟨⟨[],[],[]⟩,[(0,320)],[]⟩ (qM q.holds h1) gI rfl rfl trivial (.inl rfl) ?_;refine gO ?_;refine Ab (vO q h2) ?_;refine gO ?_;refine FU [512] (il (D7 q.holds++C3 (q.As++q.waits)) (by simpa using h3)) (by simp(disch:=omega)only[go_sem];exact .sl (by simp)) rfl ?_;refine gO ?_;refine CT _ ?_;simp(disch:=omega)only[go_sem,BU]
def q0:Queue:=⟨⟨[],0,0,0⟩,[],[],[],0⟩
def Ge(q:Queue)(p:Ac):Queue × List A9 × Int:=if valid q then (if Br (BU q) p then (Ee (B8 q p),(Co (B8 q p)).2,0) else (q0,[],10)) else (q0,[],2)
def SH(l:List Ac):(NU l).length<=l.length:=by
 have:=Rl (Pb l);rw[ND,V3]at this;exact this
def KW(q:Queue):(BU q).length<=BS q:=by
 have:=SH (D7 q.holds++C3 (q.As++q.waits));unfold BU BS B7;simp[D7,C3]at this ⊢;omega
def vu(q:Queue)(p:Ac)(h:BS q+1<=1000000):Ad C0 131 [.agg q.c,.agg p.c] [] (.BC [.agg (Ge q p).1.c,Bg (Ge q p).2.1,I (Ge q p).2.2]) []:=by
 have h1:q.holds.length<=1000000:=by unfold BS at h;omega
 have h2:q.As.length<=1000000:=by unfold BS B7 at h;omega
 have h3:q.waits.length<=1000000:=by unfold BS B7 at h;omega
 refine Ad.go f131 ?_;unfold f131;refine gO ?_;refine Ab (Wn q h1 h3) ?_;cases hv:valid q
 ·have e:Ge q p=(q0,[],2):=by simp[Ge,hv]
  simp(disch:=omega)only[go_sem,Bool.not_false,e,q0];refine Al _ ?_;refine .BC (Ae.AJ ?_);simp(disch:=omega)only[go_sem]
  repeat'(with_reducible apply And.intro)
  all_goals(first|exact .A8 (by omega)|exact .agg (Ae.AJ gI))
 simp(disch:=omega)only[go_sem,Bool.not_true];refine Ay 3 [([],[2]),([],[12]),([],[3])] B6 ?_;refine gO ?_;refine Ax (aG q (by omega)) ?_;refine gO ?_;refine Ab (KE (BU q) p (by have:=KW q;omega)) ?_;refine gO ?_;refine And.intro (λhh=>?_) (λhh=>?_)
 ·have hh':Br (BU q) p=false:=by simpa using hh
  have e:Ge q p=(q0,[],10):=by simp[Ge,hv,hh']
  simp(disch:=omega)only[go_sem,e,q0];refine Al _ ?_;refine .BC (Ae.AJ ?_);simp(disch:=omega)only[go_sem]
  repeat'(with_reducible apply And.intro)
  all_goals(first|exact .A8 (by omega)|exact .agg (Ae.AJ gI))
 have hh':Br (BU q) p=true:=by simpa using hh
 have e:Ge q p=(Ee (B8 q p),(Co (B8 q p)).2,0):=by simp[Ge,hv,hh']
 simp(disch:=omega)only[go_sem,e];refine Ab (aL q h1 h2 h3) ?_;refine gO ?_;refine By ⟨⟨[],[(448,63),(192,127)],[]⟩,[],[]⟩ (vP q p h) gI rfl gI (.inl rfl) ?_;refine gO ?_;exact AQ _
structure Iy(s:WS):Prop where
 nq:s.Aa.length<=100
 nn:s.Aw.length<=100
 aq:∀ q∈s.Aa,BS q<=100
def AM(l:List Queue):List Ac:=NU (l.flatMap BU)
def Dp(l:List Need):List Ac:=l.map (·.proc)
def Ag(s:WS):List Ac:=NU (AM s.Aa++Dp s.Aw)
def OE{l:List Queue}(h:∀ q∈l,BS q<=100):(l.flatMap BU).length<=l.length*100:=by
 induction l with
 | nil=>simp
 | cons q l ih =>
  have h1:=KW q;have h2:=h q (by simp);have h3:=ih λq' hq=>h q' (by simp[hq])
  simp only[List.flatMap_cons,List.length_append,List.length_cons];omega
def AaG(l:List Queue)(h1:l.length<=100)(h2:∀ q∈l,BS q<=100):Ad C0 79 [AN l] [] (AL (AM l)) []:=by
 refine Ad.go f79 ?_;unfold f79;refine gO ?_;refine AF (l) (λi=>⟨[(8,I i),(7,I l.length),(6,AN l),(3,.sl (.own 960 0) 3 (((l.take i).flatMap BU).map Ac.c))],[]⟩) (λi=>True) trivial ?_ ?_
 ·exact Ce
 rintro i ⟨hi,hP⟩ J hJ;refine gO ?_;refine Bo hi (λAP b hb Cg AX=>?_) λBa=>?_
 simp(disch:=omega)only[go_sem,gm,hb]
 ·have Me:=OE (l:=l.take i) λq hq=>h2 q (List.mem_of_mem_take hq)
  have hq:=KW b;have Ss:=h2 b Cg;have ID:((l.take i).flatMap BU).length+(BU b).length<=4294967296:=by simp only[length_take]at Me;omega
  refine Ab (aG b (by omega)) ?_;refine gO ?_;refine hJ _ (i+1) ⟨by omega,trivial⟩ (by omega) (AT.Aq ?_ ?_)
  all_goals(try simp(disch:=omega)only[go_sem])
  all_goals(try(repeat'(with_reducible apply And.intro)))
  all_goals(first|exact .Cr (by omega)|exact .A8 (by omega)|exact .sl (by simp[take_add_one,hb])|exact .int (by simp[take_add_one,hb])|exact .eq (by simp[take_add_one,hb]))
 ·subst Ba;have Me:=OE h2;refine FU [960] (il (l.flatMap BU) (by omega)) (by simp(disch:=omega)only[go_sem,take_length]) rfl ?_;refine gO ?_;refine CT _ ?_;simp(disch:=omega)only[go_sem,AM]
def O3{l:List Queue}(h:∀ q∈l,BS q<=100):(AM l).length<=l.length*100:=Nat.le_trans (SH _) (OE h)
def LB(s:WS)(h:Iy s):Ad C0 36 [.agg s.c] [] (AL (Ag s)) []:=by
 have hq:=O3 h.aq;have h1:=h.nq;have h2:=h.nn;have ID:(AM s.Aa).length<=4294967296:=by omega
 refine Ad.go f36 ?_;unfold f36;refine gO ?_;refine Ab (AaG s.Aa h.nq h.aq) ?_;refine gO ?_;refine AF (s.Aw) (λi=>⟨[(13,I i),(12,I s.Aw.length),(11,Io s.Aw),(3,.sl (.own 1344 0) 3 ((AM s.Aa++Dp (s.Aw.take i)).map Ac.c))],[]⟩) (λi=>True) trivial ?_ ?_
 ·refine AT.CX ⟨[(576,1344)],[],[]⟩ ⟨rfl,rfl⟩ (by simp[lk]) ?_ ?_
  all_goals(try simp(disch:=omega)only[go_sem])
  all_goals(try(repeat'(with_reducible apply And.intro)))
  all_goals(first|exact .Cr (by omega)|exact .A8 (by omega)|exact .sl (by simp[Dp])|exact .int (by simp[Dp])|exact .eq (by simp[Dp]))
 rintro i ⟨hi,hP⟩ J hJ;refine gO ?_;refine Bo hi (λAP b hb Cg AX=>?_) λBa=>?_
 simp(disch:=omega)only[go_sem,gm,hb]
 ·have w7:(AM s.Aa).length+(Dp (s.Aw.take i)).length+1<=4294967296:=by simp[Dp];omega
  simp(disch:=omega)only[go_sem,Dp];refine hJ _ (i+1) ⟨by omega,trivial⟩ (by omega) (AT.Aq ?_ ?_)
  all_goals(try simp(disch:=omega)only[go_sem])
  all_goals(try(repeat'(with_reducible apply And.intro)))
  all_goals(first|exact .Cr (by omega)|exact .A8 (by omega)|exact .sl (by simp[Dp,take_add_one,hb,Ac.c])|exact .int (by simp[Dp,take_add_one,hb,Ac.c])|exact .eq (by simp[Dp,take_add_one,hb,Ac.c]))
 ·subst Ba;refine FU [1344] (il (AM s.Aa++Dp s.Aw) (by simp[Dp];omega)) (by simp(disch:=omega)only[go_sem,take_length]) rfl ?_;refine gO ?_;refine CT _ ?_;simp(disch:=omega)only[go_sem,Ag]
def Cd(q:Queue)(p:Ac):Queue:=if valid q&&Br (BU q) p then { Ee (B8 q p) with gen:=q.gen } else q
def E7(l:List Need)(p:Ac):List Need:=l.filter λn=>decide (n.proc≠p)
def BW(s:WS)(p:Ac):WS:=⟨s.Aa.map λq=>Cd q p,E7 s.Aw p⟩
@[reducible] def jO:List AV:=[.sl .no 8 [],.sl .no 9 []]
@[go_sem] theorem AfZ(p q:Ac):(BF p q !=0) = !decide (p=q):=by
 by_cases h:p=q
 ·subst h;simp[CJ]
 ·have:BF p q≠0:=λe=>h (FL e)
  simp[h,this]
@[go_sem] theorem Ad0(p q:Ac):(BF p q==0)=decide (p=q):=by
 by_cases h:p=q
 ·subst h;simp[CJ]
 ·have:BF p q≠0:=λe=>h (FL e)
  simp[h,this]
def aU(s:WS)(p:Ac)(h:Iy s):Ad C0 78 [.agg s.c,.agg p.c] [] (.agg (BW s p).c) []:=by
 have dD:=h.nq;have Y4:=h.nn;refine Ad.go f78 ?_;unfold f78;refine gO ?_;refine AF (s.Aa) (λi=>⟨[(17,I i),(16,I s.Aa.length),(15,AN s.Aa),(2,.ptr 128 0),(3,.ptr 192 0),(5,.ptr 320 0),(4,.ptr 256 0)],[(128,s.c),(192,p.c),(256,jO),(320,[.sl (.own 2752 0) 8 (((s.Aa.take i).map λq=>Cd q p).map Queue.c),.v (.slice none 0 0)])]⟩) (λi=>True) trivial ?_ ?_
 ·exact Ce
 rintro i ⟨hi,hP⟩ J hJ;refine gO ?_;refine Bo hi (λAP b hb Cg AX=>?_) λBa=>?_
 simp(disch:=omega)only[go_sem,gm,hb]
 ·have ha:=h.aq b Cg;have ID:i+1<=4294967296:=by omega
  have Aa1:min i s.Aa.length+1<=4294967296:=by omega
  have fin:∀ q,Cd b p=q->∀ st',AT ⟨C0,[]⟩ st' ⟨[(17,I (i+1:Nat)),(16,I s.Aa.length),(15,AN s.Aa),(2,.ptr 128 0),(3,.ptr 192 0),(5,.ptr 320 0),(4,.ptr 256 0)],[(128,s.c),(192,p.c),(256,jO),(320,[.sl (.own 2752 0) 8 (((s.Aa.take i).map λq=>Cd q p).map Queue.c++[q.c]),.v (.slice none 0 0)])]⟩->J st':=λq hq st' h=>by
   refine hJ st' (i+1) ⟨by omega,trivial⟩ (by omega) ?_;have e:((s.Aa.take (i+1)).map λq=>Cd q p).map Queue.c=((s.Aa.take i).map λq=>Cd q p).map Queue.c++[q.c]:=by rw[take_add_one,hb];simp[hq]
   rw[e];exact h
  clear hJ;refine Ay 3 [([],[7]),([],[21]),([],[3])] B6 ?_;refine gO ?_;refine Ax (aG b (by omega)) ?_;refine gO ?_;refine Ab (KE (BU b) p (by have:=KW b;omega)) ?_;cases hp:Br (BU b) p
  ·simp(disch:=omega)only[go_sem,length_map,length_take];refine fin b (by simp[Cd,hp]) _ (AT.Aq gI ?_);simp(disch:=omega)only[go_sem]
  refine gO ?_;refine Ab (vu b p (by omega)) ?_;cases hv:valid b
  ·have e:Ge b p=(q0,[],2):=by simp[Ge,hv]
   simp(disch:=omega)only[go_sem,e,length_map,length_take];refine fin b (by simp[Cd,hv]) _ (AT.Aq gI ?_);simp(disch:=omega)only[go_sem]
  ·have e:Ge b p=(Ee (B8 b p),(Co (B8 b p)).2,0):=by simp[Ge,hv,hp]
   simp(disch:=omega)only[go_sem,e,length_map,length_take];refine fin { Ee (B8 b p) with gen:=b.gen } (by simp[Cd,hv,hp]) _ (AT.Aq gI ?_);simp(disch:=omega)only[go_sem]
 subst Ba;rw[take_length];clear hJ;refine AF (s.Aw) (λi=>⟨[(49,I i),(48,I s.Aw.length),(47,Io s.Aw),(3,.ptr 192 0),(5,.ptr 320 0),(4,.ptr 256 0)],[(192,p.c),(256,jO),(320,[.sl (.own 2752 0) 8 ((s.Aa.map λq=>Cd q p).map Queue.c),.sl (.own 3968 0) 9 ((E7 (s.Aw.take i) p).map Need.c)])]⟩) (λi=>True) trivial ?_ ?_
 ·exact Ce
 rintro i ⟨hi,hP⟩ J hJ;refine gO ?_;refine Bo hi (λAP b hb Cg AX=>?_) λBa=>?_
 simp(disch:=omega)only[go_sem,gm,hb]
 ·have ID:(E7 (s.Aw.take i) p).length+1<=4294967296:=by
   have:(E7 (s.Aw.take i) p).length<=(s.Aw.take i).length:=List.length_filter_le _ _;rw[length_take]at this;omega
  refine Ab (LC b.proc p) ?_;refine gO ?_;have e1:E7 (s.Aw.take (i+1)) p=if b.proc=p then E7 (s.Aw.take i) p else E7 (s.Aw.take i) p++[b]:=by
   simp only[E7,take_add_one,hb,Option.toList_some,List.filter_append,List.filter_cons,List.filter_nil]
   by_cases h:b.proc=p<;>simp[h]
  refine And.intro (λhh=>?_) (λhh=>?_)
  ·have CZ:¬ b.proc=p:=by simpa using hh
   rw[if_neg CZ]at e1;refine hJ _ (i+1) ⟨by omega,trivial⟩ (by omega) (AT.Aq gI ?_);rw[e1];refine gO ?_;exact .sl (by simp[Need.c])
  ·have CZ:b.proc=p:=by simpa using hh
   rw[if_pos CZ]at e1;refine hJ _ (i+1) ⟨by omega,trivial⟩ (by omega) (AT.Aq gI ?_);rw[e1];simp(disch:=omega)only[go_sem]
 ·subst Ba;simp(disch:=omega)only[go_sem,take_length];refine CU ⟨[],[],[2752,3968]⟩ _ ?_;simp(disch:=omega)only[go_sem,BW];exact .eq (by simp)
def Fl(l:List Atom)(a:Atom):List Atom:=if a∈l then l else l++[a]
mutual
def nf:List Atom->Expr->List Atom
 | l,.mk _ a kids=>if kids.length=0 then Fl l a else ng l kids
def ng:List Atom->List Expr->List Atom
 | l,[]=>l
 | l,e::es=>ng (nf l e) es
end
theorem cY(l:List Atom)(e:Expr):nf l e=if e.kids.length=0 then Fl l e.atom else ng l e.kids:=by cases e;simp only[nf];rfl
def Ah(e:Expr):List Atom:=if BM e then nf [] e else []
def H5(l:List Atom)(a:Atom):Int:=match l.findIdx? (λx=>decide (x=a)) with|some i=>i|none=>-1
def lp(l:List Atom)(p:Atom)(hl:l.length<=1000000):Ad C0 300 [BG l,.agg p.c] [] (I (H5 l p)) []:=by
 refine Ad.go f300 ?_;unfold f300;refine gO ?_;refine AF (l) (λi=>⟨[(8,I i),(7,I l.length),(0,BG l),(3,.ptr 192 0)],[(192,p.c)]⟩) (λi=>(l.take i).find? (λx=>decide (x=p))=none) rfl ?_ ?_
 ·exact Ce
 rintro i ⟨hi,hP⟩ J hJ;refine gO ?_;refine Bo hi (λAP b hb Cg AX=>?_) λBa=>?_
 refine Ay 5 [([],[3]),([],[0]),([],[5]),([],[12,13]),([],[14])] B6 ?_;simp(disch:=omega)only[go_sem,gm,hb]
 ·refine⟨λh=>?_,λh=>?_⟩
  ·have e:H5 l p=i:=by unfold H5;rw[Hj hP b hb (by simp at h;simp[h])]
   simp(disch:=omega)only[go_sem,e];exact AQ _
  ·refine hJ _ (i+1) ⟨by omega,(by rw[Cp hP hb];simp at h;simp[Ne.symm h])⟩ (by omega) AK
 ·subst Ba;rw[take_length]at hP;have e:H5 l p = -1:=by
   unfold H5;have:l.findIdx? (λx=>decide (x=p))=none:=by
    rw[List.findIdx?_eq_none_iff];rw[List.find?_eq_none]at hP;intro x hx;simpa using hP x hx
   rw[this]
  simp(disch:=omega)only[go_sem,e];exact AQ _
def cO(l:List Atom)(p:Atom):decide (0<=H5 l p)=decide (p∈l):=by
 unfold H5;cases h:l.findIdx? (λx=>decide (x=p)) with
 |none =>
  rw[List.findIdx?_eq_none_iff]at h;have:p∉l:=λhp=>by simpa using h p hp
  simp[this]
 |some i =>
  obtain⟨h1,h2,_⟩:=(List.findIdx?_eq_some_iff_getElem.1 h);have hm:p∈l:=by simp at h2;rw[<- h2];exact getElem_mem h1
  simp[hm]
def wM(l:List Atom)(p:Atom)(hl:l.length<=1000000):Ad C0 299 [BG l,.agg p.c] [] (B (decide (p∈l))) []:=by
 refine Ad.go f299 ?_;unfold f299;refine gO ?_;refine Ab (lp l p hl) ?_;have:=cO l p;simp(disch:=omega)only[go_sem,this];exact AQ _
def l9{l:List Atom}{a:Atom}(h:((Gl l a).1==0)=true):(Gl l a).2=Fl l a:=by
 unfold Gl at h ⊢;cases hf:l.find? (pF a) with
 |some b =>
  rw[hf]at h;simp only at h ⊢
  by_cases e:a=b
  ·subst e;simp[Fl,List.mem_of_find?_eq_some hf]
  ·simp[e]at h
 |none =>
  rw[hf]at h;simp only at h ⊢
  by_cases h8:l.length=8
  ·simp[h8]at h
  ·have:a∉l:=λhm=>by
    rw[List.find?_eq_none]at hf;have:=hf a hm;simp[pF]at this
   simp[h8,Fl,this]
def ZC:∀ (es:List Expr) (l:List Atom),(∀ e∈es,∀ l,(prop e l).1=true->nf l e=(prop e l).2)->(C4 es l).1=true->ng l es=(C4 es l).2
 |[],l,_,_=>by simp[ng,C4]
 | e::es,l,hk,h=>by
  simp only[C4]at h ⊢;split at h
  ·rename_i h1;rw[if_pos h1];simp only[ng];rw[hk e (by simp) l h1];exact ZC es _ (λe' he=>hk e' (by simp[he])) h
  ·cases h
def KY:∀ (N:Nat) (e:Expr),SizeOf.sizeOf e<N->∀ l:List Atom,(prop e l).1=true->nf l e=(prop e l).2
 | 0,_,h,_,_=>by omega
 | N+1,e,h,l,hp=>by
  rw[EW]at hp ⊢;rw[cY];split at hp
  ·rename_i hk;rw[if_pos hk,if_pos hk];split at hp
   ·rename_i h1;rw[if_pos h1];exact(l9 hp).symm
   ·cases hp
  ·rename_i hk;rw[if_neg hk,if_neg hk];split at hp
   ·cases hp
   ·rename_i h1;rw[if_neg h1];exact ZC _ _ (λe' he l' bj=>KY N e' (by have:=EM he;omega) l' bj) hp
def lh:∀ (N:Nat) (e:Expr),SizeOf.sizeOf e<N->∀ l:List Atom,l.length<=8->(prop e l).1=true ->
 Ad C0 281 [DY 0 l,.agg e.c] [] (DY 1 (prop e l).2) []
 | 0,_,h,_,_,_=>by omega
 | N+1,e,h,l,hl,Vq=>by
  refine Ad.lens f281 λhlen=>?_
  simp only[FZ,lens,Expr.Dg,length_map,and_true,true_and]at hlen;have uF:=Vq;rw[EW]at Vq;refine Ad.go f281 ?_;unfold f281
  by_cases hk:e.kids.length=0
  ·have e1:((e.kids.length:Int)==0)=true:=by simp[hk]
   rw[if_pos hk]at Vq;have hc:=KY (N+1) e h l uF;rw[cY,if_pos hk]at hc;simp(disch:=omega)only[go_sem,e1];refine B4 [0] (wM l e.atom (by omega)) gI rfl trivial ?_
   by_cases hm:e.atom∈l
   ·have e2:(decide (e.atom∈l))=true:=by simp[hm]
    have e3:(prop e l).2=l:=by rw[<- hc];simp[Fl,hm]
    simp(disch:=omega)only[go_sem,e2,e3];refine AY ⟨[(0,1)],[],[]⟩ _ rfl ⟨rfl,rfl⟩ (by simp[lk]) ?_ trivial;simp(disch:=omega)only[go_sem]
   ·have e2:(decide (e.atom∈l))=false:=by simp[hm]
    have e3:(prop e l).2=l++[e.atom]:=by rw[<- hc];simp[Fl,hm]
    simp(disch:=omega)only[go_sem,e2,e3];refine AY ⟨[(1280,1)],[],[]⟩ _ rfl ⟨rfl,rfl⟩ (by simp[lk]) ?_ trivial;refine gO ?_;exact .sl (by simp[Atom.c])
  have e1:((e.kids.length:Int)==0)=false:=by simp only[beq_eq_false_iff_ne,ne_eq];omega
  rw[if_neg hk]at Vq;split at Vq
  ·cases Vq
  rename_i S1;have ep:prop e l=C4 e.kids l:=by rw[EW,if_neg hk,if_neg S1]
  simp(disch:=omega)only[go_sem,e1,ep];refine Ao (α:=Nat × List Atom) (λq=>⟨[(24,I q.1),(23,I e.kids.length),(22,JP e.kids),(0,DY 1920 q.2)],[]⟩)
   (λq=>q.1<=e.kids.length/\q.2.length<=8/\(C4 (e.kids.drop q.1) q.2).1=true/\C4 (e.kids.drop q.1) q.2=C4 e.kids l) (λq=>e.kids.length-q.1) (0,l) ⟨by simp,hl,by simpa using Vq,by simp⟩ ?_ ?_
  ·refine AT.CX ⟨[(0,1920)],[],[]⟩ ⟨rfl,rfl⟩ (by simp[lk]) ?_ ?_
   ·exact gI
   ·exact gI
  rintro⟨i,m⟩ ⟨hi,hm,UL,hr⟩ J hJ
  replace hi:i<=e.kids.length:=hi
  replace hm:m.length<=8:=hm
  replace UL:(C4 (e.kids.drop i) m).1=true:=UL
  replace hr:C4 (e.kids.drop i) m=C4 e.kids l:=hr
  refine gO ?_;refine ⟨λAP=>?_,λJX=>?_⟩
  ·have H0:i<e.kids.length:=by simp at AP;omega
   have hb:e.kids[i]?=some e.kids[i]:=gE H0;have Hb:=EM (getElem_mem H0);have bf:e.kids.drop i=e.kids[i]::e.kids.drop (i+1):=List.drop_eq_getElem_cons H0;generalize e.kids[i]=b at hb Hb bf;rw[bf]at hr UL;simp only[C4]at hr UL;have Vt:(prop b m).1=true:=by
    split at UL
    ·assumption
    ·cases UL
   rw[if_pos Vt]at hr UL;simp(disch:=omega)only[go_sem,gm,hb];refine By ⟨⟨[(1920,0)],[],[]⟩,[(1,1921)],[]⟩ (lh N b (by omega) m hm Vt) gI rfl gI (.inl rfl) ?_;have hx:=VB N b (by omega) m hm;refine gO ?_;refine hJ _ (i+1,(prop b m).2) ⟨by simp;omega,hx,UL,hr⟩ (by simp;omega) (AT.CX ⟨[(1921,1920)],[],[]⟩ ⟨rfl,rfl⟩ (by simp[lk]) ?_ ?_)
   ·exact gI
   ·exact gI
  ·have Ba:i=e.kids.length:=by simp at JX;omega
   subst Ba;rw[List.drop_length]at hr;simp only[C4]at hr;simp(disch:=omega)only[go_sem,<- hr];refine AY ⟨[(1920,1)],[],[]⟩ _ rfl ⟨rfl,rfl⟩ (by simp[lk]) ?_ trivial;simp(disch:=omega)only[go_sem]
def GC{e:Expr}(h:BM e=true):(prop e []).1=true:=by
 simp only[BM,Bool.and_eq_true]at h;exact h.2
theorem Dt(e:Expr):(Ah e).length<=8:=by
 unfold Ah;split
 ·rename_i h;rw[KY _ e (lt_succ_self _) [] (GC h)];exact VB _ e (lt_succ_self _) [] (by simp)
 ·simp
def kS(e:Expr):Ad C0 235 [.agg e.c] [] (BG (Ah e)) []:=by
 refine Ad.go f235 ?_;unfold f235;refine gO ?_;refine Ab (ra e) ?_;cases h:BM e
 ·have e1:Ah e=[]:=by simp[Ah,h]
  simp(disch:=omega)only[go_sem,e1];refine AY ⟨[],[],[]⟩ _ rfl ⟨rfl,rfl⟩ (by simp[lk]) ?_ trivial;exact .A8 (by omega)
 ·have hp:=GC h;have e1:Ah e=(prop e []).2:=by
   simp only[Ah,h,if_true];exact KY _ e (lt_succ_self _) [] hp
  simp(disch:=omega)only[go_sem,e1];refine By ⟨⟨[],[],[]⟩,[(1,448)],[]⟩ (lh _ e (lt_succ_self _) [] (by simp) hp) (by simp(disch:=omega)only[go_sem,DY,List.map_nil]) rfl gI (.inl rfl) ?_;refine gO ?_;refine CU ⟨[],[],[448]⟩ _ ?_;simp(disch:=omega)only[go_sem,DY]
end Go.Rd
