/- part 41 of the proof -/
import Derived.Test.YteliegkcmjimoaaGreatDoorX37
set_option linter.all false
open Go Go.Abs Go.Proofs
set_option maxRecDepth 100000
namespace Go.Rd
set_option maxHeartbeats 8000000
open List (map_cons mem_append mem_cons mem_filter mem_map pairwise_cons)
open Bool (and_eq_true)
open Nat (le_refl)
def ox(x:Bs)(l:List Bs)(s:Bs):W3 (x::l) s=if BD x s then W3 l s+1 else 0:=by grind[W3,List.takeWhile_cons]
theorem dL(s:Bs):Gt [] s=[s]:=rfl
def Za(x:Bs)(l:List Bs)(s:Bs):Gt (x::l) s=if BD x s then x::Gt l s else if x=s then x::l else s::x::l:=by
 unfold Gt;rw[ox];grind
def W8{y s:Bs}:∀ {l:List Bs},y∈Gt l s↔y=s\/y∈l
 |[]=>by simp[dL]
 | x::l=>by
  rw[Za];split
  ·simp only[mem_cons,W8 (l:=l)];constructor
   ·rintro(h|h|h)<;>simp[h]
   ·rintro(h|h|h)<;>simp[h]
  ·split
   ·rename_i h;subst h;simp
   ·simp
def cL{s:Bs}:∀ {l:List Bs},l.Pairwise (λa b=>BD a b=true)->(Gt l s).Pairwise λa b=>BD a b=true
 |[],_=>by simp[dL]
 | x::l,h=>by
  have h':=pairwise_cons.1 h;rw[Za];split
  ·rename_i hx;refine pairwise_cons.2 ⟨λy hy=>?_,cL h'.2⟩;rcases W8.1 hy with rfl|hy<;>grind
  ·split
   ·exact h
   ·rename_i h1 h2;have hsx:BD s x=true:=by grind[Lr]
    refine pairwise_cons.2 ⟨λy hy=>?_,h⟩;rcases mem_cons.1 hy with rfl|hy
    ·omega
    grind[GL]
def Kk:∀ (ns l:List Bs),l.Pairwise (λa b=>BD a b=true)->(ns.foldl Gt l).Pairwise (λa b=>BD a b=true)/\∀ y,y∈ns.foldl Gt l↔y∈ns\/y∈l
 |[],l,h=>⟨h,λy=>by simp⟩
 | n::ns,l,h=>by
  obtain⟨a,b⟩:=Kk ns (Gt l n) (cL h);refine⟨a,λy=>?_⟩;rw[List.foldl_cons,b,W8,mem_cons];constructor
  ·rintro(h|h|h)<;>simp[h]
  ·rintro((h|h)|h)<;>simp[h]
def Zu(x:Bu)(l:Ledger):(DT x l).Pairwise λa b=>BD a b=true:=(Kk _ _ (Kk _ _ .nil).1).1
def Tn(x:Bu)(l:Ledger)(y:Bs):y∈DT x l↔(x.waiting=true/\∃ a∈Ah x.Bk.expr,a.name=y)\/∃ e∈x.AB.entries.drop l.entries.length,e.name=y:=by
 unfold DT;rw[(Kk _ _ (Kk _ _ .nil).1).2,(Kk _ _ .nil).2];grind
def RI{c:Hw}(h:Ck c=true){x:Bu}(hx:x∈c.procs):Fine c.now c.Aa x:=by
 obtain⟨j,hj⟩:=List.mem_iff_getElem?.1 hx;exact(F9 h).ve.Lc j x hj (by simp)
def eI{c:Hw}(h:Ck c=true){x:Bu}(hx:x∈c.procs)(l:Ledger){y:Bs}(hy:y∈DT x l):∃ q∈c.Aa,q.res.name=y:=by
 have hf:=RI h hx;have ht:=(F9 h).ve.je.tab;rcases(Tn x l y).1 hy with ⟨hw,a,ha,rfl⟩|⟨e,he,rfl⟩
 ·obtain⟨k,q,_,h2,h3,_⟩:=DF ht (hf.wait hw).2.1 ha;exact⟨q,mG h2,h3⟩
 ·obtain⟨k,q,_,h2,h3,_⟩:=hf.fits e.name ⟨e,List.mem_of_mem_drop he,rfl⟩;exact⟨q,mG h2,h3⟩
def gA{l:List Bs}(h:l.Pairwise λa b=>BD a b=true):l.Nodup:=h.imp λ{a b} h e=>by grind[Hk]
def oH{c:Hw}(h:Ck c=true){x:Bu}(hx:x∈c.procs)(l:Ledger):(DT x l).length<=8:=by
 have ht:=(F9 h).ve.je.tab;have h1:=BP (DT x l) (c.Aa.map (·.res.name)) (gA (Zu x l)) λy hy=>by
  obtain⟨q,hq,rfl⟩:=eI h hx l hy;grind
 rw[List.length_map]at h1;have:c.Aa.length<=8:=ht.n;omega
def sG{c:Hw}(h:Ck c=true){x:Bu}(hx:x∈c.procs)(l:Ledger){y:Bs}(hy:y∈DT x l):B9 y=true:=by
 have ht:=(F9 h).ve.je.tab;obtain⟨q,hq,rfl⟩:=eI h hx l hy;have:=((BN q).1 (ht.val q hq)).1.res;simp[Is]at this;simp[this]
def mc{c:Hw}(h:Ck c=true){x:Bu}(hx:x∈c.procs)(l:Ledger)(a:Nat)(ha:l.entries=x.AB.entries.take a){label:Int}(hl:label = -1\/(1<=label/\label<=99)):Cc (N4 x l label)=true:=by
 have hf:=RI h hx;have hh:=hf.head;simp[E2]at hh;obtain⟨⟨⟨⟨⟨h1,h2⟩,h3⟩,h4⟩,_⟩,_⟩:=hh;have hle:x.AB.entries.length<=72:=by simp_all[Bx]
 have rL:l.entries.length<=x.AB.entries.length:=by grind
 have P4:1<=x.cost*((x.AB.entries.length:Int)-l.entries.length+1)/\x.cost*((x.AB.entries.length:Int)-l.entries.length+1)<=1073741824:=by
  refine⟨?_,?_⟩
  ·have:=Int.mul_le_mul (a:=1) (b:=1) h2 (show (1:Int)<=(x.AB.entries.length:Int)-l.entries.length+1 by omega) (by omega) (by omega);omega
  ·have:=Int.mul_le_mul h3 (show (x.AB.entries.length:Int)-l.entries.length+1<=73 by omega) (by omega) (by omega);omega
 have hn:=oH h hx l;have hna:=Zu x l;simp[Cc,N4,and_eq_true,decide_eq_true_eq,Bool.or_eq_true,List.length_map];refine⟨⟨⟨⟨⟨h1,?_⟩,decide_eq_true P4.1⟩,decide_eq_true P4.2⟩,?_⟩,?_⟩
 ·grind
 ·omega
 rw[CY];intro i b hb;rw[gm]at hb;obtain⟨n,dD,rfl⟩:=Option.map_eq_some_iff.1 hb;have hm:=mG dD;simp only[DC,and_eq_true,Bool.or_eq_true,decide_eq_true_eq];refine⟨⟨sG h hx l hm,?_⟩,?_⟩
 ·grind[List.pairwise_iff_getElem]
 ·have h6:An l.entries n=⟨0,0⟩\/usable (An l.entries n)=true:=by
   rcases Nat.le_total a x.AB.entries.length with h7|h7
   ·grind[RO]
   ·have h8:=RO h4 n x.AB.entries.length (le_refl _);rw[List.take_length]at h8;rw[List.take_of_length_le h7]at ha;rw[ha];exact h8
  rcases h6 with h6|h6
  ·left;rw[h6];rfl
  ·exact .inr h6
theorem my{l:Ledger}(h:Bx l=true){s:Save}(hs:s∈l.AA):∃ a n,BQ l s.label=(PZ l a n,MN l a,0):=by
 have hl:=((EB l).1 h).IW s hs;have uC:¬ s.label=0:=by omega
 unfold BQ Oj;rw[h];simp only[Bool.not_true,Bool.false_eq_true,if_false,if_neg uC];cases hf:l.AA.findIdx? (λt=>t.label==s.label) with
 |none =>
  have:=List.findIdx?_eq_none_iff.1 hf s hs;simp at this
 |some i=>exact⟨_,_,rfl⟩
def sS{c:Hw}(h:Ck c=true){x:Bu}(hx:x∈c.procs)(hw:x.waiting=true):Gn x=IJ x:=by
 have hf:=RI h hx;have hh:=hf.head;simp[E2]at hh;obtain⟨⟨⟨⟨⟨h1,h2⟩,h3⟩,h4⟩,_⟩,_⟩:=hh;have hg:KM x=true:=by simp[KM,h1,h2,h3,h4,(hf.wait hw).1]
 have hu:x.AB.AA.all (fP x)=true:=List.all_eq_true.2 λs hs=>by grind[my,fP]
 have ha:(IJ x).all Cc=true:=List.all_eq_true.2 λo ho=>by
  unfold IJ at ho;rcases mem_append.1 ho with ho|ho
  ·obtain⟨s,hs,rfl⟩:=mem_map.1 ho;have hs:=List.mem_reverse.1 hs;obtain⟨a,n,e⟩:=my h4 hs;have hl:=((EB x.AB).1 h4).IW s hs;unfold NV;rw[e];exact mc h hx _ a rfl (.inr ⟨hl.1,hl.2.1⟩)
  ·simp at ho;subst ho;exact mc h hx CI 0 (by simp[CI]) (.inl rfl)
 simp[Gn,hg,hu,ha]
theorem sR{c:Hw}{o:C1}(ho:o∈AS c):Cc o=true/\o.proc∈Bl (ofM c)/\∃ x∈c.procs,x.proc=o.proc/\o∈IJ x:=by
 unfold AS at ho;obtain⟨x,hx,ho⟩:=List.mem_flatMap.1 ho;unfold Ft at ho;obtain⟨p,hp,ho⟩:=List.mem_flatMap.1 ho;split at ho
 ·rename_i he;unfold Gn at ho;split at ho
  ·rename_i hg;simp at hg;have bp:o.proc=x.proc:=by
    unfold IJ at ho;rcases mem_append.1 ho with ho|ho
    ·obtain⟨s,_,rfl⟩:=mem_map.1 ho;rfl
    ·simp at ho;subst ho;rfl
   exact⟨hg.2 o ho,by grind,x,hx,bp.symm,ho⟩
  grind
 grind
def QW{c:Hw}(k:Nat)(hk:k<=40):CD (ofM c) ((AS c).take k)=true:=by
 refine(EC _ _).2 ⟨JJ c,by grind,λo ho=>?_⟩;obtain⟨a,b,_⟩:=sR (List.mem_of_mem_take ho);exact⟨a,b⟩
def NM(ns:List Bs)(p:Ac)(t:List Queue):Prop:=∀ q∈t,q.res.name∉ns->(Am q.holds p).zero=true/\Ar q p=none
def AbY{ns:List Bs}{p:Ac}{ms:List Ac}{t t':List Queue}(h:NM ns p t)(ho:UI ms t t')(hp:p∉ms):NM ns p t':=λq' FI hn=>by
 obtain⟨k,hk⟩:=List.mem_iff_getElem?.1 FI;have X7:k<t.length:=by rw[<- ho.len];grind
 obtain⟨q1,h1,_,hr,hs,_⟩:=ho.each k t[k] (gE X7);rw[hk]at h1;injection h1 with h1
 subst h1;have hm:t[k]∈t:=List.getElem_mem X7;obtain⟨a,b⟩:=h _ hm (by grind);rcases hs p hp with ⟨c,d,_⟩|⟨x,c,_,_⟩
 ·rw[c,d];exact⟨a,b⟩
 ·rw[b]at c;cases c
def od{q:Queue}(hv:valid q=true){p:Ac}(hz:(Am q.holds p).zero=false):q.res.fits (Am q.holds p)=true:=by
 have hs:=((BN q).1 hv).1;obtain⟨_,_,h3,_⟩:=(Dk _ _).1 hs.holds;unfold Am at hz ⊢;cases hf:q.holds.find? (λh=>decide (h.proc=p)) with
 |none=>rw[hf]at hz;simp[BR.zero]at hz
 |some x=>exact(h3 x (List.mem_of_find?_eq_some hf)).2
def dm{α β:Type}(f:α->β)(g:β->Bool):∀ l:List α,(l.map f).find? g=(l.find? λa=>g (f a)).map f
 |[]=>rfl
 | a::l=>by
  simp only[map_cons,List.find?_cons];cases g (f a) with
  | true=>rfl
  | false=>exact dm f g l
def AaV{o:C1}{ns:List Bs}(hl:o.lower=ns.map λn=>⟨n,⟨0,0⟩⟩){q:Queue}(hv:valid q=true)(hn:q.res.name∉ns->(Am q.holds o.proc).zero=true/\Ar q o.proc=none):o.proc∉BU (Fj o q):=by
 obtain⟨hx,hw⟩:=aj o hv;have hg:Am (La o q).holds o.proc=Am q.holds o.proc:=by grind[La,H6,Bd]
 have key:(Am (D5 o (La o q)).holds o.proc).zero=true/\Ar (D5 o (La o q)) o.proc=none:=by
  unfold D5;cases hz:(Am (La o q).holds o.proc).zero with
  | true =>
   grind
  | false =>
   have Hf:q.res.name∈ns:=by grind
   have Ug:W4 o (La o q).res.name=some ⟨q.res.name,⟨0,0⟩⟩:=by
    unfold W4;rw[hx.res,hl,dm];have:(ns.find? λn=>n==q.res.name)=some q.res.name:=by cases hf:ns.find? λn=>n==q.res.name<;>grind
    simp[this]
   have hcz:=HK (od hx.val hz);obtain⟨s1,_,s3,s4⟩:=HQ hx.val hz hw hcz;rw[Ug];simp only;have CZ:¬ Am (La o q).holds o.proc=⟨0,0⟩:=λe=>by grind[BR.zero]
   rw[if_pos ⟨trivial,CZ,hcz,s1⟩,s4];exact⟨rfl,s3⟩
 have hvl:=(PI o hx.val hw).val;intro hp;have Hf:JY (D5 o (La o q)) o.proc:=(Ew _ _).1 hp;have:=r8 hvl Hf;simp[OH,key.1,key.2]at this
def AaW{o:C1}{ns:List Bs}(hl:o.lower=ns.map λn=>⟨n,⟨0,0⟩⟩){s:WS}(hg:BO s)(hn:NM ns o.proc s.Aa):o.proc∉Ag (FK s o):=λh=>by
 rcases(E6 _ _).1 h with ⟨q',FI,hp⟩|⟨n,iH,hp⟩
 ·obtain⟨q,hq,rfl⟩:=mem_map.1 FI;exact AaV hl (hg q hq) (hn q hq) hp
 ·have:=(mem_filter.1 iH).2;simp[hp]at this
def sI{c:Hw}(h:Ck c=true){x:Bu}(hx:x∈c.procs)(hw:x.waiting=true):NM (DT x CI) x.proc c.Aa:=λq hq hn=>by
 have hf:=RI h hx;have hp:=(hf.wait hw).2.2.2.2 q hq;have Y5:∀ a∈Ah x.Bk.expr,q.res.name≠a.name:=λa ha e=>hn ((Tn _ _ _).2 (.inl ⟨hw,a,ha,e.symm⟩))
 have hk:=Tq _ Y5 hp;have h0:An x.AB.entries q.res.name=⟨0,0⟩:=Mc fun⟨e,he,gd⟩=>hn ((Tn _ _ _).2 (.inr ⟨e,by grind[CI],gd⟩))
 unfold KF at hk;rw[h0]at hk;exact⟨by rw[hk.2];rfl,hk.1⟩
def FE(opts:List C1)(i:Nat):Ac:=(opts.getD i o0).proc
theorem Gs{opts:List C1}{i:Nat}{o:C1}(h:opts[i]?=some o):FE opts i=o.proc:=by simp[FE,h]
def dK{s0 s:WS}(hg:BO s0){V:List Ac}(ho:MV V s0 s){p:Ac}(hp:p∈Bl s0)(hV:p∉V):p∈Ag s:=by
 obtain⟨n,hn,rfl⟩:=Qu hg hp;refine(E6 _ _).2 (.inr ⟨n,?_,rfl⟩);rw[ho.Aw];grind
def pW{s:WS}(hv:AI s=true){o:C1}(ho:Cc o=true)(hp:o.proc∈Ag s):Cm s o=(FK s o,0):=by simp_all[Cm,Br]
def mr{s0:WS}(hg:BO s0){opts:List C1}:∀ (S:List Nat) {s:WS} {V0:List Ac},AI s=true->MV V0 s0 s->(∀ i∈S,∃ o,opts[i]?=some o/\Cc o=true/\o.proc∈Bl s0)->(S.map (FE opts)).Nodup->(∀ i∈S,FE opts i∉V0)->∃ x,Fy opts S (s,V0)=some (x,V0++S.map (FE opts))
 |[],s,V0,_,_,_,_,_=>⟨s,by simp[Fy]⟩
 | i::S,s,V0,hv,ho,hS,hn,hV=>by
  obtain⟨o,h1,h2,h3⟩:=hS i (by simp);have hw:=Gs h1;have hV0:=hV i (by simp);rw[hw]at hV0;have hA:=pW hv h2 (dK hg ho h3 hV0);rw[map_cons,List.nodup_cons]at hn;obtain⟨x,hx⟩:=mr hg S (Iw hv (dK hg ho h3 hV0)) (ho.trans hg (QU (Be hv) o)) (λj hj=>hS j (by grind)) hn.2 (λj hj hm=>by grind);refine⟨x,?_⟩;simp_all[Fy]
def ZH{c:Hw}(h:Ck c=true){opts:List C1}:∀ (S:List Nat) {s x:WS} {V0 V:List Ac},AI s=true->MV V0 (ofM c) s->(∀ v∈V0,v∉Ag s)->(∀ i∈S,∃ y∈c.procs,y.waiting=true/\opts[i]?=some (N4 y CI (-1)))->(S.map (FE opts)).Nodup->(∀ i∈S,FE opts i∉V0)->Fy opts S (s,V0)=some (x,V)->∀ v∈V,v∉Ag x
 |[],s,x,V0,V,_,_,hg,_,_,_,hr=>by simp_all[Fy]
 | i::S,s,x,V0,V,hv,ho,hg,hS,hn,hV,hr=>by
  obtain⟨y,hy,hyw,h1⟩:=hS i (by simp);have hw:=Gs h1;have hV0:=hV i (by simp);rw[hw]at hV0;have hgs:=Be hv;have hgc:BO (ofM c):=Be (JJ c);rw[map_cons,List.nodup_cons]at hn;simp only[Fy,h1]at hr;split at hr
  ·rename_i h0;have hA:Cm s (N4 y CI (-1))=(FK s (N4 y CI (-1)),0)/\Br (Ag s) y.proc=true:=by
    unfold Cm at h0 ⊢;rw[if_pos hv]at h0 ⊢;split at h0
    ·split at h0
     ·rename_i h1 h2;exact⟨by grind,h2⟩
     omega
    omega
   rw[hA.1]at hr;have hp:y.proc∈Ag s:=by grind[Br]
   have hq:(ofM c).Aa=c.Aa:=by rw[mb h];rfl
   have xh:=ho.off;rw[hq]at xh;refine ZH h S (Iw hv hp) (ho.trans hgc (QU hgs _)) (λv Vs=>?_) (λj hj=>hS j (by grind)) hn.2 (λj hj hm=>?_) hr
   ·rcases mem_append.1 Vs with Vs|Vs
    ·grind[O4]
    ·simp at Vs;subst Vs;exact AaW (ns:=DT y CI) rfl hgs (AbY (sI h hy hyw) xh hV0)
   grind
  ·cases hr
def fj{opts:List C1}:∀ (S:List Nat) {s x:WS} {V0 V:List Ac},AI s=true->Fy opts S (s,V0)=some (x,V)->∀ p∈Ag x,p∈Ag s\/p∈V
 |[],s,x,V0,V,_,hr,p,hp=>by simp_all[Fy]
 | i::S,s,x,V0,V,hv,hr,p,hp=>by
  simp[Fy]at hr;split at hr
  ·rename_i o ho;split at hr
   ·rename_i h0;have hA:Cm s o=(FK s o,0)/\Br (Ag s) o.proc=true:=by
     unfold Cm at h0 ⊢;grind
    rw[hA.1]at hr;have iL:o.proc∈Ag s:=by grind[Br]
    rcases fj S (Iw hv iL) hr p hp with h|h
    ·rcases O4 (Be hv) o h with h|h
     ·exact .inl h
     ·subst h;exact .inl iL
    ·exact .inr h
   grind
  grind
def Xz{s x:WS}{opts:List C1}{S:List Nat}{V:List Ac}(hv:AI s=true)(hr:Fy opts S (s,[])=some (x,V)){p:Ac}(hp:p∈Ag x)(hV:p∉V):p∈Ag s:=(fj S hv hr p hp).resolve_right hV
def Up(s:WS)(V:List Ac):List Ac:=(Ag s).filter λp=>decide (p∉V)
def fE{s:WS}(hv:AI s=true){opts:List C1}{S:List Nat}{x:WS}{V:List Ac}(hr:Fy opts S (s,[])=some (x,V))(RP:∀ v∈V,v∉Ag x)(hd:Bl (Fw s (Up s V))=[]):EF s opts S=true:=by
 have hg:=Be hv;obtain⟨h1,h2,W,h3,h4,h5⟩:=Mu S hg hv (MV.refl hg) hr;have xb:=Be h1;have hD:∀ v∈V,v∉Up s V:=λv zd hm=>by
  have:=(mem_filter.1 hm).2;simp[zd]at this
 have GJ:∀ p∈Ag x,Br (Up s V) p=true:=λp hp=>by
  have hpV:p∉V:=λhm=>RP p hm hp
  have iL:p∈Ag s:=Xz hv hr hp hpV;simp only[Br,Up];simpa using ⟨iL,hpV⟩
 have he:=eQ hg xb h2 hD;rw[fi GJ]at he;have e1:=pw.dead _ _ _ (Mb hg (Up s V)) xb he (le_refl _);rw[hd]at e1;obtain⟨a,b,cc,d,e⟩:=JD (Ag x).length x V xb (le_refl _);have rF:BJ (EN (Ag x).length x V)=[]:=by
  refine List.eq_nil_iff_forall_not_mem.2 λz hz=>?_
  grind[Br,DS]
 have Y5:Ag (EN (Ag x).length x V)=[]:=by rw[<- Jn a rF,d,e1]
 unfold EF;rw[hr];simp[Dq,Y5,List.all_nil]
def nk{s:WS}(hv:AI s=true){V:List Ac}(h:∀ p∈Bl s,p∈V):Bl (Fw s (Up s V))=[]:=by
 have hg:=Be hv;refine List.eq_nil_iff_forall_not_mem.2 λz hz=>?_
 have h1:=np hg _ z hz;have h2:=(mq hg (Jo _ _ (Mb hg _) (le_refl _) z hz)).1;have:=(mem_filter.1 h2).2;simp[h z h1]at this
def fF{s:WS}(hv:AI s=true){opts:List C1}{S:List Nat}(h:EF s opts S=true):Bl (Fw s (Up s (S.map (FE opts))))=[]:=by
 obtain⟨x,V,h1,h2⟩:=QZ h;have hV:V=S.map (FE opts):=Xy hv h1;rw[<- hV];exact UA hv h1 h2 λv zd hm=>by
  have:=(mem_filter.1 hm).2;simp[zd]at this
def UD:∀ (n:Nat) (s:WS) (l:List Ac),∀ x∈(EN n s l).Aw,x∈s.Aw
 | 0,_,_,x,hx=>hx
 | n+1,s,l,x,hx=>by
  simp only[EN]at hx;split at hx
  ·have:=UD n _ l x hx;exact(mem_filter.1 this).1
  ·exact hx
def fD{s x:WS}(hv:AI s=true){opts:List C1}{S:List Nat}{V:List Ac}(hr:Fy opts S (s,[])=some (x,V))(h:EF s opts S=true):Bl x=[]:=by
 have hg:=Be hv;obtain⟨h1,h2,_⟩:=Mu S hg hv (MV.refl hg) hr;have xb:=Be h1;obtain⟨a,b,cc,d,e⟩:=JD (Ag x).length x V xb (le_refl _);unfold EF at h;rw[hr]at h;simp at h;rw[<- d];refine List.eq_nil_iff_forall_not_mem.2 λz hz=>?_
 have zi:=Jo _ _ a (le_refl _) z hz;have hzV:z∈V:=by simpa [Br]using h z zi
 obtain⟨n,hn,hnp⟩:=Qu a hz;have uE:=UD _ _ _ n hn;rw[h2.Aw]at uE;have:=(mem_filter.1 uE).2;simp[hnp,hzV]at this
def Xh{opts:List C1}:∀ (S:List Nat) (last:Int) (V:List Ac),V.Nodup->(JT opts last V (S.map fun(i:Nat)=>(i:Int))=true↔S.Pairwise (· < ·)/\(∀ i∈S,last<(i:Int)/\i<opts.length)/\(S.map (FE opts)).Nodup/\∀ i∈S,FE opts i∉V)
 |[],last,V,_=>by simp[JT]
 | i::S,last,V,hV=>by
  simp only[map_cons,JT]
  by_cases h1:(i:Int)<=last
  ·grind
  rw[if_neg h1,Int.toNat_natCast];cases ho:opts[i]? with
  |none =>
   grind
  |some o =>
   have hw:=Gs ho;have Ba:=(List.getElem?_eq_some_iff.1 ho).1;simp only
   by_cases hp:Br V o.proc=true
   ·rw[if_pos hp];constructor
    ·grind
    grind[Br]
   ·rw[if_neg hp];have hpV:o.proc∉V:=by grind[Br]
    rw[Xh S i (V++[o.proc]) (by grind)];constructor
    ·rintro⟨a,b,c,d⟩;refine⟨pairwise_cons.2 ⟨λj hj=>by have:=(b j hj).1;omega,a⟩,λj hj=>?_,?_,λj hj=>?_⟩<;>grind
    simp_all
def jm{s:WS}{opts:List C1}{S:List Nat}:JT opts (-1) [] (S.map fun(i:Nat)=>(i:Int))=true↔isSet (Az s opts) S:=by
 rw[Xh S (-1) [] .nil];constructor
 ·rintro⟨a,b,c,_⟩;exact⟨a,λi hi=>(b i hi).2,c⟩
 ·rintro⟨a,b,c⟩;exact⟨a,λi hi=>⟨by omega,b i hi⟩,c,λ_ _ h=>by cases h⟩
theorem K4{s:WS}{opts:List C1}(hv:CD s opts=true){S:List Nat}:GU s opts (S.map fun(i:Nat)=>(i:Int))=true↔pA (Az s opts) S:=by
 have e:(S.map fun(i:Nat)=>(i:Int)).map Int.toNat=S:=by rw[List.map_map];exact(List.map_congr_left λi _=>Int.toNat_natCast i).trans (List.map_id' S)
 unfold GU pA;rw[hv,e,Bool.true_and,and_eq_true,jm (s:=s)];rfl
end Go.Rd
