/- part 38 of the proof -/
import Derived.Test.YteliegkcmjimoaaGreatDoorW37
set_option linter.all false
open Go Go.Abs Go.Proofs
set_option maxRecDepth 100000
namespace Go.Rd
set_option maxHeartbeats 8000000
open List (ext_getElem? filter_filter length_map mem_map nil_append take_length)
open Bool (and_eq_true or_eq_true)
open Option (map_some)
open Nat (le_refl)
open Tryz
def L9(ms:List Ac)(s:WS):WS:=ms.foldl BW s
def Wy:∀ (ms:List Ac) {s:WS},BO s->BO (L9 ms s)
 |[],_,h=>h
 | m::ms,_,h=>Wy ms (Cv h m)
def Ww:∀ (ms:List Ac) (s:WS),L9 ms s=⟨s.Aa.map (FX ms),s.Aw.filter λn=>decide (n.proc∉ms)⟩
 |[],s=>by
  show s=_;have h1:(FX [])=id:=rfl;rw[h1,List.map_id,List.filter_eq_self.2 (λ_ _=>by simp)]
 | m::ms,s=>by
  show L9 ms (BW s m)=_;rw[Ww ms];simp only[BW,E7,List.map_map,filter_filter,WS.mk.injEq];refine⟨List.map_congr_left λq _=>rfl,List.filter_congr λn _=>?_⟩;grind
theorem YU:∀ (ms:List Ac) {s:WS},BO s->∀ x,x∈Ag (L9 ms s)↔x∈Ag s/\x∉ms
 |[],_,_,x=>by simp[L9]
 | m::ms,s,h,x=>by
  show x∈Ag (L9 ms (BW s m))↔_;simp_all[YU,Cv,Jc,and_assoc]
theorem ZG{D:List Ac}:∀ (ms:List Ac) {s:WS},BO s->(∀ m∈ms,m∉D)->Fw s D=Fw (L9 ms s) D
 |[],_,_,_=>rfl
 | m::ms,s,h,hd=>by
  have h1:=fh (l:=D) h (f:=m) (by simpa [Br]using hd m (by simp));rw[<- h1];exact ZG ms (Cv h m) λx hx=>hd x (by simp[hx])
def Sf{D ms:List Ac}{s:WS}(h:BO s)(hd:∀ m∈ms,m∉D)(Ka:∀ x∈Ag s,x∈D\/x∈ms):Fw s D=L9 ms s:=by grind[ZG,fi,YU,Br]
def pw(x y:WS):Prop:=y.Aa.map er=x.Aa.map er/\y.Aw=x.Aw
theorem qH(q:Queue):BU (er q)=BU q:=by
 unfold BU er C3;simp;rfl
def vh(q:Queue)(p:Ac):(Ar (er q) p).isSome=(Ar q p).isSome:=by
 rw[Bool.eq_iff_iff,MQ,MQ];simp only[er,<- List.map_append,mem_map];constructor
 ·rintro⟨_,⟨w,hw,rfl⟩,hp⟩;exact⟨w,hw,hp⟩
 ·rintro⟨w,hw,hp⟩;exact⟨_,⟨w,hw,rfl⟩,hp⟩
def j5(l:List Queue):(l.map er).flatMap BU=l.flatMap BU:=by induction l<;>grind[qH]
def dg(l:List Queue)(p:Ac)(name:Bs):DX (l.map er) p name=DX l p name:=by
 unfold DX;generalize false=b
 induction l generalizing b with
 | nil=>rfl
 | cons q l ih =>
  simp only[List.map_cons,List.foldl_cons,vh];exact ih _
def pw.procs{x y:WS}(h:pw x y):Ag y=Ag x:=by
 unfold Ag AM;rw[<- j5 y.Aa,h.1,j5,h.2]
def pw.free{x y:WS}(h:pw x y):BJ y=BJ x:=by
 unfold BJ;rw[h.procs];refine List.filter_congr λp _=>?_
 unfold Dz;rw[h.2];cases x.Aw.find? (λn=>decide (n.proc=p)) with
 |none=>rfl
 |some n =>
  simp only;have:ET y n=ET x n:=by
   unfold ET;refine List.map_congr_left λa _=>?_
   rw[<- dg y.Aa,h.1,dg]
  rw[this]
def AaQ{c:Hw}(h:Ck c=true):Iy (ofM c):=sQ c (Dx (F9 h).ve.je.tab)
def UI.res{ms:List Ac}{t t':List Queue}(h:UI ms t t'):t'.map (·.res)=t.map (·.res):=by
 refine ext_getElem? λk=>?_
 rw[gm,gm];cases hk:t[k]? with
 |none =>
  have:t'.length<=k:=by rw[h.len];grind
  rw[List.getElem?_eq_none_iff.2 this]
 |some q =>
  obtain⟨q',h1,_,h2,_⟩:=h.each k q hk;grind
def I3{w:Ap}(h:VE none w):(B3 w).Aa.map (·.res)=w.Aa.map (·.res):=by
 obtain⟨ms,g,_⟩:=Ux h;exact g.off.res
def om{w:Ap}{i:Nat}{x:Bu}(h:VE none w)(hx:w.procs[i]?=some x)(hw:x.waiting=true):(EU w i x).Aa.map (·.res)=w.Aa.map (·.res) :=
 (JL (h.note 4 x.proc) (i:=i) (x:=x) hx hw).2.1.res
def Zg:∀ (n:Nat) (w:Ap),VE none w->(J1 n w).Aa.map (·.res)=w.Aa.map (·.res)
 | 0,_,_=>rfl
 | n+1,w,h=>by
  rcases Ki w with he|⟨k,x,he,hx,XT⟩
  ·rw[HD he]
  ·rw[KO he hx];obtain⟨g1,_⟩:=dU h hx XT;rw[Zg n _ (NB g1).1,I3 g1,om h hx XT]
theorem vb{w:Ap}{k:MS}{i:Nat}{x:Bu}(h:VC w)(hx:w.procs[i]?=some x)(h0:(Qv w k i x).2=0):(Qv w k i x).1.Aa.map (·.res)=w.Aa.map (·.res):=by
 have hi:=Au hx;revert h0;unfold Qv;split
 ·unfold Ez;split
  ·intro _;rfl
  rename_i hw;split
  ·rename_i hr;split
   ·rename_i hv;intro _;obtain⟨g1,_,_,g4⟩:=pY h.ve hx (by grind) hr hv;exact(I3 g1).trans g4.res
   ·intro _;rfl
  ·intro _;rfl
 split
 ·split
  ·rename_i hw;intro _;obtain⟨g1,g2,_,_⟩:=JL h.ve hx hw;have hp:(Bb w i x).procs[i]?=some (CH x):=by grind[Ch]
   exact(I3 (g1.next hp)).trans g2.res
  ·intro _;rfl
 split
 ·unfold Fv;split
  ·intro _;rfl
  rename_i hw;split
  ·intro _;rfl
  rename_i hz;intro _;obtain⟨g1,_,_,g4⟩:=lD (name:=k.name) h.ve hx (by grind) (pU (by grind));exact(I3 g1).trans g4.res
 split
 ·split
  ·intro _;rfl
  ·split
   ·intro _;rfl
   ·intro _;rfl
 split
 ·unfold Fx;split
  ·rename_i hu;intro _;obtain⟨g1,_,_,g4⟩:=jT h.ve hx hu;exact(I3 g1).trans g4.res
  ·intro _;rfl
 have RP:(Ud w i x).Aa.map (·.res)=w.Aa.map (·.res):=by
  obtain⟨g1,_,g3,_⟩:=lF h.ve hx;exact(I3 g1).trans g3.off.res
 split
 ·split
  ·intro _;rfl
  ·intro _;exact RP
 ·intro _;exact RP
def vd{w:Ap}{k:MS}(h:VC w)(h0:(NX w k).2=0):(NX w k).1.Aa.map (·.res)=w.Aa.map (·.res):=by
 revert h0;unfold NX;split
 ·omega
 split
 ·grind[F2]
 split
 ·intro h0;revert h0;unfold JH;split
  ·omega
  split
  ·omega
  rename_i h1 h2;intro _;simp only[or_eq_true,decide_eq_true_eq,not_or]at h1 h2;have hn:=h.ve.now;have hv:VE none { w with now:=w.now+k.n }:=by
   refine⟨⟨h.ve.je.tab,h.ve.je.n,h.ve.je.uq,h.ve.je.FM⟩,h.ve.ord,h.ve.known,?_,λj x hj CZ=>?_⟩
   ·grind
   ·have hf:=h.ve.Lc j x hj CZ;refine⟨hf.head,hf.fits,λhw=>?_,hf.idle⟩;obtain⟨a,b,c,d,e⟩:=hf.wait hw;grind
  exact Zg _ _ hv
 grind[List.findIdx?_eq_some_iff_getElem,vb]
def uV{c:Hw}{k:MS}(h:Ck c=true)(h0:(Yz c k).2.2=0):FB (Yz c k).1.Aa=FB c.Aa:=by
 unfold Yz at h0 ⊢;rw[if_pos h]at h0 ⊢;split at h0
 ·rename_i h1;rw[if_pos h1];exact vd (F9 h) h1
 grind
def yf{c:Hw}(k:MS)(h:Ck c=true):Ck (MH c k)=true/\FB (MH c k).Aa=FB c.Aa:=by
 unfold MH;split<;>simp_all[zT,uV]
def tu:∀ (ks:List MS) (c:Hw),Ck c=true->Ck (runM c ks)=true/\FB (runM c ks).Aa=FB c.Aa
 |[],_,h=>⟨h,rfl⟩
 | k::ks,c,h=>by
  obtain⟨h1,h2⟩:=yf k h;obtain⟨g1,g2⟩:=tu ks (MH c k) h1;exact⟨g1,g2.trans h2⟩
def gL{l:List BE}(h:Jm l=true):l.length<=8/\(∀ r∈l,Is r=true)/\∀ i,i+1<l.length->BD (l.getD i r0).name (l.getD (i+1) r0).name=true:=by
 simp only[Jm,and_eq_true,decide_eq_true_eq,CY,KB,or_eq_true]at h;grind[List.getElem?_of_mem]
theorem jk{r:BE}(h:Is r=true):valid (JS r)=true:=by
 have hs:r.shaped=true:=by simp_all[Is]
 rw[BN];refine⟨⟨h,(Dk _ _).2 ⟨hs,by simp[JS],by simp[JS],List.Pairwise.nil,by simp[JS,BE.compat,hs,Cl]⟩,(Cf _).2 ⟨by simp[JS],List.Pairwise.nil,by simp[JS]⟩,(BX _).2 ⟨(CS _).2 ⟨by simp[JS],List.Pairwise.nil,by simp[JS]⟩,by simp[JS],by simp[JS]⟩,by simp[JS]⟩,λw hw=>by grind[BZ,JS]⟩
def AbX{l:List BE}(h:Jm l=true):Ck (R4 l).1=true/\FB (R4 l).1.Aa=l:=by
 obtain⟨h1,h2,h3⟩:=gL h;have e:R4 l=(⟨0,l.map JS,[]⟩,0):=by simp[R4,QS,h]
 rw[e];have Vq:AM (l.map JS)=[]:=by
  cases hp:AM (l.map JS) with
  | nil=>rfl
  | cons p ps =>
   exfalso;have hm:p∈AM (l.map JS):=by grind
   obtain⟨q,hq,hi⟩:=(En _ _).1 hm;obtain⟨r,_,rfl⟩:=mem_map.1 hq;rcases hi with ⟨_,hm,_⟩|⟨_,hm,_⟩|⟨_,hm,_⟩<;>simp[JS]at hm
 have ht:DI (l.map JS):=by
  refine⟨by grind,λq hq=>?_,λi hi=>?_,by grind⟩
  ·obtain⟨r,hr,rfl⟩:=mem_map.1 hq;grind[jk]
  grind[JS]
 refine⟨?_,?_⟩
 ·grind[Ck,EO,Cu]
 ·simp[FB,Function.comp_def,JS]
def qk{h1 h2 h3 h4 u5 h5 u6 h6:Int}(a1:0<=h1/\h1<4)(a2:0<=h2/\h2<4)(a3:0<=h3/\h3<4)(a4:0<=h4/\h4<4)(b5:0<=u5/\u5<8)(a5:0<=h5/\h5<4)(b6:0<=u6/\u6<3)(a6:0<=h6/\h6<4) :
 Jm [⟨[97],1,1,h1⟩,⟨[98],1,1,h2⟩,⟨[99],1,1,h3⟩,⟨[100],1,1,h4⟩,⟨[112],2,1+u5,h5⟩,⟨[113],2,1+u6,h6⟩]=true:=by
 have hh:∀ h:Int,0<=h/\h<4->A7 h 0 3=true:=λh hh=>by grind[A7]
 have hl:∀ (n:Bs) (h:Int),B9 n=true->0<=h/\h<4->Is ⟨n,1,1,h⟩=true:=λn h hn hb=>by grind[Is,BE.shaped]
 have hp:∀ (n:Bs) (u h:Int),B9 n=true->1<=u/\u<=8->0<=h/\h<4->Is ⟨n,2,u,h⟩=true:=λn u h hn hu hb=>by grind[A7,Is,BE.shaped]
 have n1:B9 [97]=true:=by kernel_rfl
 have n2:B9 [98]=true:=by kernel_rfl
 have n3:B9 [99]=true:=by kernel_rfl
 have n4:B9 [100]=true:=by kernel_rfl
 have n5:B9 [112]=true:=by kernel_rfl
 have n6:B9 [113]=true:=by kernel_rfl
 have l1:BD [97] [98]=true:=by kernel_rfl
 have l2:BD [98] [99]=true:=by kernel_rfl
 have l3:BD [99] [100]=true:=by kernel_rfl
 have l4:BD [100] [112]=true:=by kernel_rfl
 have l5:BD [112] [113]=true:=by kernel_rfl
 simp only[Jm,and_eq_true,decide_eq_true_eq,CY,KB];refine⟨by simp,λi r hr=>?_⟩;rcases i with _|_|_|_|_|_|i
 ·grind
 ·grind
 ·grind
 ·grind
 ·grind
 ·cases hr;exact⟨hp _ _ _ n6 (by omega) a6,by simp[l5]⟩
 ·simp at hr
def zS(l:List Int):Jm (C2 l 0).1=true :=
 qk (Dl l _ 4 (by omega)) (Dl l _ 4 (by omega)) (Dl l _ 4 (by omega)) (Dl l _ 4 (by omega)) (Dl l _ 8 (by omega)) (Dl l _ 4 (by omega)) (Dl l _ 3 (by omega)) (Dl l _ 4 (by omega))
def Qr(l:List Int):Ck (Cb l)=true/\FB (Cb l).Aa=(C2 l 0).1:=by
 have h:=AbX (zS l);obtain⟨g1,g2⟩:=tu (G3 l).2 _ h.1;exact⟨g1,g2.trans h.2⟩
structure C1 where
 proc:Ac
 label:Int
 cost:Int
 lower:List Atom
def DC(l:List Atom)(i:Nat)(a:Atom):Bool:=B9 a.name&&(decide (i=0)||BD (l.getD (i-1) a0).name a.name)&&(a.AH.zero||usable a.AH)
def Cc(o:C1):Bool:=o.proc.ok&&(decide (o.label = -1)||(decide (1<=o.label)&&decide (o.label<=99)))&&decide (1<=o.cost)&&decide (o.cost<=1073741824)&&decide (o.lower.length<=8)&&Cu (DC o.lower) o.lower
def C1.c(o:C1):List AV:=[.v (.int .i64 o.proc.site),.v (.int .i64 o.proc.inc),.v (.int .i64 o.proc.num),.v (.int .i64 o.label),.v (.int .i64 o.cost),BG o.lower]
@[reducible] def Cw(l:List C1):AV:=.sl .no 6 (l.map C1.c)
attribute [go_sem] C1.c
def Nz(s:WS):(Ag s).Nodup:=IL (Fk _)
def W4(o:C1)(name:Bs):Option Atom:=o.lower.find? λa=>a.name==name
def La(o:C1)(q:Queue):Queue:=if (Bd q o.proc).2.2=0 then (Bd q o.proc).1 else q
def D5(o:C1)(q:Queue):Queue:=match W4 o q.res.name with
 |none=>q
 |some a=>if (Am q.holds o.proc).zero=false/\Am q.holds o.proc≠a.AH/\q.res.covers (Am q.holds o.proc) a.AH=true/\(AD q o.proc a.AH).2.2=0 then (AD q o.proc a.AH).1 else q
def Fj(o:C1)(q:Queue):Queue:={ D5 o (La o q) with gen:=q.gen }
def FK(s:WS)(o:C1):WS:=⟨s.Aa.map (Fj o),E7 s.Aw o.proc⟩
def Cm(s:WS)(o:C1):WS × Int:=if AI s then (if Cc o then (if Br (Ag s) o.proc then (FK s o,0) else (N9,10)) else (N9,1)) else (N9,2)
def EN:Nat->WS->List Ac->WS
 | 0,s,_=>s
 | n+1,s,l=>match (BJ s).find? (λp=>!Br l p) with
  |some p=>EN n (BW s p) l
  |none=>s
def Dq(s:WS)(l:List Ac):List Ac:=Ag (EN (Ag s).length s l)
def MW(s:WS)(l:List Ac):List Ac × Int:=if AI s then (Dq s l,0) else ([],2)
def Fy(opts:List C1):List Nat->WS × List Ac->Option (WS × List Ac)
 |[],x=>some x
 | i::S,x=>match opts[i]? with
  |some o=>if (Cm x.1 o).2=0 then Fy opts S ((Cm x.1 o).1,x.2++[o.proc]) else none
  |none=>none
def EF(s:WS)(opts:List C1)(S:List Nat):Bool:=match Fy opts S (s,[]) with
 |some (x,V)=>(Dq x V).all λp=>Br V p
 |none=>false
def aj{q:Queue}(o:C1)(hv:valid q=true):G4 o.proc q (La o q)/\Ar (La o q) o.proc=none:=by
 unfold La;cases hw:(Ar q o.proc).isSome with
 | true =>
  simp_all[H6,jU]
 | false =>
  have e:Bd q o.proc=(q0,[],10):=by grind[Bd]
  rw[e,if_neg (by decide)];exact⟨.refl hv,by simp_all⟩
theorem PI{q:Queue}(o:C1)(hv:valid q=true)(hw:Ar q o.proc=none):G4 o.proc q (D5 o q):=by
 unfold D5;split
 ·exact .refl hv
 ·split
  ·grind[bJ]
  ·exact .refl hv
theorem Aae(q:Queue)(g:Int):er { q with gen:=g } = er q:=rfl
def Sn{q:Queue}(hv:valid q=true){g:Int}(hg:0<=g/\g<=1073741824):valid { q with gen:=g } = true:=(BN _).2 (TD ((BN q).1 hv) hg)
def pg{p:Ac}{q q':Queue}(h:G4 p q q'){g:Int}(hg:0<=g/\g<=1073741824):G4 p q { q' with gen:=g } where
 val:=Sn h.val hg
 res:=h.res
 sa:=h.sa
 same:=h.same
 cut:=(gV h.val (Sn h.val hg) (Aae q' g) p).trans h.cut
def Oh{q:Queue}(o:C1)(hv:valid q=true):G4 o.proc q (Fj o q):=by
 obtain⟨h1,h2⟩:=aj o hv;exact pg (h1.trans (PI o h1.val h2)) ((BN q).1 hv).1.gen
def iA{s:WS}(h:BO s)(o:C1):BO (FK s o):=λq hq=>by
 obtain⟨q0,hq0,rfl⟩:=mem_map.1 hq;exact(Oh o (h q0 hq0)).val
def O4{s:WS}(h:BO s)(o:C1){x:Ac}(hx:x∈Ag (FK s o)):x∈Ag s\/x=o.proc:=by
 rw[E6]at hx;rcases hx with ⟨q',FI,hx⟩|⟨n,hn,hx⟩
 ·obtain⟨q,hq,rfl⟩:=mem_map.1 FI;rw[Ew]at hx;rcases(Oh o (h q hq)).sa x hx with hx|hx<;>grind[E6,Ew]
 ·exact .inl ((E6 _ _).2 (.inr ⟨n,(List.mem_filter.1 hn).1,hx⟩))
def Iw{s:WS}(h:AI s=true){o:C1}(hp:o.proc∈Ag s):AI (FK s o)=true:=by
 have hg:=Be h;obtain⟨h1,h2,h3⟩:=(GQ s).1 h;obtain⟨a1,a2,a3⟩:=(G1 _).1 h1;obtain⟨b1,b2,b3⟩:=(HR _).1 h2;refine(GQ _).2 ⟨(G1 _).2 ⟨by grind[FK],iA hg o,?_⟩,(HR _).2 ⟨Nat.le_trans (List.length_filter_le _ _) b1,λn hn=>b2 n (List.mem_filter.1 hn).1,b3.filter _⟩,?_⟩
 ·simp[FK];rw[List.pairwise_map];refine a3.imp_of_mem λ{a b} ha hb LP=>?_
  rw[(Oh o (a2 a ha)).res,(Oh o (a2 b hb)).res];omega
 ·exact Nat.le_trans (BP _ _ (Nz _) λx hx=>by rcases O4 hg o hx with hx|rfl<;>grind) h3
structure MV(ms:List Ac)(s s':WS):Prop where
 off:UI ms s.Aa s'.Aa
 Aw:s'.Aw=s.Aw.filter λn=>decide (n.proc∉ms)
def MV.refl{s:WS}(h:BO s):MV [] s s:=⟨⟨rfl,λ_ q hq=>⟨q,hq,h q (mG hq),rfl,λ_ _=>.refl q,rfl⟩⟩,(List.filter_eq_self.2 (by simp)).symm⟩
def QU{s:WS}(h:BO s)(o:C1):MV [o.proc] s (FK s o) where
 off:=⟨by simp[FK],λk q hq=>by
  have hx:=Oh o (h q (mG hq));exact⟨Fj o q,by simp[FK,hq],hx.val,hx.res,λy hy=>hx.same y (by grind),hx.cut⟩⟩
 Aw:=by simp[FK,E7]
def MV.trans{ms oF:List Ac}{a b c:WS}(ha:BO a)(h:MV ms a b)(h':MV oF b c):MV (ms++oF) a c where
 off:=h.off.trans ha h'.off
 Aw:=by
  rw[h'.Aw,h.Aw,filter_filter];grind
def eQ{s s':WS}(hg:BO s)(uA:BO s'){ms D:List Ac}(hr:MV ms s s')(hd:∀ m∈ms,m∉D):pw (Fw s D) (Fw s' D):=by
 obtain⟨ex,hex⟩:∃ ex,ex=(Ag s++Ag s').filter λp=>decide (p∉D):=⟨_,rfl⟩
 have hM:∀ m∈ms++ex,m∉D:=λm hm=>by grind
 have Aey:∀ x,x∈Ag s\/x∈Ag s'->x∈D\/x∈ms++ex:=λx hx=>by grind
 rw[Sf hg hM (λx hx=>Aey x (.inl hx)),Sf uA hM (λx hx=>Aey x (.inr hx)),Ww,Ww];refine⟨?_,?_⟩
 ·show (s'.Aa.map (FX (ms++ex))).map er=(s.Aa.map (FX (ms++ex))).map er;refine ext_getElem? λk=>?_
  simp only[gm];cases hk:s.Aa[k]? with
  |none =>
   have:s'.Aa.length<=k:=by rw[hr.off.len];grind
   rw[List.getElem?_eq_none_iff.2 this]
  |some q =>
   obtain⟨q',h1,v1,_,_,c1⟩:=hr.off.each k q hk;have v0:=hg q (mG hk);rw[h1];simp only[map_some];rw[PC,PC,RL ex (GG ms v0) (GG ms v1) c1]
 ·show s'.Aw.filter _=s.Aw.filter _;rw[hr.Aw,filter_filter];grind
def pw.rem{x y:WS}(hg:BO x)(uA:BO y)(h:pw x y)(p:Ac):pw (BW x p) (BW y p):=by
 refine⟨?_,by simp[BW,h.2]⟩;have hl:y.Aa.length=x.Aa.length:=by have:=congrArg List.length h.1;simpa using this
 show (y.Aa.map λq=>Cd q p).map er=(x.Aa.map λq=>Cd q p).map er;refine ext_getElem? λk=>?_
 have hk:=congrArg (λl=>l[k]?) h.1;simp only[gm]at hk ⊢;cases hx:x.Aa[k]? with
 |none =>
  rw[hx]at hk;have:y.Aa[k]?=none:=by grind
  rw[this]
 |some q =>
  rw[hx]at hk;obtain⟨q',FI,he⟩:=Option.map_eq_some_iff.1 hk;rw[FI];simp only[map_some];rw[gV (hg q (mG hx)) (uA q' (mG FI)) he]
def pw.dead:∀ (n:Nat) (x y:WS),BO x->BO y->pw x y->(Ag x).length<=n->Bl y=Bl x:=by
 intro n
 induction n with
 | zero =>
  intro x y hg uA h hn;have h1:=Xf hn;have hfx:BJ x=[]:=by grind[BJ]
  rw[Jn hg hfx,Jn uA (by rw[h.free];omega),h.procs]
 | succ n ih =>
  intro x y hg uA h hn;cases hf:BJ x with
  | nil=>rw[Jn hg hf,Jn uA (by rw[h.free];omega),h.procs]
  | cons p l =>
   have hp:p∈Ag x:=DS (by grind);rw[LY hg hf,LY uA (by rw[h.free];exact hf)];exact ih _ _ (Cv hg p) (Cv uA p) (h.rem hg uA p) (by have:=D9 hg hp;omega)
def Wv(p:Ac):∀ (ms:List Ac) {s:WS},BO s->L9 ms (BW s p)=BW (L9 ms s) p
 |[],_,_=>rfl
 | m::ms,s,h=>by
  show L9 ms (BW (BW s p) m)=BW (L9 ms (BW s m)) p;rw[Sd h p m];exact Wv p ms (Cv h m)
def Wx{p:Ac}:∀ (ms:List Ac) {s:WS},BO s->p∉ms->p∈BJ s->p∈BJ (L9 ms s)
 |[],_,_,_,h=>h
 | m::ms,s,hg,hn,h=>by
  simp only[List.mem_cons,not_or]at hn;exact Wx ms (Cv hg m) hn.2 (PE hg hn.1 h)
def u9{s:WS}(hg:BO s){p:Ac}(hp:p∈BJ s)(D:List Ac):Bl (Fw (BW s p) D)=Bl (Fw s D):=by
 by_cases hD:p∈D
 ·obtain⟨ms,hms⟩:∃ ms,ms=(Ag s).filter λx=>decide (x∉D):=⟨_,rfl⟩
  have h1:∀ m∈ms,m∉D:=λm hm=>by grind
  have h2:∀ x∈Ag s,x∈D\/x∈ms:=λx hx=>by grind
  rw[Sf hg h1 h2,Sf (Cv hg p) h1 (λx hx=>h2 x ((Jc hg p x).1 hx).1),Wv p ms hg];have hf:=Wx ms hg (λh=>h1 p h hD) hp;exact(Pn _ _ (Wy ms hg) (le_refl _) p hf).symm
 grind[fh,Br]
def JD:∀ (n:Nat) (s:WS) (l:List Ac),BO s->(Ag s).length<=n ->
 BO (EN n s l)/\(∀ x∈BJ (EN n s l),Br l x=true)/\(∀ x∈Ag (EN n s l),x∈Ag s)/\Bl (EN n s l)=Bl s/\∀ D,Bl (Fw (EN n s l) D)=Bl (Fw s D):=by
 intro n
 induction n with
 | zero =>
  intro s l hg hn;have h1:=Xf hn;refine⟨hg,λx hx=>?_,λx hx=>hx,rfl,λ_=>rfl⟩;have:=DS hx;simp[EN]at this;rw[h1]at this;cases this
 | succ n ih =>
  intro s l hg hn;simp[EN];split
  ·rename_i p hp;have gG:=List.mem_of_find?_eq_some hp;have hd:=D9 hg (DS gG);obtain⟨a,b,c,d,e⟩:=ih (BW s p) l (Cv hg p) (by omega);refine⟨a,b,λx hx=>((Jc hg p x).1 (c x hx)).1,d.trans (Pn _ _ hg (le_refl _) p gG).symm,λD=>(e D).trans (u9 hg gG D)⟩
  grind
def Mu{opts:List C1}:∀ (S:List Nat) {s0 s x:WS} {V0 V:List Ac},BO s0->AI s=true->MV V0 s0 s->Fy opts S (s,V0)=some (x,V)->AI x=true/\MV V s0 x/\∃ W,V=V0++W/\W.length=S.length/\∀ (k i:Nat),S[k]?=some i->∃ o,opts[i]?=some o/\W[k]?=some o.proc
 |[],s0,s,x,V0,V,hg,hv,ho,h=>by simp_all[Fy]
 | i::S,s0,s,x,V0,V,hg,hv,ho,h=>by
  simp[Fy]at h;split at h
  ·rename_i o hoi;split at h
   ·rename_i h0;have hA:Cm s o=(FK s o,0)/\Br (Ag s) o.proc=true:=by
     unfold Cm at h0 ⊢;grind
    rw[hA.1]at h;have hp:o.proc∈Ag s:=by grind[Br]
    obtain⟨a,b,W,c,d,e⟩:=Mu S hg (Iw hv hp) (ho.trans hg (QU (Be hv) o)) h;refine⟨a,b,o.proc::W,by grind,by simp[d],λk j hk=>?_⟩;grind
   grind
  grind
def UA{s:WS}(hv:AI s=true){opts:List C1}{S:List Nat}{x:WS}{V:List Ac}(hr:Fy opts S (s,[])=some (x,V))(h:(Dq x V).all (λp=>Br V p)=true){D:List Ac}(hD:∀ v∈V,v∉D):Bl (Fw s D)=[]:=by
 have hg:=Be hv;obtain⟨h1,h2,_⟩:=Mu S hg hv (MV.refl hg) hr;have xb:=Be h1;obtain⟨a,b,c,d,e⟩:=JD (Ag x).length x V xb (le_refl _);have e1:=pw.dead _ _ _ (Mb hg D) (Mb xb D) (eQ hg xb h2 hD) (le_refl _);rw[<- e1,<- e D];have y6:Ag (Fw (EN (Ag x).length x V) D)=[]:=by
  refine List.eq_nil_iff_forall_not_mem.2 λz hz=>?_
  obtain⟨hzD,xr⟩:=mq a hz;have:=List.all_eq_true.1 h z xr;exact hD z (by grind[Br]) hzD
 refine List.eq_nil_iff_forall_not_mem.2 λz hz=>?_
 have:=Jo _ _ (Mb a D) (le_refl _) z hz;rw[y6]at this;cases this
def MP{q:Queue}(hv:valid q=true):BS q<=100:=by
 have hs:=((BN q).1 hv).1;have a:=((Dk _ _).1 hs.holds).2.1;have b:=((Cf q).1 hs.As).1;have c:=((CS _).1 ((BX q).1 hs.waits).1).1;unfold BS B7;omega
def GF{s:WS}(hv:AI s=true):Iy s:=by
 obtain⟨h1,h2,_⟩:=(GQ s).1 hv;have a:=((G1 _).1 h1);have b:=((HR _).1 h2);exact⟨by omega,by omega,λq hq=>MP (a.2.1 q hq)⟩
def IY(p:Ac)(a:Atom)(q:Queue):Queue:=if a.name=q.res.name/\Am q.holds p≠a.AH/\(a.AH.zero=true\/q.res.covers (Am q.holds p) a.AH=true) then (if (AD q p a.AH).2.2=0 then (AD q p a.AH).1 else q) else q
def AbR{q:Queue}{p:Ac}{a:BR}(hv:valid q=true):(AD q p a).2.2=0↔((Am q.holds p).zero=false/\Ar q p=none/\q.res.covers (Am q.holds p) a=true):=by grind[AD,F4]
theorem Ns{p:Ac}{a:Atom}{q:Queue}(h:a.name≠q.res.name):IY p a q=q:=by simp_all[IY]
def ow{o:C1}{a:Atom}{q:Queue}(hv:valid q=true)(hn:a.name=q.res.name)(hf:W4 o q.res.name=some a):IY o.proc a q=D5 o q:=by
 unfold IY D5;rw[hf];simp only[hn,true_and];grind[AD]
def sF{o:C1}(h:Cc o=true):∀ (i j:Nat) (a b:Atom),i<j->o.lower[i]?=some a->o.lower[j]?=some b->a.name≠b.name:=by
 have hp:∀ i b,o.lower[i]?=some b->DC o.lower i b=true:=by simp_all[Cc,CY]
 have step:∀ i a b,o.lower[i]?=some a->o.lower[i+1]?=some b->BD a.name b.name=true:=λi a b ha hb=>by
  have:=hp (i+1) b hb;simp only[DC,and_eq_true,or_eq_true,decide_eq_true_eq]at this;have h2:=this.1.2;simp[List.getD,ha]at h2;exact h2
 have far:∀ d i a b,o.lower[i]?=some a->o.lower[i+d+1]?=some b->BD a.name b.name=true:=by
  intro d
  induction d with
  | zero=>omega
  | succ d ih =>
   intro i a b ha hb;obtain⟨c,hc⟩:∃ c,o.lower[i+d+1]?=some c:=by grind
   grind[GL]
 intro i j a b UN ha hb LP;have:=far (j-i-1) i a b ha (by rw[show i+(j-i-1)+1=j by omega];omega);rw[LP,Ij]at this;cases this
def iV{o:C1}{q:Queue}(h:W4 o q.res.name=none):D5 o q=q:=by simp[D5,h]
def eh{o:C1}{r:Queue}(ho:Cc o=true)(hv:valid r=true)(hw:Ar r o.proc=none):∀ i,i<=o.lower.length ->
 ((o.lower.take i).foldl (λq a=>IY o.proc a q) r)=if (o.lower.take i).any (λa=>a.name==r.res.name) then D5 o r else r:=by
 have hx:=PI o hv hw;intro i
 induction i with
 | zero=>grind
 | succ i ih =>
  intro hi;obtain⟨b,hb⟩:∃ b,o.lower[i]?=some b:=⟨_,gE (by omega)⟩;rw[List.take_add_one,hb];simp only[Option.toList_some,List.foldl_append,List.foldl_cons,List.foldl_nil,List.any_append,List.any_cons,List.any_nil,Bool.or_false];rw[ih (by omega)];cases ha:(o.lower.take i).any (λa=>a.name==r.res.name)
  ·simp only[Bool.false_or]
   by_cases hn:b.name=r.res.name
   ·have hf:W4 o r.res.name=some b:=by
     grind[W4,Hq]
    simp only[hn,beq_self_eq_true,if_true];simp;exact ow hv hn hf
   grind[Ns]
  ·simp;obtain⟨a,sO,ur⟩:=List.any_eq_true.1 ha;obtain⟨j,hj,rfl⟩:=List.mem_take_iff_getElem.1 sO;have CZ:=sF ho j i _ b (by omega) (gE (by omega)) hb;simp at ur;refine Ns ?_;rw[hx.res];grind
def lZ{o:C1}{r:Queue}(ho:Cc o=true)(hv:valid r=true)(hw:Ar r o.proc=none):o.lower.foldl (λq a=>IY o.proc a q) r=D5 o r:=by
 have:=eh ho hv hw o.lower.length (le_refl _);rw[take_length]at this;rw[this];cases ha:o.lower.any (λa=>a.name==r.res.name)
 ·have:W4 o r.res.name=none:=by
   grind[W4]
  simp[iV this]
 ·simp
def NF(a:BR):usable a=if a.mode=0 then decide (1<=a.AG)&&decide (a.AG<=8) else BK a.mode&&(a.AG==0):=by
 have h1:Il.fits a=(BK a.mode&&a.AG==0):=by simp[BE.fits,Il,BE.shaped]
 have h2:Ir.fits a=(a.mode==0&&A7 a.AG 1 8):=by
  have:A7 8 1 8=true:=by decide
  simp[BE.fits,Ir,BE.shaped,this]
 unfold usable;rw[h1,h2]
 by_cases hm:a.mode=0
 ·rw[if_pos hm,hm];simp[BK,A7]
 ·rw[if_neg hm];simp[hm]
theorem rf(a:BR):Ad C0 89 [.agg a.c] [] (B (usable a)) []:=by
 refine Ad.go f89 ?_;unfold f89;refine gO ?_;refine⟨λh=>?_,λh=>?_⟩
 ·have hm:¬ a.mode=0:=by simpa using h
  refine Ab (Pw a.mode) ?_;cases h2:BK a.mode
  ·simp(disch:=omega)only[go_sem];refine Al _ ?_;exact wb (by rw[NF,if_neg hm,h2];rfl)
  ·simp(disch:=omega)only[go_sem];refine Al _ ?_;exact wb (by rw[NF,if_neg hm,h2];rfl)
 ·have hm:a.mode=0:=by simpa using h
  refine⟨λh2=>?_,λh2=>?_⟩
  ·refine Al _ ?_;exact wb (by rw[NF,if_pos hm,h2];rfl)
  ·refine Al _ ?_;exact wb (by rw[NF,if_pos hm,h2];rfl)
def Uo{o:C1}{i:Nat}{b:Atom}(hb:o.lower[i]?=some b)(h:DC o.lower i b=false):Cc o=false:=by simp only[Cc,B5 hb h,Bool.and_false]
def qV(o:C1):Ad C0 41 [.agg o.c] [] (B (Cc o)) []:=by
 have bad:Cc o=false->Ci (B false) (B (Cc o)):=λh=>wb h.symm
 refine Ad.go f41 ?_;unfold f41;refine gO ?_;refine Ab (Wo o.proc) ?_;cases h1:o.proc.ok
 ·simp(disch:=omega)only[go_sem];refine Al _ ?_;exact wb (by simp[Cc,h1])
 by_cases cg:o.cost<1
 ·have k5:=eq_true cg;have hb:Cc o=false:=by simp[Cc];omega
  simp(disch:=omega)only[go_sem,k5,decide_true]
  repeat'(with_reducible refine And.intro (λ_=>?_) (λ_=>?_))
  all_goals
   refine Al _ ?_;exact bad hb
 have k5:=eq_false cg
 by_cases ba:1073741824<o.cost
 ·have k6:=eq_true ba;have hb:Cc o=false:=by simp[Cc];omega
  simp(disch:=omega)only[go_sem,k5,k6,decide_true,decide_false]
  repeat'(with_reducible refine And.intro (λ_=>?_) (λ_=>?_))
  all_goals
   refine Al _ ?_;exact bad hb
 have k6:=eq_false ba
 by_cases hc3:8<o.lower.length
 ·have k7:(8<(o.lower.length:Int))=True:=eq_true (by omega);have hb:Cc o=false:=by simp[Cc];omega
  simp(disch:=omega)only[go_sem,k5,k6,k7,decide_true,decide_false,length_map]
  repeat'(with_reducible refine And.intro (λ_=>?_) (λ_=>?_))
  all_goals
   refine Al _ ?_;exact bad hb
 have k7:(8<(o.lower.length:Int))=False:=eq_false (by omega);have rJ:(o.label = -1)\/(o.label≠-1/\¬ o.label<1/\¬ 99<o.label)\/(o.label≠-1/\(o.label<1\/99<o.label)):=by omega
 rcases rJ with h2|⟨h2,h3,h4⟩|⟨h2,h3⟩
 rotate_left 2
 ·have k2:(o.label !=-1)=true:=by simp[h2]
  have hb:Cc o=false:=by simp[Cc,h2];omega
  by_cases h4:o.label<1
  ·simp(disch:=omega)only[go_sem,k5,k6,k7,k2,eq_true h4,decide_true,decide_false,length_map];refine Al _ ?_;exact bad hb
  ·simp(disch:=omega)only[go_sem,k5,k6,k7,k2,eq_false h4,eq_true (h3.resolve_left h4),decide_true,decide_false,length_map];refine Al _ ?_;exact bad hb
 all_goals
  first
  |(have k2:(o.label !=-1)=true:=by simp[h2]
    simp(disch:=omega)only[go_sem,k5,k6,k7,k2,eq_false h3,eq_false h4,decide_true,decide_false,length_map])
  |(have k2:(o.label !=-1)=false:=by simp[h2]
    simp(disch:=omega)only[go_sem,k5,k6,k7,k2,decide_true,decide_false,length_map])
 all_goals
  have hlb:(decide (o.label = -1)||(decide (1<=o.label)&&decide (o.label<=99)))=true:=by simp;omega
  refine AF (o.lower) (λi=>⟨[(1,.ptr 64 0),(39,BG o.lower),(40,I o.lower.length),(41,I i)],[(64,o.c)]⟩) (λi=>Cu (DC o.lower) (o.lower.take i)=true) rfl ?_ ?_
  ·exact Ce
  rintro i ⟨hi,hP⟩ J hJ;refine gO ?_;refine Bo hi (λAP b hb Cg AX=>?_) λBa=>?_
  simp(disch:=omega)only[go_sem,gm,hb]
  ·have no:DC o.lower i b=false->Ci (B false) (B (Cc o)):=λh=>bad (Uo hb h)
   have yes:DC o.lower i b=true->Cu (DC o.lower) (o.lower.take (i+1))=true:=λh=>by rw[CB hb,hP,h];rfl
   refine Ay 17 [([],[4]),([],[46]),([],[47]),([2],[48]),([2],[49]),([2],[3,50]),([2],[51,50]),([2],[52,50]),([2],[1,53]),([2],[54,53]),([2],[3,53]),([2],[56,53]),([2],[55,57,53]),([2],[58,53]),([2],[59,53]),([2],[4,53]),([2],[61,53])] B6 ?_;refine gO ?_
   first|(refine Ab (aV b.name) ?_)|(refine Ax (aV b.name) ?_)
   cases hv:B9 b.name
   ·simp(disch:=omega)only[go_sem];refine Al _ ?_;exact no (by simp[DC,hv])
   by_cases QI:i=0
   ·subst QI;refine gO ?_
    by_cases dt:b.AH.mode=0/\b.AH.AG=0
    ·have e0:(b.AH.mode==0&&b.AH.AG==0)=true:=by simp[dt]
     simp(disch:=omega)only[go_sem,e0];refine hJ _ 1 ⟨by omega,yes (by simp[DC,hv,BR.zero,dt])⟩ (by omega) AK
    ·have e0:(b.AH.mode==0&&b.AH.AG==0)=false:=by simp;omega
     have e1:b.AH.zero=false:=by simpa [BR.zero]using e0
     simp(disch:=omega)only[go_sem,e0];refine Ab (rf b.AH) ?_;cases hu:usable b.AH
     ·simp(disch:=omega)only[go_sem];refine Al _ ?_;exact no (by simp[DC,hu,e1])
     ·simp(disch:=omega)only[go_sem];refine hJ _ 1 ⟨by omega,yes (by simp[DC,hv,hu])⟩ (by omega) AK
   ·have QJ:(0<(i:Int))=True:=eq_true (by omega);have NP:((i:Int)-1)=((i-1:Nat):Int):=by omega
    obtain⟨a,NZ⟩:∃ a,o.lower[i-1]?=some a:=⟨_,gE (by omega)⟩;have UK:o.lower.getD (i-1) a0=a:=by simp[List.getD,NZ]
    cases hl:Op.bytesLess a.name b.name
    ·simp(disch:=omega)only[go_sem,QJ,NP,gm,NZ,hl];refine Al _ ?_;exact no (by simp only[DC,UK];simp[QI,BD,hl])
    ·have p2:(decide (i=0)||BD (o.lower.getD (i-1) a0).name b.name)=true:=by simp only[UK];simp[BD,hl]
     simp(disch:=omega)only[go_sem,QJ,NP,gm,NZ,hl]
     by_cases dt:b.AH.mode=0/\b.AH.AG=0
     ·have e0:(b.AH.mode==0&&b.AH.AG==0)=true:=by simp[dt]
      simp(disch:=omega)only[go_sem,e0];refine hJ _ (i+1) ⟨by omega,yes (by simp only[DC,hv,p2];simp[BR.zero,dt])⟩ (by omega) AK
     ·have e0:(b.AH.mode==0&&b.AH.AG==0)=false:=by simp;omega
      have e1:b.AH.zero=false:=by simpa [BR.zero]using e0
      simp(disch:=omega)only[go_sem,e0];refine Ab (rf b.AH) ?_;cases hu:usable b.AH
      ·simp(disch:=omega)only[go_sem];refine Al _ ?_;exact no (by simp[DC,hu,e1])
      ·simp(disch:=omega)only[go_sem];refine hJ _ (i+1) ⟨by omega,yes (by simp only[DC,hv,p2,hu];simp)⟩ (by omega) AK
  ·subst Ba;rw[take_length]at hP;refine Al _ ?_;exact wb (by simp only[Cc,h1,hlb,hP];simp;omega)
def R0(a b:Bs):(Op.bytesLess b a||b==a) = !Op.bytesLess a b:=by
 by_cases h:a=b
 ·subst h;have:=Ij a;simp[BD]at this;simp[this]
 ·rcases Lr a b h with k|k<;>grind[BD,OP]
def hZ(o:C1):Ad C0 42 [.agg o.c] [] (B (Cc o)) []:=by
 have bad:Cc o=false->Ci (B false) (B (Cc o)):=λh=>wb h.symm
 refine Ad.go f42 ?_;unfold f42;refine gO ?_;refine Ab (KI o.proc) ?_;cases h1:o.proc.ok
 ·refine gO ?_;refine Al _ ?_;exact wb (by simp[Cc,h1])
 have rJ:(o.label = -1)\/(o.label≠-1/\¬ o.label<1/\¬ 99<o.label)\/(o.label≠-1/\(o.label<1\/99<o.label)):=by omega
 rcases rJ with h2|⟨h2,h3,h4⟩|⟨h2,h3⟩
 rotate_left 2
 ·have k2:(o.label !=-1)=true:=by grind
  have hb:Cc o=false:=by grind[Cc]
  by_cases h4:o.label<1
  ·simp only[go_sem,k2,eq_true h4];refine Al _ ?_;exact bad hb
  ·simp only[go_sem,k2,eq_false h4,eq_true (h3.resolve_left h4)];refine Al _ ?_;exact bad hb
 all_goals
  by_cases cg:o.cost<1
  ·have hb:Cc o=false:=by grind[Cc]
   first
   |(have k2:(o.label !=-1)=true:=by simp[h2]
     simp only[go_sem,k2,eq_false h3,eq_false h4,eq_true cg])
   |(have k2:(o.label !=-1)=false:=by grind
     simp only[go_sem,k2,eq_true cg])
   refine Al _ ?_;exact bad hb
  have k5:=eq_false cg
  by_cases ba:1073741824<o.cost
  ·have k6:=eq_true ba;have hb:Cc o=false:=by grind[Cc]
   first
   |(have k2:(o.label !=-1)=true:=by simp[h2]
     simp only[go_sem,k2,eq_false h3,eq_false h4,k5,k6])
   |(have k2:(o.label !=-1)=false:=by grind
     simp only[go_sem,k2,k5,k6])
   refine Al _ ?_;exact bad hb
  have k6:=eq_false ba
  by_cases hc3:8<o.lower.length
  ·have k7:(8<(o.lower.length:Int))=True:=eq_true (by omega);have hb:Cc o=false:=by grind[Cc]
   first
   |(have k2:(o.label !=-1)=true:=by simp[h2]
     simp only[go_sem,k2,eq_false h3,eq_false h4,k5,k6,k7])
   |(have k2:(o.label !=-1)=false:=by grind
     simp only[go_sem,k2,k5,k6,k7])
   refine Al _ ?_;exact bad hb
  have k7:(8<(o.lower.length:Int))=False:=eq_false (by omega)
  first
  |(have k2:(o.label !=-1)=true:=by simp[h2]
    refine gS ?_)
  |(have k2:(o.label !=-1)=false:=by grind
    simp only[go_sem,k2,k5,k6,k7])
  have hlb:(decide (o.label = -1)||(decide (1<=o.label)&&decide (o.label<=99)))=true:=by grind
  refine AF (o.lower) (λi=>⟨[(1,.ptr 64 0),(3,I i)],[(64,o.c)]⟩) (λi=>Cu (DC o.lower) (o.lower.take i)=true) rfl ?_ ?_
  ·exact Ce
  rintro i ⟨hi,hP⟩ J hJ;refine gO ?_;refine Bo hi (λAP b hb Cg AX=>?_) λBa=>?_
  simp(disch:=omega)only[go_sem,hb]
  ·have no:DC o.lower i b=false->Ci (B false) (B (Cc o)):=λh=>bad (Uo hb h)
   have yes:DC o.lower i b=true->Cu (DC o.lower) (o.lower.take (i+1))=true:=λh=>by grind[CB]
   refine Ay 29 [([],[4]),([],[52]),([],[53]),([2],[54]),([2],[55]),([2],[4,56]),([2],[57,56]),([2],[58,56]),([2,7],[59,56]),([2,7],[60,56]),([2,7],[4,61]),([2,7],[62,61]),([2,7],[63,61]),([2,7,12],[64,61]),([2,7,12],[61,65,56]),([2,7,12],[56,66]),([2,7,12],[67]),([2,7,12],[3,68]),([2,7,12],[69,68]),([2,7,12],[70,68]),([2,7,12],[4,71]),([2,7,12],[72,71]),([2,7,12],[1,71]),([2,7,12],[74,71]),([2,7,12],[3,71]),([2,7,12],[76,71]),([2,7,12],[75,77,71]),([2,7,12],[78,71]),([2,7,12],[79,71])] B6 (gO ?_)
   first|(refine Ab (Ox b.name) ?_)|(refine Ax (Ox b.name) ?_)
   cases hv:B9 b.name
   ·simp(disch:=omega)only[go_sem];refine Al _ ?_;exact no (by simp[DC,hv])
   refine gO ?_
   first|(refine Ab (Fp b.AH) ?_)|(refine Ax (Fp b.AH) ?_)
   by_cases hz:(b.AH.zero||usable b.AH)=true
   rotate_left
   ·have z1:b.AH.zero=false:=by grind
    have z2:usable b.AH=false:=by grind
    simp only[z1];refine gO ?_
    first|(refine Ab (YJ b.AH) ?_)|(refine Ax (YJ b.AH) ?_)
    simp(disch:=omega)only[go_sem,z2];refine Al _ ?_;exact no (by grind[DC])
   cases z1:b.AH.zero
   ·have z2:usable b.AH=true:=by grind
    refine gO ?_
    first|(refine Ab (YJ b.AH) ?_)|(refine Ax (YJ b.AH) ?_)
    by_cases QI:i=0
    ·subst QI;simp(disch:=omega)only[go_sem,z2];refine hJ _ 1 ⟨by omega,yes (by grind[DC])⟩ (by omega) AK
    ·have QJ:(0<(i:Int))=True:=eq_true (by omega);have NP:((i:Int)-1)=((i-1:Nat):Int):=by omega
     obtain⟨a,NZ⟩:∃ a,o.lower[i-1]?=some a:=⟨_,gE (by omega)⟩;have UK:o.lower.getD (i-1) a0=a:=by grind
     cases hl:Op.bytesLess a.name b.name
     ·simp(disch:=omega)only[go_sem,z2,QJ,NP,gm,NZ,R0,hl];refine Al _ ?_;exact no (by grind[DC,BD])
     ·have p2:(decide (i=0)||BD (o.lower.getD (i-1) a0).name b.name)=true:=by grind[BD]
      simp(disch:=omega)only[go_sem,z2,QJ,NP,gm,NZ,R0,hl];refine hJ _ (i+1) ⟨by omega,yes (by grind[DC])⟩ (by omega) AK
   ·by_cases QI:i=0
    ·subst QI;refine gO ?_;refine hJ _ 1 ⟨by omega,yes (by grind[DC])⟩ (by omega) AK
    ·have QJ:(0<(i:Int))=True:=eq_true (by omega);have NP:((i:Int)-1)=((i-1:Nat):Int):=by omega
     obtain⟨a,NZ⟩:∃ a,o.lower[i-1]?=some a:=⟨_,gE (by omega)⟩;have UK:o.lower.getD (i-1) a0=a:=by grind
     cases hl:Op.bytesLess a.name b.name
     ·simp(disch:=omega)only[go_sem,QJ,NP,gm,NZ,R0,hl];refine Al _ ?_;exact no (by grind[DC,BD])
     ·have p2:(decide (i=0)||BD (o.lower.getD (i-1) a0).name b.name)=true:=by grind[BD]
      simp(disch:=omega)only[go_sem,QJ,NP,gm,NZ,R0,hl];refine hJ _ (i+1) ⟨by omega,yes (by grind[DC])⟩ (by omega) AK
  ·subst Ba;rw[take_length]at hP;refine Al _ ?_;exact wb (by grind[Cc])
def du{s:WS}(h:(Ag s).length<=0):BJ s=[]:=by grind[BJ]
theorem XI:∀ (n m:Nat) {s:WS} (l:List Ac),BO s->(Ag s).length<=n->(Ag s).length<=m->EN n s l=EN m s l
 | 0,0,s,l,_,_,_=>rfl
 | 0,m+1,s,l,_,h,_=>by simp[EN,du h]
 | n+1,0,s,l,_,_,h=>by simp[EN,du h]
 | n+1,m+1,s,l,hg,h,h'=>by
  rw[EN,EN];split
  ·rename_i p hp;have hd:=D9 hg (DS (List.mem_of_find?_eq_some hp));exact XI n m l (Cv hg p) (by omega) (by omega)
  ·rfl
def UC{s:WS}{l:List Ac}(hg:BO s){p:Ac}(hp:(BJ s).find? (λp=>!Br l p)=some p):Dq s l=Dq (BW s p) l:=by
 have hd:=D9 hg (DS (List.mem_of_find?_eq_some hp));unfold Dq;obtain⟨n,hn⟩:∃ n,(Ag s).length=n+1:=⟨(Ag s).length-1,by omega⟩;rw[hn,EN,hp];exact congrArg Ag (XI n (Ag (BW s p)).length l (Cv hg p) (by omega) (le_refl _))
def UB{s:WS}{l:List Ac}(hp:(BJ s).find? (λp=>!Br l p)=none):Dq s l=Ag s:=by
 unfold Dq;cases (Ag s).length<;>simp[EN,hp]
def AaH(s:WS)(p:Ac)(h:Iy s):Ad C0 85 [.agg s.c,.agg p.c] [] (.BC [.agg (ED s p).1.c,I (ED s p).2]) []:=by
 have hl:=De h;refine Ad.go f85 ?_;unfold f85;refine gO ?_;refine Ab (SO s h) ?_;cases hv:AI s
 ·have e:ED s p=(N9,2):=by simp[ED,hv]
  simp only[go_sem,e,N9];refine Al _ ?_;refine .BC (Ae.AJ ?_);refine gO ?_
  repeat'(with_reducible apply And.intro)
  all_goals(first|exact .A8 (by omega)|exact .agg (Ae.AJ gI))
 refine gO ?_;refine Ay 3 [([],[2]),([],[10]),([],[3])] B6 (gO ?_)
 first|(refine Ab (Ow s h) ?_)|(refine Ax (Ow s h) ?_)
 refine gO ?_
 first|(refine Ab (KG (Ag s) p (by omega)) ?_)|(refine Ax (KG (Ag s) p (by omega)) ?_)
 cases hp:Br (Ag s) p
 ·have e:ED s p=(N9,10):=by grind[ED]
  simp only[go_sem,e,N9];refine Al _ ?_;refine .BC (Ae.AJ ?_);refine gO ?_
  repeat'(with_reducible apply And.intro)
  all_goals(first|exact .A8 (by omega)|exact .agg (Ae.AJ gI))
 ·have e:ED s p=(BW s p,0):=by grind[ED]
  refine gS ?_;refine Ab (ij s p h (Be hv)) (gO ?_);exact AQ _
def Q6{s:WS}{p:Ac}(hv:AI s=true)(hp:p∈Ag s):ED s p=(BW s p,0):=by grind[ED,Br]
def qL(s:WS)(l:List Ac)(h:Iy s)(hl:l.length<=1000000):Ad C0 14 [.agg s.c,AL l] [] (.BC [AL (MW s l).1,I (MW s l).2]) []:=by
 refine Ad.go f14 ?_;unfold f14;refine gO ?_;refine Ab (Qz s h) ?_;cases hv:AI s
 ·have e:MW s l=([],2):=by simp[MW,hv]
  refine gS ?_;exact Gw _
 have e:MW s l=(Dq s l,0):=by simp[MW,hv]
 rw[e];refine gO ?_;refine Ao (α:=WS) (λx=>⟨[(1,AL l),(2,.ptr 128 0)],[(128,x.c)]⟩) (λx=>Iy x/\AI x=true/\Dq x l=Dq s l) (λx=>(Ag x).length) s ⟨h,hv,rfl⟩ ?_ ?_
 ·exact AT.Aq gI gI
 rintro t ⟨i1,i2,i3⟩ J hJ;refine gO ?_;refine Ab (Aar t i1) ?_;rw[HF i2];have Me:=Yj i1;rw[HF i2]at Me;refine gO ?_;have Qc:=hJ;clear hJ;have hg:=Be i2;refine AF ((BJ t)) (λi=>⟨[(1,AL l),(2,.ptr 128 0),(6,B false),(15,AL (BJ t)),(16,I (BJ t).length),(17,I i)],[(128,t.c)]⟩) (λi=>((BJ t).take i).find? (λp=>!Br l p)=none) rfl ?_ ?_
 ·exact Ce
 rintro i ⟨hi,hP⟩ J hJ;refine gO ?_;refine Bo hi (λAP b hb Cg AX=>?_) λBa=>?_
 simp(disch:=omega)only[go_sem,hb]
 ·refine Ab (KE l b hl) ?_;cases Ss:Br l b
  ·have hf:(BJ t).find? (λp=>!Br l p)=some b:=Hq hP hb (by grind);have hm:=DS (List.mem_of_find?_eq_some hf);refine gO ?_;refine Ab (Aas t b i1) ?_;rw[Q6 i2 hm];refine gO ?_;refine Qc _ (BW t b) ⟨Ln i1 b,NH i2 b,(UC hg hf).symm.trans i3⟩ (D9 hg hm) AK
  ·refine gO ?_;refine hJ _ (i+1) ⟨by omega,(by grind[Cp])⟩ (by omega) AK
 ·subst Ba;rw[take_length]at hP;refine Ab (LB t i1) ?_;rw[<- i3,UB hP];exact AQ _
def Aat(s:WS)(l:List Ac)(h:Iy s)(hv:AI s=true)(hl:l.length<=1000000):Ad C0 38 [.agg s.c,AL l] [] (AL (Dq s l)) []:=by
 refine Ad.go f38 ?_;unfold f38;refine gO ?_;refine Ao (α:=WS) (λx=>⟨[(1,AL l),(2,.ptr 128 0)],[(128,x.c)]⟩) (λx=>Iy x/\AI x=true/\Dq x l=Dq s l) (λx=>(Ag x).length) s ⟨h,hv,rfl⟩ ?_ ?_
 ·exact AT.Aq gI gI
 rintro t ⟨i1,i2,i3⟩ J hJ;refine gO ?_;refine Ab (ie t i1) ?_;rw[HF i2];have Me:=Yj i1;rw[HF i2]at Me;refine gO ?_;have Qc:=hJ;clear hJ;have hg:=Be i2;refine Ao (α:=Nat × Int) (λx=>⟨[(1,AL l),(2,.ptr 128 0),(5,I x.2),(6,AL (BJ t)),(7,I x.1)],[(128,t.c)]⟩) (λx=>x.1<=(BJ t).length/\((x.2 = -1/\((BJ t).take x.1).find? (λp=>!Br l p)=none)\/(∃ b,x.2=(x.1:Int)-1/\1<=x.1/\(BJ t)[x.1-1]?=some b/\(BJ t).find? (λp=>!Br l p)=some b))) (λx=>(BJ t).length-x.1) (0,-1) ⟨by simp,.inl ⟨rfl,rfl⟩⟩ ?_ ?_
 ·exact AT.Aq gI gI
 rintro⟨i,f⟩ ⟨j1,j2⟩ J hJ
 replace j1:i<=(BJ t).length:=j1
 replace j2:(f = -1/\((BJ t).take i).find? (λp=>!Br l p)=none)\/(∃ b,f=(i:Int)-1/\1<=i/\(BJ t)[i-1]?=some b/\(BJ t).find? (λp=>!Br l p)=some b):=j2
 rcases j2 with ⟨rfl,hP⟩|⟨b,rfl,h1,hb,hf⟩
 ·by_cases AP:i<(BJ t).length
  ·have e1:((i:Int)<((BJ t).length:Int))=True:=eq_true (by omega);obtain⟨b,hb⟩:∃ b,(BJ t)[i]?=some b:=⟨_,gE AP⟩;refine gS ?_;refine Ab (KG l b hl) ?_;cases Ss:Br l b
   ·have hf:(BJ t).find? (λp=>!Br l p)=some b:=Hq hP hb (by grind);refine gO ?_;refine hJ _ (i+1,(i:Int)) ⟨AP,.inr ⟨b,by simp,by simp,by grind,hf⟩⟩ (by omega) AK
   ·refine gO ?_;refine hJ _ (i+1,-1) ⟨AP,.inl ⟨rfl,by grind[Cp]⟩⟩ (by omega) AK
  ·have e1:((i:Int)<((BJ t).length:Int))=False:=eq_false (by omega);have Ba:i=(BJ t).length:=by omega
   subst Ba;rw[take_length]at hP;refine gS ?_;refine Ab (Ow t i1) ?_;rw[<- i3,UB hP];refine gO ?_;exact AQ _
 ·have e3:((i:Int)-1)=((i-1:Nat):Int):=by omega
  have e4:(((i-1:Nat):Int)<0)=False:=eq_false (by omega);have hm:=DS (List.mem_of_find?_eq_some hf)
  by_cases AP:(i:Int)<((BJ t).length:Int)
  all_goals
   simp(disch:=omega)only[go_sem,e3,e4,AP];refine Dj 4095 [(0,1,0),(1,2,0),(2,4,0),(3,8,6),(4,16,8),(5,32,17),(6,64,32),(7,128,64),(8,256,64),(9,512,0),(10,1024,767),(11,2048,2047)] [0,1,2,4,512,3,5,513,6,514,516,7,515,517,14,518,15,519,30,526,31,527,542,63,543,127,575,255,383,639,511,767,895,1023,1791,2047,4095] (λm=>⟨XE m [(1,35,.agg t.c),(2,36,AL (BJ t)),(4,37,I (i-1:Nat)),(8,38,.ep .no (i-1) b.c 0),(16,39,.agg b.c),(32,40,.BC [.agg (BW t b).c,I 0]),(64,34,.BC [.agg (BW t b).c,I 0]),(128,41,.agg (BW t b).c),(256,42,I 0),(512,8,.ptr 512 0),(2048,9,I 0)]++[(1,AL l),(2,.ptr 128 0),(5,I (i-1:Nat)),(6,AL (BJ t))],((if m / 512%2=1 then [(512,(if m / 1024%2=1 then (BW t b).c else N9.c))] else [])++[(128,t.c)])⟩) ?_ ?_ ?_ B6
   ·exact AT.Aq gI gI
   ·simp (maxSteps:=100000000)only[Di,Dh,D0,DZ,and_true,Nat.reduceDiv,Nat.reduceMod,Nat.reduceAnd,Nat.reduceEqDiff,reduceIte,true_and,and_false,and_self]
    repeat'(with_reducible refine And.intro ?_ ?_)
    all_goals simp(disch:=omega)only[go_sem,gm,hb,nil_append,N9]
    all_goals first|exact AT.Aq gI (by simp(disch:=omega)only[go_sem];try(repeat'(with_reducible apply And.intro));all_goals exact .A8 (by omega))|exact AT.Aq gI (by simp(disch:=omega)only[go_sem,nil_append,List.cons_append])|(refine Ab (AaH t b i1) ?_;rw[Q6 i2 hm];simp(disch:=omega)only[go_sem];exact AT.Aq gI (by simp(disch:=omega)only[go_sem]))
   simp(disch:=omega)only[go_sem,nil_append,List.cons_append];refine Qc _ (BW t b) ⟨Ln i1 b,NH i2 b,(UC hg hf).symm.trans i3⟩ (D9 hg hm) AK
end Go.Rd
