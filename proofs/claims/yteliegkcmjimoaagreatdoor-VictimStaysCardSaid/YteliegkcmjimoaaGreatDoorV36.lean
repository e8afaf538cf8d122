/- part 36 of the proof -/
import Derived.Test.YteliegkcmjimoaaGreatDoorV35
set_option linter.all false
open Go Go.Abs Go.Proofs
set_option maxRecDepth 100000
namespace Go.Rd
set_option maxHeartbeats 8000000
open List (cons_append length_map length_take mem_cons mem_filter mem_map nil_append take_add_one take_length)
open Nat (le_refl le_trans)
open Tryz
def MB(ms:List Ad)(s:WS):WS:=ms.foldl BU s
def TO:∀ (ms:List Ad) {s:WS},CL s->CL (MB ms s)
 |[],_,h=>h
 | m::ms,_,h=>TO ms (DC h m)
def VU:∀ (ms:List Ad) {s:WS},CL s->∀ x,x∈Am (MB ms s)↔x∈Am s/\x∉ms
 |[],_,_,x=>by simp[MB]
 | m::ms,s,h,x=>by
  show x∈Am (MB ms (BU s m))↔_;rw[VU ms (DC h m),ND h];simp only[mem_cons,not_or,and_assoc]
def WC{D:List Ad}:∀ (ms:List Ad) {s:WS},CL s->(∀ m∈ms,m∉D)->GW s D=GW (MB ms s) D
 |[],_,_,_=>rfl
 | m::ms,s,h,hd=>by
  have h1:=aw (l:=D) h (f:=m) (by simpa [BL]using hd m (by simp));rw[<- h1];exact WC ms (DC h m) λx hx=>hd x (by simp[hx])
def au{D ms:List Ad}{s:WS}(h:CL s)(hd:∀ m∈ms,m∉D)(Fw:∀ x∈Am s,x∈D\/x∈ms):GW s D=MB ms s:=by
 rw[WC ms h hd];refine l6 λp hp=>?_
 obtain⟨h1,h2⟩:=(VU ms h p).1 hp;simpa [BL]using (Fw p h1).resolve_right h2
structure Ip where
 proc:Ad
 label:Int
 cost:Int
 lower:List Atom
def Hd(l:List Atom)(i:Nat)(a:Atom):Bool:=C9 a.name&&(decide (i=0)||DJ (l.getD (i-1) a0).name a.name)&&(a.AN.zero||usable a.AN)
def EM(o:Ip):Bool:=o.proc.ok&&(decide (o.label = -1)||(decide (1<=o.label)&&decide (o.label<=99)))&&decide (1<=o.cost)&&decide (o.cost<=1073741824)&&decide (o.lower.length<=8)&&Ci (Hd o.lower) o.lower
def Ip.c(o:Ip):List AV:=[.v (.int .i64 o.proc.site),.v (.int .i64 o.proc.inc),.v (.int .i64 o.proc.num),.v (.int .i64 o.label),.v (.int .i64 o.cost),BN o.lower]
@[reducible] def ID(l:List Ip):AV:=.sl .no 6 (l.map Ip.c)
attribute [go_sem] Ip.c
def LG(s:WS):(Am s).Nodup:=IU (E7 _)
def uR(o:Ip)(name:Bs):Option Atom:=o.lower.find? λa=>a.name==name
def W9(o:Ip)(q:Queue):Queue:=if (Bb q o.proc).2.2=0 then (Bb q o.proc).1 else q
def F8(o:Ip)(q:Queue):Queue:=match uR o q.res.name with
 |none=>q
 |some a=>if (Ap q.holds o.proc).zero=false/\Ap q.holds o.proc≠a.AN/\q.res.covers (Ap q.holds o.proc) a.AN=true/\(AO q o.proc a.AN).2.2=0 then (AO q o.proc a.AN).1 else q
def Om(o:Ip)(q:Queue):Queue:={ F8 o (W9 o q) with gen:=q.gen }
def Mg(s:WS)(o:Ip):WS:=⟨s.Aa.map (Om o),Hs s.AB o.proc⟩
def Fe(s:WS)(o:Ip):WS × Int:=if A7 s then (if EM o then (if BL (Am s) o.proc then (Mg s o,0) else (Qs,10)) else (Qs,1)) else (Qs,2)
def FU:Nat->WS->List Ad->WS
 | 0,s,_=>s
 | n+1,s,l=>match (BH s).find? (λp=>!BL l p) with
  |some p=>FU n (BU s p) l
  |none=>s
def DH(s:WS)(l:List Ad):List Ad:=Am (FU (Am s).length s l)
def EN(s:WS)(l:List Ad):List Ad × Int:=if A7 s then (DH s l,0) else ([],2)
def Sm(opts:List Ip):List Nat->WS × List Ad->Option (WS × List Ad)
 |[],x=>some x
 | i::S,x=>match opts[i]? with
  |some o=>if (Fe x.1 o).2=0 then Sm opts S ((Fe x.1 o).1,x.2++[o.proc]) else none
  |none=>none
def HX(s:WS)(opts:List Ip)(S:List Nat):Bool:=match Sm opts S (s,[]) with
 |some (x,V)=>(DH x V).all λp=>BL V p
 |none=>false
def jn{q:Queue}(o:Ip)(hv:valid q=true):JC o.proc q (W9 o q)/\Ar (W9 o q) o.proc=none:=by
 unfold W9;cases hw:(Ar q o.proc).isSome with
 | true =>
  obtain⟨h0,_,h2,_⟩:=Pb hv hw;rw[if_pos h0];exact⟨ng hv hw,h2⟩
 | false =>
  have e:Bb q o.proc=(q0,[],10):=by simp[Bb,hv,hw]
  rw[e,if_neg (by decide)];exact⟨.refl hv,by simpa using hw⟩
def pY{q:Queue}(o:Ip)(hv:valid q=true)(hw:Ar q o.proc=none):JC o.proc q (F8 o q):=by
 unfold F8;split
 ·exact .refl hv
 ·split
  ·rename_i a _ h;exact uS hv h.1 hw h.2.2.1
  ·exact .refl hv
theorem sJ(q:Queue)(g:Int):er { q with gen:=g } = er q:=rfl
def Qo{q:Queue}(hv:valid q=true){g:Int}(hg:0<=g/\g<=1073741824):valid { q with gen:=g } = true:=(Ck _).2 (Rl ((Ck q).1 hv) hg)
def iC{p:Ad}{q q':Queue}(h:JC p q q'){g:Int}(hg:0<=g/\g<=1073741824):JC p q { q' with gen:=g } where
 val:=Qo h.val hg
 res:=h.res
 pT:=h.pT
 same:=h.same
 cut:=(sL h.val (Qo h.val hg) (sJ q' g) p).trans h.cut
def O6{q:Queue}(o:Ip)(hv:valid q=true):JC o.proc q (Om o q):=by
 obtain⟨h1,h2⟩:=jn o hv;exact iC (h1.trans (pY o h1.val h2)) ((Ck q).1 hv).1.gen
def bQ{s:WS}(h:CL s)(o:Ip):CL (Mg s o):=λq hq=>by
 obtain⟨q0,hq0,rfl⟩:=mem_map.1 hq;exact(O6 o (h q0 hq0)).val
def aa{s:WS}(h:CL s)(o:Ip){x:Ad}(hx:x∈Am (Mg s o)):x∈Am s\/x=o.proc:=by
 rw[GG]at hx;rcases hx with ⟨q',L7,hx⟩|⟨n,hn,hx⟩
 ·obtain⟨q,hq,rfl⟩:=mem_map.1 L7;rw[ES]at hx;rcases(O6 o (h q hq)).pT x hx with hx|hx
  ·exact .inl ((GG _ _).2 (.inl ⟨q,hq,(ES _ _).2 hx⟩))
  ·exact .inr hx
 ·exact .inl ((GG _ _).2 (.inr ⟨n,(mem_filter.1 hn).1,hx⟩))
def Yo{s:WS}(h:A7 s=true){o:Ip}(hp:o.proc∈Am s):A7 (Mg s o)=true:=by
 have hg:=Dq h;obtain⟨h1,h2,h3⟩:=(GJ s).1 h;obtain⟨a1,a2,a3⟩:=(F1 _).1 h1;obtain⟨b1,b2,b3⟩:=(Ic _).1 h2;refine(GJ _).2 ⟨(F1 _).2 ⟨by simpa [Mg]using a1,bQ hg o,?_⟩,(Ic _).2 ⟨le_trans (List.length_filter_le _ _) b1,λn hn=>b2 n (mem_filter.1 hn).1,b3.filter _⟩,?_⟩
 ·simp only[Mg];rw[List.pairwise_map];refine a3.imp_of_mem λ{a b} ha hb LS=>?_
  rw[(O6 o (a2 a ha)).res,(O6 o (a2 b hb)).res];exact LS
 ·exact le_trans (Dg _ _ (LG _) λx hx=>by
   rcases aa hg o hx with hx|rfl
   ·exact hx
   ·exact hp) h3
def TM(p:Ad):∀ (ms:List Ad) {s:WS},CL s->MB ms (BU s p)=BU (MB ms s) p
 |[],_,_=>rfl
 | m::ms,s,h=>by
  show MB ms (BU (BU s p) m)=BU (MB ms (BU s m)) p;rw[UC h p m];exact TM p ms (DC h m)
def TN{p:Ad}:∀ (ms:List Ad) {s:WS},CL s->p∉ms->p∈BH s->p∈BH (MB ms s)
 |[],_,_,_,h=>h
 | m::ms,s,hg,hn,h=>by
  simp only[mem_cons,not_or]at hn;exact TN ms (DC hg m) hn.2 (QM hg hn.1 h)
def nr{s:WS}(hg:CL s){p:Ad}(hp:p∈BH s)(D:List Ad):FE (GW (BU s p) D)=FE (GW s D):=by
 by_cases hD:p∈D
 ·obtain⟨ms,uf⟩:∃ ms,ms=(Am s).filter λx=>decide (x∉D):=⟨_,rfl⟩
  have h1:∀ m∈ms,m∉D:=λm hm=>by rw[uf,mem_filter]at hm;simpa using hm.2
  have h2:∀ x∈Am s,x∈D\/x∈ms:=λx hx=>by
   by_cases h:x∈D
   ·exact .inl h
   ·right;rw[uf,mem_filter];exact⟨hx,by simpa using h⟩
  rw[au hg h1 h2,au (DC hg p) h1 (λx hx=>h2 x ((ND hg p x).1 hx).1),TM p ms hg];have hf:=TN ms hg (λh=>h1 p h hD) hp;exact(VC _ _ (TO ms hg) (le_refl _) p hf).symm
 ·rw[aw hg (by simpa [BL]using hD)]
def R7:∀ (n:Nat) (s:WS) (l:List Ad),CL s->(Am s).length<=n ->
 CL (FU n s l)/\(∀ x∈BH (FU n s l),BL l x=true)/\(∀ x∈Am (FU n s l),x∈Am s)/\FE (FU n s l)=FE s/\∀ D,FE (GW (FU n s l) D)=FE (GW s D):=by
 intro n
 induction n with
 | zero =>
  intro s l hg hn;have h1:=P5 hn;refine⟨hg,λx hx=>?_,λx hx=>hx,rfl,λ_=>rfl⟩;have:=DU hx;simp only[FU]at this;rw[h1]at this;cases this
 | succ n ih =>
  intro s l hg hn;simp only[FU];split
  ·rename_i p hp;have vY:=List.mem_of_find?_eq_some hp;have hd:=EA hg (DU vY);obtain⟨a,b,c,d,e⟩:=ih (BU s p) l (DC hg p) (by omega);refine⟨a,b,λx hx=>((ND hg p x).1 (c x hx)).1,d.trans (VC _ _ hg (le_refl _) p vY).symm,λD=>(e D).trans (nr hg vY D)⟩
  ·rename_i hp;refine⟨hg,λx hx=>?_,λx hx=>hx,rfl,λ_=>rfl⟩;have:=List.find?_eq_none.1 hp x hx;simpa using this
def iI{q:Queue}(hv:valid q=true):BC q<=100:=by
 have hs:=((Ck q).1 hv).1;have a:=((D6 _ _).1 hs.holds).2.1;have b:=((B1 q).1 hs.Ak).1;have c:=((CQ _).1 ((BT q).1 hs.waits).1).1;unfold BC BJ;omega
def Lq{s:WS}(hv:A7 s=true):Iq s:=by
 obtain⟨h1,h2,_⟩:=(GJ s).1 hv;have a:=((F1 _).1 h1);have b:=((Ic _).1 h2);exact⟨by have:=a.1;omega,by have:=b.1;omega,λq hq=>iI (a.2.1 q hq)⟩
def LM(a:BO):usable a=if a.mode=0 then decide (1<=a.Ax)&&decide (a.Ax<=8) else Bu a.mode&&(a.Ax==0):=by
 have h1:Hc.fits a=(Bu a.mode&&a.Ax==0):=by simp[Bo.fits,Hc,Bo.shaped]
 have h2:Hg.fits a=(a.mode==0&&AL a.Ax 1 8):=by
  have:AL 8 1 8=true:=by decide
  simp[Bo.fits,Hg,Bo.shaped,this]
 unfold usable;rw[h1,h2]
 by_cases hm:a.mode=0
 ·rw[if_pos hm,hm];simp[Bu,AL]
 ·rw[if_neg hm];simp[hm]
theorem j7(a:BO):Ac C0 89 [.agg a.c] [] (B (usable a)) []:=by
 refine Ac.go f89 ?_;unfold f89;refine gO ?_;refine⟨λh=>?_,λh=>?_⟩
 ·have hm:¬ a.mode=0:=by simpa using h
  refine Ab (Np a.mode) ?_;cases h2:Bu a.mode
  ·simp(disch:=omega)only[go_sem];refine Aj _ ?_;exact wb (by rw[LM,if_neg hm,h2];rfl)
  ·simp(disch:=omega)only[go_sem];refine Aj _ ?_;exact wb (by rw[LM,if_neg hm,h2];rfl)
 ·have hm:a.mode=0:=by simpa using h
  refine⟨λh2=>?_,λh2=>?_⟩
  ·refine Aj _ ?_;exact wb (by rw[LM,if_pos hm,h2];rfl)
  ·refine Aj _ ?_;exact wb (by rw[LM,if_pos hm,h2];rfl)
def ZP{o:Ip}{i:Nat}{b:Atom}(hb:o.lower[i]?=some b)(h:Hd o.lower i b=false):EM o=false:=by
 simp only[EM,BM hb h,Bool.and_false]
def jV(o:Ip):Ac C0 41 [.agg o.c] [] (B (EM o)) []:=by
 have bad:EM o=false->B8 (B false) (B (EM o)):=λh=>wb h.symm
 refine Ac.go f41 ?_;unfold f41;refine gO ?_;refine Ab (TH o.proc) ?_;cases h1:o.proc.ok
 ·simp(disch:=omega)only[go_sem];refine Aj _ ?_;exact wb (by simp[EM,h1])
 by_cases eE:o.cost<1
 ·have k5:=eq_true eE;have hb:EM o=false:=by simp[EM];omega
  simp(disch:=omega)only[go_sem,k5,decide_true]
  repeat'(with_reducible refine And.intro (λ_=>?_) (λ_=>?_))
  all_goals
   refine Aj _ ?_;exact bad hb
 have k5:=eq_false eE
 by_cases aZ:1073741824<o.cost
 ·have k6:=eq_true aZ;have hb:EM o=false:=by simp[EM];omega
  simp(disch:=omega)only[go_sem,k5,k6,decide_true,decide_false]
  repeat'(with_reducible refine And.intro (λ_=>?_) (λ_=>?_))
  all_goals
   refine Aj _ ?_;exact bad hb
 have k6:=eq_false aZ
 by_cases hc3:8<o.lower.length
 ·have k7:(8<(o.lower.length:Int))=True:=eq_true (by omega);have hb:EM o=false:=by simp[EM];omega
  simp(disch:=omega)only[go_sem,k5,k6,k7,decide_true,decide_false,length_map]
  repeat'(with_reducible refine And.intro (λ_=>?_) (λ_=>?_))
  all_goals
   refine Aj _ ?_;exact bad hb
 have k7:(8<(o.lower.length:Int))=False:=eq_false (by omega);have Aa9:(o.label = -1)\/(o.label≠-1/\¬ o.label<1/\¬ 99<o.label)\/(o.label≠-1/\(o.label<1\/99<o.label)):=by omega
 rcases Aa9 with h2|⟨h2,h3,h4⟩|⟨h2,h3⟩
 rotate_left 2
 ·have k2:(o.label !=-1)=true:=by simp[h2]
  have hb:EM o=false:=by simp[EM,h2];omega
  by_cases h4:o.label<1
  ·simp(disch:=omega)only[go_sem,k5,k6,k7,k2,eq_true h4,decide_true,decide_false,length_map];refine Aj _ ?_;exact bad hb
  ·simp(disch:=omega)only[go_sem,k5,k6,k7,k2,eq_false h4,eq_true (h3.resolve_left h4),decide_true,decide_false,length_map];refine Aj _ ?_;exact bad hb
 all_goals
  first
  |(have k2:(o.label !=-1)=true:=by simp[h2]
    simp(disch:=omega)only[go_sem,k5,k6,k7,k2,eq_false h3,eq_false h4,decide_true,decide_false,length_map])
  |(have k2:(o.label !=-1)=false:=by simp[h2]
    simp(disch:=omega)only[go_sem,k5,k6,k7,k2,decide_true,decide_false,length_map])
 all_goals
  have hlb:(decide (o.label = -1)||(decide (1<=o.label)&&decide (o.label<=99)))=true:=by simp;omega
  refine AH (o.lower) (λi=>⟨[(1,.ptr 64 0),(39,BN o.lower),(40,I o.lower.length),(41,I i)],[(64,o.c)]⟩) (λi=>Ci (Hd o.lower) (o.lower.take i)=true) rfl ?_ ?_
  ·exact B9
  rintro i ⟨hi,hP⟩ J hJ;refine gO ?_;refine Bp hi (λAu b hb Cc AR=>?_) λBf=>?_
  simp(disch:=omega)only[go_sem,gm,hb]
  ·have no:Hd o.lower i b=false->B8 (B false) (B (EM o)):=λh=>bad (ZP hb h)
   have yes:Hd o.lower i b=true->Ci (Hd o.lower) (o.lower.take (i+1))=true:=λh=>by rw[Cl hb,hP,h];rfl
   refine Av 17 [([],[4]),([],[46]),([],[47]),([2],[48]),([2],[49]),([2],[3,50]),([2],[51,50]),([2],[52,50]),([2],[1,53]),([2],[54,53]),([2],[3,53]),([2],[56,53]),([2],[55,57,53]),([2],[58,53]),([2],[59,53]),([2],[4,53]),([2],[61,53])] B7 ?_;refine gO ?_
   first|(refine Ab (XG b.name) ?_)|(refine Aq (XG b.name) ?_)
   cases hv:C9 b.name
   ·simp(disch:=omega)only[go_sem];refine Aj _ ?_;exact no (by simp[Hd,hv])
   by_cases NO:i=0
   ·subst NO;refine gO ?_
    by_cases tK:b.AN.mode=0/\b.AN.Ax=0
    ·have e0:(b.AN.mode==0&&b.AN.Ax==0)=true:=by simp[tK]
     simp(disch:=omega)only[go_sem,e0];refine hJ _ 1 ⟨by omega,yes (by simp[Hd,hv,BO.zero,tK])⟩ (by omega) AS
    ·have e0:(b.AN.mode==0&&b.AN.Ax==0)=false:=by simp;omega
     have e1:b.AN.zero=false:=by simpa [BO.zero]using e0
     simp(disch:=omega)only[go_sem,e0];refine Ab (j7 b.AN) ?_;cases hu:usable b.AN
     ·simp(disch:=omega)only[go_sem];refine Aj _ ?_;exact no (by simp[Hd,hu,e1])
     ·simp(disch:=omega)only[go_sem];refine hJ _ 1 ⟨by omega,yes (by simp[Hd,hv,hu])⟩ (by omega) AS
   ·have PJ:(0<(i:Int))=True:=eq_true (by omega);have Lu:((i:Int)-1)=((i-1:Nat):Int):=by omega
    obtain⟨a,ME⟩:∃ a,o.lower[i-1]?=some a:=⟨_,gE (by omega)⟩;have PH:o.lower.getD (i-1) a0=a:=by simp[List.getD,ME]
    cases hl:Op.bytesLess a.name b.name
    ·simp(disch:=omega)only[go_sem,PJ,Lu,gm,ME,hl];refine Aj _ ?_;exact no (by simp only[Hd,PH];simp[NO,DJ,hl])
    ·have p2:(decide (i=0)||DJ (o.lower.getD (i-1) a0).name b.name)=true:=by simp only[PH];simp[DJ,hl]
     simp(disch:=omega)only[go_sem,PJ,Lu,gm,ME,hl]
     by_cases tK:b.AN.mode=0/\b.AN.Ax=0
     ·have e0:(b.AN.mode==0&&b.AN.Ax==0)=true:=by simp[tK]
      simp(disch:=omega)only[go_sem,e0];refine hJ _ (i+1) ⟨by omega,yes (by simp only[Hd,hv,p2];simp[BO.zero,tK])⟩ (by omega) AS
     ·have e0:(b.AN.mode==0&&b.AN.Ax==0)=false:=by simp;omega
      have e1:b.AN.zero=false:=by simpa [BO.zero]using e0
      simp(disch:=omega)only[go_sem,e0];refine Ab (j7 b.AN) ?_;cases hu:usable b.AN
      ·simp(disch:=omega)only[go_sem];refine Aj _ ?_;exact no (by simp[Hd,hu,e1])
      ·simp(disch:=omega)only[go_sem];refine hJ _ (i+1) ⟨by omega,yes (by simp only[Hd,hv,p2,hu];simp)⟩ (by omega) AS
  ·subst Bf;rw[take_length]at hP;refine Aj _ ?_;exact wb (by simp only[EM,h1,hlb,hP];simp;omega)
def Zm{s:WS}(h:(Am s).length<=0):BH s=[]:=by
 have h1:=P5 h;cases hf:BH s with
 | nil=>rfl
 | cons p t=>have:=DU (s:=s) (p:=p) (by rw[hf];simp);rw[h1]at this;cases this
theorem UK:∀ (n m:Nat) {s:WS} (l:List Ad),CL s->(Am s).length<=n->(Am s).length<=m->FU n s l=FU m s l
 | 0,0,s,l,_,_,_=>rfl
 | 0,m+1,s,l,_,h,_=>by simp[FU,Zm h]
 | n+1,0,s,l,_,_,h=>by simp[FU,Zm h]
 | n+1,m+1,s,l,hg,h,h'=>by
  rw[FU,FU];split
  ·rename_i p hp;have hd:=EA hg (DU (List.mem_of_find?_eq_some hp));exact UK n m l (DC hg p) (by omega) (by omega)
  ·rfl
def R9{s:WS}{l:List Ad}(hg:CL s){p:Ad}(hp:(BH s).find? (λp=>!BL l p)=some p):DH s l=DH (BU s p) l:=by
 have hd:=EA hg (DU (List.mem_of_find?_eq_some hp));unfold DH;obtain⟨n,hn⟩:∃ n,(Am s).length=n+1:=⟨(Am s).length-1,by omega⟩;rw[hn,FU,hp];exact congrArg Am (UK n (Am (BU s p)).length l (DC hg p) (by omega) (le_refl _))
def R8{s:WS}{l:List Ad}(hp:(BH s).find? (λp=>!BL l p)=none):DH s l=Am s:=by
 unfold DH;cases (Am s).length<;>simp[FU,hp]
def tu(s:WS)(p:Ad)(h:Iq s):Ac C0 85 [.agg s.c,.agg p.c] [] (.Bl [.agg (DY s p).1.c,I (DY s p).2]) []:=by
 have hl:=Da h;refine Ac.go f85 ?_;unfold f85;refine gO ?_;refine Ab (XD s h) ?_;cases hv:A7 s
 ·have e:DY s p=(Qs,2):=by simp[DY,hv]
  simp(disch:=omega)only[go_sem,e,Qs];refine Aj _ ?_;refine .Bl (Af.AI ?_);simp(disch:=omega)only[go_sem]
  repeat'(with_reducible apply And.intro)
  all_goals(first|exact .AD (by omega)|exact .agg (Af.AI gI))
 refine gO ?_;refine Av 3 [([],[2]),([],[10]),([],[3])] B7 ?_;refine gO ?_
 first|(refine Ab (TE s h) ?_)|(refine Aq (TE s h) ?_)
 refine gO ?_
 first|(refine Ab (Oy (Am s) p (by omega)) ?_)|(refine Aq (Oy (Am s) p (by omega)) ?_)
 cases hp:BL (Am s) p
 ·have e:DY s p=(Qs,10):=by simp[DY,hv,hp]
  simp(disch:=omega)only[go_sem,e,Qs];refine Aj _ ?_;refine .Bl (Af.AI ?_);simp(disch:=omega)only[go_sem]
  repeat'(with_reducible apply And.intro)
  all_goals(first|exact .AD (by omega)|exact .agg (Af.AI gI))
 ·have e:DY s p=(BU s p,0):=by simp[DY,hv,hp]
  simp(disch:=omega)only[go_sem,e];refine Ab (tk s p h (Dq hv)) ?_;refine gO ?_;exact AM _
def O1{s:WS}{p:Ad}(hv:A7 s=true)(hp:p∈Am s):DY s p=(BU s p,0):=by
 simp[DY,hv,BL,hp]
def Xr(s:WS)(l:List Ad)(h:Iq s)(hl:l.length<=1000000):Ac C0 14 [.agg s.c,AA l] [] (.Bl [AA (EN s l).1,I (EN s l).2]) []:=by
 refine Ac.go f14 ?_;unfold f14;refine gO ?_;refine Ab (Ox s h) ?_;cases hv:A7 s
 ·have e:EN s l=([],2):=by simp[EN,hv]
  simp(disch:=omega)only[go_sem,e];exact Fy _
 have e:EN s l=(DH s l,0):=by simp[EN,hv]
 rw[e];refine gO ?_;refine Ao (α:=WS) (λx=>⟨[(1,AA l),(2,.ptr 128 0)],[(128,x.c)]⟩) (λx=>Iq x/\A7 x=true/\DH x l=DH s l) (λx=>(Am x).length) s ⟨h,hv,rfl⟩ ?_ ?_
 ·exact AQ.An gI gI
 rintro t ⟨i1,i2,i3⟩ J hJ;refine gO ?_;refine Ab (sZ t i1) ?_;rw[Jz i2];have NW:=Vn i1;rw[Jz i2]at NW;refine gO ?_;have tJ:=hJ;clear hJ;have hg:=Dq i2;refine AH ((BH t)) (λi=>⟨[(1,AA l),(2,.ptr 128 0),(6,B false),(15,AA (BH t)),(16,I (BH t).length),(17,I i)],[(128,t.c)]⟩) (λi=>((BH t).take i).find? (λp=>!BL l p)=none) rfl ?_ ?_
 ·exact B9
 rintro i ⟨hi,hP⟩ J hJ;refine gO ?_;refine Bp hi (λAu b hb Cc AR=>?_) λBf=>?_
 simp(disch:=omega)only[go_sem,gm,hb]
 ·refine Ab (Jd l b hl) ?_;cases QT:BL l b
  ·have hf:(BH t).find? (λp=>!BL l p)=some b:=G5 hP hb (by simp[QT]);have hm:=DU (List.mem_of_find?_eq_some hf);refine gO ?_;refine Ab (s8 t b i1) ?_;rw[O1 i2 hm];refine gO ?_;refine tJ _ (BU t b) ⟨Lp i1 b,OY i2 b,(R9 hg hf).symm.trans i3⟩ (EA hg hm) AS
  ·simp(disch:=omega)only[go_sem];refine hJ _ (i+1) ⟨by omega,(by rw[B4 hP hb];simp[QT])⟩ (by omega) AS
 ·subst Bf;rw[take_length]at hP;refine Ab (J6 t i1) ?_;rw[<- i3,R8 hP];exact AM _
def s9(s:WS)(l:List Ad)(h:Iq s)(hv:A7 s=true)(hl:l.length<=1000000):Ac C0 38 [.agg s.c,AA l] [] (AA (DH s l)) []:=by
 refine Ac.go f38 ?_;unfold f38;refine gO ?_;refine Ao (α:=WS) (λx=>⟨[(1,AA l),(2,.ptr 128 0)],[(128,x.c)]⟩) (λx=>Iq x/\A7 x=true/\DH x l=DH s l) (λx=>(Am x).length) s ⟨h,hv,rfl⟩ ?_ ?_
 ·exact AQ.An gI gI
 rintro t ⟨i1,i2,i3⟩ J hJ;refine gO ?_;refine Ab (tj t i1) ?_;rw[Jz i2];have NW:=Vn i1;rw[Jz i2]at NW;refine gO ?_;have tJ:=hJ;clear hJ;have hg:=Dq i2;refine Ao (α:=Nat × Int) (λx=>⟨[(1,AA l),(2,.ptr 128 0),(5,I x.2),(6,AA (BH t)),(7,I x.1)],[(128,t.c)]⟩) (λx=>x.1<=(BH t).length/\((x.2 = -1/\((BH t).take x.1).find? (λp=>!BL l p)=none)\/(∃ b,x.2=(x.1:Int)-1/\1<=x.1/\(BH t)[x.1-1]?=some b/\(BH t).find? (λp=>!BL l p)=some b))) (λx=>(BH t).length-x.1) (0,-1) ⟨by simp,.inl ⟨rfl,rfl⟩⟩ ?_ ?_
 ·exact AQ.An gI gI
 rintro⟨i,f⟩ ⟨j1,j2⟩ J hJ
 replace j1:i<=(BH t).length:=j1
 replace j2:(f = -1/\((BH t).take i).find? (λp=>!BL l p)=none)\/(∃ b,f=(i:Int)-1/\1<=i/\(BH t)[i-1]?=some b/\(BH t).find? (λp=>!BL l p)=some b):=j2
 rcases j2 with ⟨rfl,hP⟩|⟨b,rfl,h1,hb,hf⟩
 ·by_cases Au:i<(BH t).length
  ·have e1:((i:Int)<((BH t).length:Int))=True:=eq_true (by omega);obtain⟨b,hb⟩:∃ b,(BH t)[i]?=some b:=⟨_,gE Au⟩;simp(disch:=omega)only[go_sem,e1,gm,hb];refine Ab (Oy l b hl) ?_;cases QT:BL l b
   ·have hf:(BH t).find? (λp=>!BL l p)=some b:=G5 hP hb (by simp[QT]);refine gO ?_;refine hJ _ (i+1,(i:Int)) ⟨Au,.inr ⟨b,by simp,by simp,by simpa using hb,hf⟩⟩ (by simp;omega) AS
   ·simp(disch:=omega)only[go_sem];refine hJ _ (i+1,-1) ⟨Au,.inl ⟨rfl,by rw[B4 hP hb];simp[QT]⟩⟩ (by simp;omega) AS
  ·have e1:((i:Int)<((BH t).length:Int))=False:=eq_false (by omega);have Bf:i=(BH t).length:=by omega
   subst Bf;rw[take_length]at hP;simp(disch:=omega)only[go_sem,e1];refine Ab (TE t i1) ?_;rw[<- i3,R8 hP];refine gO ?_;exact AM _
 ·have e2:((i:Int)-1<0)=False:=eq_false (by omega);have e3:((i:Int)-1)=((i-1:Nat):Int):=by omega
  have e4:(((i-1:Nat):Int)<0)=False:=eq_false (by omega);have hm:=DU (List.mem_of_find?_eq_some hf);have e5:(decide ((i:Int)<((BH t).length:Int))&&false)=false:=by simp
  by_cases Au:(i:Int)<((BH t).length:Int)
  all_goals
   simp(disch:=omega)only[go_sem,e2,e3,e4,Au];refine C8 4095 [(0,1,0),(1,2,0),(2,4,0),(3,8,6),(4,16,8),(5,32,17),(6,64,32),(7,128,64),(8,256,64),(9,512,0),(10,1024,767),(11,2048,2047)] [0,1,2,4,512,3,5,513,6,514,516,7,515,517,14,518,15,519,30,526,31,527,542,63,543,127,575,255,383,639,511,767,895,1023,1791,2047,4095] (λm=>⟨Vm m [(1,35,.agg t.c),(2,36,AA (BH t)),(4,37,I (i-1:Nat)),(8,38,.ep .no (i-1) b.c 0),(16,39,.agg b.c),(32,40,.Bl [.agg (BU t b).c,I 0]),(64,34,.Bl [.agg (BU t b).c,I 0]),(128,41,.agg (BU t b).c),(256,42,I 0),(512,8,.ptr 512 0),(2048,9,I 0)]++[(1,AA l),(2,.ptr 128 0),(5,I (i-1:Nat)),(6,AA (BH t))],((if m / 512%2=1 then [(512,(if m / 1024%2=1 then (BU t b).c else Qs.c))] else [])++[(128,t.c)])⟩) ?_ ?_ ?_ B7
   ·exact AQ.An gI gI
   ·simp (maxSteps:=100000000)only[C7,C6,DS,DR,and_true,Nat.reduceDiv,Nat.reduceMod,Nat.reduceAnd,Nat.reduceEqDiff,reduceIte,true_and,and_false,false_and,and_self]
    repeat'(with_reducible refine And.intro ?_ ?_)
    all_goals simp(disch:=omega)only[go_sem,gm,hb,nil_append,Qs]
    all_goals first|exact AQ.An gI (by simp(disch:=omega)only[go_sem,nil_append,cons_append,Qs];try(repeat'(with_reducible apply And.intro));all_goals exact .AD (by omega))|exact AQ.An gI (by simp(disch:=omega)only[go_sem,nil_append,cons_append])|(refine Ab (tu t b i1) ?_;rw[O1 i2 hm];simp(disch:=omega)only[go_sem];exact AQ.An gI (by simp(disch:=omega)only[go_sem,nil_append,cons_append]))
   simp(disch:=omega)only[go_sem,nil_append,cons_append];refine tJ _ (BU t b) ⟨Lp i1 b,OY i2 b,(R9 hg hf).symm.trans i3⟩ (EA hg hm) AS
def jM(s:WS)(l:List Ad)(h:Iq s)(hl:l.length<=1000000):Ac C0 15 [.agg s.c,AA l] [] (.Bl [AA (EN s l).1,I (EN s l).2]) []:=by
 refine Ac.go f15 ?_;unfold f15;refine gO ?_;refine Ab (XD s h) ?_;cases hv:A7 s
 ·have e:EN s l=([],2):=by simp[EN,hv]
  simp(disch:=omega)only[go_sem,e];exact Fy _
 have e:EN s l=(DH s l,0):=by simp[EN,hv]
 rw[e];refine gO ?_;refine Ab (s9 s l h hv hl) ?_;refine gO ?_;exact AM _
def oC(q:Queue)(p:Ad)(h:q.Ak.length<=1000000):Ac C0 252 [.ptr 63 0,.ptr 127 0] [(63,q.c),(127,p.c)] (.Bl []) [(63,{ q with Ak:=Bt q.Ak p:Queue }.c),(127,p.c)]:=by
 refine Ac.go f252 ?_;unfold f252;refine gO ?_;refine Ab (SI q.Ak p h) ?_;refine gO ?_;refine AZ ⟨[],[(63,63),(127,127)],[]⟩ _ rfl ⟨rfl,rfl⟩ (by simp[lk]) ?_ ?_
 ·exact gI
 ·exact gI
def oD(q:Queue)(p:Ad)(h:q.waits.length<=1000000):Ac C0 253 [.ptr 63 0,.ptr 127 0] [(63,q.c),(127,p.c)] (.Bl []) [(63,{ q with waits:=Bt q.waits p:Queue }.c),(127,p.c)]:=by
 refine Ac.go f253 ?_;unfold f253;refine gO ?_;refine Ab (SI q.waits p h) ?_;refine gO ?_;refine AZ ⟨[],[(63,63),(127,127)],[]⟩ _ rfl ⟨rfl,rfl⟩ (by simp[lk]) ?_ ?_
 ·exact gI
 ·exact gI
def oG(q:Queue)(p:Ad)(a:BO)(h:q.holds.length<=1000000):Ac C0 258 [.ptr 63 0,.ptr 127 0,.ptr 191 0] [(63,q.c),(127,p.c),(191,a.c)] (.Bl []) [(63,(FJ q p a).c),(127,p.c),(191,a.c)]:=by
 refine Ac.go f258 ?_;unfold f258;refine gO ?_;refine Ab (Pv q.holds p a h) ?_;refine gO ?_;refine AZ ⟨[],[(63,63),(127,127),(191,191)],[]⟩ _ rfl ⟨rfl,rfl⟩ (by simp[lk]) ?_ ?_
 ·exact gI
 ·simp(disch:=omega)only[go_sem,FJ]
@[reducible] def mn(a b:Nat):AV:=.mem true [.fn 252 [.ptr a 0,.ptr b 0],.fn 253 [.ptr a 0,.ptr b 0]]
@[reducible] def mo(a b c:Nat):AV:=.mem true [.fn 258 [.ptr a 0,.ptr b 0,.ptr c 0]]
theorem jP(q:Queue)(p:Ad)(h:BC q<=1000000):Ac C0 185 [.ptr 63 0,mn 63 127] [(63,q.c),(127,p.c)] (.Bl [.agg (DA (CF q p)).c,AY (B0 (CF q p)).2,I 0]) [(63,(DA (CF q p)).c),(127,p.c)]:=by
 have h2:q.Ak.length<=1000000:=by unfold BC BJ at h;omega
 have h3:q.waits.length<=1000000:=by unfold BC BJ at h;omega
 have h4:BC (CF q p)<=1000000:=by
  have:=Bx q.Ak p;have:=Bx q.waits p;unfold BC BJ at h ⊢;simp only[CF];omega
 refine Ac.go f185 ?_;unfold f185;have z0:(decide ((0:Int)<2))=true:=by decide
 have z1:(decide ((1:Int)<2))=true:=by decide
 have z2:(decide ((2:Int)<2))=false:=by decide
 refine gO ?_;refine Ao (α:=Nat) (λi=>⟨[(12,I i),(11,I 2),(10,mn 63 127),(0,.ptr 63 0),(4,.ptr 256 0)],[(63,(if i=0 then q else if i=1 then { q with Ak:=Bt q.Ak p:Queue } else CF q p).c),(127,p.c),(256,(⟨⟨[],0,0,0⟩,[],[],[],0⟩:Queue).c)]⟩) (λi=>i<=2) (λi=>2-i) 0 (by simp) ?_ ?_
 ·refine AQ.An ?_ ?_
  ·exact gI
  ·exact gI
 rintro i hi J hJ;obtain rfl|rfl|rfl:i=0\/i=1\/i=2:=by omega
 ·simp(disch:=omega)only[go_sem,z0];refine Bh ⟨⟨[],[(63,63),(127,127)],[]⟩,[],[]⟩ (oC q p h2) gI rfl gI (.inl rfl) ?_;refine gO ?_;refine hJ _ 1 (by omega) (by omega) (AQ.An gI (by simp(disch:=omega)only[go_sem,Nat.one_ne_zero]))
 ·simp(disch:=omega)only[go_sem,z1,Nat.one_ne_zero];refine Bh ⟨⟨[],[(63,63),(127,127)],[]⟩,[],[]⟩ (oD { q with Ak:=Bt q.Ak p } p h3) gI rfl gI (.inl rfl) ?_;refine gO ?_;refine hJ _ 2 (by omega) (by omega) (AQ.An gI (by simp(disch:=omega)only[go_sem,CF]))
 ·clear hJ;simp(disch:=omega)only[go_sem,z2];refine Bh ⟨⟨[],[(63,63)],[]⟩,[],[]⟩ (Xy (CF q p) h4) gI rfl gI (.inl rfl) ?_;refine gO ?_;refine Ab (Xz (B0 (CF q p)).1.gen) ?_;refine gO ?_;refine AZ ⟨[],[(63,63),(127,127)],[]⟩ _ (by(try simp(disch:=omega)only[go_sem,Cr,GH])<;>rfl) ⟨rfl,rfl⟩ (by simp[lk]) ?_ ?_
  ·simp(disch:=omega)only[go_sem,DA]
  ·simp(disch:=omega)only[go_sem,DA]
def jQ(q:Queue)(p:Ad)(a:BO)(h:BC q+1<=1000000):Ac C0 185 [.ptr 63 0,mo 63 127 191] [(63,q.c),(127,p.c),(191,a.c)] (.Bl [.agg (DA (FJ q p a)).c,AY (B0 (FJ q p a)).2,I 0]) [(63,(DA (FJ q p a)).c),(127,p.c),(191,a.c)]:=by
 have h1:q.holds.length<=1000000:=by unfold BC at h;omega
 have h4:BC (FJ q p a)<=1000000:=by
  have:=Ij q.holds p a;unfold BC BJ at h ⊢;simp only[FJ];omega
 refine Ac.go f185 ?_;unfold f185;have z0:(decide ((0:Int)<1))=true:=by decide
 have z1:(decide ((1:Int)<1))=false:=by decide
 refine gO ?_;refine Ao (α:=Nat) (λi=>⟨[(12,I i),(11,I 1),(10,mo 63 127 191),(0,.ptr 63 0),(4,.ptr 256 0)],[(63,(if i=0 then q else FJ q p a).c),(127,p.c),(191,a.c),(256,(⟨⟨[],0,0,0⟩,[],[],[],0⟩:Queue).c)]⟩) (λi=>i<=1) (λi=>1-i) 0 (by simp) ?_ ?_
 ·refine AQ.An ?_ ?_
  ·exact gI
  ·exact gI
 rintro i hi J hJ;obtain rfl|rfl:i=0\/i=1:=by omega
 ·simp(disch:=omega)only[go_sem,z0];refine Bh ⟨⟨[],[(63,63),(127,127),(191,191)],[]⟩,[],[]⟩ (oG q p a h1) gI rfl gI (.inl rfl) ?_;refine gO ?_;refine hJ _ 1 (by omega) (by omega) (AQ.An gI (by simp(disch:=omega)only[go_sem,Nat.one_ne_zero]))
 ·clear hJ;simp(disch:=omega)only[go_sem,z1];refine Bh ⟨⟨[],[(63,63)],[]⟩,[],[]⟩ (Xy (FJ q p a) h4) gI rfl gI (.inl rfl) ?_;refine gO ?_;refine Ab (Xz (B0 (FJ q p a)).1.gen) ?_;refine gO ?_;refine AZ ⟨[],[(63,63),(127,127),(191,191)],[]⟩ _ (by(try simp(disch:=omega)only[go_sem,Cr,GH])<;>rfl) ⟨rfl,rfl⟩ (by simp[lk]) ?_ ?_
  ·simp(disch:=omega)only[go_sem,DA]
  ·simp(disch:=omega)only[go_sem,DA]
def oi(q:Queue)(p:Ad)(h:BC q<=100):Ac C0 200 [.agg q.c,.agg p.c] [] (.Bl [.agg (Bb q p).1.c,AY (Bb q p).2.1,I (Bb q p).2.2]) []:=by
 obtain⟨h1,h2,h3⟩:=Bv h;have h4:q.Ak.length+q.waits.length<=1000000:=by unfold BC BJ at h;omega
 refine Ac.go f200 ?_;unfold f200;refine gO ?_;refine Ab (TG q h1 h3) ?_;cases hv:valid q
 ·have e:Bb q p=(q0,[],2):=by simp[Bb,hv]
  simp(disch:=omega)only[go_sem,Bool.not_false,e,q0];refine Aj _ ?_;refine .Bl (Af.AI ?_);simp(disch:=omega)only[go_sem]
  repeat'(with_reducible apply And.intro)
  all_goals(first|exact .AD (by omega)|exact .agg (Af.AI gI))
 refine gO ?_;refine Ab (dR q p h4) ?_;cases hw:(Ar q p).isSome
 ·have e:Bb q p=(q0,[],10):=by simp[Bb,hv,hw]
  simp(disch:=omega)only[go_sem,Bool.not_false,e,q0];refine Aj _ ?_;refine .Bl (Af.AI ?_);simp(disch:=omega)only[go_sem]
  repeat'(with_reducible apply And.intro)
  all_goals(first|exact .AD (by omega)|exact .agg (Af.AI gI))
 have e:Bb q p=(DA (CF q p),(B0 (CF q p)).2,0):=by simp[Bb,hv,hw]
 rw[e];refine gO ?_;refine Ab (Xu q h1 h2 h3) ?_;refine gO ?_;refine Bh ⟨⟨[],[(576,63),(192,127)],[]⟩,[],[]⟩ (jP q p (by omega)) gI rfl gI (.inl rfl) ?_;refine gO ?_;exact AM _
def bL{q:Queue}{p:Ad}(h:Ar q p=none):EH q.Ak p<0:=by
 have hn:=I3.1 h;have e:q.Ak.findIdx? (λh=>decide (h.proc=p))=none:=by
  rw[List.findIdx?_eq_none_iff];intro w hw;simpa using hn w (List.mem_append_left _ hw)
 unfold EH;rw[e];decide
def dG(q:Queue)(p:Ad)(a:BO)(h:BC q<=100)(hw:Ar q p=none):Ac C0 205 [.agg q.c,.agg p.c,.agg a.c] [] (.Bl [.agg (AO q p a).1.c,AY (AO q p a).2.1,I (AO q p a).2.2]) []:=by
 obtain⟨h1,h2,h3⟩:=Bv h;have b8:(Ar q p).isSome=false:=by simp[hw]
 have hwf:(0<=EH q.Ak p)=False:=eq_false (by have:=bL hw;omega);refine Ac.go f205 ?_;unfold f205;refine gO ?_;refine Ab (TG q h1 h3) ?_;cases hv:valid q
 ·have e:AO q p a=(q0,[],2):=by simp[AO,hv]
  simp(disch:=omega)only[go_sem,Bool.not_false,e,q0];refine Aj _ ?_;refine .Bl (Af.AI ?_);simp(disch:=omega)only[go_sem]
  repeat'(with_reducible apply And.intro)
  all_goals(first|exact .AD (by omega)|exact .agg (Af.AI gI))
 refine gO ?_;refine Ab (IL q p h1) ?_;refine gO ?_;refine Ab (IM (Ap q.holds p)) ?_;cases hz:(Ap q.holds p).zero;rotate_left
 ·have e:AO q p a=(q0,[],10):=by simp[AO,hv,hz]
  simp(disch:=omega)only[go_sem,e,q0];refine Aj _ ?_;refine .Bl (Af.AI ?_);simp(disch:=omega)only[go_sem]
  repeat'(with_reducible apply And.intro)
  all_goals(first|exact .AD (by omega)|exact .agg (Af.AI gI))
 refine gO ?_;refine Ab (SM q.Ak p h2) ?_;simp(disch:=omega)only[go_sem,hwf,decide_false];refine Ab (Pw q.res (Ap q.holds p) a) ?_;cases hc:q.res.covers (Ap q.holds p) a
 ·have e:AO q p a=(q0,[],12):=by simp[AO,hv,hz,b8,hc]
  simp(disch:=omega)only[go_sem,Bool.not_false,e,q0];refine Aj _ ?_;refine .Bl (Af.AI ?_);simp(disch:=omega)only[go_sem]
  repeat'(with_reducible apply And.intro)
  all_goals(first|exact .AD (by omega)|exact .agg (Af.AI gI))
 refine gO ?_;refine Ab (Xu q h1 h2 h3) ?_;refine gO ?_;cases ha:decide (Ap q.holds p=a);rotate_left
 ·have ME:decide (a=Ap q.holds p)=true:=by rw[<- ha];simp[eq_comm]
  have e:AO q p a=(q,[],0):=by simp only[AO,hv,hz,b8,hc,ha];rfl
  simp(disch:=omega)only[go_sem,ME,e];exact Fy _
 have ME:decide (a=Ap q.holds p)=false:=by rw[<- ha];simp[eq_comm]
 have e:AO q p a=(DA (FJ q p a),(B0 (FJ q p a)).2,0):=by simp only[AO,hv,hz,b8,hc,ha];rfl
 rw[e];simp(disch:=omega)only[go_sem,ME];refine Bh ⟨⟨[],[(640,63),(256,127),(320,191)],[]⟩,[],[]⟩ (jQ q p a (by omega)) gI rfl gI (.inl rfl) ?_;refine gO ?_;exact AM _
def XV(l:List Atom)(name:Bs):Int:=match l.findIdx? (λa=>a.name==name) with
 |some i=>i
 |none=>-1
def oj(q:Queue)(a:Atom):Ac C0 202 [.agg a.c,.ptr 63 0] [(63,q.c)] (B (a.name==q.res.name)) [(63,q.c)]:=by
 refine Ac.go f202 ?_;unfold f202;refine gO ?_;refine AZ ⟨[],[(63,63)],[]⟩ _ (by(try simp(disch:=omega)only[go_sem,Cr,GH])<;>rfl) ⟨rfl,rfl⟩ (by simp[lk]) ?_ ?_
 ·exact gI
 ·exact gI
def dF(l:List Atom)(q:Queue)(hl:l.length<=1000000):Ac C0 201 [BN l,.fn 202 [.ptr 63 0]] [(63,q.c)] (I (XV l q.res.name)) [(63,q.c)]:=by
 refine Ac.go f201 ?_;unfold f201;refine gO ?_;refine AH (l) (λi=>⟨[(0,BN l),(1,.fn 202 [.ptr 63 0]),(7,I l.length),(8,I i)],[(63,q.c)]⟩) (λi=>(l.take i).find? (λa=>a.name==q.res.name)=none) rfl ?_ ?_
 ·exact B9
 rintro i ⟨hi,hP⟩ J hJ;refine gO ?_;refine Bp hi (λAu b hb Cc AR=>?_) λBf=>?_
 simp(disch:=omega)only[go_sem,gm,hb]
 ·refine Bh ⟨⟨[],[(63,63)],[]⟩,[],[]⟩ (oj q b) gI rfl gI (.inl rfl) ?_;cases hn:b.name==q.res.name
  ·simp(disch:=omega)only[go_sem];refine hJ _ (i+1) ⟨by omega,(by rw[B4 hP hb];simp[hn])⟩ (by omega) AS
  ·have e:XV l q.res.name=i:=by unfold XV;rw[Gk hP b hb hn]
   simp(disch:=omega)only[go_sem,e];refine AZ ⟨[],[(63,63)],[]⟩ _ (by(try simp(disch:=omega)only[go_sem,Cr,GH])<;>rfl) ⟨rfl,rfl⟩ (by simp[lk]) ?_ ?_
   ·exact gI
   ·exact gI
 ·subst Bf;rw[take_length]at hP;have e:XV l q.res.name = -1:=by
   unfold XV;have:l.findIdx? (λa=>a.name==q.res.name)=none:=by
    rw[List.findIdx?_eq_none_iff];rw[List.find?_eq_none]at hP;intro x hx;simpa using hP x hx
   rw[this]
  simp(disch:=omega)only[go_sem,e];refine AZ ⟨[],[(63,63)],[]⟩ _ (by(try simp(disch:=omega)only[go_sem,Cr,GH])<;>rfl) ⟨rfl,rfl⟩ (by simp[lk]) ?_ ?_
  ·exact gI
  ·exact gI
def Wc{l:List Atom}{name:Bs}{a:Atom}(h:l.find? (λa=>a.name==name)=some a):∃ i:Nat,XV l name=i/\l[i]?=some a:=by
 obtain⟨i,hi⟩:∃ i,l.findIdx? (λa=>a.name==name)=some i:=by
  cases hf:l.findIdx? (λa=>a.name==name) with
  |some i=>exact⟨i,rfl⟩
  |none =>
   rw[List.findIdx?_eq_none_iff]at hf;have h1:=List.find?_some h;have:=hf a (List.mem_of_find?_eq_some h);rw[h1]at this;cases this
 refine⟨i,by unfold XV;rw[hi],?_⟩;rw[List.findIdx?_eq_some_iff_getElem]at hi;obtain⟨Au,h1,h2⟩:=hi;have:l.find? (λa=>a.name==name)=some l[i]:=by
  rw[List.find?_eq_some_iff_getElem];exact⟨h1,i,Au,rfl,λj hj=>by simpa using h2 j hj⟩
 rw[this]at h;rw[gE Au,<- Option.some.inj h]
def Wb{l:List Atom}{name:Bs}(h:l.find? (λa=>a.name==name)=none):XV l name = -1:=by
 unfold XV;have:l.findIdx? (λa=>a.name==name)=none:=by
  rw[List.findIdx?_eq_none_iff];rw[List.find?_eq_none]at h;intro x hx;simpa using h x hx
 rw[this]
def fW(q:Queue)(p:Ad):BC (CF q p)<=BC q:=by
 have h1:=Bx q.Ak p;have h2:=Bx q.waits p;unfold BC BJ;simp only[CF];omega
def jm(o:Ip)(q:Queue):BC (W9 o q)<=BC q:=by
 unfold W9;split
 ·unfold Bb;split
  ·simp[BC,BJ,q0]
  ·split
   ·simp[BC,BJ,q0]
   ·exact le_trans (c6 _) (fW q o.proc)
 ·exact le_refl _
def dr(q:Queue)(o:Ip)(h:BC q<=100)(hv:valid q=true)(hl:o.lower.length<=1000000):Ac C0 146 [.agg q.c,.agg o.c] [] (.agg (Om o q).c) []:=by
 obtain⟨h1,h2,h3⟩:=Bv h;refine Ac.go f146 ?_;unfold f146;refine gO ?_;refine Av 10 [([],[2]),([],[17]),([],[18]),([],[2]),([],[20]),([2],[21]),([],[2]),([],[23]),([2,5],[24]),([2],[2])] B7 ?_;refine gO ?_
 first|(refine Ab (SF q.holds h1) ?_)|(refine Aq (SF q.holds h1) ?_)
 refine gO ?_
 first|(refine Ab (JI q.Ak h2) ?_)|(refine Aq (JI q.Ak h2) ?_)
 refine gO ?_
 first|(refine Ab (JI q.waits h3) ?_)|(refine Aq (JI q.waits h3) ?_)
 refine gO ?_;refine Ab (oi q o.proc h) ?_;obtain⟨hx,b8⟩:=jn o hv;have PL:(W9 o q).res=q.res:=hx.res;have Fw:=jm o q;obtain⟨r,hr⟩:∃ r,W9 o q=r:=⟨_,rfl⟩;rw[hr]at b8 PL Fw;have hap:Om o q = { F8 o r with gen:=q.gen }:=by rw[Om,hr]
 obtain⟨c1,c2,c3⟩:=Bv (q:=r) (by omega);unfold W9 at hr;rw[hap];generalize Bb q o.proc=c at hr;obtain⟨r',g,x⟩:=c
 by_cases mS:x=0
 ·simp only[mS,if_true]at hr;subst hr;simp(disch:=omega)only[go_sem,mS,decide_true,decide_false];refine Bh ⟨⟨[],[(128,63)],[]⟩,[],[]⟩ (dF o.lower r' hl) gI rfl gI (.inl rfl) ?_;cases RS:uR o r'.res.name with
  |none =>
   have e:F8 o r'=r':=by simp[F8,RS]
   simp(disch:=omega)only[go_sem,Wb RS,e];exact AM _
  |some a =>
   obtain⟨k,Sh,SS⟩:=Wc RS;have jG:F8 o r'=if (Ap r'.holds o.proc).zero=false/\Ap r'.holds o.proc≠a.AN/\r'.res.covers (Ap r'.holds o.proc) a.AN=true/\(AO r' o.proc a.AN).2.2=0 then (AO r' o.proc a.AN).1 else r':=by simp only[F8,RS]
   simp(disch:=omega)only[go_sem,Sh];refine Av 12 [([],[3]),([],[46]),([],[9]),([],[47,48]),([],[49]),([],[50]),([],[2]),([],[3]),([],[53]),([],[52,54]),([],[]),([],[])] B7 ?_;simp(disch:=omega)only[go_sem,gm,SS]
   first|(refine Ab (IL r' o.proc c1) ?_)|(refine Aq (IL r' o.proc c1) ?_)
   cases hz:(Ap r'.holds o.proc).zero;rotate_left
   ·have e0:((Ap r'.holds o.proc).mode==0&&(Ap r'.holds o.proc).Ax==0)=true:=hz;have e:F8 o r'=r':=by rw[jG,if_neg (by rw[hz];simp)]
    simp(disch:=omega)only[go_sem,gm,SS,e0,e];exact AM _
   have e0:((Ap r'.holds o.proc).mode==0&&(Ap r'.holds o.proc).Ax==0)=false:=hz
   by_cases hd:Ap r'.holds o.proc=a.AN
   ·have e1:decide (Ap r'.holds o.proc=a.AN)=true:=decide_eq_true hd;have e:F8 o r'=r':=by rw[jG,if_neg (by intro h;exact h.2.1 hd)]
    simp(disch:=omega)only[go_sem,gm,SS,e0,e1,e];exact AM _
   have e1:decide (Ap r'.holds o.proc=a.AN)=false:=decide_eq_false hd;simp(disch:=omega)only[go_sem,gm,SS,e0,e1];refine Ab (Pw r'.res (Ap r'.holds o.proc) a.AN) ?_;cases hc:r'.res.covers (Ap r'.holds o.proc) a.AN
   ·have e:F8 o r'=r':=by rw[jG,if_neg (by rw[hc];simp)]
    simp(disch:=omega)only[go_sem,e];exact AM _
   refine gO ?_;refine Ab (dG r' o.proc a.AN (by omega) b8) ?_
   by_cases hs:(AO r' o.proc a.AN).2.2=0
   ·have e:F8 o r'=(AO r' o.proc a.AN).1:=by rw[jG,if_pos ⟨hz,hd,hc,hs⟩]
    rw[e];generalize AO r' o.proc a.AN=y at hs;obtain⟨y1,y2,y3⟩:=y;simp only at hs;subst hs;refine gO ?_;exact AM _
   ·have e:F8 o r'=r':=by rw[jG,if_neg (λh=>hs h.2.2.2)]
    rw[e];generalize AO r' o.proc a.AN=y at hs;obtain⟨y1,y2,y3⟩:=y;simp only at hs;have gM:(y3==0)=false:=by simpa using hs
    simp(disch:=omega)only[go_sem,gM,decide_false];exact AM _
 ·simp only[mS,if_false]at hr;subst hr;have UQ:(x==0)=false:=by simpa using mS
  simp(disch:=omega)only[go_sem,UQ,decide_true,decide_false];refine Bh ⟨⟨[],[(128,63)],[]⟩,[],[]⟩ (dF o.lower q hl) gI rfl gI (.inl rfl) ?_;cases RS:uR o q.res.name with
  |none =>
   have e:F8 o q=q:=by simp[F8,RS]
   simp(disch:=omega)only[go_sem,Wb RS,e];exact AM _
  |some a =>
   obtain⟨k,Sh,SS⟩:=Wc RS;have jG:F8 o q=if (Ap q.holds o.proc).zero=false/\Ap q.holds o.proc≠a.AN/\q.res.covers (Ap q.holds o.proc) a.AN=true/\(AO q o.proc a.AN).2.2=0 then (AO q o.proc a.AN).1 else q:=by simp only[F8,RS]
   simp(disch:=omega)only[go_sem,Sh];refine Av 12 [([],[3]),([],[46]),([],[9]),([],[47,48]),([],[49]),([],[50]),([],[2]),([],[3]),([],[53]),([],[52,54]),([],[]),([],[])] B7 ?_;simp(disch:=omega)only[go_sem,gm,SS]
   first|(refine Ab (IL q o.proc c1) ?_)|(refine Aq (IL q o.proc c1) ?_)
   cases hz:(Ap q.holds o.proc).zero;rotate_left
   ·have e0:((Ap q.holds o.proc).mode==0&&(Ap q.holds o.proc).Ax==0)=true:=hz;have e:F8 o q=q:=by rw[jG,if_neg (by rw[hz];simp)]
    simp(disch:=omega)only[go_sem,gm,SS,e0,e];exact AM _
   have e0:((Ap q.holds o.proc).mode==0&&(Ap q.holds o.proc).Ax==0)=false:=hz
   by_cases hd:Ap q.holds o.proc=a.AN
   ·have e1:decide (Ap q.holds o.proc=a.AN)=true:=decide_eq_true hd;have e:F8 o q=q:=by rw[jG,if_neg (by intro h;exact h.2.1 hd)]
    simp(disch:=omega)only[go_sem,gm,SS,e0,e1,e];exact AM _
   have e1:decide (Ap q.holds o.proc=a.AN)=false:=decide_eq_false hd;simp(disch:=omega)only[go_sem,gm,SS,e0,e1];refine Ab (Pw q.res (Ap q.holds o.proc) a.AN) ?_;cases hc:q.res.covers (Ap q.holds o.proc) a.AN
   ·have e:F8 o q=q:=by rw[jG,if_neg (by rw[hc];simp)]
    simp(disch:=omega)only[go_sem,e];exact AM _
   refine gO ?_;refine Ab (dG q o.proc a.AN (by omega) b8) ?_
   by_cases hs:(AO q o.proc a.AN).2.2=0
   ·have e:F8 o q=(AO q o.proc a.AN).1:=by rw[jG,if_pos ⟨hz,hd,hc,hs⟩]
    rw[e];generalize AO q o.proc a.AN=y at hs;obtain⟨y1,y2,y3⟩:=y;simp only at hs;subst hs;refine gO ?_;exact AM _
   ·have e:F8 o q=q:=by rw[jG,if_neg (λh=>hs h.2.2.2)]
    rw[e];generalize AO q o.proc a.AN=y at hs;obtain⟨y1,y2,y3⟩:=y;simp only at hs;have gM:(y3==0)=false:=by simpa using hs
    simp(disch:=omega)only[go_sem,gM,decide_false];exact AM _
def dt:∀ (N:Nat) (e:Expr),SizeOf.sizeOf e<N->ZH N e->Ac C0 147 [.agg e.c] [] (.agg e.c) []
 | 0,_,h,_=>by omega
 | N+1,e,h,hk=>by
  have Sh:=hk.1;refine Ac.lens f147 λhlen=>?_
  simp only[E0,lens,Expr.Cf,length_map,and_true,true_and]at hlen;refine Ac.go f147 ?_;unfold f147;refine gO ?_;refine AH (e.kids) (λi=>⟨[(9,I i),(8,I e.kids.length),(7,It e.kids),(1,.ptr 64 0),(2,.ptr 128 0),(3,.sl (.own 1088 0) 5 ((e.kids.take i).map Expr.c))],[(64,e.c),(128,(Expr.mk 0 a0 []).c)]⟩) (λi=>True) trivial ?_ ?_
  ·refine AQ.An ?_ ?_
   all_goals(try simp(disch:=omega)only[go_sem])
   all_goals(try(repeat'(with_reducible apply And.intro)))
   all_goals(first|exact .AU (by omega)|exact .AD (by omega)|exact .sl (by simp[a0,Expr.Cf,Expr.k,Expr.atom,Expr.kids])|exact .int (by simp[a0,Expr.Cf,Expr.k,Expr.atom,Expr.kids])|exact .eq (by simp[a0,Expr.Cf,Expr.k,Expr.atom,Expr.kids]))
  rintro i ⟨hi,hP⟩ J hJ;refine gO ?_;refine Bp hi (λAu b hb Cc AR=>?_) λBf=>?_
  simp(disch:=omega)only[go_sem,gm,hb]
  ·have Ec:=D3 Cc;have Fx:i<e.kids.length:=by omega
   have IY:min i e.kids.length+1<=4294967296:=by omega
   refine Ab (dt N b (by omega) (hk.2 b Cc)) ?_;simp(disch:=omega)only[go_sem,length_map,length_take];refine hJ _ (i+1) ⟨by omega,trivial⟩ (by omega) (AQ.An ?_ ?_)
   ·simp(disch:=omega)only[go_sem];exact .sl (by simp[take_add_one,hb,Expr.Cf])
   ·simp(disch:=omega)only[go_sem,Expr.Cf]
  ·subst Bf;simp(disch:=omega)only[go_sem,take_length];refine CK ⟨[],[],[1088]⟩ _ ?_;simp(disch:=omega)only[go_sem,Expr.Cf]
def tw(s:WS)(o:Ip)(h:Iq s)(hl:o.lower.length<=1000000):Ac C0 92 [.agg s.c,.agg o.c] [] (.Bl [.agg (Fe s o).1.c,I (Fe s o).2]) []:=by
 have gH:=h.nq;have bX:=h.nn;have NP:=Da h;refine Ac.go f92 ?_;unfold f92;refine gO ?_;refine Ab (Ox s h) ?_;cases hv:A7 s
 ·have e:Fe s o=(Qs,2):=by simp[Fe,hv]
  simp(disch:=omega)only[go_sem,e,Qs];refine Aj _ ?_;refine .Bl (Af.AI ?_);simp(disch:=omega)only[go_sem]
  repeat'(with_reducible apply And.intro)
  all_goals(first|exact .AD (by omega)|exact .agg (Af.AI gI))
 refine gO ?_;refine Ab (jV o) ?_;cases ho:EM o
 ·have e:Fe s o=(Qs,1):=by simp[Fe,hv,ho]
  simp(disch:=omega)only[go_sem,e,Qs];refine Aj _ ?_;refine .Bl (Af.AI ?_);simp(disch:=omega)only[go_sem]
  repeat'(with_reducible apply And.intro)
  all_goals(first|exact .AD (by omega)|exact .agg (Af.AI gI))
 refine gO ?_;refine Av 4 [([],[2]),([],[22]),([],[3]),([],[24])] B7 ?_;refine gO ?_
 first|(refine Ab (J6 s h) ?_)|(refine Aq (J6 s h) ?_)
 refine gO ?_
 first|(refine Ab (Jd (Am s) o.proc (by omega)) ?_)|(refine Aq (Jd (Am s) o.proc (by omega)) ?_)
 cases hp:BL (Am s) o.proc
 ·have e:Fe s o=(Qs,10):=by simp[Fe,hv,ho,hp]
  simp(disch:=omega)only[go_sem,e,Qs];refine Aj _ ?_;refine .Bl (Af.AI ?_);simp(disch:=omega)only[go_sem]
  repeat'(with_reducible apply And.intro)
  all_goals(first|exact .AD (by omega)|exact .agg (Af.AI gI))
 have e:Fe s o=(Mg s o,0):=by simp[Fe,hv,ho,hp]
 rw[e];have hg:=Dq hv;have he:=IT hv;refine gO ?_;refine AH (s.Aa) (λi=>⟨[(32,I i),(31,I s.Aa.length),(30,AW s.Aa),(2,.ptr 128 0),(3,.ptr 192 0),(6,.ptr 384 0),(4,.ptr 256 0)],[(128,s.c),(192,o.c),(256,sh),(384,[.sl (.own 2688 0) 8 (((s.Aa.take i).map (Om o)).map Queue.c),.v (.slice none 0 0)])]⟩) (λi=>True) trivial ?_ ?_
 ·exact B9
 rintro i ⟨hi,hP⟩ J hJ;refine gO ?_;refine Bp hi (λAu b hb Cc AR=>?_) λBf=>?_
 simp(disch:=omega)only[go_sem,gm,hb]
 ·have ha:=h.aq b Cc;have xC:min i s.Aa.length+1<=4294967296:=by omega
  refine Av 6 [([],[6]),([],[36]),([],[8]),([],[3]),([],[38,39]),([4],[40])] B7 ?_;refine gO ?_
  first|(refine Ab (dr b o ha (hg b Cc) hl) ?_)|(refine Aq (dr b o ha (hg b Cc) hl) ?_)
  simp(disch:=omega)only[go_sem,length_map,length_take];refine hJ _ (i+1) ⟨by omega,trivial⟩ (by omega) (AQ.An gI ?_);refine gO ?_;exact .sl (by simp[take_add_one,hb,Queue.c])
 subst Bf;rw[take_length];clear hJ;refine AH (s.AB) (λi=>⟨[(48,I i),(47,I s.AB.length),(46,MP s.AB),(3,.ptr 192 0),(6,.ptr 384 0),(4,.ptr 256 0)],[(192,o.c),(256,sh),(384,[.sl (.own 2688 0) 8 ((s.Aa.map (Om o)).map Queue.c),.sl (.own 4224 0) 9 ((Hs (s.AB.take i) o.proc).map Need.c)])]⟩) (λi=>True) trivial ?_ ?_
 ·exact B9
 rintro i ⟨hi,hP⟩ J hJ;refine gO ?_;refine Bp hi (λAu b hb Cc AR=>?_) λBf=>?_
 simp(disch:=omega)only[go_sem,gm,hb]
 ·have IY:(Hs (s.AB.take i) o.proc).length+1<=4294967296:=by
   have:(Hs (s.AB.take i) o.proc).length<=(s.AB.take i).length:=List.length_filter_le _ _;rw[length_take]at this;omega
  refine Ab (J7 b.proc o.proc) ?_;refine gO ?_;have e1:Hs (s.AB.take (i+1)) o.proc=if b.proc=o.proc then Hs (s.AB.take i) o.proc else Hs (s.AB.take i) o.proc++[b]:=by
   simp only[Hs,take_add_one,hb,Option.toList_some,List.filter_append,List.filter_cons,List.filter_nil]
   by_cases h:b.proc=o.proc<;>simp[h]
  refine And.intro (λhh=>?_) (λhh=>?_)
  ·have Ca:¬ b.proc=o.proc:=by simpa using hh
   rw[if_neg Ca]at e1;refine Ag (dt _ b.expr (Nat.lt_succ_self _) (RJ (he b Cc) _)) (by simp(disch:=omega)only[go_sem,Expr.Cf]) rfl ?_;simp(disch:=omega)only[go_sem,Expr.Cf,length_map];refine hJ _ (i+1) ⟨by omega,trivial⟩ (by omega) (AQ.An gI ?_);refine gO ?_;exact .sl (by rw[e1];simp[Need.c])
  ·have heq:b.proc=o.proc:=by simpa using hh
   rw[if_pos heq]at e1;refine hJ _ (i+1) ⟨by omega,trivial⟩ (by omega) (AQ.An gI ?_);simp(disch:=omega)only[go_sem,e1]
 ·subst Bf;simp(disch:=omega)only[go_sem,take_length];refine CK ⟨[],[],[2688,4224]⟩ _ ?_;simp(disch:=omega)only[go_sem,Mg];exact .eq (by simp)
def N3(s:WS)(o:Ip):Bool:=EM o&&BL (C2 s).2 o.proc
def GI(s:WS)(l:List Ip):Bool:=A7 s&&decide (l.length<=40)&&l.all (N3 s)
def bC(s:WS)(l:List Ip)(h:Iq s)(hl:l.length<=1000000):Ac C0 18 [.agg s.c,ID l] [] (B (GI s l)) []:=by
 refine Ac.go f18 ?_;unfold f18;refine gO ?_;refine Ab (Ox s h) ?_;cases hv:A7 s
 ·simp(disch:=omega)only[go_sem];refine Aj _ ?_;exact wb (by simp[GI,hv])
 by_cases hn:40<l.length
 ·have k1:(40<(l.length:Int))=True:=eq_true (by omega);simp(disch:=omega)only[go_sem,k1,length_map];refine Aj _ ?_;exact wb (by simp[GI];omega)
 have k1:(40<(l.length:Int))=False:=eq_false (by omega);have xM:=qz h (Dq hv);simp(disch:=omega)only[go_sem,k1,length_map,decide_false];refine Ab (bD s h) ?_;rw[J1 hv];refine gO ?_;refine AH (l) (λi=>⟨[(24,I i),(23,I l.length),(22,ID l),(6,AA (C2 s).2)],[]⟩) (λi=>(l.take i).all (N3 s)=true) rfl ?_ ?_
 ·exact B9
 rintro i ⟨hi,hP⟩ J hJ;refine gO ?_;refine Bp hi (λAu b hb Cc AR=>?_) λBf=>?_
 simp(disch:=omega)only[go_sem,gm,hb]
 ·have no:N3 s b=false->GI s l=false:=λhh=>by
   have:l.all (N3 s)=false:=by rw[List.all_eq_false];exact⟨b,Cc,by simp[hh]⟩
   simp[GI,this]
  have yes:N3 s b=true->(l.take (i+1)).all (N3 s)=true:=λhh=>by
   rw[take_add_one,hb];simp[hP,hh]
  refine Ab (jV b) ?_;cases ho:EM b
  ·simp(disch:=omega)only[go_sem];refine Aj _ ?_;exact wb (by rw[no (by simp[N3,ho])])
  refine gO ?_;refine Ab (Jd (C2 s).2 b.proc (by omega)) ?_;cases hd:BL (C2 s).2 b.proc
  ·simp(disch:=omega)only[go_sem];refine Aj _ ?_;exact wb (by rw[no (by simp[N3,hd])])
  ·simp(disch:=omega)only[go_sem];refine hJ _ (i+1) ⟨by omega,(yes (by simp[N3,ho,hd]))⟩ (by omega) AS
 ·subst Bf;rw[take_length]at hP;refine Aj _ ?_;exact wb (by simp only[GI,hv,hP];simp;omega)
def o0:Ip:=⟨p0,0,0,[]⟩
def BP(s:WS)(l:List Ip):Srch:=⟨l.length,λi=>(l.getD i o0).cost,λi=>(l.getD i o0).proc,λS=>HX s l S⟩
def Te{st:List Ad}{p:Ad}(h:p∉st):FW st p=0:=by
 unfold FW;rw[List.findIdx?_eq_none_iff.2 λq hq=>by
  simp only[decide_eq_false_iff_not];exact λhc=>h (by rw[FX hc];exact hq)]
def W8{st:List Ad}{p:Ad}(h:p∈st):∃ i,i<st.length/\st[i]?=some p/\FW st p=2 ^ i:=by
 unfold FW;cases hf:st.findIdx? (λq=>decide (Bw p q=0)) with
 |none =>
  have:=List.findIdx?_eq_none_iff.1 hf p h;simp[DN]at this
 |some i =>
  obtain⟨h1,h2,_⟩:=List.findIdx?_eq_some_iff_getElem.1 hf;have h3:Bw p st[i]=0:=by simpa using h2
  exact⟨i,h1,by rw[gE h1,<- FX h3],rfl⟩
def NS(st ps:List Ad):Nat:=ps.foldl (λm p=>m ||| FW st p) 0
def iJ(st ps:List Ad)(p:Ad):NS st (ps++[p])=NS st ps ||| FW st p:=by simp[NS]
def Su{st:List Ad}(hl:st.length<=62)(p:Ad):FW st p<2 ^ 62:=by
 by_cases h:p∈st
 ·obtain⟨i,h1,_,h3⟩:=W8 h;rw[h3];exact Nat.pow_lt_pow_right (by omega) (by omega)
 ·rw[Te h];exact Nat.pow_pos (by omega)
def aS{st:List Ad}(hl:st.length<=62):∀ (ps:List Ad) (m:Nat),m<2 ^ 62->ps.foldl (λm p=>m ||| FW st p) m<2 ^ 62
 |[],_,h=>h
 | p::ps,m,h=>aS hl ps _ (Nat.or_lt_two_pow h (Su hl p))
def ft{st:List Ad}(hl:st.length<=62)(ps:List Ad):NS st ps<2 ^ 62:=aS hl ps 0 (Nat.pow_pos (by omega))
def na{x i:Nat}:x &&& 2 ^ i=0↔x.testBit i=false:=by
 constructor
 ·intro h;have:=congrArg (λn=>n.testBit i) h;simpa [Nat.testBit_two_pow_self]using this
 ·intro h;refine Nat.eq_of_testBit_eq λj=>?_
  rw[Nat.testBit_and,Nat.testBit_two_pow,Nat.zero_testBit]
  by_cases hj:i=j
  ·subst hj;simp[h]
  ·simp[hj]
def WV{st:List Ad}{p:Ad}{i:Nat}(hp:p∈st)(hb:FW st p=2 ^ i)(hi:st[i]?=some p):∀ (ps:List Ad) (m:Nat),(ps.foldl (λm p=>m ||| FW st p) m).testBit i=(m.testBit i||decide (p∈ps))
 |[],m=>by simp
 | q::ps,m=>by
  rw[List.foldl_cons,WV hp hb hi ps,Nat.testBit_or]
  by_cases hq:q∈st
  ·obtain⟨j,_,h2,h3⟩:=W8 hq;rw[h3,Nat.testBit_two_pow]
   by_cases hj:j=i
   ·subst hj;rw[hi]at h2;injection h2 with h2
    subst h2;simp
   ·have:p≠q:=λe=>by
     subst e;rw[hb]at h3;exact hj (Nat.pow_right_inj (by omega) |>.1 h3).symm
    simp[hj,this]
  ·rw[Te hq];have:p≠q:=λe=>hq (e▸hp)
   simp[this]
def mB{st:List Ad}{p:Ad}{i:Nat}(hp:p∈st)(hb:FW st p=2 ^ i)(hi:st[i]?=some p)(ps:List Ad):(NS st ps).testBit i=decide (p∈ps):=by
 unfold NS;rw[WV hp hb hi ps 0];simp
def mA{st:List Ad}(ps:List Ad)(p:Ad):NS st ps &&& FW st p=0↔¬ (p∈st/\p∈ps):=by
 by_cases h:p∈st
 ·obtain⟨i,_,h2,h3⟩:=W8 h;rw[h3,na,mB h h3 h2];simp[h]
 ·rw[Te h];simp[h]
def JT(s:WS)(st:List Ad)(v:Nat):List Ad:=(Am s).filter λp=>decide (v &&& FW st p=0)
def PK(s:WS)(st:List Ad)(v:Nat):Bool:=decide (FE (GW s (JT s st v))=[])
end Go.Rd
