/- part 20 of the proof -/
import Derived.Test.YteliegkcmjimoaaGreatDoorW19
set_option linter.all false
open Go Go.Abs Go.Proofs
set_option maxRecDepth 100000
namespace Go.Rd
set_option maxHeartbeats 8000000
open List (map_cons map_nil)
open Tryz
def fV(n D:Nat)(c:Cand):Nat:=(n-Em (VQ c.set)+1) ^ (D-(VQ c.set).length)
def wG(n D:Nat)(h:List Cand):Nat:=(h.map (fV n D)).sum
def mB{n D:Nat}{h h':List Cand}(p:h.Perm h'):wG n D h=wG n D h':=(p.map _).sum_nat
def ZX(n D:Nat)(l m:List Cand):wG n D (l++m)=wG n D l+wG n D m:=by simp[wG]
theorem fX{P:Srch}(hn:P.n<=64){S:List Nat}(hS:isSet P S)(D:Nat):fV P.n D (Dv P S)=(P.n-Em S+1) ^ (D-S.length):=by
 unfold fV Dv;rw[Kz hS.1 (λi hi=>by have:=hS.2.1 i hi;omega)]
def sg{P:Srch}(hn:P.n<=64){D:Nat}(hD:∀ T,isSet P T->T.length<=D){S:List Nat}(hS:isSet P S):∀ (f:Nat),Em S<=P.n-f->f<=P.n->wG P.n D (kids P S f)+1<=(f+1) ^ (D-S.length)
 | 0,_,_=>by simp[kids,wG]
 | f+1,h1,h2=>by
  have ih:=sg hn hD hS f (by omega) (by omega);simp only[kids,ZX];split
  ·simp only[wG,map_nil,List.sum_nil,Nat.zero_add]at *;exact Nat.le_trans ih (Nat.pow_le_pow_left (by omega) _)
  ·rename_i ha;have uo:=ft hS h1 (by omega) (by grind);have hl:=hD _ uo;rw[List.length_append,List.length_singleton]at hl;have e:wG P.n D [Dv P (S++[P.n-(f+1)])]=(f+1) ^ (D-S.length-1):=by
    have h3:Em (S++[P.n-(f+1)])=P.n-f:=by grind[Em]
    simp[wG,map_cons,map_nil,List.sum_cons,List.sum_nil,Nat.add_zero,fX hn uo,h3,List.length_append,List.length_singleton];congr 1<;>omega
   rw[e];obtain⟨d,hd⟩:∃ d,D-S.length=d+1:=⟨D-S.length-1,by omega⟩;rw[hd]at ih ⊢;rw[Nat.add_sub_cancel];have h3:(f+1) ^ d<=(f+1+1) ^ d:=Nat.pow_le_pow_left (by omega) _;have h4:(f+1) ^ (d+1)=(f+1) ^ d*(f+1):=Nat.pow_succ ..;have h5:(f+1+1) ^ (d+1)=(f+1+1) ^ d*(f+2):=Nat.pow_succ ..;have h6:(f+1) ^ d*(f+2)<=(f+1+1) ^ d*(f+2):=Nat.mul_le_mul_right _ h3;have h7:(f+1) ^ d*(f+2)=(f+1) ^ d*(f+1)+(f+1) ^ d:=by grind
   omega
def lU{P:Srch}{S:List Nat}(hS:isSet P S):Em S<=P.n:=by
 unfold Em;cases h:S.getLast? with
 |none=>grind
 |some k =>
  obtain⟨T,rfl⟩:=List.getLast?_eq_some_iff.1 h;have:=hS.2.1 k (by simp);simp only[Option.elim];omega
def ix{P:Srch}(hn:P.n<=64){D:Nat}(hD:∀ T,isSet P T->T.length<=D){h:List Cand}(hF:Front P h){S:List Nat}(hS:isSet P S)(hh:h[0]?=some (Dv P S)):wG P.n D (Jd ((LL AU h).take (h.length-1)) (kids P S (P.n-Em S)))<wG P.n D h:=by
 obtain⟨p1,p2,p3,p4,p5⟩:=R8 Hy Hz hF.heap hh;obtain⟨q1,q2⟩:=Ke (kids P S (P.n-Em S)) _ p2;rw[mB q2,mB p3,ZX];have hle:=lU hS;have h1:=sg hn hD hS (P.n-Em S) (by omega) (by omega);have h2:wG P.n D (Dv P S::(LL AU h).take (h.length-1))=(P.n-Em S+1) ^ (D-S.length)+wG P.n D ((LL AU h).take (h.length-1)):=by grind[wG,fX]
 omega
def sh(n D:Nat):∀ h:List Cand,h.length<=wG n D h
 |[]=>by grind
 | c::h=>by
  have:=sh n D h;have h2:1<=fV n D c:=Nat.pow_pos (by omega);simp only[wG,map_cons,List.sum_cons,List.length_cons]at this ⊢;omega
theorem wG0(P:Srch)(D:Nat):wG P.n D [Dv P []]=(P.n+1) ^ D:=by grind[VQ,wG,fV,Dv,code,Em]
def eX(h:List Cand)(l:List Cand)(hh:Heap AU h):(Jd h l).length=l.length+h.length:=by
 have:=(Ke l h hh).2.length_eq;simpa using this
def QM(x:Nat):Nat:=if x=0 then 0 else x.log2+1
def RZ(x k:Nat):QM x<=k↔x<2 ^ k:=by
 unfold QM;split
 ·rename_i h;subst h;have:0<2 ^ k:=Nat.pow_pos (by omega);omega
 ·rename_i h;rw[<- Nat.log2_lt h];omega
def HE{x k j:Nat}(hj:2 ^ k=j)(h:j<=x):QM x=k+QM (x / j):=by
 subst hj;have key:∀ i,QM x<=i↔k+QM (x / 2 ^ k)<=i:=λi=>by
  rw[RZ]
  by_cases hi:i<k
  ·have:2 ^ i<2 ^ k:=Nat.pow_lt_pow_right (by omega) hi;constructor<;>intro h'<;>omega
  ·have e:=RZ (x / 2 ^ k) (i-k);have e2:2 ^ i=2 ^ (i-k)*2 ^ k:=by rw[<- Nat.pow_add];congr 1;omega
   rw[Nat.div_lt_iff_lt_mul (Nat.pow_pos (by omega)),<- e2]at e;omega
 have h1:=(key (QM x)).1 (Nat.le_refl _);have h2:=(key (k+QM (x / 2 ^ k))).2 (Nat.le_refl _);omega
def oq:∀ {S:List Nat},S.Pairwise (· < ·)->QM (code S)=Em S:=by
 intro S hS;have h1:QM (code S)<=Em S:=(RZ _ _).2 (Pl λi hi=>ek hS i hi);cases hl:S.getLast? with
 |none =>
  have:Em S=0:=by simp[Em,hl]
  omega
 |some k =>
  have e:Em S=k+1:=by simp[Em,hl]
  have hk:k∈S:=List.mem_of_getLast? hl;rcases Nat.lt_or_ge k (QM (code S)) with h|h
  ·omega
  ·have h2:=(RZ _ _).1 h;have h3:=EP S k;rw[Nat.testBit_lt_two_pow h2]at h3;simp[hk]at h3
theorem AfI(x:Nat):(x:Int).fdiv (2 ^ min 32 64)=((x / 4294967296:Nat):Int):=Jf x 32 4294967296 rfl
theorem AfH(x:Nat):(x:Int).fdiv (2 ^ min 16 64)=((x / 65536:Nat):Int):=Jf x 16 65536 rfl
theorem AiA(x:Nat):(x:Int).fdiv (2 ^ min 8 64)=((x / 256:Nat):Int):=Jf x 8 256 rfl
def UG{n:Nat}(h:n<256):IntKind.u8.wrap (n:Int)=(n:Int):=by rw[IntKind.wrap_u8];omega
def Lx{d:Option Nat}{K:St->Prop}{T:ByteArray}{st:St}{y:Nat}(hy:y<256)(hT:(List.range 256).all (λk=>T[k]?.map (λc=>c.toNat)==some (QM k))=true)(h:HX d K (some (.v (.int .u8 (QM y)))) st):HX d K (Option.map (λc=>AV.v (.int .u8 (c.toNat:Int))) T[(y:Int).toNat]?) st:=by
 have h1:=List.all_eq_true.1 hT y (List.mem_range.2 hy);simp only[beq_iff_eq]at h1;rw[Int.toNat_natCast];cases hc:T[y]? with
 |none=>rw[hc]at h1;cases h1
 |some c =>
  rw[hc]at h1;simp only[Option.map_some,Option.some.injEq]at h1;rw[<- h1]at h;exact h
def Aaz(x:Nat)(hx:x<18446744073709551616):Ad C0 51 [U x] [] (I (QM x)) []:=by
 have hb:QM x<=64:=(RZ x 64).2 (by simpa using hx);refine Ad.go f51 ?_;unfold f51;simp(disch:=omega)only[go_sem,AfI,AfH,AiA];refine⟨λh1=>?_,λh1=>?_⟩
 ·have e1:=HE (k:=32) (j:=4294967296) (x:=x) (by decide) (by simp at h1;omega);refine⟨λh2=>?_,λh2=>?_⟩
  ·have e2:=HE (k:=16) (j:=65536) (x:=x / 4294967296) (by decide) (by simp at h2;omega);refine⟨λh3=>?_,λh3=>?_⟩
   ·have e3:=HE (k:=8) (j:=256) (x:=x / 4294967296 / 65536) (by decide) (by simp at h3;omega);have k1:x / 4294967296 / 65536 / 256<256:=by omega
    rw[UG k1];refine Lx k1 (by kernel_rfl) ?_;refine gO ?_;refine Al _ ?_;exact .int (by omega)
   ·have k1:x / 4294967296 / 65536<256:=by simp at h3;omega
    rw[UG k1];refine Lx k1 (by kernel_rfl) ?_;refine gO ?_;refine Al _ ?_;exact .int (by omega)
  ·refine⟨λh3=>?_,λh3=>?_⟩
   ·have e3:=HE (k:=8) (j:=256) (x:=x / 4294967296) (by decide) (by simp at h3;omega);have k1:x / 4294967296 / 256<256:=by simp at h2;omega
    rw[UG k1];refine Lx k1 (by kernel_rfl) ?_;refine gO ?_;refine Al _ ?_;exact .int (by omega)
   ·have k1:x / 4294967296<256:=by simp at h3;omega
    rw[UG k1];refine Lx k1 (by kernel_rfl) ?_;refine gO ?_;refine Al _ ?_;exact .int (by omega)
 ·refine⟨λh2=>?_,λh2=>?_⟩
  ·have e2:=HE (k:=16) (j:=65536) (x:=x) (by decide) (by simp at h2;omega);refine⟨λh3=>?_,λh3=>?_⟩
   ·have e3:=HE (k:=8) (j:=256) (x:=x / 65536) (by decide) (by simp at h3;omega);have k1:x / 65536 / 256<256:=by simp at h1;omega
    rw[UG k1];refine Lx k1 (by kernel_rfl) ?_;refine gO ?_;refine Al _ ?_;exact .int (by omega)
   ·have k1:x / 65536<256:=by simp at h3;omega
    rw[UG k1];refine Lx k1 (by kernel_rfl) ?_;refine gO ?_;refine Al _ ?_;exact .int (by omega)
  ·refine⟨λh3=>?_,λh3=>?_⟩
   ·have e3:=HE (k:=8) (j:=256) (x:=x) (by decide) (by simp at h3;omega);have k1:x / 256<256:=by simp at h2;omega
    rw[UG k1];refine Lx k1 (by kernel_rfl) ?_;refine gO ?_;refine Al _ ?_;exact .int (by omega)
   ·have k1:x<256:=by simp at h3;omega
    rw[UG k1];refine Lx k1 (by kernel_rfl) ?_;refine gO ?_;refine Al _ ?_;exact .int (by omega)
end Go.Rd
namespace Go.Abs
def LS(b:Nat->Bool)(i:Nat):Nat->Bool:=λj=>b j||decide (j=i)
def dp(b:Nat->Bool):List Nat->Nat->Bool
 |[]=>b
 | n::ns=>λj=>if j=n then false else dp b ns j
def OA(b:Nat->Bool):List Nat->List Nat->Nat->Bool
 |[],ns=>dp b ns
 | p::ps,ns=>λj=>if j=p then true else OA b ps ns j
def clos(ops:Array Oper)(b:Nat->Bool):Prop:=∀ j,j<ops.size->b j=true->∀ e∈BL ops j,b e=true
def zl(ops:Array Oper):Bool:=(List.range ops.size).all λi=>(BL ops i).all λe=>decide (e<i)
def ao(ops:Array Oper)(i:Nat):List Nat->List Nat->Bool
 |_,[]=>true
 | seen,p::ps=>((BL ops i).contains p||seen.any λq=>decide (q<ops.size)&&(BL ops q).contains p)&&ao ops i (p::seen) ps
def an(ops:Array Oper)(i:Nat):List Nat->List Nat->Bool
 |_,[]=>true
 | seen,n::ns=>decide (n<ops.size)&&((BL ops n).contains i||seen.any λq=>(BL ops n).contains q)&&an ops i (n::seen) ns
def okE(ops:Array Oper)(E:List (Nat × List Nat × List Nat)):Bool:=zl ops&&(E.map (·.1)==List.range ops.size)&&E.all λe=>ao ops e.1 [] e.2.1&&an ops e.1 [] e.2.2
def Pf(X:Env)(ops:Array Oper)(S:(Nat->Bool)->St)(b:Nat->Bool):List (Nat × List Nat × List Nat)->Prop
 |[]=>True
 |(i,ps,ns)::l=>Bw X ops (N3 ops i) (λst'=>AT X st' (S (LS (OA b ps (i::ns)) i))) (S (OA b ps (i::ns)))/\Pf X ops S b l
section
variable {X:Env} {A:A0} {N:Nat} {ops:Array Oper}
def lA{b:Nat->Bool}:∀ {ns:List Nat},(∀ n∈ns,b n=false)->dp b ns=b
 |[],_=>rfl
 | n::ns,hn=>by
  funext j;simp only[dp];split
  ·rename_i h;subst h;exact(hn j (by simp)).symm
  ·rw[lA λm hm=>hn m (by simp[hm])]
theorem aY{b:Nat->Bool}:∀ {ps ns:List Nat},(∀ p∈ps,b p=true)->(∀ n∈ns,b n=false)->OA b ps ns=b
 |[],ns,_,hn=>lA hn
 | p::ps,ns,hp,hn=>by
  funext j;simp only[OA];split
  ·rename_i h;subst h;exact(hp j (by simp)).symm
  ·rw[aY (λm hm=>hp m (by simp[hm])) hn]
def TS{b:Nat->Bool}(hc:clos ops b){i:Nat}(hi:∀ e∈BL ops i,b e=true):∀ (ps seen:List Nat),(∀ q∈seen,b q=true)->ao ops i seen ps=true->∀ p∈ps,b p=true
 |[],_,_,_,p,hp=>by grind
 | p::ps,seen,hs,h,p',gq=>by
  simp[ao]at h;have h1:b p=true:=by
   rcases h.1 with h1|⟨q,hq,h2,h3⟩
   ·grind
   ·exact hc q h2 (hs q hq) p h3
  rcases List.mem_cons.1 gq with rfl|gq
  ·omega
  ·exact TS hc hi ps (p::seen) (λq hq=>by grind) h.2 p' gq
theorem TR{b:Nat->Bool}(hc:clos ops b){i:Nat}(hi:b i=false):∀ (ns seen:List Nat),(∀ q∈seen,b q=false)->an ops i seen ns=true->∀ n∈ns,b n=false
 |[],_,_,_,p,hp=>by grind
 | n::ns,seen,hs,h,n',iH=>by
  simp[an]at h;have h1:b n=false:=by
   cases hb:b n with
   | false=>rfl
   | true =>
    rcases h.1.2 with h2|⟨q,hq,h2⟩
    ·have:=hc n h.1.1 hb i h2;grind
    ·have:=hc n h.1.1 hb q h2;grind
  rcases List.mem_cons.1 iH with rfl|iH
  ·omega
  ·exact TR hc hi ns (n::seen) (λq hq=>by grind) h.2 n' iH
def fM{S:(Nat->Bool)->St}{b:Nat->Bool}{e:Nat × List Nat × List Nat}:∀ {E:List (Nat × List Nat × List Nat)},Pf X ops S b E->e∈E->Bw X ops (N3 ops e.1) (λst'=>AT X st' (S (LS (OA b e.2.1 (e.1::e.2.2)) e.1))) (S (OA b e.2.1 (e.1::e.2.2)))
 |[],_,h=>by cases h
 |(i,ps,ns)::l,h,hm=>by
  simp[Pf]at h;rcases List.mem_cons.1 hm with rfl|hm
  ·grind
  ·exact fM h.2 hm
def pk(hA:A.ext=X.ext)(hX:∀ s∈X.ext,s%32=31)(hN:gy N ops){Q:Exit->Act->World->Prop}{K:St->Prop}(hQ:∀ g st a w,R X.C A N g st a w->K st->Q .normal a w)
 {E:List (Nat × List Nat × List Nat)} {S:(Nat->Bool)->St} (CC:okE ops E=true) (hs:∀ b,Pf X ops S b E) (he:∀ b,(∀ j,j<ops.size->b j=true)->K (S b)) :
 ∀ (fuel:Nat) (b:Nat->Bool) (Af:Array Bool) (g:Gh) (a:Act) (w:World),Af.size=ops.size->XU Af<=fuel->(∀ j,j<ops.size->ES Af j=b j)->clos ops b->R X.C A N g (S b) a w ->
  wpAny X.C.P .any ops Q fuel Af a w:=by
 simp only[okE,Bool.and_eq_true,List.all_eq_true,beq_iff_eq]at CC;obtain⟨⟨bk,hE⟩,hch⟩:=CC;simp[zl]at bk
 -- nothing ready: all is done
 have all:∀ (b:Nat->Bool) (Af:Array Bool),Af.size=ops.size->(∀ j,j<ops.size->ES Af j=b j)->Region.ready .any ops Af=[]->∀ j,j<ops.size->b j=true:=by
  intro b Af Hb hd h0 j
  induction j using Nat.strongRecOn with
  |_ j ih =>
   intro hj;cases hb:b j with
   | true=>rfl
   | false =>
    have Ha:j∈Region.ready .any ops Af:=(Cj Hb).2 ⟨hj,by grind,λe hee=>by grind⟩;grind
 intro fuel
 induction fuel with
 | zero =>
  intro b Af g a w Hb hu hd RN hR;have h0:Region.ready .any ops Af=[]:=by
   cases hrd:Region.ready .any ops Af with
   | nil=>rfl
   | cons j l' =>
    have hj:j∈Region.ready .any ops Af:=by grind
    grind[Cj,Iv]
  exact⟨h0,hQ g _ a w hR (he b (all b Af Hb hd h0))⟩
 | succ fuel ih =>
  intro b Af g a w Hb hu hd RN hR;refine⟨λh0=>hQ g _ a w hR (he b (all b Af Hb hd h0)),λj hj=>?_⟩;obtain⟨k1,k2,k3⟩:=(Cj Hb).1 hj;have hnb:b j=false:=by grind
  have Abz:∀ e∈BL ops j,b e=true:=λe hee=>by grind
  obtain⟨e,heE,rfl⟩:∃ e,e∈E/\e.1=j:=by
   have:j∈E.map (·.1):=by grind
   grind
  have hc:=hch e heE;have bp:=fM (hs b) heE;rw[aY (TS RN Abz _ [] (λ_ h=>by cases h) hc.1) (λn hn=>by
   rcases List.mem_cons.1 hn with rfl|hn
   ·omega
   grind[TR])]at bp
  have ho:ops[e.1]?=some ops[e.1]:=Array.getElem?_eq_getElem k1;simp[N3,ho,Bw]at bp;refine OZ hA hX ho (λg' st' a' w' WC um=>?_) (hN.1 _ (Array.getElem_mem k1)) bp hR;obtain⟨g2,hR2⟩:=um A N g' a' w' hA WC;refine ih (LS b e.1) _ g2 a' w' (by grind) (by grind[Jh]) (λj' hj'=>?_) (λj' hj' N8 e' nT=>?_) hR2
  ·rw[Ff (by omega)];grind[Jk,LS]
  ·simp[LS]at N8 ⊢;rcases N8 with N8|rfl
   ·exact .inl (RN j' hj' N8 e' nT)
   grind
end
def qC{X:Env}{ops:Array Oper}{K:St->Prop}{st:St}(E:List (Nat × List Nat × List Nat))(S:(Nat->Bool)->St)(h0:AT X st (S λ_=>false))(hs:∀ b,Pf X ops S b E)(he:∀ b,K (S (OA b (List.range ops.size) [])))(hm:X.C.P.follows .mixedOrders=true)
 (CC:(J7 ops&&okE ops E)=true:=by kernel_rfl):Lj X ops K st:=by
 refine Ep h0 ?_;intro A N g a w hA hN hX hR id Q hQ;simp at CC;refine wp_region_any hm ?_;refine pk hA hX (N:=N) (K:=K) ⟨λo ho=>?_,λi hi e he=>?_⟩ hQ CC.2 hs (λb hb=>?_) ops.size (λ_=>false) (Array.replicate ops.size false) g a _ (by simp) (by simp[XU]) (λj hj=>by simp[ES,Array.getD,hj]) (λ_ _ h=>by cases h) hR.drew
 ·grind[KS]
 ·have:=CC.1;simp[J7]at this;grind
 ·have:=he b;grind[aY]
def selb(b:Nat->Bool):List (Nat × Nat × AV × List Nat)->List (Nat × AV)->List (Nat × AV)
 |[],base=>base
 |(i,t,x,ks)::l,base=>if b i then (t,if ks.any b then .undef else x)::selb b l base else selb b l base
def AV.kills:List (List Nat × List Nat)->AV->AV
 |[],x=>x
 |(r,m)::K,x=>AV.kills K (x.kill r m)
def LH:List (List Nat × List Nat)->List (Nat × AV)->List (Nat × AV)
 |[],l=>l
 |(r,m)::K,l=>LH K (ON r m l)
theorem Mj:∀ (K:List (List Nat × List Nat)) (k:Nat) (l:List (Nat × AV)),lk k (LH K l)=(lk k l).map (AV.kills K)
 |[],k,l=>by simp[LH];cases lk k l<;>rfl
 |(r,m)::K,k,l=>by
  simp only[LH,Mj K,WY];cases lk k l<;>rfl
@[go_sem] theorem xC(k:Nat)(b:Nat->Bool)(j t:Nat)(x:AV)(ks:List Nat)(l:List (Nat × Nat × AV × List Nat))(base:List (Nat × AV)):lk k (selb b ((j,t,x,ks)::l) base)=if t=k then (if b j then some (if ks.any b then .undef else x) else lk k (selb b l base)) else lk k (selb b l base):=by grind[selb,lk]
@[go_sem] theorem zk(k:Nat)(b:Nat->Bool)(base:List (Nat × AV)):lk k (selb b [] base)=lk k base:=rfl
@[go_sem] theorem AcK(b:Nat->Bool)(p:Nat)(ps ns:List Nat)(j:Nat):OA b (p::ps) ns j=if j=p then true else OA b ps ns j:=rfl
@[go_sem] theorem Aei(b:Nat->Bool)(ns:List Nat)(j:Nat):OA b [] ns j=dp b ns j:=rfl
@[go_sem] theorem AcL(b:Nat->Bool)(n:Nat)(ns:List Nat)(j:Nat):dp b (n::ns) j=if j=n then false else dp b ns j:=rfl
@[go_sem] theorem Aej(b:Nat->Bool)(j:Nat):dp b [] j=b j:=rfl
@[go_sem] theorem AdP{α:Type}(p:α->Bool):([]:List α).any p=false:=rfl
@[go_sem] theorem AcD{α:Type}(p:α->Bool)(a:α)(l:List α):(a::l).any p=(p a||l.any p):=rfl
attribute [go_sem] Pf
def fG(b:Nat->Bool)(i d:Nat)(y:AV)(K:List (List Nat × List Nat)):List (Nat × Nat × AV × List Nat)->Prop
 |[]=>True
 |(j,t,x,ks)::l=>(if j=i then t=d/\ks.any (LS b i)=false/\Ci y x else t≠d/\(b j=false\/i∈ks\/AV.kills K x=x))/\fG b i d y K l
def cR(K:List (List Nat × List Nat))(S:List (Nat × AV))(d:Nat)(y:AV):List (Nat × AV)->Prop
 |[]=>True
 |(k,x)::l=>(if d=k then Ci y x else ∃ z,lk k S=some z/\Ci (AV.kills K z) x)/\cR K S d y l
def ZP{b:Nat->Bool}{i d:Nat}{y:AV}{K:List (List Nat × List Nat)}{e:Nat × Nat × AV × List Nat}:∀ {l:List (Nat × Nat × AV × List Nat)},fG b i d y K l->e∈l->if e.1=i then e.2.1=d/\e.2.2.2.any (LS b i)=false/\Ci y e.2.2.1 else e.2.1≠d/\(b e.1=false\/i∈e.2.2.2\/AV.kills K e.2.2.1=e.2.2.1)
 |[],_,h=>by cases h
 |(j,t,x,ks)::l,h,hm=>by
  simp only[fG]at h;rcases List.mem_cons.1 hm with rfl|hm
  ·grind
  ·exact ZP h.2 hm
def bV{b:Nat->Bool}{base:List (Nat × AV)}{e:Nat × Nat × AV × List Nat}:∀ {l:List (Nat × Nat × AV × List Nat)},(l.map (·.2.1)).Nodup->e∈l->b e.1=true->lk e.2.1 (selb b l base)=some (if e.2.2.2.any b then .undef else e.2.2.1)
 |[],_,h,_=>by cases h
 |(j,t,x,ks)::l,hn,hm,hb=>by
  rw[xC];rw[List.map_cons,List.nodup_cons]at hn;rcases List.mem_cons.1 hm with rfl|hm
  ·simp[hb]
  ·have:t≠e.2.1:=λh=>hn.1 (List.mem_map.2 ⟨e,hm,h.symm⟩)
   rw[if_neg this];exact bV hn.2 hm hb
def Av{X:Env}{b:Nat->Bool}{i d:Nat}{y:AV}{IA:List (Nat × Nat × AV × List Nat)}{base VO:List (Nat × AV)}{o o':List (Nat × List AV)}{T:List (Nat × AV)}(K:List (List Nat × List Nat))(hT:T=LH K (selb b IA base))(hn:decide (IA.map (·.2.1)).Nodup=true)(GR:fG b i d y K IA)(hb:cR K (selb b IA base) d y VO)
 (ho:HI ⟨(d,y)::T,o⟩ o'):AT X ⟨(d,y)::T,o⟩ ⟨selb (LS b i) IA VO,o'⟩:=by
 subst hT;have hn:=of_decide_eq_true hn;refine AT.Aq ?_ ho;have rB:∀ {bs:List (Nat × AV)},cR K (selb b IA base) d y bs->IB ⟨(d,y)::LH K (selb b IA base),o⟩ bs:=by
  intro bs
  induction bs with
  | nil=>intro _;trivial
  | cons p bs ih =>
   obtain⟨k,x⟩:=p;intro h;simp[cR]at h;refine⟨?_,ih h.2⟩
   by_cases hk:d=k
   ·simp_all[lk]
   ·rw[if_neg hk]at h;obtain⟨⟨z,h3,h4⟩,_⟩:=h;simp_all[lk,Mj]
 suffices H:∀ l:List (Nat × Nat × AV × List Nat),(∀ e∈l,e∈IA)->IB ⟨(d,y)::LH K (selb b IA base),o⟩ (selb (LS b i) l VO) from H IA λ_ h=>h
 intro l
 induction l with
 | nil=>intro _;exact rB hb
 | cons e l ih =>
  intro hl;have hm:=hl e (by simp);have h1:=ZP GR hm;have h2:=ih λe' nT=>hl e' (by grind)
  obtain⟨j,t,x,ks⟩:=e;simp only[selb];split
  ·rename_i hj;refine⟨?_,h2⟩;simp only at h1
   by_cases gh:j=i
   ·rw[if_pos gh]at h1;obtain⟨rfl,h3,h4⟩:=h1;exact⟨y,by simp[lk],by grind⟩
   ·rw[if_neg gh]at h1;have Qn:b j=true:=by grind[LS]
    have yX:=bV (base:=base) hn hm Qn;simp only at yX;refine⟨AV.kills K (if ks.any b=true then .undef else x),by simp_all[lk,Ne.symm,Mj],?_⟩
    by_cases hk:ks.any (LS b i)=true
    ·rw[if_pos hk];exact .undef
    ·have XS:¬ ks.any b=true:=λh=>by
      grind[LS]
     rw[if_neg hk,if_neg XS];rcases h1.2 with h3|h3|h3
     ·grind
     ·grind[LS]
     ·rw[h3];exact .rfl
  omega
attribute [go_sem] fG cR AV.kills Bool.or_self Bool.or_false Bool.false_or ne_eq not_false_eq_true List.all_cons List.all_nil List.mem_cons List.not_mem_nil Bool.and_self or_false false_or or_true true_or
def fH(b:Nat->Bool)(i:Nat)(K:List (List Nat × List Nat)):List (Nat × Nat × AV × List Nat)->Prop
 |[]=>True
 |(j,_,x,ks)::l=>(j≠i/\(b j=false\/i∈ks\/AV.kills K x=x))/\fH b i K l
def cS(K:List (List Nat × List Nat))(S:List (Nat × AV)):List (Nat × AV)->Prop
 |[]=>True
 |(k,x)::l=>(∃ z,lk k S=some z/\Ci (AV.kills K z) x)/\cS K S l
def ZQ{b:Nat->Bool}{i:Nat}{K:List (List Nat × List Nat)}{e:Nat × Nat × AV × List Nat}:∀ {l:List (Nat × Nat × AV × List Nat)},fH b i K l->e∈l->e.1≠i/\(b e.1=false\/i∈e.2.2.2\/AV.kills K e.2.2.1=e.2.2.1)
 |[],_,h=>by cases h
 |(j,t,x,ks)::l,h,hm=>by
  simp only[fH]at h;rcases List.mem_cons.1 hm with rfl|hm
  ·grind
  ·exact ZQ h.2 hm
def Bz{X:Env}{b:Nat->Bool}{i:Nat}{IA:List (Nat × Nat × AV × List Nat)}{base VO:List (Nat × AV)}{o o':List (Nat × List AV)}{T:List (Nat × AV)}(K:List (List Nat × List Nat))(hT:T=LH K (selb b IA base))(hn:decide (IA.map (·.2.1)).Nodup=true)(GR:fH b i K IA)(hb:cS K (selb b IA base) VO)
 (ho:HI ⟨T,o⟩ o'):AT X ⟨T,o⟩ ⟨selb (LS b i) IA VO,o'⟩:=by
 subst hT;have hn:=of_decide_eq_true hn;refine AT.Aq ?_ ho;have rB:∀ {bs:List (Nat × AV)},cS K (selb b IA base) bs->IB ⟨LH K (selb b IA base),o⟩ bs:=by
  intro bs
  induction bs with
  | nil=>intro _;trivial
  | cons p bs ih =>
   obtain⟨k,x⟩:=p;intro h;simp[cS]at h;obtain⟨⟨z,h3,h4⟩,h5⟩:=h;exact⟨⟨AV.kills K z,by grind[Mj],h4⟩,ih h5⟩
 suffices H:∀ l:List (Nat × Nat × AV × List Nat),(∀ e∈l,e∈IA)->IB ⟨LH K (selb b IA base),o⟩ (selb (LS b i) l VO) from H IA λ_ h=>h
 intro l
 induction l with
 | nil=>intro _;exact rB hb
 | cons e l ih =>
  intro hl;have hm:=hl e (by simp);have h1:=ZQ GR hm;have h2:=ih λe' nT=>hl e' (by simp[nT])
  obtain⟨j,t,x,ks⟩:=e;simp only[selb];split
  ·rename_i hj;refine⟨?_,h2⟩;simp only at h1;have Qn:b j=true:=by grind[LS]
   have yX:=bV (base:=base) hn hm Qn;simp only at yX;refine⟨AV.kills K (if ks.any b=true then .undef else x),by grind[Mj],?_⟩
   by_cases hk:ks.any (LS b i)=true
   ·rw[if_pos hk];exact .undef
   ·have XS:¬ ks.any b=true:=λh=>by
     grind[LS]
    rw[if_neg hk,if_neg XS];rcases h1.2 with h3|h3|h3
    ·grind
    ·grind[LS]
    ·rw[h3];exact .rfl
  omega
attribute [go_sem] fH cS
theorem XF(base:List (Nat × AV)):∀ l,selb (λ_=>false) l base=base
 |[]=>rfl
 |(i,t,x,ks)::l=>by simp only[selb,Bool.false_eq_true,if_false,XF base l]
@[go_sem] theorem sr(l:List (Nat × AV)):l.map (λp=>(p.1,p.2.Cz (AV.C7 [])))=l:=by
 induction l with
 | nil=>rfl
 | cons p l ih=>rw[List.map_cons,ih];exact congrArg (λx=>(p.1,x)::l) (KL p.2)
def dv:List (Nat × Nat × AV × List Nat)->List (Nat × AV)->List (Nat × AV)
 |[],base=>base
 |(_,t,x,ks)::l,base=>(t,if ks.isEmpty then x else .undef)::dv l base
def ZI{b:Nat->Bool}{n:Nat}(hb:∀ j,j<n->b j=true)(base:List (Nat × AV)):∀ l:List (Nat × Nat × AV × List Nat),(l.all λe=>decide (e.1<n)&&e.2.2.2.all λk=>decide (k<n))=true->selb b l base=dv l base
 |[],_=>rfl
 |(i,t,x,ks)::l,h=>by
  simp only[List.all_cons,Bool.and_eq_true,decide_eq_true_eq]at h;simp only[selb,hb i h.1.1,if_true,dv,ZI hb base l h.2];cases ks<;>grind
@[go_sem] theorem AdK(b:Nat->Bool)(i j:Nat):LS b i j=(b j||decide (j=i)):=rfl
theorem F5{X:Env}{ops:Array Oper}{K:St->Prop}{st:St}(E:List (Nat × List Nat × List Nat))(F:List Nat)(IA:List (Nat × Nat × AV × List Nat))(base:(Nat->Bool)->List (Nat × AV))(o:(Nat->Bool)->List (Nat × List AV))(h0:AT X st ⟨base λ_=>false,o λ_=>false⟩)(hs:∀ b,Pf X ops (λb=>⟨selb b IA (base b),o b⟩) b E)(he:∀ b,K ⟨dv IA (base (OA b F [])),o (OA b F [])⟩)(hm:X.C.P.follows .mixedOrders=true)
 (CC:(J7 ops&&okE ops E&&F==List.range ops.size)=true:=by kernel_rfl) (AP:(IA.all λe=>decide (e.1<ops.size)&&e.2.2.2.all λk=>decide (k<ops.size))=true:=by rfl):Lj X ops K st:=by
 rw[Bool.and_eq_true,beq_iff_eq]at CC;refine qC E (λb=>⟨selb b IA (base b),o b⟩) (by grind[XF]) hs (λb=>?_) hm CC.1;have Ka:∀ (l:List Nat) (j:Nat),j∈l->OA b l [] j=true:=by
  intro l
  induction l<;>grind[OA]
 show K ⟨selb _ IA (base (OA b (List.range ops.size) [])),o (OA b (List.range ops.size) [])⟩;rw[ZI (n:=ops.size) (λj hj=>Ka _ j (List.mem_range.2 hj)) _ IA AP,<- CC.2];grind
attribute [go_sem] dv List.isEmpty_nil List.isEmpty_cons
end Go.Abs
namespace Go.Abs
open Go Go.ChangeShapes Go.WideShapes Go.RowKit
def D8(P:Program)(N:Nat)(t:TypeId){α:Type}(e:α->List AV):Prop :=
 ∀ (H:Type) (enc:TypeId × Value->H) (w:World) (fuel:Nat) (cs:List Value) (x:DataW H × List MemPlace),fuel<=N->DataW.trod enc P w 0 (λ_=>true) true fuel t cs=some x ->
  ∃ a,CR (λb=>b<w.heap.size) w (e a) cs
def pO(P:Program)(N b:Nat)(fs:List Field){α:Type}(e:α->List AV):Prop :=
 ∀ (H:Type) (enc:TypeId × Value->H) (w:World) (n:Nat) (cs:List Value) (ys:List (DataW H × List MemPlace)),n<=N->cs.length=b+(fs.map λf=>P.cellsOf f.type).sum->ys.length=fs.length ->
  (∀ (i:Nat) (f:Field),fs[i]?=some f->DataW.trod enc P w 0 (λ_=>true) true n f.type ((cs.drop f.offset).take (P.cellsOf f.type))=ys[i]?) ->
  ∃ a,CR (λb=>b<w.heap.size) w (e a) (cs.drop b)
variable {P:Program} {t:TypeId}
theorem D8.mono{N M:Nat}{α:Type}{e:α->List AV}(h:D8 P N t e)(hm:M<=N):D8 P M t e:=λH enc w fuel cs x hf hx=>h H enc w fuel cs x (Nat.le_trans hf hm) hx
def yt.toN{α:Type}{e:α->List AV}{m:α->Nat}{Q:α->Prop}(h:yt P t e m Q)(N:Nat):D8 P N t e:=λH enc w fuel cs x _ hx=>by
 obtain⟨a,_,_,h3⟩:=h H enc w fuel cs x hx;grind
def D8.zG{α:Type}{e:α->List AV}(h:∀ N,D8 P N t e):yt P t e (λ_=>0) (λ_=>True):=λH enc w fuel cs x hx=>by
 obtain⟨a,h3⟩:=h fuel H enc w fuel cs x (Nat.le_refl _) hx;grind
def D8.map{N:Nat}{α β:Type}{e:α->List AV}{e':β->List AV}(h:D8 P N t e)(hf:∀ a,∃ b,e' b=e a):D8 P N t e':=λH enc w fuel cs x hn hx=>by
 obtain⟨a,q⟩:=h H enc w fuel cs x hn hx;obtain⟨b,hb⟩:=hf a;grind
def nc{α:Type}{e:α->List AV}:D8 P 0 t e:=λH enc w fuel cs x hn hx=>by simp_all[DataW.trod]
def IQ{N:Nat}{el:TypeId}{α:Type}{e:α->List AV}{n:Nat}(he:D8 P N el e)(ht:P.underlying t=some (.slice el))(hc:P.cellsOf el=n)(hn:0<n) :
 D8 P (N+1) t (λxs:List α=>[.sl .no n (xs.map e)]):=by
 intro H enc w fuel cs x hf h;rcases DataW.trod_slice ht h with ⟨rfl,rfl⟩|⟨a,len,cap,elems,rest,k,rfl,rfl,rfl,_,hl,hm,hlen,nW,_,_⟩
 ·refine⟨[],?_,trivial⟩;simp only[List.map_nil,PR];grind
 ·subst hlen;obtain⟨xs,hxl,zg⟩:=pick (α:=α) (q:=λ_ _=>True) (R:=λi x y=>∃ cs,w.cells? 0 (a.add (i*n)) n=some cs/\CR (λb=>b<w.heap.size) w (e x) cs) elems.length elems rfl (by
   intro i y hy;have hi:i<elems.length:=by grind
   have:=nW i hi;rw[hy,hc,Option.bind_eq_some_iff]at this;obtain⟨cs,h1,h2⟩:=this;obtain⟨x,q3⟩:=he H enc w k cs y (by omega) h2;grind)
  have S5:∀ i x,xs[i]?=some x->∃ y,elems[i]?=some y:=λi x hx=>by
   have:i<elems.length:=by
    rcases Nat.lt_or_ge i xs.length with h|h
    ·omega
    ·rw[List.getElem?_eq_none h]at hx;grind
   exact⟨_,List.getElem?_eq_getElem this⟩
  refine⟨xs,?_,trivial⟩;simp only[PR];refine⟨by simp,some a,cap,by grind,by grind,hm,by simp,hn,?_⟩;cases xs with
  | nil=>grind
  | cons x xs =>
   refine Or.inr ⟨a,rfl,?_,Ny λi x hx=>?_⟩
   ·obtain⟨y,hy⟩:=S5 0 x rfl;obtain⟨cs,h1,_⟩:=zg 0 x y rfl hy;obtain⟨_,hl,Ue⟩:=World.cells?_some h1;have h0:=Ue 0 hn;simp_all[Addr.add,GM]
   grind
def qo{N b:Nat}:pO P N b [] (λ_:Unit=>[]):=by
 intro H enc w n cs ys _ hl _ _;have:cs.drop b=[]:=List.drop_eq_nil_of_le (by grind);rw[this];exact⟨(),trivial⟩
def nb{N b:Nat}{f:Field}{fs:List Field}{α β:Type}{e:α->List AV}{e':β->List AV}(h:D8 P N f.type e)(hb:f.offset=b)(hs:pO P N (b+P.cellsOf f.type) fs e') :
 pO P N b (f::fs) (λx:α × β=>e x.1++e' x.2):=by
 intro H enc w n cs ys hn hl hy Su;cases ys with
 | nil=>grind
 | cons y ys =>
  have h0:=Su 0 f rfl;rw[hb]at h0;obtain⟨a,ha⟩:=h H enc w n _ y hn h0;obtain⟨c,hc⟩:=hs H enc w n cs ys hn (by grind) (by grind) λi g hg=>by simpa using Su (i+1) g (by grind)
  refine⟨(a,c),?_⟩;grind[CR.append,List.drop_drop,List.take_append_drop]
def cX{N:Nat}{fs:Array Field}{α:Type}{e:α->List AV}(ht:P.underlying t=some (.struct fs))(hc:P.cellsOf t=(fs.toList.map λf=>P.cellsOf f.type).sum)(h:pO P N 0 fs.toList e):D8 P (N+1) t e:=by
 intro H enc w fuel cs x hf hx;obtain⟨xs,n,rfl,rfl,hl,hlen,Su⟩:=DataW.trod_struct ht hx;obtain⟨a,ha⟩:=h H enc w n cs xs (by omega) (by omega) (by omega) λi f gA=>Su i f (by grind)
 grind
def flds(P:Program)(t:TypeId):Option (List (TypeId × Nat)):=match P.underlying t with
 |some (.struct fs)=>some (fs.toList.map λf=>(f.type,f.offset))
 |_=>none
def uO(P:Program)(N b:Nat)(l:List (TypeId × Nat)){α:Type}(e:α->List AV):Prop:=∀ fs:List Field,(fs.map λf=>(f.type,f.offset))=l->pO P N b fs e
def Gz{N b:Nat}:uO P N b [] (λ_:Unit=>[]):=λfs h=>by simp_all[qo]
def Bm{N b sz:Nat}{ty:TypeId}{l:List (TypeId × Nat)}{α β:Type}{e:α->List AV}{e':β->List AV}(h:D8 P N ty e)(hz:P.cellsOf ty=sz)(hs:uO P N (b+sz) l e') :
 uO P N b ((ty,b)::l) (λx:α × β=>e x.1++e' x.2):=λfs Su=>by
 cases fs with
 | nil=>grind
 | cons f fs =>
  simp at Su;obtain⟨⟨h1,h2⟩,h3⟩:=Su;subst h1;exact nb h h2 (by rw[hz];exact hs fs h3)
def KC{N:Nat}{l:List (TypeId × Nat)}{α:Type}{e:α->List AV}(ht:flds P t=some l)(hc:P.cellsOf t=(l.map λx=>P.cellsOf x.1).sum)(h:uO P N 0 l e):D8 P (N+1) t e:=by
 unfold flds at ht;split at ht
 ·rename_i fs hu;simp at ht;refine cX hu ?_ (h fs.toList ht);rw[hc,<- ht,List.map_map];rfl
 grind
def AdT{l:List (TypeId × Nat)}{α:Type}{e:α->List AV}(he:∀ N,D8 P N t e)(ht:flds P t=some l):Arg P t (λa:α=>.agg (e a)) (λ_=>0) (λ_=>True):=by
 intro H enc w base v d ps hv hd;unfold flds at ht;split at ht
 ·rename_i fs hu;obtain⟨us,rfl,_⟩:=okWide_struct hu hv;obtain⟨fuel,hf⟩:=hd;obtain⟨a,hp⟩:=he fuel H enc w fuel _ _ (Nat.le_refl _) hf;refine⟨a,trivial,Nat.zero_le _,us,rfl,?_⟩;have gq:CR (CK (nJ w)) w (e a) us.toList:=by
   rw[WN];exact hp
  exact gq.Bf
 grind
theorem chunks{α:Type}(m:Nat):∀ (rows:List (List α)) (cs:List α),cs.length=rows.length*m->(∀ i r,rows[i]?=some r->(cs.drop (i*m)).take m=r)->cs=rows.flatten
 |[],cs,hl,_=>List.eq_nil_of_length_eq_zero (by grind)
 | r::rows,cs,hl,h=>by
  have h0:=h 0 r rfl;have:=chunks m rows (cs.drop m) (by grind[Nat.add_mul]) λi r' hr=>by
   have:=h (i+1) r' (by grind);grind[List.drop_drop]
  simp at h0;grind[List.take_append_drop]
def VM{H:Type}{enc:TypeId × Value->H}{w:World}{fuel n:Nat}{sp:Nat->Bool}{held:Bool}{base:Nat}{e:TypeId}{cs:List Value}{ds:List (DataW H)}{p:List MemPlace}{f:List (List Value)}
 (ht:P.underlying t=some (.array n e)) (RI:P.cellsOf t=n*P.cellsOf e) (h:DataW.trod enc P w base sp held fuel t cs=some (.agg ds,p)) (hl:ds.length=f.length)
 (hf:∀ (i:Nat) (d:DataW H) (c:List Value),ds[i]?=some d->f[i]?=some c->∀ fuel N7 p',DataW.trod enc P w base sp held fuel e N7=some (d,p')->N7=c):cs=f.flatten:=by
 obtain⟨xs,m,_,hx,RN,hxl,nW⟩:=DataW.trod_array ht h;have Vt:ds=xs.map (·.1):=by grind
 grind[chunks]
theorem gH{H:Type}{enc:TypeId × Value->H}{w:World}{fuel:Nat}{sp:Nat->Bool}{held:Bool}{base:Nat}{cs:List Value}{b:Bool}{p:List MemPlace}(ht:P.underlying t=some .bool)
 (h:DataW.trod enc P w base sp held fuel t cs=some (.lit (.bool b),p)):cs=[.bool b]:=by
 obtain⟨n,rfl,h2⟩:=DataW.trod_bool ht h;grind
def AfF{H:Type}(r:List Bool):DataW H:=.agg (r.map λb=>.lit (.bool b))
def Acu{H:Type}(rows:List (List Bool)):DataW H:=.agg (rows.map AfF)
def pn{H:Type}{enc:TypeId × Value->H}{w:World}{fuel n m:Nat}{sp:Nat->Bool}{held:Bool}{base:Nat}{e b:TypeId}{cs:List Value}{rows:List (List Bool)}{p:List MemPlace}
 (ht:P.underlying t=some (.array n e)) (he:P.underlying e=some (.array m b)) (hb:P.underlying b=some .bool) (h1:P.cellsOf b=1) (h2:P.cellsOf e=m) (h3:P.cellsOf t=n*m)
 (h:DataW.trod enc P w base sp held fuel t cs=some (Acu rows,p)):cs=rows.flatten.map Value.bool:=by
 have key:∀ r:List Bool,∀ fuel N7 p',DataW.trod enc P w base sp held fuel e N7=some (AfF r,p')->N7=r.map Value.bool:=λr fuel N7 p' h'=>by
  have:=VM (f:=r.map λb=>[Value.bool b]) he (by grind) h' (by simp) λi d c hd hc fuel N7 p' hx=>by grind[gH]
  rw[this];clear h'  this
  induction r<;>grind
 have:=VM (f:=rows.map λr=>r.map Value.bool) ht (by grind) h (by simp) λi d c hd hc fuel N7 p' hx=>by grind
 grind
theorem Nn{C:Ctx}{f:Nat}{fn:Func}{s:ChangeSpec}(hs:s.vars=[]){apart fresh handsOn again:Bool}{α:Type}{e:α->List AV}{m:α->Nat}{Q:α->Prop}{tb:TypeId}{ts:List TypeId}
 (hp:fn.params.toList=ts) (ha:Args C.P ts e m Q) (hl:laidOutB C.P=true) (hr:(ts.all λt=>C.P.readableRec t&&decide (t<C.P.types.size))=true) (N2:fn.resultTypes = #[tb]) (mc:C.P.underlying tb=some .bool)
 {H:Type} (enc:TypeId × Value->H) (W:World) (hG:Glob C (nJ W) W) (base:Nat) (args:Array Value) (ds gs:List (DataW H)) (before:List MemPlace)
 (hval:∀ (j:Nat) t v,fn.params[j]?=some t->args[j]?=some v->Value.okWide C.P W .any base t v)
 (hW:DataW.Whole enc C.P fn.params.toList s.vars apart W args.toList ds gs before)
 (hfn:∀ ds:List (DataW H),ds.length=ts.length->(s.fn H ds).results=[.lit (.bool true)]/\(s.fn H ds).args=ds/\(s.fn H ds).vars=[])
 (CC:∀ a,Q a->m a<=b9 ds->Ad C f (e a) [] (.v (.bool true)) []) :
 Calls C.P f args W λr W'=>∃ v,r=.returned v/\s.post enc C.P fn apart fresh handsOn again W args v W':=by
 replace hr:∀ t∈ts,C.P.readableRec t=true/\t<C.P.types.size:=by grind
 have hW':=hW;obtain⟨p,q,hA,hV,rfl,hfz,UO⟩:=hW;rw[hs]at hV;obtain⟨rfl,rfl⟩:=trodVars_none hV;rw[hp]at hA;obtain⟨a,q1,q2,q3⟩:=ha H enc W base args.toList ds p (λj t v hj hv=>hval j t v (by rw[<- Array.getElem?_toList,hp];exact hj) (by simpa using hv)) hA;have hlen:∀ {ts:List TypeId} {vs:List Value} {ds:List (DataW H)} {ps:List MemPlace},DataW.TrodAll enc C.P W 0 (λ_=>true) true ts vs ds ps->ds.length=ts.length:=by
  intro ts
  induction ts with
  | nil=>intro vs ds ps h;obtain⟨_,rfl,_⟩:=trodAll_nil h;rfl
  | cons t ts ih =>
   intro vs ds ps h;obtain⟨v,vs,d,ds,p,q,rfl,rfl,rfl,h1,h2⟩:=trodAll_cons h;grind
 obtain⟨hf1,yS,hf3⟩:=hfn ds (hlen hA);have key:=(CC a q1 q2).2 (nJ W) W args.toList hG q3 (λs cs h=>by cases h);rw[show args.toList.toArray=args by simp]at key;refine key.mono λr W' ⟨u,g',hr1,hF,hy,_⟩=>?_
 subst hr1;simp[VR]at hy;subst hy;have hb:Below W.heap.size W W':=⟨hF.os,hF.tape.1,hF.output,hF.size,λk hk=>(hF.FD k hk (Or.inl (by grind[nJ]))).1⟩;have AP:∀ x∈p++([]:List MemPlace),x.block<W.heap.size:=λx hx=>hW'.lt x hx
 refine⟨_,rfl,gB (pa:=p) (pv:=[]) hW' (λb sp hd=>?_) (λsp hsp=>?_) (λ_ _=>?_) rfl hb (ok_one N2 rfl (okWide_bool_mk mc _))⟩
 ·simp[hf1];rw[N2];exact trodAll_mk1 (shut_bool mc _)
 ·simp[yS];rw[hp];exact Qj hl hr hA (λx hx=>hb.same (AP x (by grind))) (λx hx=>hsp x (by grind))
 ·simp[hf3];rw[hs];rfl
end Go.Abs
open Go Go.Abs Go.Proofs
set_option maxRecDepth 100000
namespace Go.Rd
set_option maxHeartbeats 8000000
open List (length_map take_length)
open Tryz
structure Entry where
 name:Bs
 before:BR
 after:BR
structure Save where
 label:Int
 pos:Int
structure Ledger where
 entries:List Entry
 AA:List Save
structure ca where
 expr:Expr
 prio:Int
 CP:Int
structure Bu where
 proc:Ac
 cost:Int
 AB:Ledger
 waiting:Bool
 Bk:ca
 since:Int
 gen:Int
structure Hw where
 now:Int
 Aa:List Queue
 procs:List Bu
structure MS where
 kind:Int
 proc:Ac
 Bk:ca
 name:Bs
 n:Int
structure Ev where
 kind:Int
 proc:Ac
 name:Bs
 AH:BR
structure Ap where
 now:Int
 Aa:List Queue
 procs:List Bu
 D1:List Ev
def Entry.c(e:Entry):List AV:=[.v (.string (str e.name)),.v (.int .i64 e.before.mode),.v (.int .i64 e.before.AG),.v (.int .i64 e.after.mode),.v (.int .i64 e.after.AG)]
def Save.c(s:Save):List AV:=[.v (.int .i64 s.label),.v (.int .i64 s.pos)]
@[reducible] def Et(l:List Entry):AV:=.sl .no 5 (l.map Entry.c)
@[reducible] def NA(l:List Save):AV:=.sl .no 2 (l.map Save.c)
def Ledger.c(l:Ledger):List AV:=[Et l.entries,NA l.AA]
def ca.c(r:ca):List AV:=[.v (.int .i64 r.expr.k),.v (.string (str r.expr.atom.name)),.v (.int .i64 r.expr.atom.AH.mode),.v (.int .i64 r.expr.atom.AH.AG),JP r.expr.kids,.v (.int .i64 r.prio),.v (.int .i64 r.CP)]
def Bu.c(p:Bu):List AV:=[.v (.int .i64 p.proc.site),.v (.int .i64 p.proc.inc),.v (.int .i64 p.proc.num),.v (.int .i64 p.cost),Et p.AB.entries,NA p.AB.AA,.v (.bool p.waiting),
 .v (.int .i64 p.Bk.expr.k),.v (.string (str p.Bk.expr.atom.name)),.v (.int .i64 p.Bk.expr.atom.AH.mode),.v (.int .i64 p.Bk.expr.atom.AH.AG),JP p.Bk.expr.kids,.v (.int .i64 p.Bk.prio),.v (.int .i64 p.Bk.CP),.v (.int .i64 p.since),.v (.int .i64 p.gen)]
@[reducible] def xZ(l:List Bu):AV:=.sl .no 16 (l.map Bu.c)
def Hw.c(c:Hw):List AV:=[.v (.int .i64 c.now),AN c.Aa,xZ c.procs]
def MS.c(k:MS):List AV:=[.v (.int .i64 k.kind),.v (.int .i64 k.proc.site),.v (.int .i64 k.proc.inc),.v (.int .i64 k.proc.num),.v (.int .i64 k.Bk.expr.k),.v (.string (str k.Bk.expr.atom.name)),.v (.int .i64 k.Bk.expr.atom.AH.mode),.v (.int .i64 k.Bk.expr.atom.AH.AG),JP k.Bk.expr.kids,.v (.int .i64 k.Bk.prio),.v (.int .i64 k.Bk.CP),.v (.string (str k.name)),.v (.int .i64 k.n)]
def Ev.c(e:Ev):List AV:=[.v (.int .i64 e.kind),.v (.int .i64 e.proc.site),.v (.int .i64 e.proc.inc),.v (.int .i64 e.proc.num),.v (.string (str e.name)),.v (.int .i64 e.AH.mode),.v (.int .i64 e.AH.AG)]
@[reducible] def dh(l:List Ev):AV:=.sl .no 7 (l.map Ev.c)
def Ap.c(w:Ap):List AV:=[.v (.int .i64 w.now),AN w.Aa,.sl (.own 0 0) 16 (w.procs.map Bu.c),.sl (.own 1 0) 7 (w.D1.map Ev.c)]
attribute [go_sem] Entry.c Save.c Ledger.c ca.c Bu.c Hw.c MS.c Ev.c Ap.c
@[go_sem] theorem yH{α:Type}(a:α):(∃ x,some a=some x)=True:=by simp
@[go_sem] theorem AdB{α β:Type}(f:α->β)(l:List α)(i:Nat):(l.map f).take i=(l.take i).map f:=by simp
@[go_sem] theorem AcI{α β:Type}(f:α->β)(l:List α)(i:Nat):(l.map f).drop i=(l.drop i).map f:=by simp
def An(l:List Entry)(n:Bs):BR:=l.foldl (λa e=>if e.name==n then e.after else a) ⟨0,0⟩
def IU{l:List Entry}{n:Bs}{i:Nat}{b:Entry}(hb:l[i]?=some b):An (l.take (i+1)) n=if b.name==n then b.after else An (l.take i) n:=by simp[An,List.take_add_one,hb,List.foldl_append]
def Ib(l:List Entry)(n:Bs):Ad C0 195 [Et l,.v (.string (str n))] [] (.agg (An l n).c) []:=by
 refine Ad.lens f195 λhlen=>?_
 simp only[FZ,lens,length_map,and_true,true_and]at hlen;refine Ad.go f195 ?_;unfold f195;refine gO ?_;refine AF (l) (λi=>⟨[(6,I i),(0,Et l),(1,.v (.string (str n))),(4,.ptr 256 0),(5,.ptr 320 0)],[(256,(⟨0,0⟩:BR).c),(320,(An (l.take i) n).c)]⟩) (λi=>True) trivial ?_ ?_
 ·refine AT.Aq ?_ ?_
  all_goals(try simp(disch:=omega)only[go_sem])
  all_goals(try(repeat'(with_reducible apply And.intro)))
  all_goals(first|exact .Cr (by omega)|exact .A8 (by omega)|exact .sl (by simp[An])|exact .int (by simp[An])|exact .eq (by simp[An]))
 rintro i ⟨hi,hP⟩ J hJ;refine gO ?_;refine Bo hi (λAP b hb Cg AX=>?_) λBa=>?_
 simp(disch:=omega)only[go_sem,gm,hb]
 ·refine⟨λh=>?_,λh=>?_⟩
  ·refine hJ _ (i+1) ⟨by omega,trivial⟩ (by omega) (AT.Aq ?_ ?_)
   all_goals(try simp(disch:=omega)only[go_sem])
   all_goals(try(repeat'(with_reducible apply And.intro)))
   all_goals(first|exact .Cr (by omega)|exact .A8 (by omega)|exact .sl (by simp[IU hb,h])|exact .int (by simp[IU hb,h])|exact .eq (by simp[IU hb,h]))
  ·refine hJ _ (i+1) ⟨by omega,trivial⟩ (by omega) (AT.Aq ?_ ?_)
   all_goals(try simp(disch:=omega)only[go_sem])
   all_goals(try(repeat'(with_reducible apply And.intro)))
   all_goals(first|exact .Cr (by omega)|exact .A8 (by omega)|exact .sl (by simp[IU hb,h])|exact .int (by simp[IU hb,h])|exact .eq (by simp[IU hb,h]))
 ·subst Ba;simp(disch:=omega)only[go_sem,take_length];exact AQ _
def L5(l:List Save)(IW:Int):Int:=match l.findIdx? (λs=>s.label==IW) with|some i=>i|none=>-1
def M8(l:List Save)(IW:Int):Ad C0 198 [NA l,I IW] [] (I (L5 l IW)) []:=by
 refine Ad.lens f198 λhlen=>?_
 simp only[FZ,lens,length_map,and_true,true_and]at hlen;refine Ad.go f198 ?_;unfold f198;refine gO ?_;refine AF (l) (λi=>⟨[(5,I i),(0,NA l),(1,I IW)],[]⟩) (λi=>(l.take i).find? (λs=>s.label==IW)=none) rfl ?_ ?_
 ·exact Ce
 rintro i ⟨hi,hP⟩ J hJ;refine gO ?_;refine Bo hi (λAP b hb Cg AX=>?_) λBa=>?_
 simp(disch:=omega)only[go_sem,gm,hb]
 ·refine⟨λh=>?_,λh=>?_⟩
  ·have e:=Hj hP b hb (by simpa using h);simp(disch:=omega)only[go_sem,e,L5];exact AQ _
  ·refine hJ _ (i+1) ⟨by omega,(by rw[Cp hP hb];simp at h;simp[h])⟩ (by omega) AK
 ·subst Ba;rw[take_length]at hP;have e:l.findIdx? (λs=>s.label==IW)=none:=by
   rw[List.findIdx?_eq_none_iff];rw[List.find?_eq_none]at hP;intro x hx;simpa using hP x hx
  simp(disch:=omega)only[go_sem,e,L5];exact AQ _
def usable(a:BR):Bool:=Il.fits a||Ir.fits a
def EL(a b:BR):Bool:=if !usable b||decide (a=b) then false else if a.mode==0&&a.AG==0 then true else if !usable a then false else if a.mode !=0 then BI b.mode a.mode else decide (a.AG<b.AG)
def YJ(a:BR):Ad C0 91 [.agg a.c] [] (B (usable a)) []:=Wp a
theorem kF(a b:BR):Ad C0 196 [.agg a.c,.agg b.c] [] (B (EL a b)) []:=by
 refine Ad.go f196 ?_;unfold f196;refine gO ?_;refine Ab (YJ b) ?_;cases h1:usable b
 ·simp(disch:=omega)only[go_sem];refine Al _ ?_;exact wb (by simp[EL,h1])
 refine gO ?_;cases h2:decide (a=b);rotate_left
 ·simp(disch:=omega)only[go_sem,h2];refine Al _ ?_;exact wb (by simp[EL,h1,h2])
 simp(disch:=omega)only[go_sem,h2];cases h3:(a.mode==0&&a.AG==0);rotate_left
 ·simp(disch:=omega)only[go_sem,h3];refine Al _ ?_;exact wb (by simp[EL,h1,h2,h3])
 simp(disch:=omega)only[go_sem,h3];refine Ab (YJ a) ?_;cases h4:usable a
 ·simp(disch:=omega)only[go_sem];refine Al _ ?_;exact wb (by simp[EL,h1,h2,h3,h4])
 refine gO ?_;cases h5:(a.mode !=0)
 ·simp(disch:=omega)only[go_sem,h5];refine Al _ ?_;exact wb (by simp only[EL,h1,h2,h3,h4,h5];rfl)
 ·simp(disch:=omega)only[go_sem,h5];refine Ab (Vb b.mode a.mode) ?_;refine gO ?_;refine Al _ ?_;exact wb (by simp only[EL,h1,h2,h3,h4,h5];rfl)
def XM(a b:Int):Int:=match (List.range 5).find? (λk=>BI ((k+1:Nat):Int) a&&BI ((k+1:Nat):Int) b) with|some k=>((k+1:Nat):Int)|none=>0
def wv(a b:Int):Ad C0 263 [I a,I b] [] (I (XM a b)) []:=by
 have hr:∀ i,i<5->(List.range 5)[i]?=some i:=λi hi=>by rw[List.getElem?_range hi]
 refine Ad.go f263 ?_;unfold f263;refine gO ?_;refine Ao (α:=Nat) (λi=>⟨[(5,I ((i+1:Nat):Int)),(0,I a),(1,I b)],[]⟩) (λi=>i<=5/\((List.range 5).take i).find? (λk=>BI ((k+1:Nat):Int) a&&BI ((k+1:Nat):Int) b)=none) (λi=>5-i) 0 ⟨by omega,rfl⟩ AK ?_;rintro i ⟨hi,hP⟩ J hJ
 by_cases h5:i<5
 rotate_left
 ·have e5:i=5:=by omega
  subst e5;have e:XM a b=0:=by unfold XM;rw[show List.range 5=(List.range 5).take 5 from rfl,hP]
  simp(disch:=omega)only[go_sem,e];exact AQ _
 have e1:((i:Int)+1<=5)=True:=eq_true (by omega);simp(disch:=omega)only[go_sem,e1];refine Ab (Vb ((i+1:Nat):Int) a) ?_;have st:(BI ((i+1:Nat):Int) a&&BI ((i+1:Nat):Int) b)=false->((List.range 5).take (i+1)).find? (λk=>BI ((k+1:Nat):Int) a&&BI ((k+1:Nat):Int) b)=none:=λh=>by
  rw[List.take_add_one,hr i h5,List.find?_append,hP];simp only[Option.toList,List.find?_cons,h,List.find?_nil,Option.none_or]
 cases h1:BI ((i+1:Nat):Int) a
 ·simp(disch:=omega)only[go_sem];exact hJ _ (i+1) ⟨by omega,st (by rw[h1];rfl)⟩ (by omega) AK
 refine gO ?_;refine Ab (Vb ((i+1:Nat):Int) b) ?_;cases h2:BI ((i+1:Nat):Int) b
 ·simp(disch:=omega)only[go_sem];exact hJ _ (i+1) ⟨by omega,st (by rw[h1,h2];rfl)⟩ (by omega) AK
 ·have e:XM a b=((i+1:Nat):Int):=by
   unfold XM;have:=Hq (f:=λk=>BI ((k+1:Nat):Int) a&&BI ((k+1:Nat):Int) b) hP (hr i h5) (by rw[h1,h2];rfl);rw[this]
  simp(disch:=omega)only[go_sem,e];exact AQ _
def D4(r:BE)(a b:BR):BR:=if !(r.permits a&&r.permits b) then ⟨0,0⟩ else if r.covers a b then a else if r.covers b a then b else ⟨XM a.mode b.mode,0⟩
def aN(r:BE)(a b:BR):Ad C0 217 [.agg r.c,.agg a.c,.agg b.c] [] (.agg (D4 r a b).c) []:=by
 refine Ad.go f217 ?_;unfold f217;refine gO ?_;refine Ab (Rv r a) ?_;cases h1:r.permits a
 ·have e:D4 r a b=⟨0,0⟩:=by simp[D4,h1]
  simp(disch:=omega)only[go_sem,e];exact AQ _
 refine gO ?_;refine Ab (Rv r b) ?_;cases h2:r.permits b
 ·have e:D4 r a b=⟨0,0⟩:=by simp[D4,h2]
  simp(disch:=omega)only[go_sem,e];exact AQ _
 refine gO ?_;refine Ab (KH r a b) ?_;cases h3:r.covers a b;rotate_left
 ·have e:D4 r a b=a:=by simp[D4,h1,h2,h3]
  simp(disch:=omega)only[go_sem,e];exact AQ _
 refine gO ?_;refine Ab (KH r b a) ?_;cases h4:r.covers b a;rotate_left
 ·have e:D4 r a b=b:=by simp[D4,h1,h2,h3,h4]
  simp(disch:=omega)only[go_sem,e];exact AQ _
 refine gO ?_;have e:D4 r a b=⟨XM a.mode b.mode,0⟩:=by simp[D4,h1,h2,h3,h4]
 rw[e];refine Ab (wv a.mode b.mode) ?_;refine gO ?_;exact AQ _
def r0:BE:=⟨[],0,0,0⟩
@[reducible] def GO(l:List BE):AV:=.sl .no 4 (l.map BE.c)
def T7(l:List BE)(n:Bs):Option BE:=l.find? λr=>r.name==n
def wu(l:List BE)(n:Bs):Ad C0 262 [GO l,.v (.string (str n))] [] (.BC [.agg ((T7 l n).getD r0).c,B (T7 l n).isSome]) []:=by
 refine Ad.lens f262 λhlen=>?_
 simp only[FZ,lens,length_map,and_true,true_and]at hlen;refine Ad.go f262 ?_;unfold f262;refine gO ?_;refine AF (l) (λi=>⟨[(6,I i),(0,GO l),(1,.v (.string (str n))),(4,.ptr 256 0)],[(256,r0.c)]⟩) (λi=>(l.take i).find? (λr=>r.name==n)=none) rfl ?_ ?_
 ·refine AT.Aq ?_ ?_
  all_goals(try simp(disch:=omega)only[go_sem,r0])
  all_goals(try(repeat'(with_reducible apply And.intro)))
  all_goals(first|exact .Cr (by omega)|exact .A8 (by omega)|exact .sl (by simp[r0])|exact .int (by simp[r0])|exact .eq (by simp[r0]))
 rintro i ⟨hi,hP⟩ J hJ;refine gO ?_;refine Bo hi (λAP b hb Cg AX=>?_) λBa=>?_
 simp(disch:=omega)only[go_sem,gm,hb]
 ·refine⟨λh=>?_,λh=>?_⟩
  ·have e:T7 l n=some b:=Hq hP hb (by simpa using h);simp(disch:=omega)only[go_sem,e,gm,hb,Option.isSome_some,Option.getD_some];exact AQ _
  ·refine hJ _ (i+1) ⟨by omega,(by rw[Cp hP hb];simp at h;simp[h])⟩ (by omega) AK
 ·subst Ba;rw[take_length]at hP;have e:T7 l n=none:=hP;simp(disch:=omega)only[go_sem,e,Option.isSome_none,Option.getD_none,r0];exact AQ _
end Go.Rd
