/- part 35 of the proof -/
import Derived.Test.YteliegkcmjimoaaGreatDoorW34
set_option linter.all false
open Go Go.Abs Go.Proofs
set_option maxRecDepth 100000
namespace Go.Rd
set_option maxHeartbeats 8000000
def iQ{l:List Bu}{p:Ac}(h:0<=E4 l p):∃ x∈l,x.proc=p:=by grind[E4]
def uU{c:Hw}(h:Ck c=true):(∀ x∈c.procs,x.proc.ok=true/\0<=x.gen/\x.gen<=1073741824/\(x.waiting=true->BM x.Bk.expr=true))/\(c.procs.Pairwise λa b=>BF a.proc b.proc<0)/\∀ p∈AM c.Aa,∃ x∈c.procs,x.proc=p:=by
 have hje:=(Lh h).je;simp[Ck,Bool.and_eq_true,decide_eq_true_eq,CY,List.all_eq_true]at h;obtain⟨⟨⟨⟨⟨h1,h2⟩,h3⟩,h4⟩,h5⟩,h6⟩:=h;refine⟨λx hx=>?_,?_,λp hp=>iQ (h5 p hp)⟩
 ·obtain⟨i,hi⟩:=List.getElem?_of_mem hx;have:=h6 i x hi;simp only[EE,Fu,E2,Bool.and_eq_true,decide_eq_true_eq]at this;obtain⟨⟨⟨⟨⟨⟨⟨⟨a,b⟩,c⟩,d⟩,e⟩,f⟩,g⟩,k⟩,m⟩:=this;exact⟨a,e,f,λhw=>(hje.FM i x hi (by simp) hw).ex⟩
 ·have bq:∀ i x,c.procs[i]?=some x->(decide (i=0)||decide (BF (c.procs.getD (i-1) x0).proc x.proc<0))=true:=λi x hi=>by
   simp_all[EE]
  rw[List.pairwise_iff_getElem];intro i j hi hj UN;obtain⟨d,rfl⟩:∃ d,j=i+d+1:=⟨j-i-1,by omega⟩;exact Mt bq d i _ _ (gE hi) (gE hj)
theorem JJ(c:Hw):AI (ofM c)=true:=by
 unfold ofM;split
 ·rename_i hv;obtain⟨hx,ho,hq⟩:=uU hv;have Sv:c.procs.length<=8:=(Lh hv).je.n;have AbD:IH c.Aa=true:=by simp_all[Ck]
  have pI:=QR c.procs c.procs.length;rw[List.take_length]at pI;rw[GQ,HR];refine⟨by simp_all[IH],⟨by grind,λn hn=>?_,?_⟩,?_⟩
  ·simp[FN]at hn;obtain⟨x,⟨Ya,hw⟩,rfl⟩:=hn;obtain⟨a,b,c,d⟩:=hx x Ya;exact⟨a,b,c,d hw⟩
  ·show (FN c.procs).Pairwise _;unfold FN;rw[List.pairwise_map];exact ho.sublist List.filter_sublist
  ·have:(Ag ⟨c.Aa,FN c.procs⟩).length<=(c.procs.map (·.proc)).length:=BP _ _ (IL (Fk _)) λx Ya=>by
    rw[E6]at Ya;rw[List.mem_map];rcases Ya with ⟨q,UQ,hxq⟩|⟨n,hn,hxn⟩
    ·exact hq x ((En _ _).2 ⟨q,UQ,(Ew q x).1 hxq⟩)
    ·simp[FN]at hn;obtain⟨y,⟨hy,_⟩,rfl⟩:=hn;exact⟨y,hy,hxn⟩
   rw[List.length_map]at this;omega
 ·kernel_rfl
end Go.Rd
