/- part 32 of the proof -/
import Derived.Test.YthachdiockkofaaGreatDoorL31
set_option linter.all false
open Go Go.Abs Go.Proofs
set_option maxRecDepth 100000
namespace Go.Rd
set_option maxHeartbeats 8000000
open List (mem_map)
open Bool (and_eq_true)
def Xp{l:List Pcs}{p:Ab}(h:0≤DP l p):∃ x∈l,x.proc=p:=by
 unfold DP at h;cases hf:l.findIdx? (fun x=>decide (x.proc=p)) with
 |none=>rw[hf]at h;simp at h
 |some i =>
  obtain⟨hi,hp,_⟩:=List.findIdx?_eq_some_iff_getElem.1 hf;exact⟨l[i],List.getElem_mem hi,by simpa using hp⟩
def cF{c:Cen}(h:Cw c=true):(∀ x∈c.procs,x.proc.ok=true∧0≤x.gen∧x.gen≤1073741824∧(x.waiting=true→Bb x.req.expr=true))∧(c.procs.Pairwise fun a b=>Bc a.proc b.proc<0)∧∀ p∈Ay c.Aa,∃ x∈c.procs,x.proc=p:=by
 have hje:=(Kf h).je;simp only[Cw,and_eq_true,zD,CM,List.all_eq_true]at h;obtain⟨⟨⟨⟨⟨h1,h2⟩,h3⟩,h4⟩,h5⟩,h6⟩:=h;refine⟨fun x hx=>?_,?_,fun p hp=>Xp (h5 p hp)⟩
 ·obtain⟨i,hi⟩:=List.getElem?_of_mem hx;have:=h6 i x hi;simp only[DG,Es,EI,and_eq_true,zD]at this;obtain⟨⟨⟨⟨⟨⟨⟨⟨a,b⟩,c⟩,d⟩,e⟩,f⟩,g⟩,k⟩,m⟩:=this;exact⟨a,e,f,fun hw=>(hje.good i x hi (by simp) hw).ex⟩
 ·have hord:∀ i x,c.procs[i]?=some x→(decide (i=0)||decide (Bc (c.procs.getD (i-1) x0).proc x.proc<0))=true:=fun i x hi=>by
   have:=h6 i x hi;simp only[DG,and_eq_true]at this;exact this.2
  rw[List.pairwise_iff_getElem];intro i j hi hj hij;obtain⟨d,rfl⟩:∃ d,j=i+d+1:=⟨j-i-1,by omega⟩;exact JP hord d i _ _ (gE hi) (gE hj)
def J5(c:Cen):Bj (ofM c)=true:=by
 unfold ofM;split
 ·rename_i hv;obtain⟨hx,ho,hq⟩:=cF hv;have hpl:c.procs.length≤8:=(Kf hv).je.n;have htab:GJ c.Aa=true:=by simp only[Cw,and_eq_true]at hv;exact hv.1.1.1.2
  have hnl:=MW c.procs c.procs.length;rw[tL]at hnl;rw[EP,I4];refine⟨by simp only[GJ,and_eq_true]at htab;exact htab.1,⟨by show (Ds c.procs).length≤8;omega,fun n hn=>?_,?_⟩,?_⟩
  ·simp only[Ds,mem_map,List.mem_filter]at hn;obtain⟨x,⟨hxm,hw⟩,rfl⟩:=hn;obtain⟨a,b,c,d⟩:=hx x hxm;exact⟨a,b,c,d hw⟩
  ·show (Ds c.procs).Pairwise _;unfold Ds;rw[List.pairwise_map];exact ho.sublist List.filter_sublist
  ·have:(Ap ⟨c.Aa,Ds c.procs⟩).length≤(c.procs.map (·.proc)).length:=CY _ _ (Jq (FI _)) fun x hxm=>by
    rw[FA]at hxm;rw[mem_map];rcases hxm with ⟨q,hqm,hxq⟩|⟨n,hn,hxn⟩
    ·exact hq x ((Dv _ _).2 ⟨q,hqm,(Ea q x).1 hxq⟩)
    ·simp only[Ds,mem_map,List.mem_filter]at hn;obtain⟨y,⟨hy,_⟩,rfl⟩:=hn;exact⟨y,hy,hxn⟩
   rw[List.length_map]at this;omega
 ·kernel_rfl
def Kz{s:WS}(h:Bj s=true):Db s=Ky s:=by simp[Db,h]
end Go.Rd
