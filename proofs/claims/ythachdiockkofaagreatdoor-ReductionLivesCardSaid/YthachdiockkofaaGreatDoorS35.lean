/- part 35 of the proof -/
import Derived.Test.YthachdiockkofaaGreatDoorS34
set_option linter.all false
open Go Go.Abs Go.Proofs
set_option maxRecDepth 100000
namespace Go.Rd
set_option maxHeartbeats 8000000
open List (mem_map)
open Bool (and_eq_true)
theorem V2{l:List Pcs}{p:Proc}(h:0≤CK l p):∃ x∈l,x.proc=p:=by
 unfold CK at h;cases hf:l.findIdx? (fun x=>decide (x.proc=p)) with
 |none=>rw[hf]at h;simp at h
 |some i =>
  obtain⟨hi,hp,_⟩:=List.findIdx?_eq_some_iff_getElem.1 hf;exact⟨l[i],List.getElem_mem hi,by simpa using hp⟩
theorem av{c:Cen}(h:BD c=true):(∀ x∈c.procs,x.proc.ok=true∧0≤x.gen∧x.gen≤1073741824∧(x.waiting=true→A5 x.req.expr=true))∧(c.procs.Pairwise fun a b=>AT a.proc b.proc<0)∧∀ p∈Ar c.queues,∃ x∈c.procs,x.proc=p:=by
 have hje:=(F3 h).je;simp only[BD,and_eq_true,decide_eq_true_eq,Cx,List.all_eq_true]at h;obtain⟨⟨⟨⟨⟨h1,h2⟩,h3⟩,h4⟩,h5⟩,h6⟩:=h;refine⟨fun x hx=>?_,?_,fun p hp=>V2 (h5 p hp)⟩
 ·obtain⟨i,hi⟩:=List.getElem?_of_mem hx;have:=h6 i x hi;simp only[Dg,D3,Ea,and_eq_true,decide_eq_true_eq]at this;obtain⟨⟨⟨⟨⟨⟨⟨⟨a,b⟩,c⟩,d⟩,e⟩,f⟩,g⟩,k⟩,m⟩:=this;exact⟨a,e,f,fun hw=>(hje.good i x hi (by simp) hw).ex⟩
 ·have hord:∀ i x,c.procs[i]?=some x→(decide (i=0)||decide (AT (c.procs.getD (i-1) x0).proc x.proc<0))=true:=fun i x hi=>by
   have:=h6 i x hi;simp only[Dg,and_eq_true]at this;exact this.2
  rw[List.pairwise_iff_getElem];intro i j hi hj hij;obtain⟨d,rfl⟩:∃ d,j=i+d+1:=⟨j-i-1,by omega⟩;exact Jh hord d i _ _ (gE hi) (gE hj)
theorem Ju(c:Cen):CB (ofM c)=true:=by
 unfold ofM;split
 ·rename_i hv;obtain⟨hx,ho,hq⟩:=av hv;have hpl:c.procs.length≤8:=(F3 hv).je.n;have htab:Gi c.queues=true:=by simp only[BD,and_eq_true]at hv;exact hv.1.1.1.2
  have hnl:=Mm c.procs c.procs.length;rw[List.take_length]at hnl;rw[J8,KT];refine⟨by simp only[Gi,and_eq_true]at htab;exact htab.1,⟨by show (CZ c.procs).length≤8;omega,fun n hn=>?_,?_⟩,?_⟩
  ·simp only[CZ,mem_map,List.mem_filter]at hn;obtain⟨x,⟨hxm,hw⟩,rfl⟩:=hn;obtain⟨a,b,c,d⟩:=hx x hxm;exact⟨a,b,c,d hw⟩
  ·show (CZ c.procs).Pairwise _;unfold CZ;rw[List.pairwise_map];exact ho.sublist List.filter_sublist
  ·have:(Am ⟨c.queues,CZ c.procs⟩).length≤(c.procs.map (·.proc)).length:=CE _ _ (Lf (DT _)) fun x hxm=>by
    rw[E7]at hxm;rw[mem_map];rcases hxm with ⟨q,hqm,hxq⟩|⟨n,hn,hxn⟩
    ·exact hq x ((C4 _ _).2 ⟨q,hqm,(DJ q x).1 hxq⟩)
    ·simp only[CZ,mem_map,List.mem_filter]at hn;obtain⟨y,⟨hy,_⟩,rfl⟩:=hn;exact⟨y,hy,hxn⟩
   rw[List.length_map]at this;omega
 ·kernel_rfl
theorem JZ{s:WS}(h:CB s=true):CN s=FC s:=by simp[CN,h]
end Go.Rd
