/- part 38 of the proof -/
import Derived.Test.YthachdiockkofaaGreatDoorW37
set_option linter.all false
open Go Go.Abs Go.Proofs
set_option maxRecDepth 100000
namespace Go.Rd
set_option maxHeartbeats 8000000
open List (mem_map)
open Bool (and_eq_true)
open Nat (le_trans)
theorem Ok{α:Type}(l:List Int):∀ (xs:List α) (a:Nat),(Cn l xs a).1.Sublist xs
 |[],_=>by simp[Cn]
 | x::xs,a=>by
  have ih:=Ok l xs (Ak l a 5).2;simp only[Cn];split
  ·exact ih.cons x
  ·exact ih.cons_cons x
theorem Wo{s s':WS}(h:∀ x,x∈Ah s'→x∈Ah s)(hp:(Ah s).length≤8):(Ah s').length≤8 :=
 le_trans (EF _ _ (HA (EC _)) h) hp
theorem Tw{s:WS}(h:AD s=true)(l:List Int):AD (Iu s l)=true:=by
 rw[CK,DO,FO]at *;obtain⟨⟨q1,q2,q3⟩,⟨n1,n2,n3⟩,p⟩:=h;have sq:=Ok l s.Aa 0;have sn:=Ok l s.Ao (Cn l s.Aa 0).2;refine⟨⟨le_trans (GA _ _ _) q1,fun q hq=>q2 q (sq.subset hq),q3.sublist sq⟩,⟨le_trans (GA _ _ _) n1,fun n hn=>n2 n (sn.subset hn),n3.sublist sn⟩,Wo (fun x hx=>?_) p⟩;rw[Dc]at *;rcases hx with ⟨q,hq,hx⟩|⟨n,hn,hx⟩
 ·exact .inl ⟨q,sq.subset hq,hx⟩
 ·exact .inr ⟨n,sn.subset hn,hx⟩
theorem V3{l:List Pcs}{p:Ae}(h:0≤E5 l p):∃ x∈l,x.proc=p:=by
 unfold E5 at h;cases hf:l.findIdx? (fun x=>decide (x.proc=p)) with
 |none=>rw[hf]at h;simp at h
 |some i =>
  obtain⟨hi,hp,_⟩:=List.findIdx?_eq_some_iff_getElem.1 hf;exact⟨l[i],List.getElem_mem hi,by simpa using hp⟩
theorem SV{c:Cen}(h:Gf c=true):(∀ x∈c.procs,x.proc.ok=true∧0≤x.gen∧x.gen≤1073741824∧(x.waiting=true→A4 x.req.expr=true))∧(c.procs.Pairwise fun a b=>Bo a.proc b.proc<0)∧∀ p∈AN c.Aa,∃ x∈c.procs,x.proc=p:=by
 have hje:=(Jx h).je;simp only[Gf,and_eq_true,decide_eq_true_eq,EB,List.all_eq_true]at h;obtain⟨⟨⟨⟨⟨h1,h2⟩,h3⟩,h4⟩,h5⟩,h6⟩:=h;refine⟨fun x hx=>?_,?_,fun p hp=>V3 (h5 p hp)⟩
 ·obtain⟨i,hi⟩:=List.getElem?_of_mem hx;have:=h6 i x hi;simp only[Ep,Fk,Gv,and_eq_true,decide_eq_true_eq]at this;obtain⟨⟨⟨⟨⟨⟨⟨⟨a,b⟩,c⟩,d⟩,e⟩,f⟩,g⟩,k⟩,m⟩:=this;exact⟨a,e,f,fun hw=>(hje.good i x hi (by simp) hw).ex⟩
 ·have hord:∀ i x,c.procs[i]?=some x→(decide (i=0)||decide (Bo (c.procs.getD (i-1) x0).proc x.proc<0))=true:=fun i x hi=>by
   have:=h6 i x hi;simp only[Ep,and_eq_true]at this;exact this.2
  rw[List.pairwise_iff_getElem];intro i j hi hj hij;obtain⟨d,rfl⟩:∃ d,j=i+d+1:=⟨j-i-1,by omega⟩;exact LB hord d i _ _ (gE hi) (gE hj)
theorem NG(c:Cen):AD (ofM c)=true:=by
 unfold ofM;split
 ·rename_i hv;obtain⟨hx,ho,hq⟩:=SV hv;have hpl:c.procs.length≤8:=(Jx hv).je.n;have htab:Gb c.Aa=true:=by simp only[Gf,and_eq_true]at hv;exact hv.1.1.1.2
  have hnl:=Mo c.procs c.procs.length;rw[List.take_length]at hnl;rw[CK,FO];refine⟨by simp only[Gb,and_eq_true]at htab;exact htab.1,⟨by show (DT c.procs).length≤8;omega,fun n hn=>?_,?_⟩,?_⟩
  ·simp only[DT,mem_map,List.mem_filter]at hn;obtain⟨x,⟨hxm,hw⟩,rfl⟩:=hn;obtain⟨a,b,c,d⟩:=hx x hxm;exact⟨a,b,c,d hw⟩
  ·show (DT c.procs).Pairwise _;unfold DT;rw[List.pairwise_map];exact ho.sublist List.filter_sublist
  ·have:(Ah ⟨c.Aa,DT c.procs⟩).length≤(c.procs.map (·.proc)).length:=EF _ _ (HA (EC _)) fun x hxm=>by
    rw[Dc]at hxm;rw[mem_map];rcases hxm with ⟨q,hqm,hxq⟩|⟨n,hn,hxn⟩
    ·exact hq x ((Ek _ _).2 ⟨q,hqm,(Db q x).1 hxq⟩)
    ·simp only[DT,mem_map,List.mem_filter]at hn;obtain⟨y,⟨hy,_⟩,rfl⟩:=hn;exact⟨y,hy,hxn⟩
   rw[List.length_map]at this;omega
 ·kernel_rfl
theorem F7{s:WS}(h:AD s=true):Bp s=DW s:=by simp[Bp,h]
theorem Wb(l by_:List Int):AD (Iu (Hf l) by_)=true:=Tw (NG _) by_
end Go.Rd
