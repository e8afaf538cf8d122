/- part 35 of the proof -/
import Derived.Test.YthachdiockkofaaGreatDoorT19
import Derived.Test.YthachdiockkofaaGreatDoorT31
set_option linter.all false
open Go Go.Abs Go.Proofs
set_option maxRecDepth 100000
namespace Go.Rd
set_option maxHeartbeats 8000000
open List (mem_map)
open Bool (and_eq_true)
open Nat (le_trans)
theorem MZ{α:Type}(l:List Int):∀ (xs:List α) (a:Nat),(BY l xs a).1.Sublist xs
 |[],_=>by simp[BY]
 | x::xs,a=>by
  have ih:=MZ l xs (Ad l a 5).2
  simp only[BY]
  split
  ·exact ih.cons x
  ·exact ih.cons_cons x
theorem Ux{s s':WS}(h:∀ x,x∈Ah s'→x∈Ah s)(hp:(Ah s).length≤8):(Ah s').length≤8 :=
 le_trans (DY _ _ (FG (Dp _)) h) hp
theorem RY{s:WS}(h:AB s=true)(l:List Int):AB (Ft s l)=true:=by
 rw[F0,GN,HD]at *
 obtain⟨⟨q1,q2,q3⟩,⟨n1,n2,n3⟩,p⟩:=h
 have sq:=MZ l s.queues 0
 have sn:=MZ l s.needs (BY l s.queues 0).2
 refine⟨⟨le_trans (FW _ _ _) q1,fun q hq=>q2 q (sq.subset hq),q3.sublist sq⟩,⟨le_trans (FW _ _ _) n1,fun n hn=>n2 n (sn.subset hn),n3.sublist sn⟩,Ux (fun x hx=>?_) p⟩
 rw[FU]at *
 rcases hx with ⟨q,hq,hx⟩|⟨n,hn,hx⟩
 ·exact .inl ⟨q,sq.subset hq,hx⟩
 ·exact .inr ⟨n,sn.subset hn,hx⟩
theorem Uf{l:List Pcs}{p:Proc}(h:0≤Es l p):∃ x∈l,x.proc=p:=by
 unfold Es at h
 cases hf:l.findIdx? (fun x=>decide (x.proc=p)) with
 |none=>rw[hf]at h;simp at h
 |some i =>
  obtain⟨hi,hp,_⟩:=List.findIdx?_eq_some_iff_getElem.1 hf
  exact⟨l[i],List.getElem_mem hi,by simpa using hp⟩
theorem Yj{c:Cen}(h:Gy c=true):(∀ x∈c.procs,x.proc.ok=true∧0≤x.gen∧x.gen≤1073741824∧(x.waiting=true→AQ x.req.expr=true))∧(c.procs.Pairwise fun a b=>A2 a.proc b.proc<0)∧∀ p∈Aw c.queues,∃ x∈c.procs,x.proc=p:=by
 have hje:=(Kf h).je
 simp only[Gy,and_eq_true,decide_eq_true_eq,DU,List.all_eq_true]at h
 obtain⟨⟨⟨⟨⟨h1,h2⟩,h3⟩,h4⟩,h5⟩,h6⟩:=h
 refine⟨fun x hx=>?_,?_,fun p hp=>Uf (h5 p hp)⟩
 ·obtain⟨i,hi⟩:=List.getElem?_of_mem hx
  have:=h6 i x hi
  simp only[DK,EK,FO,and_eq_true,decide_eq_true_eq]at this
  obtain⟨⟨⟨⟨⟨⟨⟨⟨a,b⟩,c⟩,d⟩,e⟩,f⟩,g⟩,k⟩,m⟩:=this
  exact⟨a,e,f,fun hw=>(hje.good i x hi (by simp) hw).ex⟩
 ·have hord:∀ i x,c.procs[i]?=some x→(decide (i=0)||decide (A2 (c.procs.getD (i-1) x0).proc x.proc<0))=true:=fun i x hi=>by
   have:=h6 i x hi
   simp only[DK,and_eq_true]at this
   exact this.2
  rw[List.pairwise_iff_getElem]
  intro i j hi hj hij
  obtain⟨d,rfl⟩:∃ d,j=i+d+1:=⟨j-i-1,by omega⟩
  exact Kw hord d i _ _ (gE hi) (gE hj)
theorem TN(c:Cen):AB (ofM c)=true:=by
 unfold ofM
 split
 ·rename_i hv
  obtain⟨hx,ho,hq⟩:=Yj hv
  have hpl:c.procs.length≤8:=(Kf hv).je.n
  have htab:Fy c.queues=true:=by simp only[Gy,and_eq_true]at hv;exact hv.1.1.1.2
  have hnl:=Lj c.procs c.procs.length
  rw[List.take_length]at hnl
  rw[F0,HD]
  refine⟨by simp only[Fy,and_eq_true]at htab;exact htab.1,⟨by show (DJ c.procs).length≤8;omega,fun n hn=>?_,?_⟩,?_⟩
  ·simp only[DJ,mem_map,List.mem_filter]at hn
   obtain⟨x,⟨hxm,hw⟩,rfl⟩:=hn
   obtain⟨a,b,c,d⟩:=hx x hxm
   exact⟨a,b,c,d hw⟩
  ·show (DJ c.procs).Pairwise _
   unfold DJ
   rw[List.pairwise_map]
   exact ho.sublist List.filter_sublist
  ·have:(Ah ⟨c.queues,DJ c.procs⟩).length≤(c.procs.map (·.proc)).length:=DY _ _ (FG (Dp _)) fun x hxm=>by
    rw[FU]at hxm
    rw[mem_map]
    rcases hxm with ⟨q,hqm,hxq⟩|⟨n,hn,hxn⟩
    ·exact hq x ((Fc _ _).2 ⟨q,hqm,(Eu q x).1 hxq⟩)
    ·simp only[DJ,mem_map,List.mem_filter]at hn
     obtain⟨y,⟨hy,_⟩,rfl⟩:=hn
     exact⟨y,hy,hxn⟩
   rw[List.length_map]at this
   omega
 ·kernel_rfl
theorem Mc{s:WS}(h:AB s=true):By s=Cv s:=by simp[By,h]
theorem FK{s:WS}(h:AB s=true)(p:Proc):HY s p=decide (p∈Bn s):=by
 unfold HY
 rw[Mc h]
 rfl
theorem VH{s:WS}(h:AB s=true)(p:Proc):HY (A3 s p) p=false:=by
 rw[FK (Hm h p)]
 simp only[decide_eq_false_iff_not]
 intro hm
 have hg:=Cg (AS h) p
 have:=JA _ _ hg (Nat.le_refl _) p hm
 exact((HC (AS h) p p).1 this).2 rfl
theorem VI{s:WS}(h:AB s=true)(p q:Proc):(!HY (A3 s p) q||HY s q)=true:=by
 rw[FK (Hm h p),FK h]
 by_cases hm:q∈Bn (A3 s p)
 ·have:=OD _ s (AS h) (Nat.le_refl _) p q hm
  simp[this]
 ·simp[hm]
theorem O9(l by_:List Int):AB (Ft (E9 l) by_)=true:=RY (TN _) by_
end Go.Rd
