/- part 47 of the proof -/
import Derived.Test.YthachdiockkofaaGreatDoorW52
set_option linter.all false
open Go Go.Abs Go.Proofs
set_option maxRecDepth 100000
namespace Go.Rd
set_option maxHeartbeats 8000000
open List (mem_map)
theorem aa{l:List Pcs}{i:Nat}{x y:Pcs}(hx:l[i]?=some x)(h:y.proc=x.proc):(l.set i y).map (·.proc)=l.map (·.proc):=by
 rw[List.map_set,h];exact Ot (by simp[hx])
theorem NB:∀ (n:Nat) (w:Av),(Fo n w).procs.map (·.proc)=w.procs.map (·.proc)
 | 0,_=>rfl
 | n+1,w=>by
  simp only[Fo];cases hs:Ka w with
  |none=>rfl
  |some i =>
   obtain⟨x,hx,_⟩:=HJ hs;have hg:w.procs.getD i x0=x:=by simp[List.getD,hx]
   simp only[hg];rw[NB n];obtain⟨y,h1,_,h3⟩:=IK hx;rw[h1];exact aa hx h3
theorem Vz{c:Cen}(hv:Gf c=true){p:Ae}(hp:∃ x∈c.procs,x.proc=p):(doC c ⟨7,p,Dg,[],0⟩).2.2=0∧p∉Ah (ofM (doC c ⟨7,p,Dg,[],0⟩).1):=by
 obtain⟨w,hw⟩:∃ w:Av,w=⟨c.now,c.Aa,c.procs,[]⟩:=⟨_,rfl⟩;have hfit:=Jx hv;rw[← hw]at hfit;have hwp:w.procs=c.procs:=by rw[hw]
 obtain⟨x',hx',hxp'⟩:=hp;cases hfi:w.procs.findIdx? (fun x=>decide (x.proc=p)) with
 |none =>
  rw[List.findIdx?_eq_none_iff]at hfi;have:=hfi x' (hwp▸hx');simp[hxp']at this
 |some i =>
  obtain⟨x,hx⟩:=NY hfi;have hxp:x.proc=p:=by
   obtain⟨hi,h1,_⟩:=List.findIdx?_eq_some_iff_getElem.1 hfi;have:=get_eq hx;rw[this]at h1;simpa using h1
  have hg:w.procs.getD i x0=x:=by simp[List.getD,hx]
  have hd:doW w ⟨7,p,Dg,[],0⟩=(Io w i x,0):=by
   simp[doW,hfi,hg,doI,List.getD,hx]
  have hc:doC c ⟨7,p,Dg,[],0⟩=(⟨(Io w i x).now,(Io w i x).Aa,(Io w i x).procs⟩,(Io w i x).CL,0):=by
   simp only[doC,hv,if_true,← hw,hd]
  rw[hc];refine⟨rfl,fun hm=>?_⟩;unfold ofM at hm;split at hm
  ·rename_i hv2;obtain⟨_,_,hq⟩:=SV hv2;have hproc:∃ y∈(Io w i x).procs,y.proc=p:=by
    rw[Dc]at hm;rcases hm with ⟨q,hqm,hxq⟩|⟨n,hn,hxn⟩
    ·exact hq p ((Ek _ _).2 ⟨q,hqm,(Db q p).1 hxq⟩)
    ·simp only[DT,mem_map,List.mem_filter]at hn;obtain⟨y,⟨hy,_⟩,rfl⟩:=hn;exact⟨y,hy,hxn⟩
   obtain⟨y,hy,hyp⟩:=hproc;have h1:p∈(Io w i x).procs.map (·.proc):=mem_map.2 ⟨y,hy,hyp⟩;have h2:(Io w i x).procs.map (·.proc)=(M4 w i x).procs.map (·.proc):=NB _ _;rw[h2]at h1;obtain⟨z,hz,hzp⟩:=mem_map.1 h1;have hz':z∈w.procs.eraseIdx i:=hz;obtain⟨j,hj⟩:=List.getElem?_of_mem hz';rw[List.getElem?_eraseIdx]at hj;split at hj
   ·have:=hfit.je.uq j i z x hj hx (hzp.trans hxp.symm);omega
   ·have:=hfit.je.uq (j+1) i z x hj hx (hzp.trans hxp.symm);omega
  ·rw[Dc]at hm;rcases hm with ⟨q,hq,_⟩|⟨n,hn,_⟩
   ·cases hq
   ·cases hn
theorem VB{w:Wit}{s:WS}{p:Ae}(hw:p∈Ah w.state)(hp:p∉Ah s):Hq w s=false:=by
 cases h:Hq w s
 ·rfl
 ·exfalso;simp only[Hq,Bool.and_eq_true,decide_eq_true_eq]at h;obtain⟨h1,h2⟩:=h;unfold AP at h1 h2;split at h1
  ·rename_i hv;rw[if_pos hv]at h2;have:=(VD h2).1;rw[← this]at hw;exact hp (PC (Bh hv) hw).2
  ·simp at h1
theorem c6{c:Cen}{p:Ae}(h:p∈Ah (ofM c)):Gf c=true∧∃ x∈c.procs,x.proc=p:=by
 unfold ofM at h;split at h
 ·rename_i hv;refine⟨hv,?_⟩;obtain⟨_,_,hq⟩:=SV hv;rw[Dc]at h;rcases h with ⟨q,hqm,hxq⟩|⟨n,hn,hxn⟩
  ·exact hq p ((Ek _ _).2 ⟨q,hqm,(Db q p).1 hxq⟩)
  ·simp only[DT,mem_map,List.mem_filter]at hn;obtain⟨y,⟨hy,_⟩,rfl⟩:=hn;exact⟨y,hy,hxn⟩
 ·rw[Dc]at h;rcases h with ⟨q,hq,_⟩|⟨n,hn,_⟩
  ·cases hq
  ·cases hn
end Go.Rd
