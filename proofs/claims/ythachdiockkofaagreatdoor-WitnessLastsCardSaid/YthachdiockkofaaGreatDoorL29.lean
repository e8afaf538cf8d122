/- part 29 of the proof -/
import Derived.Test.YthachdiockkofaaGreatDoorL24
set_option linter.all false
open Go Go.Abs Go.Proofs
set_option maxRecDepth 100000
namespace Go.Rd
set_option maxHeartbeats 8000000
open List (map_nil)
open Tryz
def OV{α β:Type}(f g:α→β)(l:List α)(k:Nat):List β:=(l.take k).map f++(l.drop k).map g
section
variable {α β:Type}
@[go_sem] theorem bq(f g:α→β)(l:List α)(k:Nat):(OV f g l k).length=l.length:=by simp[OV];omega
def bp{f g:α→β}{l:List α}{k:Nat}{b:α}(hb:l[k]?=some b):(OV f g l k)[k]?=some (g b):=by
 have:=Aj hb;unfold OV;rw[List.getElem?_append_right (by simp;omega)];simp[Nat.min_eq_left (Nat.le_of_lt this),hb]
def br{f g:α→β}{l:List α}{k:Nat}{b:α}(hb:l[k]?=some b):(OV f g l k).set k (f b)=OV f g l (k+1):=by
 have hk:=Aj hb;have hd:l.drop k=b::l.drop (k+1):=by rw[List.drop_eq_getElem_cons hk,get_eq hb]
 unfold OV;rw[tA,hb,hd,List.set_append_right _ _ (by simp;omega)];simp[Nat.min_eq_left (Nat.le_of_lt hk)]
def bn(f g:α→β)(l:List α):OV f g l l.length=l.map f:=by simp[OV]
def Zu(f g:α→β)(l:List α):OV f g l 0=l.map g:=by simp[OV]
end
def La(l:List Entry)(name:Bs)(pos:Int):Nat→Int
 | 0=>0
 | i+1=>La l name pos i+(if ((l.getD i ⟨[],⟨0,0⟩,⟨0,0⟩⟩).name==name)=true∧(i:Int)<pos then 1 else 0)
def X6(l:List Entry)(name:Bs)(pos:Int):∀ i,0≤La l name pos i∧La l name pos i≤i
 | 0=>by simp[La]
 | i+1=>by
  have:=X6 l name pos i;simp only[La];split<;>omega
def DE(l:List Entry)(name:Bs)(i:Nat)(s:Save):Save:=⟨s.label,s.pos-La l name s.pos i⟩
def Cd(name:Bs)(e:Entry):Bool:=!(e.name==name)
def FZ(l:Ledger)(name:Bs):Ledger × Bool:=if !A9 l then (CS,false) else if (l.entries.filter (Cd name)).length=l.entries.length then (CS,false) else (⟨l.entries.filter (Cd name),l.AG.map (DE l.entries name l.entries.length)⟩,true)
def f193_ok(l:Ledger)(name:Bs):Ad C0 193 [.agg l.c,.v (.string (str name))] [] (.tup [.agg (FZ l name).1.c,B (FZ l name).2]) []:=by
 refine Ad.go f193 ?_;unfold f193;refine gO ?_;refine Ae (f169_ok l) ?_;cases hv:A9 l
 ·have e:FZ l name=(CS,false):=by simp[FZ,hv]
  simp(disch:=omega)only[go_sem,zF,e,CS,map_nil];exact FQ _
  all_goals(try(simp(disch:=omega)only[go_sem]))
 have hel:l.entries.length≤72∧l.AG.length≤4:=by simp only[A9,Bool.and_eq_true,zD]at hv;omega
 simp(disch:=omega)only[go_sem,zT];refine Ac (α:=Nat) (fun i=>⟨[(7,I i),(2,.ptr 128 0),(6,.ptr 384 0),(4,.ptr 256 0),(1,.v (.string (str name)))],[(128,l.c),(384,[.sl (.own 2624 0) 5 (((l.entries.take i).filter (Cd name)).map Entry.c),.sl (.own 1024 0) 2 ((l.AG.map (DE l.entries name i)).map Save.c)]),(256,CS.c)]⟩) (fun i=>i≤(l.entries).length∧True) (fun i=>(l.entries).length-i) 0 ⟨by omega,trivial⟩ ?_ ?_
 ·refine Imp.Ar ?_ ?_
  all_goals(try simp(disch:=omega)only[go_sem,CS])
  all_goals(try(repeat'(with_reducible apply And.intro)))
  all_goals(first|exact .AO (by omega)|exact .AJ (by omega)|exact .sl (by simp[DE,La,CS,Save.c])|exact .int (by simp[DE,La,CS,Save.c])|exact .eq (by simp[DE,La,CS,Save.c]))
 rintro i ⟨hi,hP⟩ J hJ;refine gO ?_;refine ⟨fun hlt=>?_,fun hge=>?_⟩;rotate_left;have hil:i=(l.entries).length:=by simp at hge;omega
 rotate_left;obtain⟨b,hb⟩:∃ b,(l.entries)[i]?=some b:=⟨_,gE (by simp at hlt;omega)⟩;have hbm:=mG hb;have hlt2:i<(l.entries).length:=by simp at hlt;omega
 ·have hfl:((l.entries.take i).filter (Cd name)).length≤72:=Nat.le_trans (List.length_filter_le _ _) (by simp;omega);have hbd:((l.entries.take i).filter (Cd name)).length+1≤4294967296:=by omega
  have hfn:(l.entries.take (i+1)).filter (Cd name)=(l.entries.take i).filter (Cd name)++(if Cd name b then [b] else []):=by
   rw[tA,hb,List.filter_append];cases h:Cd name b<;>simp[h]
  have hgd:l.entries.getD i ⟨[],⟨0,0⟩,⟨0,0⟩⟩=b:=by simp[List.getD,hb]
  cases hn:(b.name==name)
  ·have hne:(b.name !=name)=true:=by simp[bne,hn]
   have hg:∀ s:Save,DE l.entries name (i+1) s=DE l.entries name i s:=fun s=>by
    have h0:¬ ((b.name==name)=true∧(i:Int)<s.pos):=by rw[hn];simp
    simp only[DE,La,hgd,if_neg h0,Int.add_zero]
   simp(disch:=omega)only[go_sem,gm,hb,hne,hn,zF,zT];refine Aw 8 [([],[6]),([],[33]),([],[2]),([],[35]),([],[7]),([],[36,37]),([],[38]),([],[39])] fol ?_;simp(disch:=omega)only[go_sem,gm,hb];refine hJ _ (i+1) ⟨by omega,trivial⟩ (by omega) (Imp.Ar ?_ ?_)
   ·exact gI
   ·simp(disch:=omega)only[go_sem,CS];exact⟨.sl (by rw[hfn];simp[Cd,hn,Entry.c]),.sl (by rw[show DE l.entries name (i+1)=DE l.entries name i from funext hg])⟩
  ·have hne:(b.name !=name)=false:=by simp[bne,hn]
   simp(disch:=omega)only[go_sem,gm,hb,hne,hn,zF,zT];obtain⟨o,rfl⟩:∃ o,o=i:=⟨i,rfl⟩;have hJo:=hJ;have hbo:=hb;clear hJ hb;refine Ac (α:=Nat) (fun k=>⟨[(8,I k),(7,I o),(2,.ptr 128 0),(6,.ptr 384 0),(4,.ptr 256 0),(1,.v (.string (str name)))],[(128,l.c),(384,[.sl (.own 2624 0) 5 (((l.entries.take o).filter (Cd name)).map Entry.c),.sl (.own 1024 0) 2 ((OV (DE l.entries name (o+1)) (DE l.entries name o) l.AG k).map Save.c)]),(256,CS.c)]⟩) (fun k=>k≤l.AG.length) (fun k=>l.AG.length-k) 0 (by omega) ?_ ?_
   ·refine Imp.Ar ?_ ?_
    ·exact gI
    ·simp(disch:=omega)only[go_sem,CS];exact .sl (by rw[Zu];simp)
   rintro k hk J2 hJ2;refine gO ?_;refine ⟨fun hlt=>?_,fun hge=>?_⟩
   ·obtain⟨s,hs⟩:∃ s,l.AG[k]?=some s:=⟨_,gE (by simp at hlt;omega)⟩;have hmg:=bp (f:=DE l.entries name (o+1)) (g:=DE l.entries name o) hs;have hms:=br (f:=DE l.entries name (o+1)) (g:=DE l.entries name o) hs;have hml:=bq (DE l.entries name (o+1)) (DE l.entries name o) l.AG k;have hpos:=LK hv hs;have hcn:=X6 l.entries name s.pos o;generalize OV (DE l.entries name (o+1)) (DE l.entries name o) l.AG k=M at hmg hms hml ⊢;simp(disch:=omega)only[go_sem,gm,hs]
    by_cases hc:(o:Int)<s.pos
    ·have h0:(b.name==name)=true∧(o:Int)<s.pos:=⟨hn,hc⟩;have hsg:DE l.entries name (o+1) s=⟨s.label,s.pos-La l.entries name s.pos o-1⟩:=by
      simp only[DE,La,hgd,if_pos h0,Save.mk.injEq,true_and];omega
     simp(disch:=omega)only[go_sem,eq_true hc,decide_true,gm,hmg,DE];refine hJ2 _ (k+1) (by simp at hlt;omega) (by simp at hlt;omega) (Imp.Ar ?_ ?_)
     ·exact gI
     ·simp(disch:=omega)only[go_sem,CS];exact .sl (by rw[← hms,List.map_set,hsg];rfl)
    ·have h0:¬ ((b.name==name)=true∧(o:Int)<s.pos):=fun h=>hc h.2
     have hsg:DE l.entries name (o+1) s=DE l.entries name o s:=by
      simp only[DE,La,hgd,if_neg h0,Int.add_zero]
     have hMs:M.set k (DE l.entries name o s)=M:=by
      apply List.ext_getElem?;intro j;rw[List.getElem?_set];split
      ·rename_i hij;subst hij;rw[if_pos (by rw[hml];exact Aj hs),hmg]
      ·rfl
     rw[hsg,hMs]at hms;simp(disch:=omega)only[go_sem,eq_false hc,decide_false];refine hJ2 _ (k+1) (by simp at hlt;omega) (by simp at hlt;omega) (Imp.Ar ?_ ?_)
     ·exact gI
     ·simp(disch:=omega)only[go_sem,CS];exact .sl (by rw[← hms])
   ·have hke:k=l.AG.length:=by simp at hge;omega
    subst hke;rw[bn];refine hJo _ (o+1) ⟨by omega,trivial⟩ (by omega) (Imp.Ar ?_ ?_)
    ·exact gI
    ·simp(disch:=omega)only[go_sem,CS];exact .sl (by rw[hfn];simp[Cd,hn])
 ·subst hil;rw[tL];have hle:(l.entries.filter (Cd name)).length≤l.entries.length:=List.length_filter_le _ _
  by_cases hs:(l.entries.filter (Cd name)).length=l.entries.length
  ·have e:FZ l name=(CS,false):=by simp only[FZ,hv,if_pos hs];rfl
   have e1:(((l.entries.filter (Cd name)).length:Int)==l.entries.length)=true:=by simp[hs]
   simp(disch:=omega)only[go_sem,e1,e,CS,map_nil];exact FQ _
  ·have e:FZ l name=(⟨l.entries.filter (Cd name),l.AG.map (DE l.entries name l.entries.length)⟩,true):=by simp only[FZ,hv,if_neg hs];rfl
   have e1:(((l.entries.filter (Cd name)).length:Int)==l.entries.length)=false:=by simp;omega
   rw[e];simp(disch:=omega)only[go_sem,e1];refine CL ⟨[],[],[2624,1024]⟩ _ ?_;simp(disch:=omega)only[go_sem]
   try exact .eq (by simp[Ledger.c])
end Go.Rd
