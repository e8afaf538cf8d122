/- part 34 of the proof -/
import Derived.Test.YthachdiockkofaaGreatDoorW28
set_option linter.all false
open Go Go.Abs Go.Proofs
set_option maxRecDepth 100000
namespace Go.Rd
set_option maxHeartbeats 8000000
open List (map_nil)
open Tryz
def Oi{α β:Type}(f g:α→β)(l:List α)(k:Nat):List β:=(l.take k).map f++(l.drop k).map g
section
variable {α β:Type}
@[go_sem] theorem ZF(f g:α→β)(l:List α)(k:Nat):(Oi f g l k).length=l.length:=by simp[Oi];omega
theorem ZE{f g:α→β}{l:List α}{k:Nat}{b:α}(hb:l[k]?=some b):(Oi f g l k)[k]?=some (g b):=by
 have:=At hb;unfold Oi;rw[List.getElem?_append_right (by simp;omega)];simp[Nat.min_eq_left (Nat.le_of_lt this),hb]
theorem ZG{f g:α→β}{l:List α}{k:Nat}{b:α}(hb:l[k]?=some b):(Oi f g l k).set k (f b)=Oi f g l (k+1):=by
 have hk:=At hb;have hd:l.drop k=b::l.drop (k+1):=by rw[List.drop_eq_getElem_cons hk,get_eq hb]
 unfold Oi;rw[List.take_add_one,hb,hd,List.set_append_right _ _ (by simp;omega)];simp[Nat.min_eq_left (Nat.le_of_lt hk)]
theorem ZD(f g:α→β)(l:List α):Oi f g l l.length=l.map f:=by simp[Oi]
theorem Yd(f g:α→β)(l:List α):Oi f g l 0=l.map g:=by simp[Oi]
end
def NT(l:List Entry)(name:Bs)(pos:Int):Nat→Int
 | 0=>0
 | i+1=>NT l name pos i+(if ((l.getD i ⟨[],⟨0,0⟩,⟨0,0⟩⟩).name==name)=true∧(i:Int)<pos then 1 else 0)
theorem WK(l:List Entry)(name:Bs)(pos:Int):∀ i,0≤NT l name pos i∧NT l name pos i≤i
 | 0=>by simp[NT]
 | i+1=>by
  have:=WK l name pos i;simp only[NT];split<;>omega
def DX(l:List Entry)(name:Bs)(i:Nat)(s:Save):Save:=⟨s.label,s.pos-NT l name s.pos i⟩
def GV(name:Bs)(e:Entry):Bool:=!(e.name==name)
def HT(l:Ledger)(name:Bs):Ledger × Bool:=if !Bk l then (CO,false) else if (l.entries.filter (GV name)).length=l.entries.length then (CO,false) else (⟨l.entries.filter (GV name),l.A3.map (DX l.entries name l.entries.length)⟩,true)
theorem f193_ok(l:Ledger)(name:Bs):Ad C0 193 [.agg l.c,.v (.string (str name))] [] (.tup [.agg (HT l name).1.c,B (HT l name).2]) []:=by
 refine Ad.go f193 ?_;unfold f193;refine gO ?_;refine Ac (f169_ok l) ?_;cases hv:Bk l
 ·have e:HT l name=(CO,false):=by simp[HT,hv]
  simp(disch:=omega)only[go_sem,Bool.not_false,e,CO,map_nil];exact EL _
  all_goals(try(simp(disch:=omega)only[go_sem]))
 have hel:l.entries.length≤72∧l.A3.length≤4:=by simp only[Bk,Bool.and_eq_true,decide_eq_true_eq]at hv;omega
 simp(disch:=omega)only[go_sem,Bool.not_true];refine Ab (α:=Nat) (fun i=>⟨[(7,I i),(2,.ptr 128 0),(6,.ptr 384 0),(4,.ptr 256 0),(1,.v (.string (str name)))],[(128,l.c),(384,[.sl (.own 2624 0) 5 (((l.entries.take i).filter (GV name)).map Entry.c),.sl (.own 1024 0) 2 ((l.A3.map (DX l.entries name i)).map Save.c)]),(256,CO.c)]⟩) (fun i=>i≤(l.entries).length∧True) (fun i=>(l.entries).length-i) 0 ⟨by omega,trivial⟩ ?_ ?_
 ·refine Imp.Am ?_ ?_
  all_goals(try simp(disch:=omega)only[go_sem,CO])
  all_goals(try(repeat'(with_reducible apply And.intro)))
  all_goals(first|exact .AG (by omega)|exact .Az (by omega)|exact .sl (by simp[DX,NT,CO,Save.c])|exact .int (by simp[DX,NT,CO,Save.c])|exact .eq (by simp[DX,NT,CO,Save.c]))
 rintro i ⟨hi,hP⟩ J hJ;refine gO ?_;refine ⟨fun hlt=>?_,fun hge=>?_⟩;rotate_left;have hil:i=(l.entries).length:=by simp at hge;omega
 rotate_left;obtain⟨b,hb⟩:∃ b,(l.entries)[i]?=some b:=⟨_,gE (by simp at hlt;omega)⟩;have hbm:=mG hb;have hlt2:i<(l.entries).length:=by simp at hlt;omega
 ·have hfl:((l.entries.take i).filter (GV name)).length≤72:=Nat.le_trans (List.length_filter_le _ _) (by simp;omega);have hbd:((l.entries.take i).filter (GV name)).length+1≤4294967296:=by omega
  have hfn:(l.entries.take (i+1)).filter (GV name)=(l.entries.take i).filter (GV name)++(if GV name b then [b] else []):=by
   rw[List.take_add_one,hb,List.filter_append];cases h:GV name b<;>simp[h]
  have hgd:l.entries.getD i ⟨[],⟨0,0⟩,⟨0,0⟩⟩=b:=by simp[List.getD,hb]
  cases hn:(b.name==name)
  ·have hne:(b.name !=name)=true:=by simp[bne,hn]
   have hg:∀ s:Save,DX l.entries name (i+1) s=DX l.entries name i s:=fun s=>by
    have h0:¬ ((b.name==name)=true∧(i:Int)<s.pos):=by rw[hn];simp
    simp only[DX,NT,hgd,if_neg h0,Int.add_zero]
   simp(disch:=omega)only[go_sem,gm,hb,hne,hn,Bool.not_false,Bool.not_true];refine Aq 8 [([],[6]),([],[33]),([],[2]),([],[35]),([],[7]),([],[36,37]),([],[38]),([],[39])] fol ?_;simp(disch:=omega)only[go_sem,gm,hb];refine hJ _ (i+1) ⟨by omega,trivial⟩ (by omega) (Imp.Am ?_ ?_)
   ·exact gI
   ·simp(disch:=omega)only[go_sem,CO];exact⟨.sl (by rw[hfn];simp[GV,hn,Entry.c]),.sl (by rw[show DX l.entries name (i+1)=DX l.entries name i from funext hg])⟩
  ·have hne:(b.name !=name)=false:=by simp[bne,hn]
   simp(disch:=omega)only[go_sem,gm,hb,hne,hn,Bool.not_false,Bool.not_true];obtain⟨o,rfl⟩:∃ o,o=i:=⟨i,rfl⟩;have hJo:=hJ;have hbo:=hb;clear hJ hb;refine Ab (α:=Nat) (fun k=>⟨[(8,I k),(7,I o),(2,.ptr 128 0),(6,.ptr 384 0),(4,.ptr 256 0),(1,.v (.string (str name)))],[(128,l.c),(384,[.sl (.own 2624 0) 5 (((l.entries.take o).filter (GV name)).map Entry.c),.sl (.own 1024 0) 2 ((Oi (DX l.entries name (o+1)) (DX l.entries name o) l.A3 k).map Save.c)]),(256,CO.c)]⟩) (fun k=>k≤l.A3.length) (fun k=>l.A3.length-k) 0 (by omega) ?_ ?_
   ·refine Imp.Am ?_ ?_
    ·exact gI
    ·simp(disch:=omega)only[go_sem,CO];exact .sl (by rw[Yd];simp)
   rintro k hk J2 hJ2;refine gO ?_;refine ⟨fun hlt=>?_,fun hge=>?_⟩
   ·obtain⟨s,hs⟩:∃ s,l.A3[k]?=some s:=⟨_,gE (by simp at hlt;omega)⟩;have hmg:=ZE (f:=DX l.entries name (o+1)) (g:=DX l.entries name o) hs;have hms:=ZG (f:=DX l.entries name (o+1)) (g:=DX l.entries name o) hs;have hml:=ZF (DX l.entries name (o+1)) (DX l.entries name o) l.A3 k;have hpos:=La hv hs;have hcn:=WK l.entries name s.pos o;generalize Oi (DX l.entries name (o+1)) (DX l.entries name o) l.A3 k=M at hmg hms hml ⊢;simp(disch:=omega)only[go_sem,gm,hs]
    by_cases hc:(o:Int)<s.pos
    ·have h0:(b.name==name)=true∧(o:Int)<s.pos:=⟨hn,hc⟩;have hsg:DX l.entries name (o+1) s=⟨s.label,s.pos-NT l.entries name s.pos o-1⟩:=by
      simp only[DX,NT,hgd,if_pos h0,Save.mk.injEq,true_and];omega
     simp(disch:=omega)only[go_sem,eq_true hc,decide_true,gm,hmg,DX];refine hJ2 _ (k+1) (by simp at hlt;omega) (by simp at hlt;omega) (Imp.Am ?_ ?_)
     ·exact gI
     ·simp(disch:=omega)only[go_sem,CO];exact .sl (by rw[← hms,List.map_set,hsg];rfl)
    ·have h0:¬ ((b.name==name)=true∧(o:Int)<s.pos):=fun h=>hc h.2
     have hsg:DX l.entries name (o+1) s=DX l.entries name o s:=by
      simp only[DX,NT,hgd,if_neg h0,Int.add_zero]
     have hMs:M.set k (DX l.entries name o s)=M:=by
      apply List.ext_getElem?;intro j;rw[List.getElem?_set];split
      ·rename_i hij;subst hij;rw[if_pos (by rw[hml];exact At hs),hmg]
      ·rfl
     rw[hsg,hMs]at hms;simp(disch:=omega)only[go_sem,eq_false hc,decide_false];refine hJ2 _ (k+1) (by simp at hlt;omega) (by simp at hlt;omega) (Imp.Am ?_ ?_)
     ·exact gI
     ·simp(disch:=omega)only[go_sem,CO];exact .sl (by rw[← hms])
   ·have hke:k=l.A3.length:=by simp at hge;omega
    subst hke;rw[ZD];refine hJo _ (o+1) ⟨by omega,trivial⟩ (by omega) (Imp.Am ?_ ?_)
    ·exact gI
    ·simp(disch:=omega)only[go_sem,CO];exact .sl (by rw[hfn];simp[GV,hn])
 ·subst hil;rw[List.take_length];have hle:(l.entries.filter (GV name)).length≤l.entries.length:=List.length_filter_le _ _
  by_cases hs:(l.entries.filter (GV name)).length=l.entries.length
  ·have e:HT l name=(CO,false):=by simp only[HT,hv,if_pos hs];rfl
   have e1:(((l.entries.filter (GV name)).length:Int)==l.entries.length)=true:=by simp[hs]
   simp(disch:=omega)only[go_sem,e1,e,CO,map_nil];exact EL _
  ·have e:HT l name=(⟨l.entries.filter (GV name),l.A3.map (DX l.entries name l.entries.length)⟩,true):=by simp only[HT,hv,if_neg hs];rfl
   have e1:(((l.entries.filter (GV name)).length:Int)==l.entries.length)=false:=by simp;omega
   rw[e];simp(disch:=omega)only[go_sem,e1];refine Cf ⟨[],[],[2624,1024]⟩ _ ?_;simp(disch:=omega)only[go_sem]
   try exact .eq (by simp[Ledger.c])
end Go.Rd
