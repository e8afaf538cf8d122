/- part 28 of the proof -/
import Derived.Test.YthachdiockkofaaGreatDoorT23
set_option linter.all false
open Go Go.Abs Go.Proofs
set_option maxRecDepth 100000
namespace Go.Rd
set_option maxHeartbeats 8000000
open List (map_nil)
open Tryz
theorem DR28{X:Env}{st:St}{y:AV}{rs:List ResultVar}(xs:List AV)(h1:CX X.C st rs=some xs:=by(try simp(disch:=omega)only[go_sem,CX,Jm])<;>rfl)(h4:Bz ((pack xs).ren ⟨[],[],[]⟩) y:=by
 refine gO ?_
 refine .tup (Af.AD ?_)
 simp(disch:=omega)only[go_sem]
 repeat'(with_reducible apply And.intro)
 all_goals(first|exact .Au (by omega)|exact .agg (Af.AD (by simp(disch:=omega)only[go_sem]))))(h3:∀ s∈X.ext,lk s []=some s:=by simp):PZ X rs y [] .ret st:=BP xs h4 h1 h3
def MX{α β:Type}(f g:α→β)(l:List α)(k:Nat):List β:=(l.take k).map f++(l.drop k).map g
section
variable {α β:Type}
@[go_sem] theorem Xo(f g:α→β)(l:List α)(k:Nat):(MX f g l k).length=l.length:=by simp[MX];omega
theorem Xn{f g:α→β}{l:List α}{k:Nat}{b:α}(hb:l[k]?=some b):(MX f g l k)[k]?=some (g b):=by
 have:=Al hb
 unfold MX
 rw[List.getElem?_append_right (by simp;omega)]
 simp[Nat.min_eq_left (Nat.le_of_lt this),hb]
theorem Xp{f g:α→β}{l:List α}{k:Nat}{b:α}(hb:l[k]?=some b):(MX f g l k).set k (f b)=MX f g l (k+1):=by
 have hk:=Al hb
 have hd:l.drop k=b::l.drop (k+1):=by rw[List.drop_eq_getElem_cons hk,get_eq hb]
 unfold MX
 rw[List.take_add_one,hb,hd,List.set_append_right _ _ (by simp;omega)]
 simp[Nat.min_eq_left (Nat.le_of_lt hk)]
theorem Xm(f g:α→β)(l:List α):MX f g l l.length=l.map f:=by simp[MX]
theorem Wb(f g:α→β)(l:List α):MX f g l 0=l.map g:=by simp[MX]
end
def My(l:List Entry)(name:Bs)(pos:Int):Nat→Int
 | 0=>0
 | i+1=>My l name pos i+(if ((l.getD i ⟨[],⟨0,0⟩,⟨0,0⟩⟩).name==name)=true∧(i:Int)<pos then 1 else 0)
theorem UQ(l:List Entry)(name:Bs)(pos:Int):∀ i,0≤My l name pos i∧My l name pos i≤i
 | 0=>by simp[My]
 | i+1=>by
  have:=UQ l name pos i
  simp only[My]
  split<;>omega
def Dh(l:List Entry)(name:Bs)(i:Nat)(s:Save):Save:=⟨s.label,s.pos-My l name s.pos i⟩
def Gb(name:Bs)(e:Entry):Bool:=!(e.name==name)
def G7(l:Ledger)(name:Bs):Ledger × Bool:=if !AX l then (Cp,false) else if (l.entries.filter (Gb name)).length=l.entries.length then (Cp,false) else (⟨l.entries.filter (Gb name),l.saves.map (Dh l.entries name l.entries.length)⟩,true)
theorem f193_ok(l:Ledger)(name:Bs):Ac C0 193 [.agg l.c,.v (.string (str name))] [] (.tup [.agg (G7 l name).1.c,B (G7 l name).2]) []:=by
 refine Ac.go f193 ?_
 unfold f193
 refine gO ?_
 refine Aa (f169_ok l) ?_
 cases hv:AX l
 ·have e:G7 l name=(Cp,false):=by simp[G7,hv]
  simp(disch:=omega)only[go_sem,Bool.not_false,e,Cp,map_nil]
  exact DR28 _
  all_goals(try(simp(disch:=omega)only[go_sem]))
 have hel:l.entries.length≤72∧l.saves.length≤4:=by simp only[AX,Bool.and_eq_true,decide_eq_true_eq]at hv;omega
 simp(disch:=omega)only[go_sem,Bool.not_true]
 refine Ab (α:=Nat) (fun i=>⟨[(7,I i),(2,.ptr 128 0),(6,.ptr 384 0),(4,.ptr 256 0),(1,.v (.string (str name)))],[(128,l.c),(384,[.sl (.own 2624 0) 5 (((l.entries.take i).filter (Gb name)).map Entry.c),.sl (.own 1024 0) 2 ((l.saves.map (Dh l.entries name i)).map Save.c)]),(256,Cp.c)]⟩) (fun i=>i≤(l.entries).length∧True) (fun i=>(l.entries).length-i) 0 ⟨by omega,trivial⟩ ?_ ?_
 ·refine Imp.weak ?_ ?_
  all_goals(try simp(disch:=omega)only[go_sem,Cp])
  all_goals(try(repeat'(with_reducible apply And.intro)))
  all_goals(first|exact .AA (by omega)|exact .Au (by omega)|exact .sl (by simp[Dh,My,Cp,Save.c])|exact .int (by simp[Dh,My,Cp,Save.c])|exact .eq (by simp[Dh,My,Cp,Save.c]))
 rintro i ⟨hi,hP⟩ J hJ
 refine gO ?_
 refine ⟨fun hlt=>?_,fun hge=>?_⟩
 rotate_left
 have hil:i=(l.entries).length:=by simp at hge;omega
 rotate_left
 obtain⟨b,hb⟩:∃ b,(l.entries)[i]?=some b:=⟨_,gE (by simp at hlt;omega)⟩
 have hbm:=mG hb
 have hlt2:i<(l.entries).length:=by simp at hlt;omega
 ·have hfl:((l.entries.take i).filter (Gb name)).length≤72:=Nat.le_trans (List.length_filter_le _ _) (by simp;omega)
  have hbd:((l.entries.take i).filter (Gb name)).length+1≤4294967296:=by omega
  have hfn:(l.entries.take (i+1)).filter (Gb name)=(l.entries.take i).filter (Gb name)++(if Gb name b then [b] else []):=by
   rw[List.take_add_one,hb,List.filter_append]
   cases h:Gb name b<;>simp[h]
  have hgd:l.entries.getD i ⟨[],⟨0,0⟩,⟨0,0⟩⟩=b:=by simp[List.getD,hb]
  cases hn:(b.name==name)
  ·have hne:(b.name !=name)=true:=by simp[bne,hn]
   have hg:∀ s:Save,Dh l.entries name (i+1) s=Dh l.entries name i s:=fun s=>by
    have h0:¬ ((b.name==name)=true∧(i:Int)<s.pos):=by rw[hn];simp
    simp only[Dh,My,hgd,if_neg h0,Int.add_zero]
   simp(disch:=omega)only[go_sem,gm,hb,hne,hn,Bool.not_false,Bool.not_true]
   refine Aj 8 [([],[6]),([],[33]),([],[2]),([],[35]),([],[7]),([],[36,37]),([],[38]),([],[39])] fol ?_
   simp(disch:=omega)only[go_sem,gm,hb]
   refine hJ _ (i+1) ⟨by omega,trivial⟩ (by omega) (Imp.weak ?_ ?_)
   ·exact gI
   ·simp(disch:=omega)only[go_sem,Cp]
    exact⟨.sl (by rw[hfn];simp[Gb,hn,Entry.c]),.sl (by rw[show Dh l.entries name (i+1)=Dh l.entries name i from funext hg])⟩
  ·have hne:(b.name !=name)=false:=by simp[bne,hn]
   simp(disch:=omega)only[go_sem,gm,hb,hne,hn,Bool.not_false,Bool.not_true]
   obtain⟨o,rfl⟩:∃ o,o=i:=⟨i,rfl⟩
   have hJo:=hJ
   have hbo:=hb
   clear hJ hb
   refine Ab (α:=Nat) (fun k=>⟨[(8,I k),(7,I o),(2,.ptr 128 0),(6,.ptr 384 0),(4,.ptr 256 0),(1,.v (.string (str name)))],[(128,l.c),(384,[.sl (.own 2624 0) 5 (((l.entries.take o).filter (Gb name)).map Entry.c),.sl (.own 1024 0) 2 ((MX (Dh l.entries name (o+1)) (Dh l.entries name o) l.saves k).map Save.c)]),(256,Cp.c)]⟩) (fun k=>k≤l.saves.length) (fun k=>l.saves.length-k) 0 (by omega) ?_ ?_
   ·refine Imp.weak ?_ ?_
    ·exact gI
    ·simp(disch:=omega)only[go_sem,Cp]
     exact .sl (by rw[Wb];simp)
   rintro k hk J2 hJ2
   refine gO ?_
   refine ⟨fun hlt=>?_,fun hge=>?_⟩
   ·obtain⟨s,hs⟩:∃ s,l.saves[k]?=some s:=⟨_,gE (by simp at hlt;omega)⟩
    have hmg:=Xn (f:=Dh l.entries name (o+1)) (g:=Dh l.entries name o) hs
    have hms:=Xp (f:=Dh l.entries name (o+1)) (g:=Dh l.entries name o) hs
    have hml:=Xo (Dh l.entries name (o+1)) (Dh l.entries name o) l.saves k
    have hpos:=Kd hv hs
    have hcn:=UQ l.entries name s.pos o
    generalize MX (Dh l.entries name (o+1)) (Dh l.entries name o) l.saves k=M at hmg hms hml ⊢
    simp(disch:=omega)only[go_sem,gm,hs]
    by_cases hc:(o:Int)<s.pos
    ·have h0:(b.name==name)=true∧(o:Int)<s.pos:=⟨hn,hc⟩
     have hsg:Dh l.entries name (o+1) s=⟨s.label,s.pos-My l.entries name s.pos o-1⟩:=by
      simp only[Dh,My,hgd,if_pos h0,Save.mk.injEq,true_and];omega
     simp(disch:=omega)only[go_sem,eq_true hc,decide_true,gm,hmg,Dh]
     refine hJ2 _ (k+1) (by simp at hlt;omega) (by simp at hlt;omega) (Imp.weak ?_ ?_)
     ·exact gI
     ·simp(disch:=omega)only[go_sem,Cp]
      exact .sl (by rw[← hms,List.map_set,hsg];rfl)
    ·have h0:¬ ((b.name==name)=true∧(o:Int)<s.pos):=fun h=>hc h.2
     have hsg:Dh l.entries name (o+1) s=Dh l.entries name o s:=by
      simp only[Dh,My,hgd,if_neg h0,Int.add_zero]
     have hMs:M.set k (Dh l.entries name o s)=M:=by
      apply List.ext_getElem?
      intro j
      rw[List.getElem?_set]
      split
      ·rename_i hij;subst hij;rw[if_pos (by rw[hml];exact Al hs),hmg]
      ·rfl
     rw[hsg,hMs]at hms
     simp(disch:=omega)only[go_sem,eq_false hc,decide_false]
     refine hJ2 _ (k+1) (by simp at hlt;omega) (by simp at hlt;omega) (Imp.weak ?_ ?_)
     ·exact gI
     ·simp(disch:=omega)only[go_sem,Cp]
      exact .sl (by rw[← hms])
   ·have hke:k=l.saves.length:=by simp at hge;omega
    subst hke
    rw[Xm]
    refine hJo _ (o+1) ⟨by omega,trivial⟩ (by omega) (Imp.weak ?_ ?_)
    ·exact gI
    ·simp(disch:=omega)only[go_sem,Cp]
     exact .sl (by rw[hfn];simp[Gb,hn])
 ·subst hil
  rw[List.take_length]
  have hle:(l.entries.filter (Gb name)).length≤l.entries.length:=List.length_filter_le _ _
  by_cases hs:(l.entries.filter (Gb name)).length=l.entries.length
  ·have e:G7 l name=(Cp,false):=by simp only[G7,hv,if_pos hs];rfl
   have e1:(((l.entries.filter (Gb name)).length:Int)==l.entries.length)=true:=by simp[hs]
   simp(disch:=omega)only[go_sem,e1,e,Cp,map_nil]
   exact DR28 _
  ·have e:G7 l name=(⟨l.entries.filter (Gb name),l.saves.map (Dh l.entries name l.entries.length)⟩,true):=by simp only[G7,hv,if_neg hs];rfl
   have e1:(((l.entries.filter (Gb name)).length:Int)==l.entries.length)=false:=by simp;omega
   rw[e]
   simp(disch:=omega)only[go_sem,e1]
   refine B3 ⟨[],[],[2624,1024]⟩ _ ?_
   refine gO ?_
   try exact .eq (by simp[Ledger.c])
end Go.Rd
