/- part 22 of the proof -/
import Derived.Test.YthachdiockkofaaGreatDoorW21
set_option linter.all false
open Go Go.Abs Go.Proofs
set_option maxRecDepth 100000
namespace Go.Rd
set_option maxHeartbeats 8000000
open List (map_cons map_nil)
open Tryz
theorem Uc{X:Env}{ops:Array Oper}{K:St→Prop}{st:St}(st0:St)(h0:K st0)(h:IX X ops (fun s=>Imp X s st0) st):IX X ops K st:=fun A N g a w hA hN hX hR id Q hQ =>
 h A N g a w hA hN hX hR id Q fun g' st' a' w' hR' hI=>by
  obtain⟨g2,hR2⟩:=hI A N g' a' w' hA hR';exact hQ g2 st0 a' w' hR2 h0
def Ez(r:Res)(p:Ae)(a:Amt)(h:AO):Bool:=decide (h.proc=p)||decide (r.kind=1)&&r.compat [h.amt,a]
def agT(r:Res)(p:Ae)(a:Amt)(l:List AO):List Ae:=(l.filter fun h=>!Ez r p a h).map (·.proc)
def Bm(r:Res)(l:List AO)(p:Ae)(a:Amt):List Ae:=if Ba r l&&p.ok&&r.fits a&&!DP r l p a then agT r p a l else []
theorem Kg{r:Res}{p:Ae}{a:Amt}{l:List AO}{i:Nat}{b:AO}(hb:l[i]?=some b):agT r p a (l.take (i+1))=agT r p a (l.take i)++if Ez r p a b then [] else [b.proc]:=by
 unfold agT;rw[List.take_add_one,hb,Option.toList_some,List.filter_append,List.map_append];cases hs:Ez r p a b<;>simp[hs]
theorem SK(r:Res)(p:Ae)(a:Amt)(l:List AO):(agT r p a l).length≤l.length:=by
 unfold agT;rw[List.length_map];exact List.length_filter_le _ _
theorem f229_ok(r:Res)(l:List AO)(p:Ae)(a:Amt)(hl:l.length≤1000000):Ad C0 229 [.agg r.c,AH l,.agg p.c,.agg a.c] [] (Ax (Bm r l p a)) []:=by
 refine Ad.go f229 ?_;unfold f229;refine gO ?_;refine Ac (f271_ok r l p a) ?_;cases hc:(Ba r l&&p.ok&&r.fits a)
 ·have e:Bm r l p a=[]:=by simp[Bm,hc]
  simp(disch:=omega)only[go_sem,e];exact AE _
 refine gO ?_;refine Ac (f238_ok r l p a hl) ?_;cases hr:DP r l p a;rotate_left
 ·have e:Bm r l p a=[]:=by simp[Bm,hr]
  simp(disch:=omega)only[go_sem,e];exact AE _
 have e:Bm r l p a=agT r p a l:=by simp[Bm,hc,hr]
 simp(disch:=omega)only[go_sem,e];refine Ab (α:=Nat) (fun i=>⟨[(27,I i),(26,I l.length),(25,AH l),(9,.sl (.own 3200 0) 3 ((agT r p a (l.take i)).map Ae.c)),(4,.ptr 256 0),(6,.ptr 384 0),(7,.ptr 448 0)],[(256,r.c),(384,p.c),(448,a.c)]⟩) (fun i=>i≤(l).length∧True) (fun i=>(l).length-i) 0 ⟨by omega,trivial⟩ ?_ ?_
 ·refine Imp.Am ?_ ?_
  all_goals(try simp(disch:=omega)only[go_sem])
  all_goals(try(repeat'(with_reducible apply And.intro)))
  all_goals(first|exact .AG (by omega)|exact .Az (by omega)|exact .sl (by simp[agT])|exact .int (by simp[agT])|exact .eq (by simp[agT]))
 rintro i ⟨hi,hP⟩ J hJ;refine gO ?_;refine ⟨fun hlt=>?_,fun hge=>?_⟩;rotate_left;have hil:i=(l).length:=by simp at hge;omega
 rotate_left;obtain⟨b,hb⟩:∃ b,(l)[i]?=some b:=⟨_,gE (by simp at hlt;omega)⟩;have hbm:=mG hb;simp(disch:=omega)only[go_sem,gm,hb]
 ·have hag:=SK r p a (l.take i);have hbd:(agT r p a (l.take i)).length+1≤4294967296:=by simp at hag;omega
  have fin:∀ s:Bool,Ez r p a b=s→s=true→((agT r p a (l.take i)).map Ae.c)=((agT r p a (l.take (i+1))).map Ae.c):=fun s h1 h2=>by rw[Kg hb,h1,h2];simp
  refine⟨fun h=>?_,fun h=>?_⟩
  ·have hs:Ez r p a b=true:=by simp[Ez];left;simpa using h
   refine hJ _ (i+1) ⟨by simp at hlt;omega,trivial⟩ (by simp at hlt;omega) (Imp.Am ?_ gI);refine gO ?_;exact .sl (by rw[fin _ hs rfl])
  ·have hp:decide (b.proc=p)=false:=by simpa using h
   by_cases hk:r.kind=1
   ·have e2:(r.kind==1)=true:=by simp[hk]
    simp(disch:=omega)only[go_sem,e2];refine C2 [2752] (f272_ok r [b.amt,a] (by simp)) (by simp(disch:=omega)only[go_sem,map_cons,map_nil];exact .sl (by simp[Amt.c])) rfl trivial ?_;cases hcp:r.compat [b.amt,a]
    ·have hs:Ez r p a b=false:=by simp[Ez,hp,hcp]
     refine gO ?_;refine hJ _ (i+1) ⟨by simp at hlt;omega,trivial⟩ (by simp at hlt;omega) (Imp.Am ?_ gI);refine gO ?_;exact .sl (by rw[Kg hb,hs];simp[Ae.c])
    ·have hs:Ez r p a b=true:=by simp[Ez,hk,hcp]
     refine gO ?_;refine hJ _ (i+1) ⟨by simp at hlt;omega,trivial⟩ (by simp at hlt;omega) (Imp.Am ?_ gI);refine gO ?_;exact .sl (by rw[fin _ hs rfl])
   ·have e2:(r.kind==1)=false:=by simp[hk]
    have hs:Ez r p a b=false:=by simp[Ez,hp,hk]
    simp(disch:=omega)only[go_sem,e2];refine hJ _ (i+1) ⟨by simp at hlt;omega,trivial⟩ (by simp at hlt;omega) (Imp.Am ?_ gI);refine gO ?_;exact .sl (by rw[Kg hb,hs];simp[Ae.c])
 ·subst hil;refine Cf ⟨[],[],[3200]⟩ _ ?_;simp(disch:=omega)only[go_sem,List.take_length]
theorem f226_ok(k:Int):Ad C0 226 [I k] [] (B (decide (k=0))) []:=by
 refine Ad.go f226 ?_;unfold f226;refine gO ?_;refine Ap _ ?_;exact .eq (by simp[Bool.beq_eq_decide_eq])
theorem f230_ok(k:Int):Ad C0 230 [I k] [] (B (decide (0<k))) []:=by
 refine Ad.go f230 ?_;unfold f230;refine gO ?_;exact AE _
@[reducible] def Z1:AV:=.sl .no 3 [[I 1,.fn 226 [],.fn 227 []],[I 2,.fn 230 [],.fn 231 []]]
theorem f149_ok:Ad C0 149 [] [] Z1 []:=by
 refine Ad.go f149 ?_;unfold f149;refine gO ?_;refine Cf ⟨[],[],[192]⟩ _ ?_;simp(disch:=omega)only[go_sem,map_nil]
def IC(q:Queue)(p:Ae):Amt:=(As q p).getD ⟨0,0⟩
theorem f227_ok(q:Queue)(l:List Ae)(k:Nat)(kx:Int)(hkx:kx=k)(p:Ae)(hk:l[k]?=some p)(h:q.An.length+q.waits.length≤1000000)(hh:q.holds.length≤1000000):Ad C0 227 [.agg q.c,Ax l,I kx] [] (Ax (Bm q.res q.holds p (IC q p))) []:=by
 subst hkx;have hlt:k<l.length:=At hk;refine Ad.go f227 ?_;unfold f227;refine gO ?_;refine Uc ⟨[(1,Ax l),(2,I k),(3,.ptr 192 0),(7,.ptr 448 0)],[(192,q.c),(448,(IC q p).c)]⟩ ?_ ?_;rotate_left
 ·refine MU (let o0:OT:=.done;let o1:OT:=.pick [(11,o0)];let o2:OT:=.pick [(10,o1)];let o3:OT:=.pick [(9,o2)];let o4:OT:=.pick [(8,o1)];let o5:OT:=.pick [(8,o2),(10,o4)];let o6:OT:=.pick [(8,o3),(9,o5)];let o7:OT:=.pick [(7,o2)];let o8:OT:=.pick [(7,o3),(9,o7)];let o9:OT:=.pick [(7,o5),(8,o7)];let o10:OT:=.pick [(7,o6),(8,o8),(9,o9)];let o11:OT:=.pick [(6,o9)];let o12:OT:=.pick [(6,o10),(9,o11)];let o13:OT:=.pick [(5,o11)];let o14:OT:=.pick [(5,o12),(9,o13)];let o15:OT:=.pick [(4,o13)];let o16:OT:=.pick [(4,o14),(9,o15)];let o17:OT:=.pick [(3,o15)];let o18:OT:=.pick [(3,o16),(9,o17)];let o19:OT:=.pick [(2,o17)];let o20:OT:=.pick [(2,o18),(9,o19)];let o21:OT:=.pick [(1,o17)];let o22:OT:=.pick [(1,o18),(9,o21)];let o23:OT:=.pick [(1,o19),(2,o21)];let o24:OT:=.pick [(1,o20),(2,o22),(9,o23)];let o25:OT:=.pick [(0,o13)];let o26:OT:=.pick [(0,o14),(9,o25)];let o27:OT:=.pick [(0,o15),(4,o25)];let o28:OT:=.pick [(0,o16),(4,o26),(9,o27)];let o29:OT:=.pick [(0,o17),(3,o27)];let o30:OT:=.pick [(0,o18),(3,o28),(9,o29)];let o31:OT:=.pick [(0,o19),(2,o29)];let o32:OT:=.pick [(0,o20),(2,o30),(9,o31)];let o33:OT:=.pick [(0,o21),(1,o29)];let o34:OT:=.pick [(0,o22),(1,o30),(9,o33)];let o35:OT:=.pick [(0,o23),(1,o31),(2,o33)];let o36:OT:=.pick [(0,o24),(1,o32),(2,o34),(9,o35)];o36) fol (by kernel_rfl) ?_;simp(disch:=omega)only[go_sem,gm,hk]
  repeat'(first|(with_reducible refine And.intro ?_ ?_)|(refine Ac (f228_ok q p h) ?_;(try simp(disch:=omega)only[go_sem,gm,hk])))
  all_goals exact Imp.Am gI (by simp(disch:=omega)only[go_sem,IC])
 refine gO ?_;refine Aq 9 [([],[3]),([],[18]),([],[3]),([],[20]),([],[1]),([],[2]),([],[22,23]),([],[24]),([],[7])] fol ?_;simp(disch:=omega)only[go_sem,gm,hk];refine Ac (f229_ok q.res q.holds p (IC q p) hh) ?_;refine gO ?_;exact AE _
theorem f231_ok(q:Queue)(l:List Ae)(k:Nat)(kx:Int)(hkx:kx=(k:Int)+1)(x:Ae)(hk:l[k]?=some x)(hl:l.length≤1000000)(ms:List Ae)(hms:ms=[x]):Ad C0 231 [.agg q.c,Ax l,I kx] [] (Ax ms) []:=by
 subst hkx hms;have hlt:k<l.length:=At hk;have e:((k:Int)+1-1)=(k:Int):=by omega
 refine Ad.go f231 ?_;unfold f231;simp(disch:=omega)only[go_sem,e,gm,hk];refine Cf ⟨[],[],[768]⟩ _ ?_;simp(disch:=omega)only[go_sem,map_cons,map_nil];exact .sl (by simp[Ae.c])
structure Cause where
 proc:Ae
 name:Bs
 why:Int
 members:List Ae
 deriving DecidableEq
def Cause.c(c:Cause):List AV:=[.v (.int .i64 c.proc.site),.v (.int .i64 c.proc.inc),.v (.int .i64 c.proc.num),.v (.string (str c.name)),.v (.int .i64 c.why),Ax c.members]
attribute [go_sem] Cause.c
def cz:Cause:=⟨⟨0,0,0⟩,[],0,[]⟩
def CP(q:Queue):List Ae:=Bt (q.An++q.waits)
def A6(q:Queue)(p:Ae):Option Cause:=match (CP q).findIdx? (fun x=>decide (x=p)) with
 |none=>none
 |some 0=>some ⟨p,q.res.name,1,Bm q.res q.holds p (IC q p)⟩
 |some (k+1)=>some ⟨p,q.res.name,2,[((CP q)[k]?).getD ⟨0,0,0⟩]⟩
theorem f90_ok(q:Queue)(p:Ae)(h:q.An.length+q.waits.length≤1000000)(hh:q.holds.length≤1000000):Ad C0 90 [.agg q.c,.agg p.c] [] (.tup [.agg ((A6 q p).getD cz).c,B (A6 q p).isSome]) []:=by
 have hol:(CP q).length≤1000000:=by simpa [CP,Bt]using h
 have z0:(decide ((0:Int)<2))=true:=by decide
 have z1:(decide ((1:Int)<2))=true:=by decide
 have z2:(decide ((2:Int)<2))=false:=by decide
 refine Ad.go f90 ?_;unfold f90;refine gO ?_;refine Ac (f147_ok q h) ?_;simp(disch:=omega)only[go_sem,show Bt (q.An++q.waits)=CP q from rfl];refine Ac (f148_ok (CP q) p hol) ?_;cases hf:(CP q).findIdx? (fun x=>decide (x=p)) with
 |none =>
  have e:A6 q p=none:=by simp[A6,hf]
  have em:((-1:Int)<0)=True:=by simp
  simp(disch:=omega)only[go_sem,e,em,decide_true,cz];exact EL _
 |some k =>
  obtain⟨k1,k2,_⟩:=List.findIdx?_eq_some_iff_getElem.1 hf;have hk:(CP q)[k]?=some p:=by rw[gE k1];simpa using k2
  have ek:((k:Int)<0)=False:=eq_false (by omega);simp(disch:=omega)only[go_sem,ek,decide_false];refine Ac f149_ok ?_;simp(disch:=omega)only[go_sem,List.length_cons,List.length_nil];cases k with
  | zero =>
   have e:A6 q p=some ⟨p,q.res.name,1,Bm q.res q.holds p (IC q p)⟩:=by simp[A6,hf]
   refine Ab (α:=Nat) (fun i=>⟨[(26,I i),(25,I 2),(24,Z1),(2,.ptr 128 0),(4,.ptr 256 0),(6,Ax (CP q)),(7,I 0),(8,.ptr 512 0)],[(128,q.c),(256,cz.c),(512,(if i=0 then ⟨p,q.res.name,0,[]⟩ else (⟨p,q.res.name,1,Bm q.res q.holds p (IC q p)⟩:Cause)).c)]⟩) (fun i=>i≤2) (fun i=>2-i) 0 (by simp) ?_ ?_
   ·refine Imp.Am ?_ ?_
    ·exact gI
    ·simp(disch:=omega)only[go_sem,cz]
   rintro i hi J hJ;obtain rfl|rfl|rfl:i=0∨i=1∨i=2:=by omega
   ·simp(disch:=omega)only[go_sem,z0];refine Ac (f226_ok 0) ?_;simp(disch:=omega)only[go_sem,decide_true];refine Aq 9 [([],[10]),([],[34]),([],[10]),([],[36]),([],[2]),([],[6]),([],[7]),([],[37,38,39,40]),([],[8])] fol ?_;simp(disch:=omega)only[go_sem]
    first|(refine Ac (f227_ok q (CP q) 0 0 rfl p hk h hh) ?_)|(refine Ar (f227_ok q (CP q) 0 0 rfl p hk h hh) ?_)
    refine gO ?_;refine hJ _ 1 (by omega) (by omega) (Imp.Am gI (by simp(disch:=omega)only[go_sem,Nat.one_ne_zero]))
   ·simp(disch:=omega)only[go_sem,z1];refine Ac (f230_ok 0) ?_;simp(disch:=omega)only[go_sem,Int.lt_irrefl,decide_false];refine hJ _ 2 (by omega) (by omega) (Imp.Am gI (by simp(disch:=omega)only[go_sem,Nat.one_ne_zero]))
   ·simp(disch:=omega)only[go_sem,z2];rw[e];exact AE _
  | succ k =>
   obtain⟨x,hx⟩:∃ x,(CP q)[k]?=some x:=⟨_,gE (by omega)⟩;obtain⟨ms,hms⟩:∃ ms,ms=[x]:=⟨_,rfl⟩;have e:A6 q p=some ⟨p,q.res.name,2,ms⟩:=by simp[A6,hf,hx,hms]
   refine Ab (α:=Nat) (fun i=>⟨[(26,I i),(25,I 2),(24,Z1),(2,.ptr 128 0),(4,.ptr 256 0),(6,Ax (CP q)),(7,I ((k:Int)+1)),(8,.ptr 512 0)],[(128,q.c),(256,cz.c),(512,(if i=2 then ⟨p,q.res.name,2,ms⟩ else (⟨p,q.res.name,0,[]⟩:Cause)).c)]⟩) (fun i=>i≤2) (fun i=>2-i) 0 (by simp) ?_ ?_
   ·refine Imp.Am ?_ ?_
    ·exact gI
    ·simp(disch:=omega)only[go_sem,cz]
   rintro i hi J hJ;have n1:decide ((k:Int)+1=0)=false:=decide_eq_false (by omega);have n2:decide (0<(k:Int)+1)=true:=decide_eq_true (by omega);obtain rfl|rfl|rfl:i=0∨i=1∨i=2:=by omega
   ·simp(disch:=omega)only[go_sem,z0];refine Ac (f226_ok ((k:Int)+1)) ?_;simp(disch:=omega)only[go_sem,n1];refine hJ _ 1 (by omega) (by omega) AR
   ·simp(disch:=omega)only[go_sem,z1];refine Ac (f230_ok ((k:Int)+1)) ?_;simp(disch:=omega)only[go_sem,n2];refine Aq 9 [([],[10]),([],[34]),([],[10]),([],[36]),([],[2]),([],[6]),([],[7]),([],[37,38,39,40]),([],[8])] fol ?_;simp(disch:=omega)only[go_sem]
    first|(refine Ac (f231_ok q (CP q) k _ rfl x hx hol ms hms) ?_)|(refine Ar (f231_ok q (CP q) k _ rfl x hx hol ms hms) ?_)
    refine gO ?_;refine hJ _ 2 (by omega) (by omega) AR
   ·simp(disch:=omega)only[go_sem,z2];rw[e];exact AE _
end Go.Rd
