/- part 18 of the proof -/
import Derived.Test.YthachdiockkofaaGreatDoorL17
set_option linter.all false
open Go Go.Abs Go.Proofs
set_option maxRecDepth 100000
namespace Go.Rd
set_option maxHeartbeats 8000000
open List (map_cons map_nil)
open Tryz
def Vc{X:Env}{ops:Array Oper}{K:St→Prop}{st:St}(st0:St)(h0:K st0)(h:Ju X ops (fun s=>Imp X s st0) st):Ju X ops K st:=fun A N g a w hA hN hX hR id Q hQ =>
 h A N g a w hA hN hX hR id Q fun g' st' a' w' hR' hI=>by
  obtain⟨g2,hR2⟩:=hI A N g' a' w' hA hR';exact hQ g2 st0 a' w' hR2 h0
def KT(r:Res)(p:Ab)(a:Amt)(h:AK):Bool:=decide (h.proc=p)||decide (r.kind=1)&&r.compat [h.amt,a]
def agT(r:Res)(p:Ab)(a:Amt)(l:List AK):List Ab:=(l.filter fun h=>!KT r p a h).map (·.proc)
def ER(r:Res)(l:List AK)(p:Ab)(a:Amt):List Ab:=if Bf r l&&p.ok&&r.fits a&&!Et r l p a then agT r p a l else []
def Qo{r:Res}{p:Ab}{a:Amt}{l:List AK}{i:Nat}{b:AK}(hb:l[i]?=some b):agT r p a (l.take (i+1))=agT r p a (l.take i)++if KT r p a b then [] else [b.proc]:=by
 unfold agT;rw[tA,hb,Option.toList_some,List.filter_append,List.map_append];cases hs:KT r p a b<;>simp[hs]
def X3(r:Res)(p:Ab)(a:Amt)(l:List AK):(agT r p a l).length≤l.length:=by
 unfold agT;rw[List.length_map];exact List.length_filter_le _ _
def f229_ok(r:Res)(l:List AK)(p:Ab)(a:Amt)(hl:l.length≤1000000):Ad C0 229 [.agg r.c,AL l,.agg p.c,.agg a.c] [] (AX (ER r l p a)) []:=by
 refine Ad.go f229 ?_;unfold f229;refine gO ?_;refine Ae (f271_ok r l p a) ?_;cases hc:(Bf r l&&p.ok&&r.fits a)
 ·have e:ER r l p a=[]:=by simp[ER,hc]
  simp(disch:=omega)only[go_sem,e];exact AQ _
 refine gO ?_;refine Ae (f238_ok r l p a hl) ?_;cases hr:Et r l p a;rotate_left
 ·have e:ER r l p a=[]:=by simp[ER,hr]
  simp(disch:=omega)only[go_sem,e];exact AQ _
 have e:ER r l p a=agT r p a l:=by simp[ER,hc,hr]
 simp(disch:=omega)only[go_sem,e];refine Ac (α:=Nat) (fun i=>⟨[(27,I i),(26,I l.length),(25,AL l),(9,.sl (.own 3200 0) 3 ((agT r p a (l.take i)).map Ab.c)),(4,.ptr 256 0),(6,.ptr 384 0),(7,.ptr 448 0)],[(256,r.c),(384,p.c),(448,a.c)]⟩) (fun i=>i≤(l).length∧True) (fun i=>(l).length-i) 0 ⟨by omega,trivial⟩ ?_ ?_
 ·refine Imp.Ar ?_ ?_
  all_goals(try simp(disch:=omega)only[go_sem])
  all_goals(try(repeat'(with_reducible apply And.intro)))
  all_goals(first|exact .AO (by omega)|exact .AJ (by omega)|exact .sl (by simp[agT])|exact .int (by simp[agT])|exact .eq (by simp[agT]))
 rintro i ⟨hi,hP⟩ J hJ;refine gO ?_;refine gR (l:=l) hi (fun b hb hbm hlt=>?_) (fun hil=>?_);simp(disch:=omega)only[go_sem,gm,hb]
 ·have hag:=X3 r p a (l.take i);have hbd:(agT r p a (l.take i)).length+1≤4294967296:=by simp at hag;omega
  have fin:∀ s:Bool,KT r p a b=s→s=true→((agT r p a (l.take i)).map Ab.c)=((agT r p a (l.take (i+1))).map Ab.c):=fun s h1 h2=>by rw[Qo hb,h1,h2];simp
  refine⟨fun h=>?_,fun h=>?_⟩
  ·have hs:KT r p a b=true:=by simp[KT];left;simpa using h
   refine hJ _ (i+1) ⟨by omega,trivial⟩ (by omega) (Imp.Ar ?_ gI);refine gO ?_;exact .sl (by rw[fin _ hs rfl])
  ·have hp:decide (b.proc=p)=false:=by simpa using h
   by_cases hk:r.kind=1
   ·have e2:(r.kind==1)=true:=by simp[hk]
    simp(disch:=omega)only[go_sem,e2];refine Dd [2752] (f272_ok r [b.amt,a] (by simp)) (by simp(disch:=omega)only[go_sem,map_cons,map_nil];exact .sl (by simp[Amt.c])) rfl trivial ?_;cases hcp:r.compat [b.amt,a]
    ·have hs:KT r p a b=false:=by simp[KT,hp,hcp]
     refine gO ?_;refine hJ _ (i+1) ⟨by omega,trivial⟩ (by omega) (Imp.Ar ?_ gI);refine gO ?_;exact .sl (by rw[Qo hb,hs];simp[Ab.c])
    ·have hs:KT r p a b=true:=by simp[KT,hk,hcp]
     refine gO ?_;refine hJ _ (i+1) ⟨by omega,trivial⟩ (by omega) (Imp.Ar ?_ gI);refine gO ?_;exact .sl (by rw[fin _ hs rfl])
   ·have e2:(r.kind==1)=false:=by simp[hk]
    have hs:KT r p a b=false:=by simp[KT,hp,hk]
    simp(disch:=omega)only[go_sem,e2];refine hJ _ (i+1) ⟨by omega,trivial⟩ (by omega) (Imp.Ar ?_ gI);refine gO ?_;exact .sl (by rw[Qo hb,hs];simp[Ab.c])
 ·subst hil;refine CL ⟨[],[],[3200]⟩ _ ?_;simp(disch:=omega)only[go_sem,tL]
def f226_ok(k:Int):Ad C0 226 [I k] [] (B (decide (k=0))) []:=by
 refine Ad.go f226 ?_;unfold f226;refine gO ?_;refine As _ ?_;exact .eq (by simp[Bool.beq_eq_decide_eq])
def f230_ok(k:Int):Ad C0 230 [I k] [] (B (decide (0<k))) []:=by
 refine Ad.go f230 ?_;unfold f230;refine gO ?_;exact AQ _
@[reducible] def bJ:AV:=.sl .no 3 [[I 1,.fn 226 [],.fn 227 []],[I 2,.fn 230 [],.fn 231 []]]
def f149_ok:Ad C0 149 [] [] bJ []:=by
 refine Ad.go f149 ?_;unfold f149;refine gO ?_;refine CL ⟨[],[],[192]⟩ _ ?_;simp(disch:=omega)only[go_sem,map_nil]
def PT(q:Queue)(p:Ab):Amt:=(Aq q p).getD ⟨0,0⟩
def f227_ok(q:Queue)(l:List Ab)(k:Nat)(kx:Int)(hkx:kx=k)(p:Ab)(hk:l[k]?=some p)(h:q.Ao.length+q.waits.length≤1000000)(hh:q.holds.length≤1000000):Ad C0 227 [.agg q.c,AX l,I kx] [] (AX (ER q.res q.holds p (PT q p))) []:=by
 subst hkx;have hlt:k<l.length:=Aj hk;refine Ad.go f227 ?_;unfold f227;refine gO ?_;refine Vc ⟨[(1,AX l),(2,I k),(3,.ptr 192 0),(7,.ptr 448 0)],[(192,q.c),(448,(PT q p).c)]⟩ ?_ ?_;rotate_left
 ·refine Vd (let o0:OT:=.done;let o1:OT:=.pick [(11,o0)];let o2:OT:=.pick [(10,o1)];let o3:OT:=.pick [(9,o2)];let o4:OT:=.pick [(8,o1)];let o5:OT:=.pick [(8,o2),(10,o4)];let o6:OT:=.pick [(8,o3),(9,o5)];let o7:OT:=.pick [(7,o2)];let o8:OT:=.pick [(7,o3),(9,o7)];let o9:OT:=.pick [(7,o5),(8,o7)];let o10:OT:=.pick [(7,o6),(8,o8),(9,o9)];let o11:OT:=.pick [(6,o9)];let o12:OT:=.pick [(6,o10),(9,o11)];let o13:OT:=.pick [(5,o11)];let o14:OT:=.pick [(5,o12),(9,o13)];let o15:OT:=.pick [(4,o13)];let o16:OT:=.pick [(4,o14),(9,o15)];let o17:OT:=.pick [(3,o15)];let o18:OT:=.pick [(3,o16),(9,o17)];let o19:OT:=.pick [(2,o17)];let o20:OT:=.pick [(2,o18),(9,o19)];let o21:OT:=.pick [(1,o17)];let o22:OT:=.pick [(1,o18),(9,o21)];let o23:OT:=.pick [(1,o19),(2,o21)];let o24:OT:=.pick [(1,o20),(2,o22),(9,o23)];let o25:OT:=.pick [(0,o13)];let o26:OT:=.pick [(0,o14),(9,o25)];let o27:OT:=.pick [(0,o15),(4,o25)];let o28:OT:=.pick [(0,o16),(4,o26),(9,o27)];let o29:OT:=.pick [(0,o17),(3,o27)];let o30:OT:=.pick [(0,o18),(3,o28),(9,o29)];let o31:OT:=.pick [(0,o19),(2,o29)];let o32:OT:=.pick [(0,o20),(2,o30),(9,o31)];let o33:OT:=.pick [(0,o21),(1,o29)];let o34:OT:=.pick [(0,o22),(1,o30),(9,o33)];let o35:OT:=.pick [(0,o23),(1,o31),(2,o33)];let o36:OT:=.pick [(0,o24),(1,o32),(2,o34),(9,o35)];o36) fol kR ?_;simp(disch:=omega)only[go_sem,gm,hk]
  repeat'(first|(with_reducible refine And.intro ?_ ?_)|(refine Ae (f228_ok q p h) ?_;(try simp(disch:=omega)only[go_sem,gm,hk])))
  all_goals exact Imp.Ar gI (by simp(disch:=omega)only[go_sem,PT])
 refine gO ?_;refine Aw 9 [([],[3]),([],[18]),([],[3]),([],[20]),([],[1]),([],[2]),([],[22,23]),([],[24]),([],[7])] fol ?_;simp(disch:=omega)only[go_sem,gm,hk];refine Ae (f229_ok q.res q.holds p (PT q p) hh) ?_;refine gO ?_;exact AQ _
def f231_ok(q:Queue)(l:List Ab)(k:Nat)(kx:Int)(hkx:kx=(k:Int)+1)(x:Ab)(hk:l[k]?=some x)(hl:l.length≤1000000)(ms:List Ab)(hms:ms=[x]):Ad C0 231 [.agg q.c,AX l,I kx] [] (AX ms) []:=by
 subst hkx hms;have hlt:k<l.length:=Aj hk;have e:((k:Int)+1-1)=(k:Int):=by omega
 refine Ad.go f231 ?_;unfold f231;simp(disch:=omega)only[go_sem,e,gm,hk];refine CL ⟨[],[],[768]⟩ _ ?_;simp(disch:=omega)only[go_sem,map_cons,map_nil];exact .sl (by simp[Ab.c])
structure Cause where
 proc:Ab
 name:Bs
 why:Int
 members:List Ab
 deriving DecidableEq
def Cause.c(c:Cause):List AV:=[.v (.int .i64 c.proc.site),.v (.int .i64 c.proc.inc),.v (.int .i64 c.proc.num),.v (.string (str c.name)),.v (.int .i64 c.why),AX c.members]
attribute [go_sem] Cause.c
def cz:Cause:=⟨⟨0,0,0⟩,[],0,[]⟩
def G4(q:Queue):List Ab:=BN (q.Ao++q.waits)
def BU(q:Queue)(p:Ab):Option Cause:=match (G4 q).findIdx? (fun x=>decide (x=p)) with
 |none=>none
 |some 0=>some ⟨p,q.res.name,1,ER q.res q.holds p (PT q p)⟩
 |some (k+1)=>some ⟨p,q.res.name,2,[((G4 q)[k]?).getD ⟨0,0,0⟩]⟩
def f90_ok(q:Queue)(p:Ab)(h:q.Ao.length+q.waits.length≤1000000)(hh:q.holds.length≤1000000):Ad C0 90 [.agg q.c,.agg p.c] [] (.tup [.agg ((BU q p).getD cz).c,B (BU q p).isSome]) []:=by
 have hol:(G4 q).length≤1000000:=by simpa [G4,BN]using h
 have z0:(decide ((0:Int)<2))=true:=by decide
 have z1:(decide ((1:Int)<2))=true:=by decide
 have z2:(decide ((2:Int)<2))=false:=by decide
 refine Ad.go f90 ?_;unfold f90;refine gO ?_;refine Ae (f147_ok q h) ?_;simp(disch:=omega)only[go_sem,show BN (q.Ao++q.waits)=G4 q from rfl];refine Ae (f148_ok (G4 q) p hol) ?_;cases hf:(G4 q).findIdx? (fun x=>decide (x=p)) with
 |none =>
  have e:BU q p=none:=by simp[BU,hf]
  have em:((-1:Int)<0)=True:=by simp
  simp(disch:=omega)only[go_sem,e,em,decide_true,cz];exact FQ _
 |some k =>
  obtain⟨k1,k2,_⟩:=List.findIdx?_eq_some_iff_getElem.1 hf;have hk:(G4 q)[k]?=some p:=by rw[gE k1];simpa using k2
  have ek:((k:Int)<0)=False:=eq_false (by omega);simp(disch:=omega)only[go_sem,ek,decide_false];refine Ae f149_ok ?_;simp(disch:=omega)only[go_sem,List.length_cons,List.length_nil];cases k with
  | zero =>
   have e:BU q p=some ⟨p,q.res.name,1,ER q.res q.holds p (PT q p)⟩:=by simp[BU,hf]
   refine Ac (α:=Nat) (fun i=>⟨[(26,I i),(25,I 2),(24,bJ),(2,.ptr 128 0),(4,.ptr 256 0),(6,AX (G4 q)),(7,I 0),(8,.ptr 512 0)],[(128,q.c),(256,cz.c),(512,(if i=0 then ⟨p,q.res.name,0,[]⟩ else (⟨p,q.res.name,1,ER q.res q.holds p (PT q p)⟩:Cause)).c)]⟩) (fun i=>i≤2) (fun i=>2-i) 0 (by simp) ?_ ?_
   ·refine Imp.Ar ?_ ?_
    ·exact gI
    ·simp(disch:=omega)only[go_sem,cz]
   rintro i hi J hJ;obtain rfl|rfl|rfl:i=0∨i=1∨i=2:=by omega
   ·simp(disch:=omega)only[go_sem,z0];refine Ae (f226_ok 0) ?_;simp(disch:=omega)only[go_sem,decide_true];refine Aw 9 [([],[10]),([],[34]),([],[10]),([],[36]),([],[2]),([],[6]),([],[7]),([],[37,38,39,40]),([],[8])] fol ?_;refine gO ?_
    first|(refine Ae (f227_ok q (G4 q) 0 0 rfl p hk h hh) ?_)|(refine Av (f227_ok q (G4 q) 0 0 rfl p hk h hh) ?_)
    refine gO ?_;refine hJ _ 1 (by omega) (by omega) (Imp.Ar gI (by simp(disch:=omega)only[go_sem,Nat.one_ne_zero]))
   ·simp(disch:=omega)only[go_sem,z1];refine Ae (f230_ok 0) ?_;simp(disch:=omega)only[go_sem,Int.lt_irrefl,decide_false];refine hJ _ 2 (by omega) (by omega) (Imp.Ar gI (by simp(disch:=omega)only[go_sem,Nat.one_ne_zero]))
   ·simp(disch:=omega)only[go_sem,z2];rw[e];exact AQ _
  | succ k =>
   obtain⟨x,hx⟩:∃ x,(G4 q)[k]?=some x:=⟨_,gE (by omega)⟩;obtain⟨ms,hms⟩:∃ ms,ms=[x]:=⟨_,rfl⟩;have e:BU q p=some ⟨p,q.res.name,2,ms⟩:=by simp[BU,hf,hx,hms]
   refine Ac (α:=Nat) (fun i=>⟨[(26,I i),(25,I 2),(24,bJ),(2,.ptr 128 0),(4,.ptr 256 0),(6,AX (G4 q)),(7,I ((k:Int)+1)),(8,.ptr 512 0)],[(128,q.c),(256,cz.c),(512,(if i=2 then ⟨p,q.res.name,2,ms⟩ else (⟨p,q.res.name,0,[]⟩:Cause)).c)]⟩) (fun i=>i≤2) (fun i=>2-i) 0 (by simp) ?_ ?_
   ·refine Imp.Ar ?_ ?_
    ·exact gI
    ·simp(disch:=omega)only[go_sem,cz]
   rintro i hi J hJ;have n1:decide ((k:Int)+1=0)=false:=decide_eq_false (by omega);have n2:decide (0<(k:Int)+1)=true:=decide_eq_true (by omega);obtain rfl|rfl|rfl:i=0∨i=1∨i=2:=by omega
   ·simp(disch:=omega)only[go_sem,z0];refine Ae (f226_ok ((k:Int)+1)) ?_;simp(disch:=omega)only[go_sem,n1];refine hJ _ 1 (by omega) (by omega) AT
   ·simp(disch:=omega)only[go_sem,z1];refine Ae (f230_ok ((k:Int)+1)) ?_;simp(disch:=omega)only[go_sem,n2];refine Aw 9 [([],[10]),([],[34]),([],[10]),([],[36]),([],[2]),([],[6]),([],[7]),([],[37,38,39,40]),([],[8])] fol ?_;refine gO ?_
    first|(refine Ae (f231_ok q (G4 q) k _ rfl x hx hol ms hms) ?_)|(refine Av (f231_ok q (G4 q) k _ rfl x hx hol ms hms) ?_)
    refine gO ?_;refine hJ _ 2 (by omega) (by omega) AT
   ·simp(disch:=omega)only[go_sem,z2];rw[e];exact AQ _
end Go.Rd
