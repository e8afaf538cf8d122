/- part 33 of the proof -/
import Derived.Test.YthachdiockkofaaGreatDoorL32
set_option linter.all false
open Go Go.Abs Go.Proofs
set_option maxRecDepth 100000
namespace Go.Rd
set_option maxHeartbeats 8000000
open Nat (le_refl)
def NI(l ms:List Ab)(s:WS):WS:=ms.foldl (fun x p=>if B2 l p then x else Ci x p) s
def OM{l:List Ab}{f:Ab}(hf:B2 l f=false):∀ (ms:List Ab) (s:WS),C3 s→ms.Nodup→f∈ms→NI l ms s=NI l (ms.filter fun x=>decide (x≠f)) (Ci s f)
 |[],_,_,_,h=>by cases h
 | m::ms,s,hg,hn,hm=>by
  obtain⟨h1,h2⟩:=List.nodup_cons.1 hn
  by_cases e:m=f
  ·subst e;have e1:(m::ms).filter (fun x=>decide (x≠m))=ms:=by
    rw[List.filter_cons,if_neg (by simp),List.filter_eq_self.2];intro x hx;exact decide_eq_true fun e=>h1 (e▸hx)
   rw[e1];unfold NI;rw[List.foldl_cons,hf];rfl
  ·have hm':f∈ms:=(List.mem_cons.1 hm).resolve_left fun e'=>e e'.symm
   have e1:(m::ms).filter (fun x=>decide (x≠f))=m::ms.filter fun x=>decide (x≠f):=by
    rw[List.filter_cons,if_pos (by simpa using e)]
   rw[e1];show NI l ms (if B2 l m then s else Ci s m)=NI l (ms.filter fun x=>decide (x≠f)) (if B2 l m then Ci s f else Ci (Ci s f) m);split
   ·exact OM hf ms s hg h2 hm'
   ·rw[OM hf ms (Ci s m) (Dz hg m) h2 hm',Rz hg m f]
def Yv{s:WS}(hg:C3 s){l:List Ab}{f:Ab}(hf:B2 l f=false)(hm:f∈Ap s):Dn (Ci s f) l=Dn s l:=by
 show NI l (Ap (Ci s f)) (Ci s f)=NI l (Ap s) s;rw[L7 hg];exact(OM hf (Ap s) s hg (Jq (FI _)) hm).symm
def Wk{s:WS}{l:List Ab}(h:∀ p∈Ap s,B2 l p=true):Dn s l=s:=by
 have:∀ (ms:List Ab) (s:WS),(∀ p∈ms,B2 l p=true)→NI l ms s=s:=by
  intro ms
  induction ms with
  | nil=>intro s _;rfl
  | cons m ms ih =>
   intro s h;show NI l ms (if B2 l m then s else Ci s m)=s;rw[if_pos (h m (by simp))];exact ih s fun p hp=>h p (by simp[hp])
 exact this _ s h
def Mi{s:WS}(hg:C3 s){f:Ab}(hf:f∈Cb s):f∉BP s:=fun hd=>by
 rw[Oi _ s hg (le_refl _) f hf]at hd;have:=Nq _ _ (Dz hg f) (le_refl _) f hd;exact((Ku hg f f).1 this).2 rfl
structure KZ(s x:WS)(n:Nat):Prop where
 val:Bj x=true
 few:Few x
 dead:BP x=BP s
 res:Dn x (BP s)=Dn s (BP s)
 len:(Ap x).length+n≤8
def KZ.step{s x:WS}{n:Nat}(h:KZ s x n){f:Ab}(hf:f∈Cb x):KZ s (Ci x f) (n+1) where
 val:=RL h.val f
 few:=Nt h.few f
 dead:=by rw[← Oi _ x (Da h.val) (le_refl _) f hf];exact h.dead
 res:=by
  have hg:=Da h.val;rw[Yv hg (by simpa [B2,← h.dead]using Mi hg hf) (DS.1 hf).1,h.res]
 len:=by
  have:=FM (Da h.val) (DS.1 hf).1;have:=h.len;omega
def KZ.fin{s x:WS}{n:Nat}(h:KZ s x n)(hf:Cb x=[]):Ap x=BP s∧Dn s (BP s)=x:=by
 have h1:Ap x=BP s:=by rw[← h.dead,Lb (Da h.val) hf]
 refine⟨h1,?_⟩;rw[← h.res,Wk];intro p hp;rw[h1]at hp;simpa [B2]using hp
def KZ.start{s:WS}(h:Bj s=true)(hf:Few s):KZ s s 0:=⟨h,hf,rfl,rfl,by have:=((EP s).1 h).2.2;omega⟩
def Xh{s:WS}(h:Bj s=true):IU s=Cb s:=by simp[IU,h]
end Go.Rd
