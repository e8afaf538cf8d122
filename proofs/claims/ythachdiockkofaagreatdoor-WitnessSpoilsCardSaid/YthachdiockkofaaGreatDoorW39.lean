/- part 39 of the proof -/
import Derived.Test.YthachdiockkofaaGreatDoorW38
set_option linter.all false
open Go Go.Abs Go.Proofs
set_option maxRecDepth 100000
namespace Go.Rd
set_option maxHeartbeats 8000000
open Nat (le_refl)
def F3(l ms:List Ae)(s:WS):WS:=ms.foldl (fun x p=>if Be l p then x else BP x p) s
theorem Ob{l:List Ae}{f:Ae}(hf:Be l f=false):∀ (ms:List Ae) (s:WS),Cm s→ms.Nodup→f∈ms→F3 l ms s=F3 l (ms.filter fun x=>decide (x≠f)) (BP s f)
 |[],_,_,_,h=>by cases h
 | m::ms,s,hg,hn,hm=>by
  obtain⟨h1,h2⟩:=List.nodup_cons.1 hn
  by_cases e:m=f
  ·subst e;have e1:(m::ms).filter (fun x=>decide (x≠m))=ms:=by
    rw[List.filter_cons,if_neg (by simp),List.filter_eq_self.2];intro x hx;exact decide_eq_true fun e=>h1 (e▸hx)
   rw[e1];unfold F3;rw[List.foldl_cons,hf];rfl
  ·have hm':f∈ms:=(List.mem_cons.1 hm).resolve_left fun e'=>e e'.symm
   have e1:(m::ms).filter (fun x=>decide (x≠f))=m::ms.filter fun x=>decide (x≠f):=by
    rw[List.filter_cons,if_pos (by simpa using e)]
   rw[e1];show F3 l ms (if Be l m then s else BP s m)=F3 l (ms.filter fun x=>decide (x≠f)) (if Be l m then BP s f else BP (BP s f) m);split
   ·exact Ob hf ms s hg h2 hm'
   ·rw[Ob hf ms (BP s m) (CE hg m) h2 hm',QS hg m f]
theorem Xb{s:WS}(hg:Cm s){l:List Ae}{f:Ae}(hf:Be l f=false)(hm:f∈Ah s):BY (BP s f) l=BY s l:=by
 show F3 l (Ah (BP s f)) (BP s f)=F3 l (Ah s) s;rw[LC hg];exact(Ob hf (Ah s) s hg (HA (EC _)) hm).symm
theorem Vc{s:WS}{l:List Ae}(h:∀ p∈Ah s,Be l p=true):BY s l=s:=by
 have:∀ (ms:List Ae) (s:WS),(∀ p∈ms,Be l p=true)→F3 l ms s=s:=by
  intro ms
  induction ms with
  | nil=>intro s _;rfl
  | cons m ms ih =>
   intro s h;show F3 l ms (if Be l m then s else BP s m)=s;rw[if_pos (h m (by simp))];exact ih s fun p hp=>h p (by simp[hp])
 exact this _ s h
theorem LL{s:WS}(hg:Cm s){f:Ae}(hf:f∈BT s):f∉BG s:=fun hd=>by
 rw[NV _ s hg (le_refl _) f hf]at hd;have:=MT _ _ (CE hg f) (le_refl _) f hd;exact((JP hg f f).1 this).2 rfl
structure Kc(s x:WS)(n:Nat):Prop where
 val:AD x=true
 few:Few x
 dead:BG x=BG s
 res:BY x (BG s)=BY s (BG s)
 len:(Ah x).length+n≤8
theorem Kc.step{s x:WS}{n:Nat}(h:Kc s x n){f:Ae}(hf:f∈BT x):Kc s (BP x f) (n+1) where
 val:=Mw h.val f
 few:=JC h.few f
 dead:=by rw[← NV _ x (Bh h.val) (le_refl _) f hf];exact h.dead
 res:=by
  have hg:=Bh h.val;rw[Xb hg (by simpa [Be,← h.dead]using LL hg hf) (DK.1 hf).1,h.res]
 len:=by
  have:=EG (Bh h.val) (DK.1 hf).1;have:=h.len;omega
theorem Kc.fin{s x:WS}{n:Nat}(h:Kc s x n)(hf:BT x=[]):Ah x=BG s∧BY s (BG s)=x:=by
 have h1:Ah x=BG s:=by rw[← h.dead,Ku (Bh h.val) hf]
 refine⟨h1,?_⟩;rw[← h.res,Vc];intro p hp;rw[h1]at hp;simpa [Be]using hp
theorem Kc.start{s:WS}(h:AD s=true)(hf:Few s):Kc s s 0:=⟨h,hf,rfl,rfl,by have:=((CK s).1 h).2.2;omega⟩
theorem VX{s:WS}(h:AD s=true):D5 s=BT s:=by simp[D5,h]
end Go.Rd
