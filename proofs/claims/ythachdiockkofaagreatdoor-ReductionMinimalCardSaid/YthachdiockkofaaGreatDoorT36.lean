/- part 36 of the proof -/
import Derived.Test.YthachdiockkofaaGreatDoorT35
set_option linter.all false
open Go Go.Abs Go.Proofs
set_option maxRecDepth 100000
namespace Go.Rd
set_option maxHeartbeats 8000000
open Nat (le_refl)
def Ig(l ms:List Proc)(s:WS):WS:=ms.foldl (fun x p=>if AK l p then x else A3 x p) s
theorem MQ{l:List Proc}{f:Proc}(hf:AK l f=false):∀ (ms:List Proc) (s:WS),BX s→ms.Nodup→f∈ms→Ig l ms s=Ig l (ms.filter fun x=>decide (x≠f)) (A3 s f)
 |[],_,_,_,h=>by cases h
 | m::ms,s,hg,hn,hm=>by
  obtain⟨h1,h2⟩:=List.nodup_cons.1 hn
  by_cases e:m=f
  ·subst e
   have e1:(m::ms).filter (fun x=>decide (x≠m))=ms:=by
    rw[List.filter_cons,if_neg (by simp),List.filter_eq_self.2]
    intro x hx
    exact decide_eq_true fun e=>h1 (e▸hx)
   rw[e1]
   unfold Ig
   rw[List.foldl_cons,hf]
   rfl
  ·have hm':f∈ms:=(List.mem_cons.1 hm).resolve_left fun e'=>e e'.symm
   have e1:(m::ms).filter (fun x=>decide (x≠f))=m::ms.filter fun x=>decide (x≠f):=by
    rw[List.filter_cons,if_pos (by simpa using e)]
   rw[e1]
   show Ig l ms (if AK l m then s else A3 s m)=Ig l (ms.filter fun x=>decide (x≠f)) (if AK l m then A3 s f else A3 (A3 s f) m)
   split
   ·exact MQ hf ms s hg h2 hm'
   ·rw[MQ hf ms (A3 s m) (Cg hg m) h2 hm',Ps hg m f]
theorem Vc{s:WS}(hg:BX s){l:List Proc}{f:Proc}(hf:AK l f=false)(hm:f∈Ah s):Ca (A3 s f) l=Ca s l:=by
 show Ig l (Ah (A3 s f)) (A3 s f)=Ig l (Ah s) s
 rw[Kx hg]
 exact(MQ hf (Ah s) s hg (FG (Dp _)) hm).symm
theorem Tx{s:WS}{l:List Proc}(h:∀ p∈Ah s,AK l p=true):Ca s l=s:=by
 have:∀ (ms:List Proc) (s:WS),(∀ p∈ms,AK l p=true)→Ig l ms s=s:=by
  intro ms
  induction ms with
  | nil=>intro s _;rfl
  | cons m ms ih =>
   intro s h
   show Ig l ms (if AK l m then s else A3 s m)=s
   rw[if_pos (h m (by simp))]
   exact ih s fun p hp=>h p (by simp[hp])
 exact this _ s h
theorem PQ{s:WS}(hg:BX s){f:Proc}(hf:f∈Bg s):f∉Bn s:=fun hd=>by
 rw[MA _ s hg (le_refl _) f hf]at hd
 have:=JA _ _ (Cg hg f) (le_refl _) f hd
 exact((HC hg f f).1 this).2 rfl
structure Jb(s x:WS)(n:Nat):Prop where
 val:AB x=true
 few:Few x
 dead:Bn x=Bn s
 res:Ca x (Bn s)=Ca s (Bn s)
 len:(Ah x).length+n≤8
theorem Jb.step{s x:WS}{n:Nat}(h:Jb s x n){f:Proc}(hf:f∈Bg x):Jb s (A3 x f) (n+1) where
 val:=Hm h.val f
 few:=GJ h.few f
 dead:=by rw[← MA _ x (AS h.val) (le_refl _) f hf];exact h.dead
 res:=by
  have hg:=AS h.val
  rw[Vc hg (by simpa [AK,← h.dead]using PQ hg hf) (DX.1 hf).1,h.res]
 len:=by
  have:=DZ (AS h.val) (DX.1 hf).1
  have:=h.len
  omega
theorem Jb.fin{s x:WS}{n:Nat}(h:Jb s x n)(hf:Bg x=[]):Ah x=Bn s∧Ca s (Bn s)=x:=by
 have h1:Ah x=Bn s:=by rw[← h.dead,LK (AS h.val) hf]
 refine⟨h1,?_⟩
 rw[← h.res,Tx]
 intro p hp
 rw[h1]at hp
 simpa [AK]using hp
theorem Jb.start{s:WS}(h:AB s=true)(hf:Few s):Jb s s 0:=⟨h,hf,rfl,rfl,by have:=((F0 s).1 h).2.2;omega⟩
theorem OU{s:WS}(h:AB s=true):Hr s=Bg s:=by simp[Hr,h]
end Go.Rd
