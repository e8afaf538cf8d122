/- part 36 of the proof -/
import Derived.Test.YthachdiockkofaaGreatDoorS35
set_option linter.all false
open Go Go.Abs Go.Proofs
set_option maxRecDepth 100000
namespace Go.Rd
set_option maxHeartbeats 8000000
open Nat (le_refl)
def MZ(l ms:List Proc)(s:WS):WS:=ms.foldl (fun x p=>if Br l p then x else BX x p) s
theorem NZ{l:List Proc}{f:Proc}(hf:Br l f=false):∀ (ms:List Proc) (s:WS),Ch s→ms.Nodup→f∈ms→MZ l ms s=MZ l (ms.filter fun x=>decide (x≠f)) (BX s f)
 |[],_,_,_,h=>by cases h
 | m::ms,s,hg,hn,hm=>by
  obtain⟨h1,h2⟩:=List.nodup_cons.1 hn
  by_cases e:m=f
  ·subst e;have e1:(m::ms).filter (fun x=>decide (x≠m))=ms:=by
    rw[List.filter_cons,if_neg (by simp),List.filter_eq_self.2];intro x hx;exact decide_eq_true fun e=>h1 (e▸hx)
   rw[e1];unfold MZ;rw[List.foldl_cons,hf];rfl
  ·have hm':f∈ms:=(List.mem_cons.1 hm).resolve_left fun e'=>e e'.symm
   have e1:(m::ms).filter (fun x=>decide (x≠f))=m::ms.filter fun x=>decide (x≠f):=by
    rw[List.filter_cons,if_pos (by simpa using e)]
   rw[e1];show MZ l ms (if Br l m then s else BX s m)=MZ l (ms.filter fun x=>decide (x≠f)) (if Br l m then BX s f else BX (BX s f) m);split
   ·exact NZ hf ms s hg h2 hm'
   ·rw[NZ hf ms (BX s m) (CW hg m) h2 hm',QE hg m f]
theorem Xa{s:WS}(hg:Ch s){l:List Proc}{f:Proc}(hf:Br l f=false)(hm:f∈Am s):Fa (BX s f) l=Fa s l:=by
 show MZ l (Am (BX s f)) (BX s f)=MZ l (Am s) s;rw[Lx hg];exact(NZ hf (Am s) s hg (Lf (DT _)) hm).symm
theorem U5{s:WS}{l:List Proc}(h:∀ p∈Am s,Br l p=true):Fa s l=s:=by
 have:∀ (ms:List Proc) (s:WS),(∀ p∈ms,Br l p=true)→MZ l ms s=s:=by
  intro ms
  induction ms with
  | nil=>intro s _;rfl
  | cons m ms ih =>
   intro s h;show MZ l ms (if Br l m then s else BX s m)=s;rw[if_pos (h m (by simp))];exact ih s fun p hp=>h p (by simp[hp])
 exact this _ s h
theorem LL{s:WS}(hg:Ch s){f:Proc}(hf:f∈B3 s):f∉Bi s:=fun hd=>by
 rw[ND _ s hg (le_refl _) f hf]at hd;have:=MJ _ _ (CW hg f) (le_refl _) f hd;exact((JV hg f f).1 this).2 rfl
structure LI(s x:WS)(n:Nat):Prop where
 val:CB x=true
 few:Few x
 dead:Bi x=Bi s
 res:Fa x (Bi s)=Fa s (Bi s)
 len:(Am x).length+n≤8
theorem LI.step{s x:WS}{n:Nat}(h:LI s x n){f:Proc}(hf:f∈B3 x):LI s (BX x f) (n+1) where
 val:=WB h.val f
 few:=MM h.few f
 dead:=by rw[← ND _ x (CM h.val) (le_refl _) f hf];exact h.dead
 res:=by
  have hg:=CM h.val;rw[Xa hg (by simpa [Br,← h.dead]using LL hg hf) (Dv.1 hf).1,h.res]
 len:=by
  have:=Fm (CM h.val) (Dv.1 hf).1;have:=h.len;omega
theorem LI.fin{s x:WS}{n:Nat}(h:LI s x n)(hf:B3 x=[]):Am x=Bi s∧Fa s (Bi s)=x:=by
 have h1:Am x=Bi s:=by rw[← h.dead,I0 (CM h.val) hf]
 refine⟨h1,?_⟩;rw[← h.res,U5];intro p hp;rw[h1]at hp;simpa [Br]using hp
theorem LI.start{s:WS}(h:CB s=true)(hf:Few s):LI s s 0:=⟨h,hf,rfl,rfl,by have:=((J8 s).1 h).2.2;omega⟩
end Go.Rd
