/- part 35 of the proof -/
import Derived.Test.YteliegkcmjimoaaGreatDoorV34
set_option linter.all false
open Go Go.Abs Go.Proofs
set_option maxRecDepth 100000
namespace Go.Rd
set_option maxHeartbeats 8000000
def l0{s:WS}{f:Ad}(hf:f∉Am s):BU s f=s:=by
 have hn:∀ q∈s.Aa,f∉B6 q:=λq hq hm=>hf ((GG s f).2 (.inl ⟨q,hq,hm⟩))
 have e1:(s.Aa.map λq=>Cm q f)=s.Aa:=by
  conv=>rhs;rw[<- List.map_id s.Aa]
  refine List.map_congr_left λq hq=>?_
  have:BL (B6 q) f=false:=by simpa [BL]using hn q hq
  simp[Cm,this]
 have e2:Hs s.AB f=s.AB:=by
  unfold Hs;rw[List.filter_eq_self];intro n hm;exact decide_eq_true λe=>hf ((GG s f).2 (.inr ⟨n,hm,e⟩))
 unfold BU;rw[e1,e2]
def aw{s:WS}(hg:CL s){l:List Ad}{f:Ad}(hf:BL l f=false):GW (BU s f) l=GW s l:=by
 by_cases hm:f∈Am s
 ·exact qE hg hf hm
 ·rw[l0 hm]
def bx(s:WS)(hg:CL s):(FE s).Nodup:=by
 have:∀ (n:Nat) (s:WS),(Qa n s).2.Nodup:=by
  intro n
  induction n with
  | zero=>intro s;exact IU (E7 _)
  | succ n ih =>
   intro s;simp only[Qa];split
   ·exact IU (E7 _)
   ·exact ih _
 exact this _ s
end Go.Rd
