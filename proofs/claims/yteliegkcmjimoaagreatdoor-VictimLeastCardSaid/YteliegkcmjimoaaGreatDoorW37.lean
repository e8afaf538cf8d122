/- part 37 of the proof -/
import Derived.Test.YteliegkcmjimoaaGreatDoorW36
set_option linter.all false
open Go Go.Abs Go.Proofs
set_option maxRecDepth 100000
namespace Go.Rd
set_option maxHeartbeats 8000000
theorem tf{s:WS}{f:Ac}(hf:f∉Ag s):BW s f=s:=by
 have hn:∀ q∈s.Aa,f∉BU q:=λq hq hm=>hf ((E6 s f).2 (.inl ⟨q,hq,hm⟩))
 have e1:(s.Aa.map λq=>Cd q f)=s.Aa:=by
  conv=>rhs;rw[<- List.map_id s.Aa]
  refine List.map_congr_left λq hq=>?_
  have:Br (BU q) f=false:=by simpa [Br]using hn q hq
  simp[Cd,this]
 have e2:E7 s.Aw f=s.Aw:=by grind[E7,List.filter_eq_self,E6]
 unfold BW;rw[e1,e2]
theorem fh{s:WS}(hg:BO s){l:List Ac}{f:Ac}(hf:Br l f=false):Fw (BW s f) l=Fw s l:=by grind[x8,tf]
def WO{A:List Ac}{x:Ac}:∀ (ms:List Ac) (s:WS),BO s->x∈Ag (OM A ms s)->x∈Ag s/\(x∈ms->Br A x=true)
 |[],_,_,h=>⟨h,λh=>by cases h⟩
 | m::ms,s,hg,h=>by
  have h':x∈Ag (OM A ms (if Br A m then s else BW s m)):=h;split at h'
  ·rename_i hm;obtain⟨a,b⟩:=WO ms s hg h';refine⟨a,λhx=>?_⟩;grind
  ·obtain⟨a,b⟩:=WO ms _ (Cv hg m) h';obtain⟨a1,a2⟩:=(Jc hg m x).1 a;refine⟨a1,λhx=>?_⟩;grind
def mq{s:WS}(hg:BO s){A:List Ac}{x:Ac}(h:x∈Ag (Fw s A)):x∈A/\x∈Ag s:=by
 obtain⟨a,b⟩:=WO (Ag s) s hg h;grind[Br]
def V9(s:WS)(hg:BO s):(Bl s).Nodup:=by
 have:∀ (n:Nat) (s:WS),(Sb n s).2.Nodup:=by
  intro n
  induction n with
  | zero=>intro s;exact IL (Fk _)
  | succ n ih =>
   intro s;simp[Sb];split
   ·exact IL (Fk _)
   grind
 exact this _ s
end Go.Rd
