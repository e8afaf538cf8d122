/- part 40 of the proof -/
import Derived.Test.YthachdiockkofaaGreatDoorL28
set_option linter.all false
open Go Go.Abs Go.Proofs
set_option maxRecDepth 100000
namespace Go.Rd
set_option maxHeartbeats 8000000
open Tryz
def dV:Arg prog 22 (fun l:List Int=>.sl .no 1 (l.map fun n=>[.v (.int .i64 n)])) (fun l=>(l.map fun _=>1).sum+1) (fun l=>∀ x∈l,(Lit.int .i64 x).wf=true):=YH (cH (t:=3) kR) (n:=1) kR kR (by omega)
def rows:List (List Bool):=[[true,true,true,true,false],[true,true,false,false,false],[true,false,true,false,false],[true,false,false,false,false],[false,false,false,false,false]]
def ZG:rows.flatten=cg:=rfl
def iE{W:World}{rest:List (String × DataW Unit)}(h:laidMet prog (("clusterlocks/mode.together",fW rows)::rest) W):Glob C0 (gh0 W) W :=
 aS (C:=C0) (g:=0) (n:=5) (m:=5) (e:=336) (b:=4) (t:=337) (fun i cs hi=>by
  simp only at hi;split at hi
  ·rename_i h0;simp only[zO]at hi;exact⟨h0,by rw[← hi,ZG];rfl⟩
  ·cases hi) (by decide) kR kR kR kR kR kR kR kR h
end Go.Rd
