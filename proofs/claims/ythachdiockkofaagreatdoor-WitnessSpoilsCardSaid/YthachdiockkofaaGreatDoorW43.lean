/- part 43 of the proof -/
import Derived.Test.YthachdiockkofaaGreatDoorW32
set_option linter.all false
open Go Go.Abs Go.Proofs
set_option maxRecDepth 100000
namespace Go.Rd
set_option maxHeartbeats 8000000
open Tryz
theorem et:Arg prog 3 (fun n:Int=>.v (.int .i64 n)) (fun _=>1) (fun n=>(Lit.int .i64 n).wf=true):=aK (by kernel_rfl)
theorem TM:Arg prog 22 (fun l:List Int=>.sl .no 1 (l.map fun n=>[.v (.int .i64 n)])) (fun l=>(l.map fun _=>1).sum+1) (fun l=>∀ x∈l,(Lit.int .i64 x).wf=true):=Xp (WI (t:=3) (by kernel_rfl)) (n:=1) (by kernel_rfl) (by kernel_rfl) (by omega)
def rows:List (List Bool):=[[true,true,true,true,false],[true,true,false,false,false],[true,false,true,false,false],[true,false,false,false,false],[false,false,false,false,false]]
theorem Yn:rows.flatten=Vo:=rfl
theorem WW{W:World}{rest:List (String × DataW Unit)}(h:laidMet prog (("clusterlocks/mode.together",dm rows)::rest) W):Glob C0 (gh0 W) W :=
 Zl (C:=C0) (g:=0) (n:=5) (m:=5) (e:=336) (b:=4) (t:=337) (fun i cs hi=>by
  simp only at hi;split at hi
  ·rename_i h0;simp only[Option.some.injEq]at hi;exact⟨h0,by rw[← hi,Yn];rfl⟩
  ·cases hi) (by decide) (by kernel_rfl) (by kernel_rfl) (by kernel_rfl) (by kernel_rfl) (by kernel_rfl) (by kernel_rfl) (by kernel_rfl) (by kernel_rfl) h
end Go.Rd
