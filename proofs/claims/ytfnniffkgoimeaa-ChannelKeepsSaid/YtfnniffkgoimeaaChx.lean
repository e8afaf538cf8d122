import Derived.Test.YtfnniffkgoimeaaChecked
import Derived.KernelRfl
import Derived.Test.YtfnniffkgoimeaaA27
import Derived.Test.YtfnniffkgoimeaaCh10
set_option linter.all false
open Go Go.Abs Go.Proofs
set_option maxRecDepth 100000
namespace Go.Ch
theorem own : ownKnob Try.prog.godebug = none := by kernel_rfl
theorem sum1 (b : Bs) : (b.map fun _ => 1).sum = b.length := by
  induction b with
  | nil => rfl
  | cons x b ih => simp [ih, Nat.add_comm]
theorem cod_b : Cod Try.prog 25 (fun b : Bs => [bt b]) (fun b => b.length + 1) (fun _ => True) :=
  cod_map (cod_slice (cod_u8 (t := 5) (by kernel_rfl)) (el := 5) (n := 1) (by kernel_rfl) (by kernel_rfl) (by omega)) fun a _ => ⟨a, trivial, by simp [sum1], by simp [bt, bytesAV]⟩
theorem arg_b : Arg Try.prog 25 bt (fun b => b.length + 1) (fun _ => True) :=
  (arg_slice (cod_u8 (t := 5) (by kernel_rfl)) (n := 1) (by kernel_rfl) (by kernel_rfl) (by omega)).map fun a _ => ⟨a, trivial, by simp [sum1], by simp [bt, bytesAV]⟩
theorem arg_l : Arg Try.prog 22 ms (fun l => (l.map fun b => b.length + 1).sum + 1) (fun _ => True) :=
  (arg_slice cod_b (n := 1) (by kernel_rfl) (by kernel_rfl) (by omega)).map fun a _ => ⟨a, trivial, Nat.le_refl _, rfl⟩
theorem arg_i : Arg Try.prog 3 (fun n : Int => .v (.int .i64 n)) (fun _ => 1) (fun n => (Lit.int .i64 n).wf = true) := arg_int (by kernel_rfl)
theorem arg_u : Arg Try.prog 5 (fun n : Int => .v (.int .u8 n)) (fun _ => 1) (fun n => (Lit.int .u8 n).wf = true) := arg_int (by kernel_rfl)
end Go.Ch
namespace Go.Ch
theorem arg_ints : Arg Try.prog 37 (fun l : List Int => .sl .no 1 (l.map fun n => [.v (.int .i64 n)])) (fun l => (l.map fun _ => 1).sum + 1) (fun l => ∀ x ∈ l, (Lit.int .i64 x).wf = true) := arg_slice (cod_int (t := 3) (by kernel_rfl)) (n := 1) (by kernel_rfl) (by kernel_rfl) (by omega)
end Go.Ch
