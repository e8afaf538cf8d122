/- packets that are delivered with index 0 arrive in the order in which they were sent: ChannelOrder answers true for every input and leaves its argument as it was. No condition. -/
import Derived.Test.YtfnniffkgoimeaaRows
import Derived.WalkKit
import Derived.ProofKit
import Derived.OpenShut
import Derived.JoinedCond
import Derived.JoinedOf
import Derived.Test.YtfnniffkgoimeaaA27
import Derived.Test.YtfnniffkgoimeaaCh9
set_option linter.all false
open Go Go.Abs Go.Proofs Go.Proofs.Ytfnniffkgoimeaa
set_option maxRecDepth 100000
namespace Go.Proofs.Ytfnniffkgoimeaa.r3
open Go.Ch
theorem own : ownKnob Try.prog.godebug = none := by kernel_rfl
theorem sum1 (b : Bs) : (b.map fun _ => 1).sum = b.length := by
  induction b with
  | nil => rfl
  | cons x b ih => simp [ih, Nat.add_comm]
theorem cod_b : Cod Try.prog 25 (fun b : Bs => [bt b]) (fun b => b.length + 1) (fun _ => True) :=
  cod_map (cod_slice (cod_u8 (t := 5) (by kernel_rfl)) (el := 5) (n := 1) (by kernel_rfl) (by kernel_rfl) (by omega)) fun a _ => ⟨a, trivial, by simp [sum1], by simp [bt, bytesAV]⟩
theorem arg_l : Arg Try.prog 22 ms (fun l => (l.map fun b => b.length + 1).sum + 1) (fun _ => True) :=
  (arg_slice cod_b (n := 1) (by kernel_rfl) (by kernel_rfl) (by omega)).map fun a _ => ⟨a, trivial, Nat.le_refl _, rfl⟩

set_option maxRecDepth 100000 in
theorem lifted3 (os : Os) (started : os.Started) (H : Type) (enc : TypeId × Value → H) :
    ReturnsInHanded {} Try.checked os 3 .any (Rows.channelOrderSpec.pre6 enc Try.prog Try.f3 Rows.channelOrderRow.domain false) (Rows.channelOrderSpec.post enc Try.prog Try.f3 false true false false) := by
  refine returnsInHanded_of_change (C := Try.checked) (f := 3) (fn := Try.f3) (s := Rows.channelOrderSpec) own started (by kernel_rfl) (by kernel_rfl)
    (ChangeSpec.witness6 false ⟨#[], #[.slice none 0 0], []⟩ 8 (by kernel_rfl) (by kernel_rfl) (by kernel_rfl) (by kernel_rfl) (by kernel_rfl)) ?_
  intro W base args ds gs before hval hW _ _
  exact law_true (C := C0) rfl (ts := [22]) (tb := 4) (by rfl) rfl (args_cons arg_l args_nil) (by kernel_rfl) (by kernel_rfl) (by kernel_rfl) (by kernel_rfl) enc W base args ds gs before hval hW
    (fun ds h => by match ds, h with | [d], _ => exact ⟨rfl, rfl, rfl⟩) (fun a _ _ => f3_ok a.1)

theorem channelOrder : Rows.ChannelOrderSaid :=
  OpenClaim.holds_of_wide 3 Try.f3 rfl rfl rfl rfl rfl rfl rfl ⟨rfl, rfl, rfl, rfl, rfl⟩ rfl rfl rfl rfl rfl (by kernel_rfl) (by kernel_rfl) (by kernel_rfl)
    (of_decide_eq_true (by kernel_rfl)) (by unfold Func.isWrapper; first | (rw [if_pos (by decide +kernel)]; kernel_rfl) | (rw [if_neg (by decide +kernel)]; exact ⟨rfl, rfl⟩))
    (fun os started H enc _ => lifted3 os started H enc)

end Go.Proofs.Ytfnniffkgoimeaa.r3
