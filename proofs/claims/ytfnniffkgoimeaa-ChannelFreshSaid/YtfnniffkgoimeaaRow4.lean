/- a channel is spoiled, and what was handed in and answered before is as it was: ChannelFresh answers true for every input and leaves its arguments as they were. No condition. -/
import Derived.Test.YtfnniffkgoimeaaRows
import Derived.WalkKit
import Derived.ProofKit
import Derived.OpenShut
import Derived.JoinedCond
import Derived.JoinedOf
import Derived.Test.YtfnniffkgoimeaaA27
import Derived.Test.YtfnniffkgoimeaaChx
import Derived.Test.YtfnniffkgoimeaaCh11
set_option linter.all false
open Go Go.Abs Go.Proofs Go.Proofs.Ytfnniffkgoimeaa
set_option maxRecDepth 100000
namespace Go.Proofs.Ytfnniffkgoimeaa.r4
open Go.Ch
theorem lifted (os : Os) (started : os.Started) (H : Type) (enc : TypeId × Value → H) :
    ReturnsInHanded {} Try.checked os 4 .any (Rows.channelFreshSpec.pre6 enc Try.prog Try.f4 Rows.channelFreshRow.domain false) (Rows.channelFreshSpec.post enc Try.prog Try.f4 false true false false) := by
  refine returnsInHanded_of_change (C := Try.checked) (f := 4) (fn := Try.f4) (s := Rows.channelFreshSpec) own started (by kernel_rfl) (by kernel_rfl)
    (ChangeSpec.witness6 false ⟨#[], #[.slice none 0 0, .int .i64 0, .int .i64 0, .int .u8 0], []⟩ 8 (by kernel_rfl) (by kernel_rfl) (by kernel_rfl) (by kernel_rfl) (by kernel_rfl)) ?_
  intro W base args ds gs before hval hW _ _
  exact law_true (C := C0) rfl (ts := [22, 3, 3, 5]) (tb := 4) (by rfl) rfl (args_cons arg_l (args_cons arg_i (args_cons arg_i (args_cons arg_u args_nil)))) (by kernel_rfl) (by kernel_rfl) (by kernel_rfl) (by kernel_rfl) enc W base args ds gs before hval hW
    (fun ds h => by match ds, h with | [d0, d1, d2, d3], _ => exact ⟨rfl, rfl, rfl⟩) (fun a _ _ => f4_ok a.1 a.2.1 a.2.2.1 a.2.2.2.1)

theorem proved : Rows.ChannelFreshSaid :=
  OpenClaim.holds_of_wide 4 Try.f4 rfl rfl rfl rfl rfl rfl rfl ⟨rfl, rfl, rfl, rfl, rfl⟩ rfl rfl rfl rfl rfl (by kernel_rfl) (by kernel_rfl) (by kernel_rfl)
    (of_decide_eq_true (by kernel_rfl)) (by unfold Func.isWrapper; first | (rw [if_pos (by decide +kernel)]; kernel_rfl) | (rw [if_neg (by decide +kernel)]; exact ⟨rfl, rfl⟩))
    (fun os started H enc _ => lifted os started H enc)
end Go.Proofs.Ytfnniffkgoimeaa.r4
