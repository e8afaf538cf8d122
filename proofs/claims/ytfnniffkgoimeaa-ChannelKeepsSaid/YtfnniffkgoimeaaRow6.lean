/- a channel contains and delivers every packet at most as often as it was sent and doubled: ChannelKeeps answers true for every input and leaves its argument as it was. No condition. -/
import Derived.Test.YtfnniffkgoimeaaRows
import Derived.WalkKit
import Derived.ProofKit
import Derived.OpenShut
import Derived.JoinedCond
import Derived.JoinedOf
import Derived.Test.YtfnniffkgoimeaaA27
import Derived.Test.YtfnniffkgoimeaaChx
import Derived.Test.YtfnniffkgoimeaaCh15
set_option linter.all false
open Go Go.Abs Go.Proofs Go.Proofs.Ytfnniffkgoimeaa
set_option maxRecDepth 100000
namespace Go.Proofs.Ytfnniffkgoimeaa.r6
open Go.Ch
theorem lifted (os : Os) (started : os.Started) (H : Type) (enc : TypeId × Value → H) :
    ReturnsInHanded {} Try.checked os 6 .any (Rows.channelKeepsSpec.pre6 enc Try.prog Try.f6 Rows.channelKeepsRow.domain false) (Rows.channelKeepsSpec.post enc Try.prog Try.f6 false true false false) := by
  refine returnsInHanded_of_change (C := Try.checked) (f := 6) (fn := Try.f6) (s := Rows.channelKeepsSpec) own started (by kernel_rfl) (by kernel_rfl)
    (ChangeSpec.witness6 false ⟨#[], #[.slice none 0 0], []⟩ 8 (by kernel_rfl) (by kernel_rfl) (by kernel_rfl) (by kernel_rfl) (by kernel_rfl)) ?_
  intro W base args ds gs before hval hW _ _
  exact law_true (C := C0) rfl (ts := [37]) (tb := 4) (by rfl) rfl (args_cons arg_ints args_nil) (by kernel_rfl) (by kernel_rfl) (by kernel_rfl) (by kernel_rfl) enc W base args ds gs before hval hW
    (fun ds h => by match ds, h with | [d0], _ => exact ⟨rfl, rfl, rfl⟩) (fun a q _ => f6_ok a.1 q.1)

theorem proved : Rows.ChannelKeepsSaid :=
  OpenClaim.holds_of_wide 6 Try.f6 rfl rfl rfl rfl rfl rfl rfl ⟨rfl, rfl, rfl, rfl, rfl⟩ rfl rfl rfl rfl rfl (by kernel_rfl) (by kernel_rfl) (by kernel_rfl)
    (of_decide_eq_true (by kernel_rfl)) (by unfold Func.isWrapper; first | (rw [if_pos (by decide +kernel)]; kernel_rfl) | (rw [if_neg (by decide +kernel)]; exact ⟨rfl, rfl⟩))
    (fun os started H enc _ => lifted os started H enc)
end Go.Proofs.Ytfnniffkgoimeaa.r6
