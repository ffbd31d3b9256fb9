/- Closed facts on the row of ScriptLimits. -/
import Derived.Test.YtpppfeldnbjdpaaGreatDoorRows
import Derived.ProofKit
import Derived.OpenShut
import Derived.Stop.Joined
namespace Go.Proofs.YtpppfeldnbjdpaaGreatDoor
open Go

theorem limits_named : Tryz.pinned.checked.prog.funcNamed Rows.scriptLimitsRow.func = some 4 := by kernel_rfl
theorem limits_inst : Tryz.f4.isInstance Tryz.pinned.checked.prog Rows.scriptLimitsRow.origin Rows.scriptLimitsRow.targs := of_decide_eq_true (by kernel_rfl)
theorem limits_wrap : Tryz.f4.isWrapper Tryz.pinned.checked.prog Rows.scriptLimitsRow.wrapper Rows.scriptLimitsRow.mainSum := by unfold Func.isWrapper; first | (rw [if_pos (by decide +kernel)]; kernel_rfl) | (rw [if_neg (by decide +kernel)]; exact ⟨rfl, rfl⟩)
theorem limits_closed : joinedFacts Tryz.pinned.checked.prog 4 Tryz.f4 Rows.scriptLimitsSpec Rows.scriptLimitsRow = true := by kernel_rfl
end Go.Proofs.YtpppfeldnbjdpaaGreatDoor
