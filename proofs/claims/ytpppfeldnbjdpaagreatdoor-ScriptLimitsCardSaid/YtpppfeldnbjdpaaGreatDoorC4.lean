/- The program's same, named and Valid, at a tick. -/
import Derived.Test.YtpppfeldnbjdpaaGreatDoorC3
set_option linter.unusedVariables false
namespace Go.Proofs.YtpppfeldnbjdpaaGreatDoor
open Go Go.RowKit

set_option maxHeartbeats 1000000 in
set_option maxRecDepth 100000 in
theorem same_tick (n : Int) (w : World) :
    Calls Tryz.prog 26 #[.agg (tickC n), .agg (tickC n)] w fun e w' => e = .returned (.bool true) ∧ Below w.heap.size w w' := by
  unfold tickC
  go_enter Tryz.func26, Tryz.ntmps26
  go_wp2_with (go_at_call 60; refine (equalLabels_nil _).mono ?_; rintro e w' ⟨rfl, rfl⟩)
  go_ret
  exact ⟨rfl, ((Below.refl _ _).alloc (Nat.le_refl _) _).alloc (by simp) _⟩
end Go.Proofs.YtpppfeldnbjdpaaGreatDoor
