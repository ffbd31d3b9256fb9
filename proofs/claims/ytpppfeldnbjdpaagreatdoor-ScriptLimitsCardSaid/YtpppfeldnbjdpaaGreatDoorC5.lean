/- The program's named and Valid, at a tick. -/
import Derived.Test.YtpppfeldnbjdpaaGreatDoorC4
set_option linter.unusedVariables false
namespace Go.Proofs.YtpppfeldnbjdpaaGreatDoor
open Go Go.RowKit

set_option maxHeartbeats 1000000 in
set_option maxRecDepth 100000 in
theorem named_tick (n : Int) (w : World) :
    Calls Tryz.prog 27 #[.agg (tickC n)] w fun e w' => e = .returned (.agg (tickC n)) ∧ Below w.heap.size w w' := by
  have c0 : (tickC n)[0]? = some (.int .i64 2) := rfl
  have c1 : (tickC n)[1]? = some (.int .i64 n) := rfl
  go_enter Tryz.func27, Tryz.ntmps27
  go_wp2_with (first | (refine build_as rfl 31 _ rfl (tickC n) (by kernel_rfl) ?_) | (refine store_new ((w.alloc (.cells (tickC n) 31)).alloc _) rfl 31 _ _ rfl (w.heap.size + 1 + 1) (tickC n) _ rfl rfl 31 (by simp) (by kernel_rfl) rfl (tickC_one n) ?_) | (refine load_row rfl 31 (.tmp 3) rfl (w.heap.size + 1 + 1) (tickC n) rfl 31 (0, 0) _ (new_at _ _ _ (by simp)) Tryz.underlying31 rfl (by kernel_rfl) ?_) | (refine store_new2 (w.alloc (.cells (tickC n) 31)) rfl 31 (.tmp 2) _ rfl (w.heap.size + 1) (tickC n) _ _ rfl rfl 31 (by simp) (by kernel_rfl) rfl (tickC_one n) ?_))
  refine bodyPost_ret (v := .agg (tickC n)) (results_cell_row (p := 2) (ty := 31) Tryz.results27 _ _ (w.heap.size + 1) 31 (tickC n) (0, 0) _ rfl (old_at (new_at _ _ _ (by simp))) Tryz.underlying31 rfl (by kernel_rfl)) rfl ⟨rfl, ?_⟩
  exact (((Below.refl _ _).alloc (Nat.le_refl _) _).alloc (by simp) _).alloc (by simp; omega) _

/-- What a call has left behind that only reads and makes memory: the same blocks below, more above. -/
theorem inB_tick (n : Nat) (hn : n ≤ 65535) : inB (n : Int) 0 9999999999 = true := inB_true ⟨by omega, by omega⟩
end Go.Proofs.YtpppfeldnbjdpaaGreatDoor
