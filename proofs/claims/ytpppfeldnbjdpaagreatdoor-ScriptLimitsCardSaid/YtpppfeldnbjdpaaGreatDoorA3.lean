/- The reference's line and Format, at ticks. -/
import Derived.Test.YtpppfeldnbjdpaaGreatDoorA2
import Derived.Test.YtpppfeldnbjdpaaGreatDoorB0
import Derived.Deep.DeepCutAuto
import Derived.Deep.CutBlock
import Derived.Outline
set_option linter.unusedVariables false
namespace Go.Proofs.YtpppfeldnbjdpaaGreatDoor
open Go Go.RowKit

/-- The line of a tick, without its end. -/
def tickL (n : Nat) : List UInt8 := [116, 105, 99, 107, 32] ++ Lib.decDigits n

theorem bcell {W w1 : World} (hb : Below W.heap.size W w1) : (∀ b o, b < W.heap.size → w1.cell? ⟨b, o, none⟩ = W.cell? ⟨b, o, none⟩) ∧ (∀ b o, b < W.heap.size → w1.frozen? ⟨b, o, none⟩ = W.frozen? ⟨b, o, none⟩) :=
  ⟨fun b o h => hb.cell (p := ⟨b, o, none⟩) h, fun b o h => hb.frozen (p := ⟨b, o, none⟩) h⟩

theorem tickC_one (n : Int) : (tickC n).all (·.oneCell') = true := by kernel_rfl

set_option maxHeartbeats 2000000 in
set_option maxRecDepth 100000 in
theorem refLine_tick (n : Nat) (hn : n ≤ 65535) (w : World) :
    Calls Tryz.prog 30 #[.agg (tickC n)] w fun e w' => e = .returned (.tuple #[.string ⟨(tickL n).toArray⟩, .bool true]) ∧ Below w.heap.size w w' := by
  have HB := Lib.hid (inB_true (n := (n : Int)) (lo := 0) (hi := 9999999999) ⟨by omega, by omega⟩)
  have hl := decDigits_len 4 n (by omega)
  have c0 : (tickC n)[0]? = some (.int .i64 2) := rfl
  have c1 : (tickC n)[1]? = some (.int .i64 n) := rfl
  have hbuild : ∀ w, (Instr.build 31 #[(0, .int .i64 2), (1, .int .i64 n)]).run Tryz.prog w = .ok (.agg (tickC n)) w := fun w => by kernel_rfl
  go_enter Tryz.func30, Tryz.ntmps30
  go_wp2_with (first | (refine build_as rfl 31 _ rfl (tickC n) (by kernel_rfl) ?_) | (refine store_new (w.alloc (.cells (tickC n) 31)) rfl 31 _ _ rfl (w.heap.size + 1) (tickC n) _ rfl rfl 31 (by simp) (by kernel_rfl) rfl (tickC_one n) ?_) | (go_at_call 63; refine (refNumber_any _ _).mono ?_; rintro e w' ⟨rfl, rfl⟩))
  rw [HB.out]
  go_wp2_with fail
  refine (decimal_any n (by omega) _).mono ?_
  rintro e w1 ⟨rfl, hb1⟩
  obtain ⟨hc, hf⟩ := bcell hb1
  have HG1 := Lib.hid ((hb1.block w.heap.size (by simp; omega)).trans (heap_alloc2_old w (.cells (tickC n) 31) (.cells (tickC n) 31)))
  have HG2 := Lib.hid ((hb1.block (w.heap.size + 1) (by simp)).trans (heap_alloc2_new w (.cells (tickC n) 31) (.cells (tickC n) 31)))
  have HB1 := Lib.hid hb1
  clear hb1
  go_wp2_with (first | (refine load_row rfl 31 (.tmp 1) rfl w.heap.size (tickC n) rfl 31 (0, 0) _ HG1.out Tryz.underlying31 rfl (by kernel_rfl) ?_) | (refine load_row rfl 31 (.tmp 4) rfl (w.heap.size + 1) (tickC n) rfl 31 (0, 0) _ HG2.out Tryz.underlying31 rfl (by kernel_rfl) ?_))
  refine (refSameAct_tick n _).mono ?_
  rintro e w2 ⟨rfl, hb2⟩
  have HB2 := Lib.hid hb2
  clear hb2
  go_wp2
  go_ret2
  refine ⟨?_, ?_⟩
  · rfl
  · have hb1 := HB1.out
    have hb2 := HB2.out
    refine Below.trans ?_ ((hb1.mono (by simp; omega)).trans (hb2.mono ?_))
    · exact ((Below.refl _ _).alloc (Nat.le_refl _) _).alloc (by simp) _
    · have := hb1.size
      simp at this
      omega
end Go.Proofs.YtpppfeldnbjdpaaGreatDoor
