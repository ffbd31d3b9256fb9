/- The reference's Format, at a list of one tick. -/
import Derived.Test.YtpppfeldnbjdpaaGreatDoorA3
set_option linter.unusedVariables false
namespace Go.Proofs.YtpppfeldnbjdpaaGreatDoor
open Go Go.RowKit

theorem str_app (a b : List UInt8) : (⟨a.toArray⟩ : ByteArray) ++ ⟨b.toArray⟩ = ⟨(a ++ b).toArray⟩ := by
  apply ByteArray.ext
  show (ByteArray.append _ _).data = _
  simp

theorem tickL_len (n : Nat) (hn : n ≤ 65535) : (tickL n).length ≤ 10 := by
  have := decDigits_len 4 n (by omega)
  simp [tickL]; omega

set_option maxHeartbeats 2000000 in
set_option maxRecDepth 100000 in
theorem refFormat_tick (n : Nat) (hn : n ≤ 65535) (b c : Nat) (w : World) (hb : w.heap[b]? = some (.cells (tickC n) 31 (0, 0))) :
    Calls Tryz.prog 14 #[.slice (some ⟨b, 0, none⟩) 1 c] w fun e w' => e = .returned (.tuple #[.string ⟨(tickL n ++ [10]).toArray⟩, .int .i64 0]) ∧ Below w.heap.size w w' := by
  have hl := tickL_len n hn
  have HB := Lib.hid hb
  clear hb
  go_enter Tryz.func14, Tryz.ntmps14
  go_wp2
  refine wp_loop_rounds 2 ?_
  rw [rounds_succ]
  go_wp2_with (refine load_row rfl 31 _ rfl b (tickC n) rfl 31 (0, 0) _ HB.out Tryz.underlying31 rfl (by kernel_rfl) ?_)
  refine (refLine_tick n hn _).mono ?_
  rintro e w2 ⟨rfl, hb2⟩
  have HB2 := Lib.hid hb2
  clear hb2
  go_wp2
  rw [rounds_succ]
  go_upto_region 11 with fail
  rw [show ((⟨#[]⟩ : ByteArray) ++ (⟨(tickL n).toArray⟩ ++ ⟨#[10]⟩)) = ⟨(tickL n ++ [10]).toArray⟩ from by
    show (⟨([] : List UInt8).toArray⟩ : ByteArray) ++ (⟨(tickL n).toArray⟩ ++ ⟨[10].toArray⟩) = _
    rw [str_app, str_app]; rfl]
  have hL : (tickL n ++ [10]).length ≤ 11 := by simp; omega
  generalize hE : tickL n ++ [10] = L at *
  have HE := Lib.hid hE
  clear hE
  go_wp2
  go_ret2
  refine ⟨?_, HB2.out⟩
  rw [HE.out]
  rfl
end Go.Proofs.YtpppfeldnbjdpaaGreatDoor
