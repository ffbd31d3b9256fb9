/- The program's alert, at the sane text. -/
import Derived.Test.YtpppfeldnbjdpaaGreatDoorF3
set_option linter.unusedVariables false
namespace Go.Proofs.YtpppfeldnbjdpaaGreatDoor
open Go Go.RowKit

/-- The alert of the sane text, its labels in block b. -/
def alertC (b c : Nat) : Array Value := #[.int .i64 1, .int .i64 40, .int .i64 40, .slice (some ⟨b, 0, none⟩) 1 c, .bool true, .int .i64 0, .int .i64 0, .int .i64 0, .int .i64 0, .int .i64 0, .int .i64 0, .int .i64 0, .int .i64 0, .int .i64 0, .int .i64 0, .int .i64 0, .int .i64 0, .int .i64 0, .int .i64 0, .int .i64 0, .string ⟨#[]⟩]

theorem alertC_one (b c : Nat) : (alertC b c).all (·.oneCell') = true := by kernel_rfl

/-- What stands behind the verb. -/
def alertL : List UInt8 := [52, 48, 32, 102, 105, 114, 105, 110, 103, 32] ++ labL

theorem splitN_sane (w : World) (hlaid : Laid w) : Calls Tryz.prog 159 #[.string ⟨alertL.toArray⟩, .string ⟨#[32]⟩, .int .i64 3] w fun e w' =>
    e = .returned (.slice (some ⟨w.heap.size, 0, none⟩) 3 3) ∧ w' = w.alloc (.cells #[.string ⟨#[52, 48]⟩, .string ⟨#[102, 105, 114, 105, 110, 103]⟩, .string ⟨labL.toArray⟩] 9) := by
  obtain ⟨m, hm⟩ := hlaid.mx
  refine (Tryz.strings_SplitN ⟨alertL.toArray⟩ ⟨#[32]⟩ 3 m w (by decide) hm (by decide) (by omega) (by omega)).mono ?_
  rintro e w' ⟨rfl, rfl⟩
  have h : Lib.splitB (⟨#[32]⟩ : ByteArray) 0 (min 3 ((⟨alertL.toArray⟩ : ByteArray).size + 1) - 1) ⟨alertL.toArray⟩ = [⟨#[52, 48]⟩, ⟨#[102, 105, 114, 105, 110, 103]⟩, ⟨labL.toArray⟩] := by kernel_rfl
  rw [h]
  exact ⟨rfl, rfl⟩

theorem itoa_40 : Lib.itoa 40 = [52, 48] := by
  have h := itoa_nat 40
  rw [show ((40 : Nat) : Int) = 40 from rfl] at h
  rw [h]
  simp [Lib.decDigits]

set_option maxHeartbeats 2000000 in
set_option maxRecDepth 100000 in
theorem alert_sane (w : World) (hlaid : Laid w) :
    Calls Tryz.prog 110 #[.string ⟨alertL.toArray⟩] w fun e w' => (∃ b c, e = .returned (.tuple #[.agg (alertC b c), .bool true]) ∧ 1 ≤ c ∧ w.heap.size ≤ b ∧ b < w'.heap.size ∧ w'.rangeAt b 0 labC.toList) ∧ Below w.heap.size w w' := by
  have HL := Lib.hid hlaid
  clear hlaid
  have hlw : ∀ Z, Laid (w.alloc (.cells Z 31)) := fun Z => HL.out.below ((Below.refl _ _).alloc (Nat.le_refl _) _) HL.out.size
  have HLW := Lib.hid hlw
  clear hlw
  go_enter Tryz.func110, Tryz.ntmps110
  go_wp2_with fail
  refine (splitN_sane _ (HLW.out _)).mono ?_
  rintro e w1 ⟨rfl, hw1⟩
  have hz : w1.heap[w.heap.size]? = some (.cells zeroC 31 (0, 0)) := by rw [hw1]; exact old_at (new_at w _ w.heap.size rfl)
  have hsl : w1.heap[w.heap.size + 1]? = some (.cells #[.string ⟨#[52, 48]⟩, .string ⟨#[102, 105, 114, 105, 110, 103]⟩, .string ⟨labL.toArray⟩] 9 (0, 0)) := by rw [hw1]; exact new_at _ _ _ (by simp)
  have HB1 : Hid (Below w.heap.size w w1) := Lib.hid (by rw [hw1]; exact ((Below.refl _ _).alloc (Nat.le_refl _) _).alloc (by simp) _)
  have hs1 := HB1.out.size
  have HZ1 := Lib.hid hz
  have HS1 := Lib.hid hsl
  have s0 : w1.cell? ⟨w.heap.size + 1, 0, none⟩ = some (.string ⟨#[52, 48]⟩) := cells_at hsl 0
  have s1 : w1.cell? ⟨w.heap.size + 1, 1, none⟩ = some (.string ⟨#[102, 105, 114, 105, 110, 103]⟩) := cells_at hsl 1
  clear hw1 hz hsl
  go_wp2_with fail
  clear s0 s1
  refine (value_yes [52, 48] 40 (by rfl) itoa_40 (by omega) (by omega) (by decide) w1 (HL.out.below HB1.out HL.out.size)).mono ?_
  rintro e w2 ⟨rfl, hb2⟩
  have HZ2 := Lib.hid (Kept.at hb2 HZ1.out)
  have HS2 := Lib.hid (Kept.at hb2 HS1.out)
  have HB2 := Lib.hid (HB1.out.trans (hb2.mono hs1))
  have HW2 := Lib.hid (show w.heap.size < w2.heap.size from by
    rcases Nat.lt_or_ge w.heap.size w2.heap.size with h | h
    · exact h
    · have := HZ2.out; rw [Array.getElem?_eq_none h] at this; cases this)
  have s2 : w2.cell? ⟨w.heap.size + 1, 2, none⟩ = some (.string ⟨labL.toArray⟩) := cells_at HS2.out 2
  clear hb2 HZ1 HS1
  go_wp2_with fail
  clear s2
  refine (labelParse_host w2 (HL.out.below HB2.out HL.out.size)).mono ?_
  rintro e w3 ⟨⟨g, cap, rfl, hcap, hg1, hg2, hr⟩, hb3⟩
  have HZ3 := Lib.hid (Kept.at hb3 HZ2.out)
  have HS3 := Lib.hid (Kept.at hb3 HS2.out)
  have HB3 := Lib.hid (HB2.out.trans (hb3.mono HB2.out.size))
  have hs2 := HB2.out.size
  have s1 : w3.cell? ⟨w.heap.size + 1, 1, none⟩ = some (.string ⟨#[102, 105, 114, 105, 110, 103]⟩) := cells_at HS3.out 1
  have HR := Lib.hid hr
  clear hb3 HZ2 HS2 hr
  go_wp2_with (first
    | (refine build_as rfl 25 _ rfl #[.int .i64 40, .slice (some ⟨g, 0, none⟩) 1 cap, .bool true] (by kernel_rfl) ?_)
    | (refine build_as rfl 31 _ rfl (alertC g cap) (by kernel_rfl) ?_)
    | (refine wpList_store_row rfl 31 (.tmp 2) _ rfl w.heap.size (alertC g cap) rfl rfl 31 _ HZ3.out (by kernel_rfl) rfl (alertC_one g cap) ?_))
  have hlt2 := HW2.out
  refine bodyPost_ret (v := .tuple #[.agg (alertC g cap), .bool true]) (results_cell_tmp (p := 2) (q := 3) (ty := 31) Tryz.results110 _ _ w.heap.size 31 (alertC g cap) (0, 0) _ rfl (setRow_heap _ _ _ _ _ _ HZ3.out) Tryz.underlying31 rfl (by kernel_rfl)) rfl ⟨⟨g, cap, rfl, hcap, Nat.le_trans hs2 hg1, by simpa using hg2, ?_⟩, below_setRow HB3.out (Nat.le_refl _) _⟩
  intro j v hj
  exact (cell_setRow_other w3 w.heap.size _ ⟨g, 0 + j, none⟩ (Nat.ne_of_gt (Nat.lt_of_lt_of_le hlt2 hg1))).trans (HR.out j v hj)
end Go.Proofs.YtpppfeldnbjdpaaGreatDoor
